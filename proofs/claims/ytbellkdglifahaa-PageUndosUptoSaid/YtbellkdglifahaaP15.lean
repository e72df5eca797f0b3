/- Undo pages: their size, which may be. -/
import Derived.Test.YtbellkdglifahaaP13
set_option linter.unusedVariables false
set_option linter.unusedSimpArgs false
namespace Go.Proofs.Ytbellkdglifahaa
open Go Go.RowKit

/-- An undo record; an undo page. -/
structure Od where
  live : Bool
  page : Nat
  ts : Nat
  npg : Nat
  nsl : UInt8
  delta : List UInt8
abbrev Od.av (o : Od) : AV := .agg [.bool o.live, .int .u16 o.page, .int .u32 o.ts, .agg [.int .u16 o.npg, .int .u8 o.nsl.toNat], .str ⟨o.delta.toArray⟩]
structure Od.Ok (o : Od) : Prop where
  page : o.page < 65536
  ts : o.ts < 4294967296
  npg : o.npg < 65536
  delta : o.delta.length ≤ 9223372036854775807
def Od.zero : Od := ⟨false, 0, 0, 0, 0, []⟩
structure Ud where
  lsn : Nat
  olds : List Od
abbrev odsAV (l : List Od) : AV := .vsl (l.map Od.av) l.length
abbrev Ud.av (u : Ud) : AV := .agg [.int .u64 u.lsn, odsAV u.olds]
structure Ud.Ok (u : Ud) : Prop where
  lsn : u.lsn < 18446744073709551616
  len : u.olds.length ≤ 9223372036854775807
  olds : ∀ o, o ∈ u.olds → o.Ok
theorem on_ods (S : Nat → Prop) (l : List Od) : AV.on S (odsAV l) := AV.onL_iff.2 fun x hx => by
  obtain ⟨o, _, rfl⟩ := List.mem_map.1 hx; exact ⟨trivial, trivial, trivial, ⟨trivial, trivial, trivial⟩, trivial, trivial⟩
theorem on_ud (S : Nat → Prop) (u : Ud) : AV.on S u.av := ⟨trivial, on_ods _ _, trivial⟩
theorem unif_od (l : List Od) : Unif 6 (l.map Od.av) := fun x hx => by
  obtain ⟨o, _, rfl⟩ := List.mem_map.1 hx; rfl
theorem args_ud {u : Ud} : ∀ x, x ∈ [u.av] → AV.on (fun _ => False) x ∧ ∀ vs, x ≠ .tuple vs := fun x hx => by
  simp only [List.mem_singleton] at hx; subst hx; exact ⟨on_ud _ _, fun vs h => by cases h⟩
def Od.text (o : Od) : List UInt8 := if o.live then 1 :: (putL o.page 2 ++ (putL o.ts 4 ++ (putL o.npg 2 ++ (o.nsl :: UInt8.ofNat o.delta.length :: o.delta)))) else [0]
def Od.size (o : Od) : Nat := if o.live then 11 + o.delta.length else 1
theorem Od.text_len (o : Od) : o.text.length = o.size := by
  unfold Od.text Od.size
  split
  · simp only [List.length_append, List.length_cons, putL_len]; omega
  · rfl
def textL : List Od → List UInt8
  | [] => []
  | o :: l => o.text ++ textL l
def sumS : List Od → Nat
  | [] => 0
  | o :: l => o.size + sumS l
theorem textL_len : ∀ l, (textL l).length = sumS l
  | [] => rfl
  | o :: l => by rw [textL, List.length_append, o.text_len, textL_len l, sumS]
theorem sumS_append : ∀ a b, sumS (a ++ b) = sumS a + sumS b
  | [], b => by simp [sumS]
  | o :: a, b => by rw [List.cons_append, sumS, sumS, sumS_append a b]; omega
theorem textL_append : ∀ a b, textL (a ++ b) = textL a ++ textL b
  | [], b => by simp [textL]
  | o :: a, b => by rw [List.cons_append, textL, textL, textL_append a b, List.append_assoc]
theorem sumS_take {l : List Od} {i : Nat} {o : Od} (h : l[i]? = some o) : sumS (l.take (i + 1)) = sumS (l.take i) + o.size := by
  rw [take_succ h, sumS_append]; simp [sumS]
theorem sumS_take_le (l : List Od) (i : Nat) : sumS (l.take i) ≤ sumS l := by
  have := sumS_append (l.take i) (l.drop i)
  rw [List.take_append_drop] at this
  omega
def szT (u : Ud) (i : Nat) (c : Nat) : Env := [(9, .int .i64 i), (8, .int .i64 u.olds.length), (7, odsAV u.olds), (3, .int .i64 (16 + sumS (u.olds.take i) : Nat)), (2, .int .i64 0)]
def szSt (u : Ud) (i : Nat) (c : Nat) : St := ⟨25, szT u i c, [], c⟩
theorem size_spec (u : Ud) (hu : u.Ok) (hs : 16 + sumS u.olds ≤ 4611686018427387904) : ACall Try.prog 22 [u.av] [] (.int .i64 (16 + sumS u.olds : Nat)) [] := by
  refine ACall.run (Z := Z) (N := 25) mixed hZ Try.func22 rfl rfl (by kernel_rfl) (by simp) args_ud 0 ?_
  have hl := hu.len
  simp -dsimp -implicitDefEqProofs only [↓j0, ↓j1, ↓j7, ↓j12, ↓j14, ↓j15, ↓j16, j17, j18, j20, ↓j25, ↓j27, ↓j29, ↓j30, j33, ↓j38, ↓j39, ↓j42, ↓j43, ↓j45, ↓j58, ↓j62, ↓j76, ↓j79, j133, j142, ↓j145, ↓j146, ↓j153, AV.proj, AV.offOf, AV.size, AV.sizeL, AV.layable, argEnv, j163, j164, j166, j167, j171, j172, ↓reduceIte, Nat.reduceEqDiff, j182, j196, j197, j309, j318, j401]
  refine AWp.loopR (Z := Z) mixed hZ (by kernel_rfl) (fun n s => ∃ i c, i + n = u.olds.length ∧ s = szSt u i c) (n0 := u.olds.length) (s0 := szSt u 0 1) ?_ ⟨0, 1, by omega, rfl⟩ ?_ rfl
  · exact Wk.sub (by simp -dsimp -implicitDefEqProofs only [↓j25, j167, j179, ↓reduceIte, Nat.reduceEqDiff, j182, j183, j184, j202, j203, j204, j209, j223, szT] <;> simp [sumS])
  rintro n s ⟨i, c, hi, rfl⟩
  refine ⟨rfl, ?_⟩
  have hle := sumS_take_le u.olds i
  rcases Nat.lt_or_ge i u.olds.length with hlt | hge
  · have hd : decide ((i : Int) < (u.olds.length : Int)) = true := decide_eq_true (by omega)
    have hlt1 : (i : Int) < (u.olds.length : Int) := by omega
    obtain ⟨o, ho⟩ := list_get (xs := u.olds) (i := i) (by omega)
    have hsz : AV.sizeL ((u.olds.map Od.av).take i) = i * 6 := (unif_od u.olds).sizeL_take (by simp; omega)
    have hw : IntKind.i64.wrap ((i : Int) + 1) = ((i + 1 : Nat) : Int) := by rw [wrap_i64 (by omega) (by omega)]; omega
    have hst := sumS_take ho
    have hle2 := sumS_take_le u.olds (i + 1)
    obtain ⟨m, hm⟩ : ∃ m, 16 + sumS (u.olds.take i) = m := ⟨_, rfl⟩
    have hm2 : IntKind.i64.wrap ((m : Int) + 1) = ((m + 1 : Nat) : Int) := by rw [wrap_i64 (by omega) (by omega)]; omega
    simp -dsimp -implicitDefEqProofs only [↓j0, ↓j1, ↓j7, ↓j9, ↓j12, ↓j13, ↓j14, ↓j15, j17, j18, j19, j20, j21, j22, j23, ↓j25, ↓j27, ↓j29, ↓j30, j33, ↓j38, ↓j39, ↓j41, ↓j43, ↓j44, ↓j45, ↓j46, ↓j48, ↓j76, ↓j77, ↓j78, ↓j79, ↓j89, ↓j92, j129, j131, ↓j145, ↓j146, ↓j147, ↓j149, ↓j153, j154, j159, AV.proj, AV.offOf, AV.upd, AV.size, AV.sizeL, AV.layable, j163, j167, j171, j172, j177, ↓reduceIte, Nat.reduceAdd, Nat.reduceEqDiff, j182, j185, j191, j197, j206, j207, j208, j253, j310, j338, j339, j341, j374, szSt, szT, ho, hlt1, hsz, hm, hm2]
    cases hlv : o.live
    · have hos : 16 + sumS (u.olds.take (i + 1)) = m + 1 := by rw [hst, show o.size = 1 by unfold Od.size; rw [hlv]; rfl]; omega
      simp -dsimp -implicitDefEqProofs only [↓j0, ↓j1, ↓j7, ↓j9, ↓j15, j17, j18, j20, ↓j25, ↓j29, ↓j30, j33, ↓j38, ↓j48, ↓j89, ↓j145, ↓j146, ↓j148, j154, j171, ↓reduceIte, Nat.reduceEqDiff, j185]
      exact ⟨n - 1, szSt u (i + 1) (c + 1), by omega, ⟨i + 1, c + 1, by omega, rfl⟩, Wk.sub (by simp -dsimp -implicitDefEqProofs only [↓j25, ↓reduceIte, Nat.reduceEqDiff, j182, j202, j203, j204, j223, szT, hos, hw] <;> simp)⟩
    · have hos : o.size = 11 + o.delta.length := by unfold Od.size; rw [hlv]; rfl
      have hos2 : 16 + sumS (u.olds.take (i + 1)) = m + (1 + (10 + o.delta.length)) := by rw [hst, hos]; omega
      have q1 : IntKind.i64.wrap (10 + (o.delta.length : Int)) = ((10 + o.delta.length : Nat) : Int) := by rw [wrap_i64 (by omega) (by omega)]; omega
      have q2 : IntKind.i64.wrap (((m + 1 : Nat) : Int) + ((10 + o.delta.length : Nat) : Int)) = ((m + 1 + (10 + o.delta.length) : Nat) : Int) := by rw [wrap_i64 (by omega) (by omega)]; omega
      simp -dsimp -implicitDefEqProofs only [↓j0, ↓j1, ↓j7, ↓j15, j17, j18, j20, ↓j25, ↓j27, ↓j29, ↓j30, j33, ↓j38, ↓j39, ↓j43, ↓j45, ↓j48, ↓j58, ↓j59, ↓j76, ↓j79, ↓j89, j132, j141, ↓j145, ↓j146, ↓j147, ↓j153, j154, AV.proj, AV.offOf, AV.size, AV.sizeL, j163, j164, j166, j167, j171, ↓reduceIte, Nat.reduceAdd, Nat.reduceEqDiff, j182, j185, j196, j197, j224, j258, j259, j353, hlv, str_bytes, q1, q2]
      exact ⟨n - 1, szSt u (i + 1) (c + 1), by omega, ⟨i + 1, c + 1, by omega, rfl⟩, Wk.sub (by simp -dsimp -implicitDefEqProofs only [↓j25, ↓reduceIte, Nat.reduceEqDiff, j182, j202, j203, j204, j223, szT, hos2, hw] <;> simp)⟩
  · have hi2 : i = u.olds.length := by omega
    subst hi2
    have hd : decide ((u.olds.length : Int) < (u.olds.length : Int)) = false := decide_eq_false (by omega)
    have hT : u.olds.take u.olds.length = u.olds := List.take_of_length_le (Nat.le_refl _)
    simp -dsimp -implicitDefEqProofs only [↓j0, ↓j1, ↓j7, ↓j10, ↓j11, ↓j12, ↓j13, ↓j15, j17, j18, j20, ↓j25, ↓j29, ↓j38, ↓j39, ↓j48, ↓j89, ↓j145, ↓j146, ↓j148, ↓j149, j159, j172, ↓reduceIte, Nat.reduceEqDiff, j185, szSt, szT, hT, hd]
    exact Final.one (.inr rfl) (r := .tmp 2) rfl ⟨rfl, fun vs h => by cases h⟩ (fun vs h => by cases h) (fun vs h => by cases h) (.same _ trivial)
def Od.eqb (a b : Od) : Bool := (a.live == b.live) && (((a.page : Int) == (b.page : Int)) && (((a.ts : Int) == (b.ts : Int)) && (((a.npg : Int) == (b.npg : Int)) && (((a.nsl.toNat : Int) == (b.nsl.toNat : Int)) && strEq ⟨a.delta.toArray⟩ ⟨b.delta.toArray⟩))))
theorem Od.eqb_iff {a b : Od} : a.eqb b = true ↔ a = b := by
  obtain ⟨a1, a2, a3, a4, a5, a6⟩ := a
  obtain ⟨b1, b2, b3, b4, b5, b6⟩ := b
  simp only [Od.eqb, Bool.and_eq_true, beq_iff_eq, Od.mk.injEq, strEq_iff]
  constructor
  · rintro ⟨h1, h2, h3, h4, h5, h6⟩
    refine ⟨h1, by omega, by omega, by omega, UInt8.toNat_inj.1 (by omega), ?_⟩
    have := congrArg (fun x => x.data.toList) h6
    simpa using this
  · rintro ⟨rfl, rfl, rfl, rfl, rfl, rfl⟩
    exact ⟨rfl, rfl, rfl, rfl, rfl, rfl⟩
def Od.fit (o : Od) : Bool := (o.live || o.eqb .zero) && decide (o.delta.length ≤ 66)
def lastLive (l : List Od) : Bool := match l.getLast? with
  | none => true
  | some o => o.live
def mayP (u : Ud) : Bool := decide (u.olds.length ≤ 15) && lastLive u.olds && u.olds.all Od.fit && decide (16 + sumS u.olds ≤ 224)
theorem cellsEq_od (a b : Od) : cellsEq [AV.bool a.live, .int .u16 a.page, .int .u32 a.ts, .int .u16 a.npg, .int .u8 a.nsl.toNat, .str ⟨a.delta.toArray⟩] [AV.bool b.live, .int .u16 b.page, .int .u32 b.ts, .int .u16 b.npg, .int .u8 b.nsl.toNat, .str ⟨b.delta.toArray⟩] = some (a.eqb b) := by
  have h := cellsEq_cons (x := AV.bool a.live) (y := AV.bool b.live) (a := a.live == b.live) rfl (cellsEq_cons (scEq_int (k := .u16) (a := a.page) (b := b.page)) (cellsEq_cons (scEq_int (k := .u32) (a := a.ts) (b := b.ts)) (cellsEq_cons (scEq_int (k := .u16) (a := a.npg) (b := b.npg)) (cellsEq_cons (scEq_int (k := .u8) (a := a.nsl.toNat) (b := b.nsl.toNat)) (cellsEq_cons (x := .str ⟨a.delta.toArray⟩) (y := .str ⟨b.delta.toArray⟩) (a := strEq ⟨a.delta.toArray⟩ ⟨b.delta.toArray⟩) rfl cellsEq_nil)))))
  rw [Bool.and_true] at h
  exact h
def mayT (u : Ud) (i : Nat) : Env := [(30, .int .i64 i), (29, .int .i64 u.olds.length), (28, odsAV u.olds), (1, .ptr 0 0 []), (2, .bool false)]
def maySt (u : Ud) (i c : Nat) : St := ⟨52, mayT u i, [(0, .cells u.av)], c + 1⟩
theorem sum_fit : ∀ l : List Od, l.all Od.fit = true → sumS l ≤ 77 * l.length
  | [], _ => by simp [sumS]
  | o :: l, h => by
    rw [List.all_cons, Bool.and_eq_true] at h
    have h1 := sum_fit l h.2
    have h2 : o.delta.length ≤ 66 := by
      have := h.1
      unfold Od.fit at this
      rw [Bool.and_eq_true] at this
      exact of_decide_eq_true this.2
    have h3 : o.size ≤ 77 := by unfold Od.size; split <;> omega
    rw [sumS, List.length_cons]; omega
theorem may_spec (u : Ud) (hu : u.Ok) : ACall Try.prog 21 [u.av] [] (.bool (mayP u)) [] := by
  refine ACall.run (Z := Z) (N := 52) mixed hZ Try.func21 rfl rfl (by kernel_rfl) (by simp) args_ud 0 ?_
  have hl := hu.len
  have fin : ∀ (r : Bool) (t : Env) (H : Heap) (m : Nat), r = mayP u → look t 2 = some (.bool r) → Final Try.prog Try.f21 (.bool (mayP u)) [] .ret ⟨52, t, H, m⟩ := fun r t H m hr h =>
    Final.one (.inr rfl) (r := .tmp 2) rfl ⟨hr ▸ h, fun vs h => by cases h⟩ (fun vs h => by cases h) (fun vs h => by cases h) (.same _ trivial)
  by_cases h15 : 15 < u.olds.length
  · have e1 : decide (15 < (u.olds.length : Int)) = true := decide_eq_true (by omega)
    simp -dsimp -implicitDefEqProofs only [↓j0, ↓j1, ↓j2, ↓j7, ↓j10, ↓j12, ↓j13, ↓j15, j17, j18, j20, ↓j25, ↓j27, ↓j29, ↓j30, j32, j33, ↓j38, ↓j39, ↓j40, ↓j42, ↓j43, ↓j45, ↓j48, ↓j58, ↓j62, ↓j76, ↓j79, j81, ↓j89, j133, j142, ↓j145, ↓j146, ↓j147, ↓j149, ↓j151, ↓j152, ↓j153, j161, AV.proj, AV.offOf, AV.size, AV.sizeL, AV.layable, argEnv, j163, j164, j166, j167, j171, j172, j175, ↓reduceIte, Nat.reduceEqDiff, j182, j185, j196, j197, j309, j318, j401, e1]
    exact fin false _ _ _ (by unfold mayP; rw [decide_eq_false (show ¬ u.olds.length ≤ 15 by omega)]; rfl) rfl
  have e1 : decide (15 < (u.olds.length : Int)) = false := decide_eq_false (by omega)
  have m1 : decide (u.olds.length ≤ 15) = true := decide_eq_true (by omega)
  have hll : ∀ o, u.olds[u.olds.length - 1]? = some o → lastLive u.olds = o.live := fun o h => by
    unfold lastLive; rw [List.getLast?_eq_getElem?, h]
  have two : (decide (0 < (u.olds.length : Int)) = false ∧ lastLive u.olds = true) ∨ (decide (0 < (u.olds.length : Int)) = true ∧ 0 < u.olds.length) := by
    by_cases h : 0 < u.olds.length
    · exact .inr ⟨decide_eq_true (by omega), h⟩
    · exact .inl ⟨decide_eq_false (by omega), by rw [List.length_eq_zero_iff.1 (show u.olds.length = 0 by omega)]; rfl⟩
  have hsz0 : 0 < u.olds.length → AV.sizeL ((u.olds.map Od.av).take (u.olds.length - 1)) = (u.olds.length - 1) * 6 := fun _ => (unif_od u.olds).sizeL_take (by simp)
  have three : (∃ o : Od, decide (0 < (u.olds.length : Int)) = true ∧ u.olds[u.olds.length - 1]? = some o ∧ o.live = false ∧ 0 < u.olds.length) ∨ (∃ o : Od, lastLive u.olds = true ∧ ((decide (0 < (u.olds.length : Int)) = false ∧ decide (0 < (u.olds.length : Int)) = false ∧ decide (0 < (u.olds.length : Int)) = false ∧ decide (0 < (u.olds.length : Int)) = false ∧ decide (0 < (u.olds.length : Int)) = false ∧ decide (0 < (u.olds.length : Int)) = false)
      ∨ (decide (0 < (u.olds.length : Int)) = true ∧ IntKind.i64.wrap ((u.olds.length : Int) - 1) = ((u.olds.length - 1 : Nat) : Int) ∧ ((u.olds.length - 1 : Nat) : Int) < (u.olds.length : Int) ∧ u.olds[u.olds.length - 1]? = some o ∧ AV.sizeL ((u.olds.map Od.av).take (u.olds.length - 1)) = (u.olds.length - 1) * 6 ∧ o.live = true))) := by
    rcases two with ⟨e2, hL⟩ | ⟨e2, h0⟩
    · exact .inr ⟨.zero, hL, .inl ⟨e2, e2, e2, e2, e2, e2⟩⟩
    · obtain ⟨o, ho⟩ := list_get (xs := u.olds) (i := u.olds.length - 1) (by omega)
      cases hlv : o.live
      · exact .inl ⟨o, e2, ho, hlv, h0⟩
      · exact .inr ⟨o, by rw [hll o ho, hlv], .inr ⟨e2, by rw [wrap_i64 (by omega) (by omega)]; omega, by omega, ho, hsz0 h0, hlv⟩⟩
  rcases three with ⟨o, e2, ho, hlv, h0⟩ | ⟨o, hL, three⟩
  · have w1 : IntKind.i64.wrap ((u.olds.length : Int) - 1) = ((u.olds.length - 1 : Nat) : Int) := by rw [wrap_i64 (by omega) (by omega)]; omega
    have hlt1 : ((u.olds.length - 1 : Nat) : Int) < (u.olds.length : Int) := by omega
    have hsz := hsz0 h0
    simp -dsimp -implicitDefEqProofs only [↓j0, ↓j1, ↓j2, ↓j7, ↓j10, ↓j12, ↓j13, ↓j15, j17, j18, j20, ↓j25, ↓j27, ↓j29, ↓j30, j32, j33, ↓j38, ↓j39, ↓j40, ↓j42, ↓j43, ↓j45, ↓j46, ↓j48, ↓j55, ↓j58, ↓j62, ↓j76, ↓j77, ↓j79, ↓j80, j83, j84, ↓j89, ↓j92, j131, j133, j142, ↓j145, ↓j146, ↓j147, ↓j148, ↓j149, ↓j150, ↓j151, ↓j153, j155, j161, AV.proj, AV.offOf, AV.size, AV.sizeL, AV.layable, argEnv, j163, j164, j166, j167, j170, j171, j172, j175, j177, ↓reduceIte, Nat.reduceEqDiff, j182, j185, j194, j195, j196, j197, j206, j207, j208, j253, j309, j310, j318, j341, j401, e1, e2, w1, hlt1, ho, hsz, hlv]
    exact fin false _ _ _ (by unfold mayP; rw [hll o ho, hlv, m1]; rfl) rfl
  rcases three with ⟨e2, w1, hlt1, ho, hsz, hlv⟩ | ⟨e2, w1, hlt1, ho, hsz, hlv⟩
  all_goals
    simp -dsimp -implicitDefEqProofs only [↓j0, ↓j1, ↓j2, ↓j7, ↓j9, ↓j12, ↓j13, ↓j14, ↓j15, ↓j16, j17, j18, j20, ↓j25, ↓j27, ↓j29, ↓j30, j32, j33, ↓j38, ↓j39, ↓j40, ↓j42, ↓j43, ↓j45, ↓j46, ↓j48, ↓j55, ↓j58, ↓j62, ↓j76, ↓j77, ↓j79, ↓j80, j82, j83, j84, ↓j89, ↓j92, j131, j133, j142, ↓j145, ↓j146, ↓j147, ↓j148, ↓j149, ↓j150, ↓j151, ↓j153, j155, j161, AV.proj, AV.offOf, AV.size, AV.sizeL, AV.layable, argEnv, j163, j164, j166, j167, j170, j171, j172, j175, j177, ↓reduceIte, Nat.reduceEqDiff, j182, j185, j193, j195, j196, j197, j206, j207, j208, j253, j309, j310, j318, j341, j401, e1, e2, w1, hlt1, ho, hsz, hlv]
    refine AWp.loopR (Z := Z) mixed hZ (by kernel_rfl) (fun n s => ∃ i c, i + n = u.olds.length ∧ (u.olds.take i).all Od.fit = true ∧ s = maySt u i c) (n0 := u.olds.length) (s0 := maySt u 0 0) ?_ ⟨0, 0, by omega, rfl, rfl⟩ ?_ rfl
    · exact Wk.sub (by simp -dsimp -implicitDefEqProofs only [↓j25, ↓j27, j179, ↓reduceIte, Nat.reduceEqDiff, j182, j183, j184, j196, j202, j203, j204, j205, j209, j223, mayT] <;> simp)
    rintro n s ⟨i, c, hi, ha, rfl⟩
    refine ⟨rfl, ?_⟩
    rcases Nat.lt_or_ge i u.olds.length with hlt | hge
    · have hd : decide ((i : Int) < (u.olds.length : Int)) = true := decide_eq_true (by omega)
      have hlt2 : (i : Int) < (u.olds.length : Int) := by omega
      obtain ⟨x, hx⟩ := list_get (xs := u.olds) (i := i) (by omega)
      have hsz2 : AV.sizeL ((u.olds.map Od.av).take i) = i * 6 := (unif_od u.olds).sizeL_take (by simp; omega)
      have hw : IntKind.i64.wrap ((i : Int) + 1) = ((i + 1 : Nat) : Int) := by rw [wrap_i64 (by omega) (by omega)]; omega
      have hce := cellsEq_od x .zero
      have bad : x.fit = false → mayP u = false := fun h => by
        have : u.olds.all Od.fit = false := by
          rw [List.all_eq_false]; exact ⟨x, List.mem_of_getElem? hx, by rw [h]; simp⟩
        unfold mayP; rw [this, Bool.and_false, Bool.false_and]
      have nxt : x.fit = true → (u.olds.take (i + 1)).all Od.fit = true := fun h => by
        rw [take_succ hx, List.all_append, ha]; simp [h]
      obtain ⟨z, hz⟩ : ∃ z, x.eqb .zero = z := ⟨_, rfl⟩
      rw [hz] at hce
      have hce : cellsEq [AV.bool x.live, .int .u16 x.page, .int .u32 x.ts, .int .u16 x.npg, .int .u8 x.nsl.toNat, .str ⟨x.delta.toArray⟩] [AV.bool false, .int .u16 0, .int .u32 0, .int .u16 0, .int .u8 0, .str ⟨#[]⟩] = some z := hce
      have step : ∀ (t : Env) (H : Heap), x.fit = true → SubT (mayT u (i + 1)) t → Heap.get H 0 = some (.cells u.av) → ∃ m s'', m < n ∧ (∃ i c, i + m = u.olds.length ∧ (u.olds.take i).all Od.fit = true ∧ s'' = maySt u i c) ∧ Wk ⟨52, t, H, c + 2⟩ s'' := fun t H hf ht hH =>
        ⟨n - 1, maySt u (i + 1) (c + 1), by omega, ⟨i + 1, c + 1, by omega, nxt hf, rfl⟩, Wk.sub ⟨ht, ⟨hH, trivial⟩, Nat.le_refl _⟩⟩
      rcases Nat.lt_or_ge 66 x.delta.length with h66 | h66
      · have b66 : decide (66 < (x.delta.length : Int)) = true := decide_eq_true (by omega)
        have hfit : x.fit = false := by unfold Od.fit; rw [decide_eq_false (by omega), Bool.and_false]
        cases hxl : x.live
        · rw [hxl] at hce
          cases z
          · simp -dsimp -implicitDefEqProofs only [↓j0, ↓j1, ↓j2, ↓j7, ↓j9, ↓j10, ↓j12, ↓j13, ↓j14, ↓j15, j17, j18, j19, j20, j21, j22, j23, ↓j25, ↓j27, ↓j29, ↓j30, j32, ↓j38, ↓j39, ↓j40, ↓j41, ↓j43, ↓j44, ↓j45, ↓j46, ↓j48, ↓j54, ↓j55, ↓j76, ↓j77, ↓j78, ↓j79, j81, j83, j84, ↓j89, ↓j91, ↓j92, ↓j124, j125, j127, j129, j131, ↓j145, ↓j146, ↓j147, ↓j149, ↓j150, ↓j151, ↓j153, j159, partsAV, AV.proj, AV.offOf, AV.upd, AV.size, AV.sizeL, AV.layable, AV.flat, AV.flatL, j163, j164, j167, j170, j171, j172, j173, j174, j175, j177, reduceCtorEq, ↓reduceIte, Nat.reduceAdd, Nat.reduceEqDiff, j182, j185, j191, j194, j197, j206, j207, j208, j212, kindOf, j214, j218, j219, j224, j253, j310, j338, j339, j341, j355, j356, j374, j387, maySt, mayT, hlt2, hx, hsz2, hxl, hce]
            exact fin false _ _ _ (bad hfit).symm rfl
          · simp -dsimp -implicitDefEqProofs only [↓j0, ↓j1, ↓j2, ↓j7, ↓j9, ↓j10, ↓j12, ↓j13, ↓j14, ↓j15, j17, j18, j19, j20, j21, j22, j23, ↓j25, ↓j27, ↓j29, ↓j30, j32, j33, ↓j38, ↓j39, ↓j40, ↓j41, ↓j43, ↓j44, ↓j45, ↓j46, ↓j48, ↓j54, ↓j55, ↓j58, ↓j59, ↓j76, ↓j77, ↓j78, ↓j79, j83, j84, ↓j89, ↓j91, ↓j92, ↓j124, j125, j127, j129, j131, j132, j141, ↓j145, ↓j146, ↓j147, ↓j148, ↓j149, ↓j150, ↓j151, ↓j153, j159, j161, partsAV, AV.proj, AV.offOf, AV.upd, AV.size, AV.sizeL, AV.layable, AV.flat, AV.flatL, j163, j164, j166, j167, j170, j171, j172, j173, j174, j175, j177, reduceCtorEq, ↓reduceIte, Nat.reduceAdd, Nat.reduceEqDiff, j182, j185, j191, j193, j194, j195, j196, j197, j206, j207, j208, j212, kindOf, j214, j218, j219, j224, j253, j258, j259, j310, j338, j339, j341, j353, j355, j356, j374, j387, maySt, mayT, hlt2, hx, hsz2, hxl, hce, str_bytes, b66]
            exact fin false _ _ _ (bad hfit).symm rfl
        · simp -dsimp -implicitDefEqProofs only [↓j0, ↓j1, ↓j2, ↓j7, ↓j9, ↓j10, ↓j12, ↓j13, ↓j14, ↓j15, j17, j18, j19, j20, j21, j22, j23, ↓j25, ↓j27, ↓j29, ↓j30, j32, j33, ↓j38, ↓j39, ↓j40, ↓j41, ↓j43, ↓j44, ↓j45, ↓j46, ↓j48, ↓j55, ↓j58, ↓j59, ↓j76, ↓j77, ↓j78, ↓j79, j82, j83, j84, ↓j89, ↓j92, j129, j131, j132, j141, ↓j145, ↓j146, ↓j147, ↓j148, ↓j149, ↓j150, ↓j151, ↓j153, j159, j161, AV.proj, AV.offOf, AV.upd, AV.size, AV.sizeL, AV.layable, j163, j164, j166, j167, j170, j171, j175, j177, reduceCtorEq, ↓reduceIte, Nat.reduceAdd, Nat.reduceEqDiff, j182, j185, j191, j193, j195, j196, j197, j206, j207, j208, j224, j253, j258, j259, j310, j338, j339, j341, j353, j374, maySt, mayT, hlt2, hx, hsz2, hxl, str_bytes, b66]
          exact fin false _ _ _ (bad hfit).symm rfl
      · have b66 : decide (66 < (x.delta.length : Int)) = false := decide_eq_false (by omega)
        cases hxl : x.live
        · rw [hxl] at hce
          cases z
          · have hfit : x.fit = false := by unfold Od.fit; rw [hxl, hz]; rfl
            simp -dsimp -implicitDefEqProofs only [↓j0, ↓j1, ↓j2, ↓j7, ↓j9, ↓j10, ↓j12, ↓j13, ↓j14, ↓j15, j17, j18, j19, j20, j21, j22, j23, ↓j25, ↓j27, ↓j29, ↓j30, j32, ↓j38, ↓j39, ↓j40, ↓j41, ↓j43, ↓j44, ↓j45, ↓j46, ↓j48, ↓j54, ↓j55, ↓j76, ↓j77, ↓j78, ↓j79, j81, j83, j84, ↓j89, ↓j91, ↓j92, ↓j124, j125, j127, j129, j131, ↓j145, ↓j146, ↓j147, ↓j149, ↓j150, ↓j151, ↓j153, j159, partsAV, AV.proj, AV.offOf, AV.upd, AV.size, AV.sizeL, AV.layable, AV.flat, AV.flatL, j163, j164, j167, j170, j171, j172, j173, j174, j175, j177, reduceCtorEq, ↓reduceIte, Nat.reduceAdd, Nat.reduceEqDiff, j182, j185, j191, j194, j197, j206, j207, j208, j212, kindOf, j214, j218, j219, j224, j253, j310, j338, j339, j341, j355, j356, j374, j387, maySt, mayT, hlt2, hx, hsz2, hxl, hce]
            exact fin false _ _ _ (bad hfit).symm rfl
          · have hfit : x.fit = true := by unfold Od.fit; rw [hxl, hz, decide_eq_true h66]; rfl
            simp -dsimp -implicitDefEqProofs only [↓j0, ↓j1, ↓j2, ↓j7, ↓j9, ↓j12, ↓j13, ↓j14, ↓j15, j17, j18, j19, j20, j21, j22, j23, ↓j25, ↓j27, ↓j29, ↓j30, j32, j33, ↓j38, ↓j40, ↓j41, ↓j43, ↓j44, ↓j45, ↓j46, ↓j48, ↓j54, ↓j55, ↓j58, ↓j59, ↓j76, ↓j77, ↓j78, ↓j79, j83, j84, ↓j89, ↓j91, ↓j92, ↓j124, j125, j127, j129, j131, j132, j141, ↓j145, ↓j146, ↓j147, ↓j148, ↓j149, ↓j150, ↓j151, ↓j153, j154, j159, j161, partsAV, AV.proj, AV.offOf, AV.upd, AV.size, AV.sizeL, AV.layable, AV.flat, AV.flatL, j163, j164, j166, j167, j170, j171, j172, j173, j174, j175, j177, reduceCtorEq, ↓reduceIte, Nat.reduceAdd, Nat.reduceEqDiff, j182, j185, j191, j193, j194, j195, j196, j197, j206, j207, j208, j212, kindOf, j214, j218, j219, j224, j253, j258, j259, j310, j338, j339, j341, j353, j355, j356, j374, j387, maySt, mayT, hlt2, hx, hsz2, hxl, hce, str_bytes, b66]
            exact step _ _ hfit (by simp -dsimp -implicitDefEqProofs only [↓j25, ↓reduceIte, Nat.reduceEqDiff, j182, j202, j203, mayT, hw] <;> simp) (by simp [Heap.get])
        · have hfit : x.fit = true := by unfold Od.fit; rw [hxl, decide_eq_true h66]; rfl
          simp -dsimp -implicitDefEqProofs only [↓j0, ↓j1, ↓j2, ↓j7, ↓j9, ↓j12, ↓j13, ↓j14, ↓j15, j17, j18, j19, j20, j21, j22, j23, ↓j25, ↓j27, ↓j29, ↓j30, j32, j33, ↓j38, ↓j40, ↓j41, ↓j43, ↓j44, ↓j45, ↓j46, ↓j48, ↓j55, ↓j58, ↓j59, ↓j76, ↓j77, ↓j78, ↓j79, j82, j83, j84, ↓j89, ↓j92, j129, j131, j132, j141, ↓j145, ↓j146, ↓j147, ↓j148, ↓j149, ↓j150, ↓j151, ↓j153, j154, j159, j161, AV.proj, AV.offOf, AV.upd, AV.size, AV.sizeL, AV.layable, j163, j164, j166, j167, j170, j171, j175, j177, reduceCtorEq, ↓reduceIte, Nat.reduceAdd, Nat.reduceEqDiff, j182, j185, j191, j193, j195, j196, j197, j206, j207, j208, j224, j253, j258, j259, j310, j338, j339, j341, j353, j374, maySt, mayT, hlt2, hx, hsz2, hxl, str_bytes, b66]
          exact step _ _ hfit (by simp -dsimp -implicitDefEqProofs only [↓j25, ↓reduceIte, Nat.reduceEqDiff, j182, j202, j203, mayT, hw] <;> simp) (by simp [Heap.get])
    have hi2 : i = u.olds.length := by omega
    subst hi2
    have hd : decide ((u.olds.length : Int) < (u.olds.length : Int)) = false := decide_eq_false (by omega)
    rw [List.take_of_length_le (Nat.le_refl _)] at ha
    have hsum := sum_fit u.olds ha
    have hle : decide (((16 + sumS u.olds : Nat) : Int) ≤ 224) = decide (16 + sumS u.olds ≤ 224) := by
      rw [decide_eq_decide]; omega
    simp -dsimp -implicitDefEqProofs only [↓j0, ↓j1, ↓j7, ↓j11, ↓j12, ↓j13, ↓j15, j17, j18, j20, ↓j25, ↓j27, ↓j29, ↓j43, ↓j48, ↓j53, ↓j76, ↓j89, j129, ↓j145, ↓j146, ↓j148, ↓j149, ↓j153, j159, AV.proj, AV.offOf, AV.size, AV.sizeL, j171, ↓reduceIte, Nat.reduceAdd, Nat.reduceEqDiff, j182, j185, j197, j312, j313, maySt, mayT, hd]
    refine CallTo.pure (args := [u.av]) rfl fok22 (by simp -dsimp -implicitDefEqProofs only [↓j25, ↓j29, j173, j174, ↓reduceIte]) (fun x hx => (args_ud x hx).2) (size_spec u hu (by omega)) ?_
    simp -dsimp -implicitDefEqProofs only [↓j0, ↓j1, ↓j10, j17, j18, j20, ↓j25, ↓j29, ↓j30, j33, ↓j39, ↓j48, ↓j89, ↓j145, ↓j146, j160, j171, ↓reduceIte, j185]
    exact fin _ _ _ _ (by rw [hle]; unfold mayP; rw [m1, hL, ha]; rfl) rfl
end Go.Proofs.Ytbellkdglifahaa
