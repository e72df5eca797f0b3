import Derived.Test.YtimdepgenefkmaaPC
import Derived.Test.YtimdepgenefkmaaF40
set_option maxRecDepth 8000
set_option linter.unusedVariables false
set_option linter.unusedSimpArgs false
section
namespace Go.Proofs.Ytimdepgenefkmaa
open Go Go.RowKit

structure Od where
  live : Bool
  page : Nat
  ts : Nat
  npg : Nat
  nsl : UInt8
  delta : List UInt8
abbrev Od.av (o : Od) : AV := .agg [.bool o.live, .int .u16 o.page, .int .u32 o.ts, .agg [.int .u16 o.npg, .int .u8 o.nsl.toNat], .str ⟨o.delta.toArray⟩]
structure Od.Ok (o : Od) : Prop where
  page : o.page < 65536
  ts : o.ts < 4294967296
  npg : o.npg < 65536
  delta : o.delta.length ≤ 9223372036854775807
def Od.zero : Od := ⟨false, 0, 0, 0, 0, []⟩
structure Ud where
  lsn : Nat
  olds : List Od
abbrev odsAV (l : List Od) : AV := .vsl (l.map Od.av) l.length
abbrev Ud.av (u : Ud) : AV := .agg [.int .u64 u.lsn, odsAV u.olds]
structure Ud.Ok (u : Ud) : Prop where
  lsn : u.lsn < 18446744073709551616
  len : u.olds.length ≤ 9223372036854775807
  olds : ∀ o, o ∈ u.olds → o.Ok
theorem on_ods (S : Nat → Prop) (l : List Od) : AV.on S (odsAV l) := AV.onL_iff.2 fun x hx => by
  obtain ⟨o, _, rfl⟩ := List.mem_map.1 hx; exact ⟨trivial, trivial, trivial, ⟨trivial, trivial, trivial⟩, trivial, trivial⟩
theorem on_ud (S : Nat → Prop) (u : Ud) : AV.on S u.av := ⟨trivial, on_ods _ _, trivial⟩
theorem unif_od (l : List Od) : Unif 6 (l.map Od.av) := fun x hx => by
  obtain ⟨o, _, rfl⟩ := List.mem_map.1 hx; rfl
theorem args_ud {u : Ud} : ∀ x, x ∈ [u.av] → AV.on (fun _ => False) x ∧ ∀ vs, x ≠ .tuple vs := fun x hx => by
  simp only [List.mem_singleton] at hx; subst hx; exact ⟨on_ud _ _, fun vs h => by cases h⟩
def Od.text (o : Od) : List UInt8 := if o.live then 1 :: (putL o.page 2 ++ (putL o.ts 4 ++ (putL o.npg 2 ++ (o.nsl :: UInt8.ofNat o.delta.length :: o.delta)))) else [0]
def Od.size (o : Od) : Nat := if o.live then 11 + o.delta.length else 1
theorem Od.text_len (o : Od) : o.text.length = o.size := by
  unfold Od.text Od.size
  split
  · simp only [List.length_append, List.length_cons, putL_len]; omega
  · rfl
def textL : List Od → List UInt8
  | [] => []
  | o :: l => o.text ++ textL l
def sumS : List Od → Nat
  | [] => 0
  | o :: l => o.size + sumS l
theorem textL_len : ∀ l, (textL l).length = sumS l
  | [] => rfl
  | o :: l => by rw [textL, List.length_append, o.text_len, textL_len l, sumS]
theorem sumS_append : ∀ a b, sumS (a ++ b) = sumS a + sumS b
  | [], b => by simp [sumS]
  | o :: a, b => by rw [List.cons_append, sumS, sumS, sumS_append a b]; omega
theorem textL_append : ∀ a b, textL (a ++ b) = textL a ++ textL b
  | [], b => by simp [textL]
  | o :: a, b => by rw [List.cons_append, textL, textL, textL_append a b, List.append_assoc]
theorem sumS_take {l : List Od} {i : Nat} {o : Od} (h : l[i]? = some o) : sumS (l.take (i + 1)) = sumS (l.take i) + o.size := by
  rw [take_succ h, sumS_append]; simp [sumS]
theorem sumS_take_le (l : List Od) (i : Nat) : sumS (l.take i) ≤ sumS l := by
  have := sumS_append (l.take i) (l.drop i)
  rw [List.take_append_drop] at this
  omega
def szT (u : Ud) (i : Nat) (c : Nat) : Env := [(9, .int .i64 i), (8, .int .i64 u.olds.length), (7, odsAV u.olds), (3, .int .i64 (16 + sumS (u.olds.take i) : Nat)), (2, .int .i64 0)]
def szSt (u : Ud) (i : Nat) (c : Nat) : St := ⟨25, szT u i c, [], c⟩
theorem size_spec (u : Ud) (hu : u.Ok) (hs : 16 + sumS u.olds ≤ 4611686018427387904) : ACall Try.prog 61 [u.av] [] (.int .i64 (16 + sumS u.olds : Nat)) [] := by
  refine ACall.run (Z := Z) (N := 25) mixed hZ Try.func61 rfl rfl (by kernel_rfl) (by simp) args_ud 0 ?_
  have hl := hu.len
  simp -dsimp -implicitDefEqProofs only [↓j0, ↓j1, ↓j7, ↓j12, ↓j14, ↓j15, ↓j16, j17, j18, j20, ↓j25, ↓j27, ↓j29, ↓j30, j33, ↓j38, ↓j39, ↓j42, ↓j43, ↓j45, ↓j58, ↓j62, ↓j76, ↓j79, j133, j142, ↓j145, ↓j146, ↓j153, AV.proj, AV.offOf, AV.size, AV.sizeL, AV.layable, argEnv, j163, j164, j166, j167, j171, j172, ↓reduceIte, Nat.reduceEqDiff, j182, j196, j197, j388, j397, j478]
  refine AWp.loopR (Z := Z) mixed hZ (by kernel_rfl) (fun n s => ∃ i c, i + n = u.olds.length ∧ s = szSt u i c) (n0 := u.olds.length) (s0 := szSt u 0 1) ?_ ⟨0, 1, by omega, rfl⟩ ?_ rfl
  · exact Wk.sub (by simp -dsimp -implicitDefEqProofs only [↓j25, j167, j179, ↓reduceIte, Nat.reduceEqDiff, j182, j183, j184, j202, j203, j204, j209, j223, szT] <;> simp [sumS])
  rintro n s ⟨i, c, hi, rfl⟩
  refine ⟨rfl, ?_⟩
  have hle := sumS_take_le u.olds i
  rcases Nat.lt_or_ge i u.olds.length with hlt | hge
  · have hd : decide ((i : Int) < (u.olds.length : Int)) = true := decide_eq_true (by omega)
    have hlt1 : (i : Int) < (u.olds.length : Int) := by omega
    obtain ⟨o, ho⟩ := list_get (xs := u.olds) (i := i) (by omega)
    have hsz : AV.sizeL ((u.olds.map Od.av).take i) = i * 6 := (unif_od u.olds).sizeL_take (by simp; omega)
    have hw : IntKind.i64.wrap ((i : Int) + 1) = ((i + 1 : Nat) : Int) := by rw [wrap_i64 (by omega) (by omega)]; omega
    have hst := sumS_take ho
    have hle2 := sumS_take_le u.olds (i + 1)
    obtain ⟨m, hm⟩ : ∃ m, 16 + sumS (u.olds.take i) = m := ⟨_, rfl⟩
    have hm2 : IntKind.i64.wrap ((m : Int) + 1) = ((m + 1 : Nat) : Int) := by rw [wrap_i64 (by omega) (by omega)]; omega
    simp -dsimp -implicitDefEqProofs only [↓j0, ↓j1, ↓j7, ↓j9, ↓j12, ↓j13, ↓j14, ↓j15, j17, j18, j19, j20, j21, j22, j23, ↓j25, ↓j27, ↓j29, ↓j30, j33, ↓j38, ↓j39, ↓j41, ↓j43, ↓j44, ↓j45, ↓j46, ↓j48, ↓j76, ↓j77, ↓j78, ↓j79, ↓j89, ↓j92, j129, j131, ↓j145, ↓j146, ↓j147, ↓j149, ↓j153, j154, j159, AV.proj, AV.offOf, AV.upd, AV.size, AV.sizeL, AV.layable, j163, j167, j171, j172, j177, ↓reduceIte, Nat.reduceAdd, Nat.reduceEqDiff, j182, j185, j191, j197, j206, j207, j208, j253, j294, j295, j297, j389, j423, szSt, szT, ho, hlt1, hsz, hm, hm2]
    cases hlv : o.live
    · have hos : 16 + sumS (u.olds.take (i + 1)) = m + 1 := by rw [hst, show o.size = 1 by unfold Od.size; rw [hlv]; rfl]; omega
      simp -dsimp -implicitDefEqProofs only [↓j0, ↓j1, ↓j7, ↓j9, ↓j15, j17, j18, j20, ↓j25, ↓j29, ↓j30, j33, ↓j38, ↓j48, ↓j89, ↓j145, ↓j146, ↓j148, j154, j171, ↓reduceIte, Nat.reduceEqDiff, j185]
      exact ⟨n - 1, szSt u (i + 1) (c + 1), by omega, ⟨i + 1, c + 1, by omega, rfl⟩, Wk.sub (by simp -dsimp -implicitDefEqProofs only [↓j25, ↓reduceIte, Nat.reduceEqDiff, j182, j202, j203, j204, j223, szT, hos, hw] <;> simp)⟩
    · have hos : o.size = 11 + o.delta.length := by unfold Od.size; rw [hlv]; rfl
      have hos2 : 16 + sumS (u.olds.take (i + 1)) = m + (1 + (10 + o.delta.length)) := by rw [hst, hos]; omega
      have q1 : IntKind.i64.wrap (10 + (o.delta.length : Int)) = ((10 + o.delta.length : Nat) : Int) := by rw [wrap_i64 (by omega) (by omega)]; omega
      have q2 : IntKind.i64.wrap (((m + 1 : Nat) : Int) + ((10 + o.delta.length : Nat) : Int)) = ((m + 1 + (10 + o.delta.length) : Nat) : Int) := by rw [wrap_i64 (by omega) (by omega)]; omega
      simp -dsimp -implicitDefEqProofs only [↓j0, ↓j1, ↓j7, ↓j15, j17, j18, j20, ↓j25, ↓j27, ↓j29, ↓j30, j33, ↓j38, ↓j39, ↓j43, ↓j45, ↓j48, ↓j58, ↓j59, ↓j76, ↓j79, ↓j89, j132, j141, ↓j145, ↓j146, ↓j147, ↓j153, j154, AV.proj, AV.offOf, AV.size, AV.sizeL, j163, j164, j166, j167, j171, ↓reduceIte, Nat.reduceAdd, Nat.reduceEqDiff, j182, j185, j196, j197, j224, j258, j259, j309, hlv, str_bytes, q1, q2]
      exact ⟨n - 1, szSt u (i + 1) (c + 1), by omega, ⟨i + 1, c + 1, by omega, rfl⟩, Wk.sub (by simp -dsimp -implicitDefEqProofs only [↓j25, ↓reduceIte, Nat.reduceEqDiff, j182, j202, j203, j204, j223, szT, hos2, hw] <;> simp)⟩
  · have hi2 : i = u.olds.length := by omega
    subst hi2
    have hd : decide ((u.olds.length : Int) < (u.olds.length : Int)) = false := decide_eq_false (by omega)
    have hT : u.olds.take u.olds.length = u.olds := List.take_of_length_le (Nat.le_refl _)
    simp -dsimp -implicitDefEqProofs only [↓j0, ↓j1, ↓j7, ↓j10, ↓j11, ↓j12, ↓j13, ↓j15, j17, j18, j20, ↓j25, ↓j29, ↓j38, ↓j39, ↓j48, ↓j89, ↓j145, ↓j146, ↓j148, ↓j149, j159, j172, ↓reduceIte, Nat.reduceEqDiff, j185, szSt, szT, hT, hd]
    exact Final.one (.inr rfl) (r := .tmp 2) rfl ⟨rfl, fun vs h => by cases h⟩ (fun vs h => by cases h) (fun vs h => by cases h) (.same _ trivial)
def Od.eqb (a b : Od) : Bool := (a.live == b.live) && (((a.page : Int) == (b.page : Int)) && (((a.ts : Int) == (b.ts : Int)) && (((a.npg : Int) == (b.npg : Int)) && (((a.nsl.toNat : Int) == (b.nsl.toNat : Int)) && strEq ⟨a.delta.toArray⟩ ⟨b.delta.toArray⟩))))
theorem Od.eqb_iff {a b : Od} : a.eqb b = true ↔ a = b := by
  obtain ⟨a1, a2, a3, a4, a5, a6⟩ := a
  obtain ⟨b1, b2, b3, b4, b5, b6⟩ := b
  simp only [Od.eqb, Bool.and_eq_true, beq_iff_eq, Od.mk.injEq, strEq_iff]
  constructor
  · rintro ⟨h1, h2, h3, h4, h5, h6⟩
    refine ⟨h1, by omega, by omega, by omega, UInt8.toNat_inj.1 (by omega), ?_⟩
    have := congrArg (fun x => x.data.toList) h6
    simpa using this
  · rintro ⟨rfl, rfl, rfl, rfl, rfl, rfl⟩
    exact ⟨rfl, rfl, rfl, rfl, rfl, rfl⟩
def Od.fit (o : Od) : Bool := (o.live || o.eqb .zero) && decide (o.delta.length ≤ 66)
def lastLive (l : List Od) : Bool := match l.getLast? with
  | none => true
  | some o => o.live
def mayP (u : Ud) : Bool := decide (u.olds.length ≤ 15) && lastLive u.olds && u.olds.all Od.fit && decide (16 + sumS u.olds ≤ 224)
theorem cellsEq_od (a b : Od) : cellsEq [AV.bool a.live, .int .u16 a.page, .int .u32 a.ts, .int .u16 a.npg, .int .u8 a.nsl.toNat, .str ⟨a.delta.toArray⟩] [AV.bool b.live, .int .u16 b.page, .int .u32 b.ts, .int .u16 b.npg, .int .u8 b.nsl.toNat, .str ⟨b.delta.toArray⟩] = some (a.eqb b) := by
  have h := cellsEq_cons (x := AV.bool a.live) (y := AV.bool b.live) (a := a.live == b.live) rfl (cellsEq_cons (scEq_int (k := .u16) (a := a.page) (b := b.page)) (cellsEq_cons (scEq_int (k := .u32) (a := a.ts) (b := b.ts)) (cellsEq_cons (scEq_int (k := .u16) (a := a.npg) (b := b.npg)) (cellsEq_cons (scEq_int (k := .u8) (a := a.nsl.toNat) (b := b.nsl.toNat)) (cellsEq_cons (x := .str ⟨a.delta.toArray⟩) (y := .str ⟨b.delta.toArray⟩) (a := strEq ⟨a.delta.toArray⟩ ⟨b.delta.toArray⟩) rfl cellsEq_nil)))))
  rw [Bool.and_true] at h
  exact h
def mayT (u : Ud) (i : Nat) : Env := [(30, .int .i64 i), (29, .int .i64 u.olds.length), (28, odsAV u.olds), (1, .ptr 0 0 []), (2, .bool false)]
def maySt (u : Ud) (i c : Nat) : St := ⟨52, mayT u i, [(0, .cells u.av)], c + 1⟩
theorem sum_fit : ∀ l : List Od, l.all Od.fit = true → sumS l ≤ 77 * l.length
  | [], _ => by simp [sumS]
  | o :: l, h => by
    rw [List.all_cons, Bool.and_eq_true] at h
    have h1 := sum_fit l h.2
    have h2 : o.delta.length ≤ 66 := by
      have := h.1
      unfold Od.fit at this
      rw [Bool.and_eq_true] at this
      exact of_decide_eq_true this.2
    have h3 : o.size ≤ 77 := by unfold Od.size; split <;> omega
    rw [sumS, List.length_cons]; omega
theorem may_spec (u : Ud) (hu : u.Ok) : ACall Try.prog 53 [u.av] [] (.bool (mayP u)) [] := by
  refine ACall.run (Z := Z) (N := 52) mixed hZ Try.func53 rfl rfl (by kernel_rfl) (by simp) args_ud 0 ?_
  have hl := hu.len
  have fin : ∀ (r : Bool) (t : Env) (H : Heap) (m : Nat), r = mayP u → look t 2 = some (.bool r) → Final Try.prog Try.f53 (.bool (mayP u)) [] .ret ⟨52, t, H, m⟩ := fun r t H m hr h =>
    Final.one (.inr rfl) (r := .tmp 2) rfl ⟨hr ▸ h, fun vs h => by cases h⟩ (fun vs h => by cases h) (fun vs h => by cases h) (.same _ trivial)
  by_cases h15 : 15 < u.olds.length
  · have e1 : decide (15 < (u.olds.length : Int)) = true := decide_eq_true (by omega)
    simp -dsimp -implicitDefEqProofs only [↓j0, ↓j1, ↓j2, ↓j7, ↓j10, ↓j12, ↓j13, ↓j15, j17, j18, j20, ↓j25, ↓j27, ↓j29, ↓j30, j32, j33, ↓j38, ↓j39, ↓j40, ↓j42, ↓j43, ↓j45, ↓j48, ↓j58, ↓j62, ↓j76, ↓j79, j81, ↓j89, j133, j142, ↓j145, ↓j146, ↓j147, ↓j149, ↓j151, ↓j152, ↓j153, j161, AV.proj, AV.offOf, AV.size, AV.sizeL, AV.layable, argEnv, j163, j164, j166, j167, j171, j172, j175, ↓reduceIte, Nat.reduceEqDiff, j182, j185, j196, j197, j388, j397, j478, e1]
    exact fin false _ _ _ (by unfold mayP; rw [decide_eq_false (show ¬ u.olds.length ≤ 15 by omega)]; rfl) rfl
  have e1 : decide (15 < (u.olds.length : Int)) = false := decide_eq_false (by omega)
  have m1 : decide (u.olds.length ≤ 15) = true := decide_eq_true (by omega)
  have hll : ∀ o, u.olds[u.olds.length - 1]? = some o → lastLive u.olds = o.live := fun o h => by
    unfold lastLive; rw [List.getLast?_eq_getElem?, h]
  have two : (decide (0 < (u.olds.length : Int)) = false ∧ lastLive u.olds = true) ∨ (decide (0 < (u.olds.length : Int)) = true ∧ 0 < u.olds.length) := by
    by_cases h : 0 < u.olds.length
    · exact .inr ⟨decide_eq_true (by omega), h⟩
    · exact .inl ⟨decide_eq_false (by omega), by rw [List.length_eq_zero_iff.1 (show u.olds.length = 0 by omega)]; rfl⟩
  have hsz0 : 0 < u.olds.length → AV.sizeL ((u.olds.map Od.av).take (u.olds.length - 1)) = (u.olds.length - 1) * 6 := fun _ => (unif_od u.olds).sizeL_take (by simp)
  have three : (∃ o : Od, decide (0 < (u.olds.length : Int)) = true ∧ u.olds[u.olds.length - 1]? = some o ∧ o.live = false ∧ 0 < u.olds.length) ∨ (∃ o : Od, lastLive u.olds = true ∧ ((decide (0 < (u.olds.length : Int)) = false ∧ decide (0 < (u.olds.length : Int)) = false ∧ decide (0 < (u.olds.length : Int)) = false ∧ decide (0 < (u.olds.length : Int)) = false ∧ decide (0 < (u.olds.length : Int)) = false ∧ decide (0 < (u.olds.length : Int)) = false)
      ∨ (decide (0 < (u.olds.length : Int)) = true ∧ IntKind.i64.wrap ((u.olds.length : Int) - 1) = ((u.olds.length - 1 : Nat) : Int) ∧ ((u.olds.length - 1 : Nat) : Int) < (u.olds.length : Int) ∧ u.olds[u.olds.length - 1]? = some o ∧ AV.sizeL ((u.olds.map Od.av).take (u.olds.length - 1)) = (u.olds.length - 1) * 6 ∧ o.live = true))) := by
    rcases two with ⟨e2, hL⟩ | ⟨e2, h0⟩
    · exact .inr ⟨.zero, hL, .inl ⟨e2, e2, e2, e2, e2, e2⟩⟩
    · obtain ⟨o, ho⟩ := list_get (xs := u.olds) (i := u.olds.length - 1) (by omega)
      cases hlv : o.live
      · exact .inl ⟨o, e2, ho, hlv, h0⟩
      · exact .inr ⟨o, by rw [hll o ho, hlv], .inr ⟨e2, by rw [wrap_i64 (by omega) (by omega)]; omega, by omega, ho, hsz0 h0, hlv⟩⟩
  rcases three with ⟨o, e2, ho, hlv, h0⟩ | ⟨o, hL, three⟩
  · have w1 : IntKind.i64.wrap ((u.olds.length : Int) - 1) = ((u.olds.length - 1 : Nat) : Int) := by rw [wrap_i64 (by omega) (by omega)]; omega
    have hlt1 : ((u.olds.length - 1 : Nat) : Int) < (u.olds.length : Int) := by omega
    have hsz := hsz0 h0
    simp -dsimp -implicitDefEqProofs only [↓j0, ↓j1, ↓j2, ↓j7, ↓j10, ↓j12, ↓j13, ↓j15, j17, j18, j20, ↓j25, ↓j27, ↓j29, ↓j30, j32, j33, ↓j38, ↓j39, ↓j40, ↓j42, ↓j43, ↓j45, ↓j46, ↓j48, ↓j55, ↓j58, ↓j62, ↓j76, ↓j77, ↓j79, ↓j80, j83, j84, ↓j89, ↓j92, j131, j133, j142, ↓j145, ↓j146, ↓j147, ↓j148, ↓j149, ↓j150, ↓j151, ↓j153, j155, j161, AV.proj, AV.offOf, AV.size, AV.sizeL, AV.layable, argEnv, j163, j164, j166, j167, j170, j171, j172, j175, j177, ↓reduceIte, Nat.reduceEqDiff, j182, j185, j194, j195, j196, j197, j206, j207, j208, j253, j297, j388, j389, j397, j478, e1, e2, w1, hlt1, ho, hsz, hlv]
    exact fin false _ _ _ (by unfold mayP; rw [hll o ho, hlv, m1]; rfl) rfl
  rcases three with ⟨e2, w1, hlt1, ho, hsz, hlv⟩ | ⟨e2, w1, hlt1, ho, hsz, hlv⟩
  all_goals
    simp -dsimp -implicitDefEqProofs only [↓j0, ↓j1, ↓j2, ↓j7, ↓j9, ↓j12, ↓j13, ↓j14, ↓j15, ↓j16, j17, j18, j20, ↓j25, ↓j27, ↓j29, ↓j30, j32, j33, ↓j38, ↓j39, ↓j40, ↓j42, ↓j43, ↓j45, ↓j46, ↓j48, ↓j55, ↓j58, ↓j62, ↓j76, ↓j77, ↓j79, ↓j80, j82, j83, j84, ↓j89, ↓j92, j131, j133, j142, ↓j145, ↓j146, ↓j147, ↓j148, ↓j149, ↓j150, ↓j151, ↓j153, j155, j161, AV.proj, AV.offOf, AV.size, AV.sizeL, AV.layable, argEnv, j163, j164, j166, j167, j170, j171, j172, j175, j177, ↓reduceIte, Nat.reduceEqDiff, j182, j185, j193, j195, j196, j197, j206, j207, j208, j253, j297, j388, j389, j397, j478, e1, e2, w1, hlt1, ho, hsz, hlv]
    refine AWp.loopR (Z := Z) mixed hZ (by kernel_rfl) (fun n s => ∃ i c, i + n = u.olds.length ∧ (u.olds.take i).all Od.fit = true ∧ s = maySt u i c) (n0 := u.olds.length) (s0 := maySt u 0 0) ?_ ⟨0, 0, by omega, rfl, rfl⟩ ?_ rfl
    · exact Wk.sub (by simp -dsimp -implicitDefEqProofs only [↓j25, ↓j27, j179, ↓reduceIte, Nat.reduceEqDiff, j182, j183, j184, j196, j202, j203, j204, j205, j209, j223, mayT] <;> simp)
    rintro n s ⟨i, c, hi, ha, rfl⟩
    refine ⟨rfl, ?_⟩
    rcases Nat.lt_or_ge i u.olds.length with hlt | hge
    · have hd : decide ((i : Int) < (u.olds.length : Int)) = true := decide_eq_true (by omega)
      have hlt2 : (i : Int) < (u.olds.length : Int) := by omega
      obtain ⟨x, hx⟩ := list_get (xs := u.olds) (i := i) (by omega)
      have hsz2 : AV.sizeL ((u.olds.map Od.av).take i) = i * 6 := (unif_od u.olds).sizeL_take (by simp; omega)
      have hw : IntKind.i64.wrap ((i : Int) + 1) = ((i + 1 : Nat) : Int) := by rw [wrap_i64 (by omega) (by omega)]; omega
      have hce := cellsEq_od x .zero
      have bad : x.fit = false → mayP u = false := fun h => by
        have : u.olds.all Od.fit = false := by
          rw [List.all_eq_false]; exact ⟨x, List.mem_of_getElem? hx, by rw [h]; simp⟩
        unfold mayP; rw [this, Bool.and_false, Bool.false_and]
      have nxt : x.fit = true → (u.olds.take (i + 1)).all Od.fit = true := fun h => by
        rw [take_succ hx, List.all_append, ha]; simp [h]
      obtain ⟨z, hz⟩ : ∃ z, x.eqb .zero = z := ⟨_, rfl⟩
      rw [hz] at hce
      have hce : cellsEq [AV.bool x.live, .int .u16 x.page, .int .u32 x.ts, .int .u16 x.npg, .int .u8 x.nsl.toNat, .str ⟨x.delta.toArray⟩] [AV.bool false, .int .u16 0, .int .u32 0, .int .u16 0, .int .u8 0, .str ⟨#[]⟩] = some z := hce
      have step : ∀ (t : Env) (H : Heap), x.fit = true → SubT (mayT u (i + 1)) t → Heap.get H 0 = some (.cells u.av) → ∃ m s'', m < n ∧ (∃ i c, i + m = u.olds.length ∧ (u.olds.take i).all Od.fit = true ∧ s'' = maySt u i c) ∧ Wk ⟨52, t, H, c + 2⟩ s'' := fun t H hf ht hH =>
        ⟨n - 1, maySt u (i + 1) (c + 1), by omega, ⟨i + 1, c + 1, by omega, nxt hf, rfl⟩, Wk.sub ⟨ht, ⟨hH, trivial⟩, Nat.le_refl _⟩⟩
      rcases Nat.lt_or_ge 66 x.delta.length with h66 | h66
      · have b66 : decide (66 < (x.delta.length : Int)) = true := decide_eq_true (by omega)
        have hfit : x.fit = false := by unfold Od.fit; rw [decide_eq_false (by omega), Bool.and_false]
        cases hxl : x.live
        · rw [hxl] at hce
          cases z
          · simp -dsimp -implicitDefEqProofs only [↓j0, ↓j1, ↓j2, ↓j7, ↓j9, ↓j10, ↓j12, ↓j13, ↓j14, ↓j15, j17, j18, j19, j20, j21, j22, j23, ↓j25, ↓j27, ↓j29, ↓j30, j32, ↓j38, ↓j39, ↓j40, ↓j41, ↓j43, ↓j44, ↓j45, ↓j46, ↓j48, ↓j54, ↓j55, ↓j76, ↓j77, ↓j78, ↓j79, j81, j83, j84, ↓j89, ↓j91, ↓j92, ↓j124, j125, j127, j129, j131, ↓j145, ↓j146, ↓j147, ↓j149, ↓j150, ↓j151, ↓j153, j159, partsAV, AV.proj, AV.offOf, AV.upd, AV.size, AV.sizeL, AV.layable, AV.flat, AV.flatL, j163, j164, j167, j170, j171, j172, j173, j174, j175, j177, reduceCtorEq, ↓reduceIte, Nat.reduceAdd, Nat.reduceEqDiff, j182, j185, j191, j194, j197, j206, j207, j208, j212, kindOf, j214, j218, j219, j224, j253, j294, j295, j297, j311, j312, j389, j423, j441, maySt, mayT, hlt2, hx, hsz2, hxl, hce]
            exact fin false _ _ _ (bad hfit).symm rfl
          · simp -dsimp -implicitDefEqProofs only [↓j0, ↓j1, ↓j2, ↓j7, ↓j9, ↓j10, ↓j12, ↓j13, ↓j14, ↓j15, j17, j18, j19, j20, j21, j22, j23, ↓j25, ↓j27, ↓j29, ↓j30, j32, j33, ↓j38, ↓j39, ↓j40, ↓j41, ↓j43, ↓j44, ↓j45, ↓j46, ↓j48, ↓j54, ↓j55, ↓j58, ↓j59, ↓j76, ↓j77, ↓j78, ↓j79, j83, j84, ↓j89, ↓j91, ↓j92, ↓j124, j125, j127, j129, j131, j132, j141, ↓j145, ↓j146, ↓j147, ↓j148, ↓j149, ↓j150, ↓j151, ↓j153, j159, j161, partsAV, AV.proj, AV.offOf, AV.upd, AV.size, AV.sizeL, AV.layable, AV.flat, AV.flatL, j163, j164, j166, j167, j170, j171, j172, j173, j174, j175, j177, reduceCtorEq, ↓reduceIte, Nat.reduceAdd, Nat.reduceEqDiff, j182, j185, j191, j193, j194, j195, j196, j197, j206, j207, j208, j212, kindOf, j214, j218, j219, j224, j253, j258, j259, j294, j295, j297, j309, j311, j312, j389, j423, j441, maySt, mayT, hlt2, hx, hsz2, hxl, hce, str_bytes, b66]
            exact fin false _ _ _ (bad hfit).symm rfl
        · simp -dsimp -implicitDefEqProofs only [↓j0, ↓j1, ↓j2, ↓j7, ↓j9, ↓j10, ↓j12, ↓j13, ↓j14, ↓j15, j17, j18, j19, j20, j21, j22, j23, ↓j25, ↓j27, ↓j29, ↓j30, j32, j33, ↓j38, ↓j39, ↓j40, ↓j41, ↓j43, ↓j44, ↓j45, ↓j46, ↓j48, ↓j55, ↓j58, ↓j59, ↓j76, ↓j77, ↓j78, ↓j79, j82, j83, j84, ↓j89, ↓j92, j129, j131, j132, j141, ↓j145, ↓j146, ↓j147, ↓j148, ↓j149, ↓j150, ↓j151, ↓j153, j159, j161, AV.proj, AV.offOf, AV.upd, AV.size, AV.sizeL, AV.layable, j163, j164, j166, j167, j170, j171, j175, j177, reduceCtorEq, ↓reduceIte, Nat.reduceAdd, Nat.reduceEqDiff, j182, j185, j191, j193, j195, j196, j197, j206, j207, j208, j224, j253, j258, j259, j294, j295, j297, j309, j389, j423, maySt, mayT, hlt2, hx, hsz2, hxl, str_bytes, b66]
          exact fin false _ _ _ (bad hfit).symm rfl
      · have b66 : decide (66 < (x.delta.length : Int)) = false := decide_eq_false (by omega)
        cases hxl : x.live
        · rw [hxl] at hce
          cases z
          · have hfit : x.fit = false := by unfold Od.fit; rw [hxl, hz]; rfl
            simp -dsimp -implicitDefEqProofs only [↓j0, ↓j1, ↓j2, ↓j7, ↓j9, ↓j10, ↓j12, ↓j13, ↓j14, ↓j15, j17, j18, j19, j20, j21, j22, j23, ↓j25, ↓j27, ↓j29, ↓j30, j32, ↓j38, ↓j39, ↓j40, ↓j41, ↓j43, ↓j44, ↓j45, ↓j46, ↓j48, ↓j54, ↓j55, ↓j76, ↓j77, ↓j78, ↓j79, j81, j83, j84, ↓j89, ↓j91, ↓j92, ↓j124, j125, j127, j129, j131, ↓j145, ↓j146, ↓j147, ↓j149, ↓j150, ↓j151, ↓j153, j159, partsAV, AV.proj, AV.offOf, AV.upd, AV.size, AV.sizeL, AV.layable, AV.flat, AV.flatL, j163, j164, j167, j170, j171, j172, j173, j174, j175, j177, reduceCtorEq, ↓reduceIte, Nat.reduceAdd, Nat.reduceEqDiff, j182, j185, j191, j194, j197, j206, j207, j208, j212, kindOf, j214, j218, j219, j224, j253, j294, j295, j297, j311, j312, j389, j423, j441, maySt, mayT, hlt2, hx, hsz2, hxl, hce]
            exact fin false _ _ _ (bad hfit).symm rfl
          · have hfit : x.fit = true := by unfold Od.fit; rw [hxl, hz, decide_eq_true h66]; rfl
            simp -dsimp -implicitDefEqProofs only [↓j0, ↓j1, ↓j2, ↓j7, ↓j9, ↓j12, ↓j13, ↓j14, ↓j15, j17, j18, j19, j20, j21, j22, j23, ↓j25, ↓j27, ↓j29, ↓j30, j32, j33, ↓j38, ↓j40, ↓j41, ↓j43, ↓j44, ↓j45, ↓j46, ↓j48, ↓j54, ↓j55, ↓j58, ↓j59, ↓j76, ↓j77, ↓j78, ↓j79, j83, j84, ↓j89, ↓j91, ↓j92, ↓j124, j125, j127, j129, j131, j132, j141, ↓j145, ↓j146, ↓j147, ↓j148, ↓j149, ↓j150, ↓j151, ↓j153, j154, j159, j161, partsAV, AV.proj, AV.offOf, AV.upd, AV.size, AV.sizeL, AV.layable, AV.flat, AV.flatL, j163, j164, j166, j167, j170, j171, j172, j173, j174, j175, j177, reduceCtorEq, ↓reduceIte, Nat.reduceAdd, Nat.reduceEqDiff, j182, j185, j191, j193, j194, j195, j196, j197, j206, j207, j208, j212, kindOf, j214, j218, j219, j224, j253, j258, j259, j294, j295, j297, j309, j311, j312, j389, j423, j441, maySt, mayT, hlt2, hx, hsz2, hxl, hce, str_bytes, b66]
            exact step _ _ hfit (by simp -dsimp -implicitDefEqProofs only [↓j25, ↓reduceIte, Nat.reduceEqDiff, j182, j202, j203, mayT, hw] <;> simp) (by simp [Heap.get])
        · have hfit : x.fit = true := by unfold Od.fit; rw [hxl, decide_eq_true h66]; rfl
          simp -dsimp -implicitDefEqProofs only [↓j0, ↓j1, ↓j2, ↓j7, ↓j9, ↓j12, ↓j13, ↓j14, ↓j15, j17, j18, j19, j20, j21, j22, j23, ↓j25, ↓j27, ↓j29, ↓j30, j32, j33, ↓j38, ↓j40, ↓j41, ↓j43, ↓j44, ↓j45, ↓j46, ↓j48, ↓j55, ↓j58, ↓j59, ↓j76, ↓j77, ↓j78, ↓j79, j82, j83, j84, ↓j89, ↓j92, j129, j131, j132, j141, ↓j145, ↓j146, ↓j147, ↓j148, ↓j149, ↓j150, ↓j151, ↓j153, j154, j159, j161, AV.proj, AV.offOf, AV.upd, AV.size, AV.sizeL, AV.layable, j163, j164, j166, j167, j170, j171, j175, j177, reduceCtorEq, ↓reduceIte, Nat.reduceAdd, Nat.reduceEqDiff, j182, j185, j191, j193, j195, j196, j197, j206, j207, j208, j224, j253, j258, j259, j294, j295, j297, j309, j389, j423, maySt, mayT, hlt2, hx, hsz2, hxl, str_bytes, b66]
          exact step _ _ hfit (by simp -dsimp -implicitDefEqProofs only [↓j25, ↓reduceIte, Nat.reduceEqDiff, j182, j202, j203, mayT, hw] <;> simp) (by simp [Heap.get])
    have hi2 : i = u.olds.length := by omega
    subst hi2
    have hd : decide ((u.olds.length : Int) < (u.olds.length : Int)) = false := decide_eq_false (by omega)
    rw [List.take_of_length_le (Nat.le_refl _)] at ha
    have hsum := sum_fit u.olds ha
    have hle : decide (((16 + sumS u.olds : Nat) : Int) ≤ 224) = decide (16 + sumS u.olds ≤ 224) := by
      rw [decide_eq_decide]; omega
    simp -dsimp -implicitDefEqProofs only [↓j0, ↓j1, ↓j7, ↓j11, ↓j12, ↓j13, ↓j15, j17, j18, j20, ↓j25, ↓j27, ↓j29, ↓j43, ↓j48, ↓j53, ↓j76, ↓j89, j129, ↓j145, ↓j146, ↓j148, ↓j149, ↓j153, j159, AV.proj, AV.offOf, AV.size, AV.sizeL, j171, ↓reduceIte, Nat.reduceAdd, Nat.reduceEqDiff, j182, j185, j197, j391, j392, maySt, mayT, hd]
    refine CallTo.pure (args := [u.av]) rfl fok61 (by simp -dsimp -implicitDefEqProofs only [↓j25, ↓j29, j173, j174, ↓reduceIte]) (fun x hx => (args_ud x hx).2) (size_spec u hu (by omega)) ?_
    simp -dsimp -implicitDefEqProofs only [↓j0, ↓j1, ↓j10, j17, j18, j20, ↓j25, ↓j29, ↓j30, j33, ↓j39, ↓j48, ↓j89, ↓j145, ↓j146, j160, j171, ↓reduceIte, j185]
    exact fin _ _ _ _ (by rw [hle]; unfold mayP; rw [m1, hL, ha]; rfl) rfl
end Go.Proofs.Ytimdepgenefkmaa
end
section
namespace Go.Proofs.Ytimdepgenefkmaa
open Go Go.RowKit

def undoRest (u : Ud) : List UInt8 := UInt8.ofNat u.olds.length :: textL u.olds
def putUndo (no : Nat) (u : Ud) : List UInt8 := if mayP u then sealP 2 no u.lsn (undoRest u ++ zb (208 - sumS u.olds)) else zb 224
abbrev putAV (no : Nat) (u : Ud) : AV := .tuple [arrAV (putUndo no u), .int .i64 (if mayP u then 0 else 1)]
theorem args_nu {no : Nat} {u : Ud} : ∀ x, x ∈ [AV.int .u16 (no : Int), u.av] → AV.on (fun _ => False) x ∧ ∀ vs, x ≠ .tuple vs := fun x hx => by
  simp only [List.mem_cons, List.not_mem_nil, or_false] at hx
  rcases hx with rfl | rfl
  · exact ⟨trivial, fun vs h => by cases h⟩
  · exact ⟨on_ud _ _, fun vs h => by cases h⟩
def puL (u : Ud) (i : Nat) : List UInt8 := zb 15 ++ (UInt8.ofNat u.olds.length :: (textL (u.olds.take i) ++ zb (208 - sumS (u.olds.take i))))
theorem puL_len {u : Ud} (h : sumS u.olds ≤ 208) (i : Nat) : (puL u i).length = 224 := by
  have := sumS_take_le u.olds i
  simp only [puL, List.length_append, List.length_cons, zb_len, textL_len]; omega
theorem puL_step {u : Ud} (h : sumS u.olds ≤ 208) {i : Nat} {o : Od} (ho : u.olds[i]? = some o) : (puL u i).take (16 + sumS (u.olds.take i)) ++ o.text ++ (puL u i).drop (16 + sumS (u.olds.take i) + o.size) = puL u (i + 1) := by
  have h1 := sumS_take ho
  have h2 := sumS_take_le u.olds (i + 1)
  have hT : textL (u.olds.take (i + 1)) = textL (u.olds.take i) ++ o.text := by rw [take_succ ho, textL_append]; simp [textL]
  obtain ⟨T, hTe⟩ : ∃ T, textL (u.olds.take i) = T := ⟨_, rfl⟩
  have hTl : T.length = sumS (u.olds.take i) := by rw [← hTe, textL_len]
  have hp : puL u i = (zb 15 ++ (UInt8.ofNat u.olds.length :: T)) ++ zb (208 - sumS (u.olds.take i)) := by unfold puL; rw [hTe]; simp
  have hpl : (zb 15 ++ (UInt8.ofNat u.olds.length :: T)).length = 16 + sumS (u.olds.take i) := by rw [List.length_append, List.length_cons, zb_len, hTl]; omega
  have hx := o.text_len
  rw [hp, List.take_append_of_le_length (by omega), List.take_of_length_le (by omega), List.drop_append, List.drop_eq_nil_of_le (by omega), List.nil_append, hpl, show 16 + sumS (u.olds.take i) + o.size - (16 + sumS (u.olds.take i)) = o.size by omega]
  have hdz : List.drop o.size (zb (208 - sumS (u.olds.take i))) = zb (208 - sumS (u.olds.take i) - o.size) := by rw [zb, List.drop_replicate]; rfl
  unfold puL
  rw [hT, hTe, h1, hdz, show 208 - (sumS (u.olds.take i) + o.size) = 208 - sumS (u.olds.take i) - o.size by omega]
  simp
def puT (no : Nat) (u : Ud) (i : Nat) : Env := [(23, .int .i64 i), (22, .int .i64 u.olds.length), (21, odsAV u.olds), (7, .int .i64 (16 + sumS (u.olds.take i) : Nat)), (6, .ptr 102 0 []), (3, .ptr 100 0 []), (4, .ptr 101 0 []), (5, .int .i64 0), (0, .int .u16 no)]
def puH (u : Ud) (i : Nat) : Heap := [(102, .cells (arrAV (puL u i))), (101, .cells (arrAV (zb 224))), (100, .cells u.av)]
def puSt (no : Nat) (u : Ud) (i : Nat) : St := ⟨70, puT no u i, puH u i, 103⟩
theorem pu_onT {no : Nat} {u : Ud} {i : Nat} : onT (fun m => m < 103) (puT no u i) :=
  (onTL_cons trivial (onTL_cons trivial (onTL_cons (on_ods _ _) (onTL_cons trivial (onTL_cons (show (102 : Nat) < 103 by decide) (onTL_cons (show (100 : Nat) < 103 by decide) (onTL_cons (show (101 : Nat) < 103 by decide) (onTL_cons trivial (onTL_cons trivial onTL_nil)))))))) : onTL (fun m => m < 103) (puT no u i)).onT
theorem pu_onH {u : Ud} {i : Nat} : onH (fun m => m < 103) (puH u i) :=
  (onHL_cons (show (102 : Nat) < 103 by decide) (on_bytes _ _) (onHL_cons (show (101 : Nat) < 103 by decide) (on_bytes _ _) (onHL_cons (show (100 : Nat) < 103 by decide) (on_ud _ _) onHL_nil)) : onHL (fun m => m < 103) (puH u i)).onH
theorem putUndo_spec (no : Nat) (hno : no < 65536) (u : Ud) (hu : u.Ok) : ACall Try.prog 39 [.int .u16 no, u.av] [] (putAV no u) [] := by
  refine ACall.run (Z := Z) (N := 70) mixed hZ Try.func39 rfl rfl (by kernel_rfl) (by simp) args_nu 100 ?_
  have hz := zb_len 224
  have hl := hu.len
  simp -dsimp -implicitDefEqProofs only [↓j0, ↓j1, ↓j7, ↓j12, ↓j15, j17, j18, j20, ↓j25, ↓j27, ↓j29, ↓j30, j33, ↓j39, ↓j41, ↓j42, ↓j43, ↓j53, ↓j76, j129, ↓j145, ↓j146, ↓j153, AV.proj, AV.offOf, AV.size, AV.sizeL, AV.layable, argEnv, j170, j171, j172, reduceCtorEq, ↓reduceIte, Nat.reduceAdd, Nat.reduceEqDiff, j182, j196, j197, j391, j392, j419]
  refine CallTo.pure (args := [u.av]) rfl fok53 (by simp -dsimp -implicitDefEqProofs only [↓j25, ↓j29, j173, j174, ↓reduceIte]) (fun x hx => (args_ud x hx).2) (may_spec u hu) ?_
  cases hm : mayP u
  · simp -dsimp -implicitDefEqProofs only [↓j0, ↓j1, ↓j7, ↓j10, ↓j12, ↓j13, ↓j15, j17, j18, j19, j20, j21, j22, j23, ↓j25, ↓j27, ↓j29, ↓j30, j33, ↓j39, ↓j44, ↓j54, ↓j55, ↓j78, j84, ↓j124, j125, j127, ↓j145, ↓j146, ↓j147, ↓j149, ↓j153, partsAV, AV.proj, AV.offOf, AV.upd, AV.size, AV.layable, j170, j171, ↓reduceIte, Nat.reduceEqDiff, j182, j194, j214, j218, j219, j240, j273, j439, hz]
    have e1 : putUndo no u = zb 224 := by unfold putUndo; rw [hm]; rfl
    have e2 : (if mayP u then (0 : Int) else 1) = 1 := by rw [hm]; rfl
    rw [putAV, e1, e2]
    exact Final.many (.inr rfl) (rs := [.cell 4 26, .tmp 5]) (us := [arrAV (zb 224), .int .i64 1]) rfl ⟨⟨101, 0, [], _, rfl, rfl, rfl, rfl, by simp -dsimp -implicitDefEqProofs only [j129, j182, j240, j273, j274, hz]⟩, ⟨rfl, fun vs h => by cases h⟩, trivial⟩ (by simp) ⟨.same _ (on_bytes _ _), .same _ trivial, trivial⟩
  have hm' := hm
  unfold mayP at hm'
  simp only [Bool.and_eq_true, decide_eq_true_eq] at hm'
  obtain ⟨⟨⟨m15, mL⟩, mfit⟩, m224⟩ := hm'
  have c15 : (15 : Int) < ((224 : Nat) : Int) := by omega
  obtain ⟨y, hy⟩ := list_get (xs := zb 224) (i := 15) (by rw [hz]; omega)
  have uz := unif_bytes (zb 224)
  have hszz : AV.sizeL (((zb 224).map byteAV).take 15) = 15 * 1 := uz.sizeL_take (by simp [hz])
  have w1 : IntKind.u8.wrap (u.olds.length : Int) = ((UInt8.ofNat u.olds.length).toNat : Int) := by
    rw [wrap_u8]; simp
  have hset : ((zb 224).map byteAV).set 15 (AV.int .u8 ((UInt8.ofNat u.olds.length).toNat : Int)) = (puL u 0).map byteAV := by
    have : (zb 224).set 15 (UInt8.ofNat u.olds.length) = puL u 0 := by
      unfold puL
      rw [List.take_zero]
      rfl
    rw [← this, List.map_set]; rfl
  simp -dsimp -implicitDefEqProofs only [↓j0, ↓j1, ↓j7, ↓j9, ↓j12, ↓j13, ↓j14, ↓j15, ↓j16, j17, j18, j19, j20, j21, j22, j23, ↓j25, ↓j27, ↓j29, ↓j30, j33, ↓j38, ↓j39, ↓j41, ↓j43, ↓j44, ↓j45, ↓j46, ↓j50, ↓j55, ↓j58, ↓j62, ↓j76, ↓j78, ↓j79, j84, ↓j94, j133, j142, ↓j145, ↓j146, ↓j148, ↓j149, ↓j153, AV.proj, AV.offOf, AV.upd, AV.size, AV.sizeL, AV.layable, j163, j164, j166, j167, j170, j171, j177, ↓reduceIte, Nat.reduceAdd, Nat.reduceMul, Nat.reduceEqDiff, Int.reduceLE, Int.reduceToNat, j182, j193, j196, j197, j206, ↓j225, ↓j245, j254, j256, j275, j388, j397, j419, j459, j478, c15, hy, hszz, w1, hset, bAV]
  refine AWp.loopR (Z := Z) mixed hZ (by kernel_rfl) (fun n s => ∃ i, i + n = u.olds.length ∧ s = puSt no u i) (n0 := u.olds.length) (s0 := puSt no u 0) ?_ ⟨0, by omega, rfl⟩ ?_ rfl
  · exact Wk.sub (by simp -dsimp -implicitDefEqProofs only [↓j25, ↓j27, j167, j179, reduceCtorEq, ↓reduceIte, Nat.reduceEqDiff, j182, j183, j184, j202, j203, j204, j205, j209, j223, puT, puH] <;> simp [sumS])
  rintro n s ⟨i, hi, rfl⟩
  refine ⟨rfl, ?_⟩
  have hle := sumS_take_le u.olds i
  have hpl := puL_len (u := u) (by omega) i
  rcases Nat.lt_or_ge i u.olds.length with hlt | hge
  · have hd : decide ((i : Int) < (u.olds.length : Int)) = true := decide_eq_true (by omega)
    have hlt2 : (i : Int) < (u.olds.length : Int) := by omega
    obtain ⟨o, ho⟩ := list_get (xs := u.olds) (i := i) (by omega)
    have hoo := hu.olds o (List.mem_of_getElem? ho)
    have hof : o.fit = true := List.all_eq_true.1 mfit o (List.mem_of_getElem? ho)
    have hod : o.delta.length ≤ 66 := by
      unfold Od.fit at hof
      rw [Bool.and_eq_true] at hof
      exact of_decide_eq_true hof.2
    have hsz2 : AV.sizeL ((u.olds.map Od.av).take i) = i * 6 := (unif_od u.olds).sizeL_take (by simp; omega)
    have hw : IntKind.i64.wrap ((i : Int) + 1) = ((i + 1 : Nat) : Int) := by rw [wrap_i64 (by omega) (by omega)]; omega
    have hs1 := sumS_take ho
    have hs2 := sumS_take_le u.olds (i + 1)
    have hstep := puL_step (u := u) (by omega) ho
    have htl := o.text_len
    obtain ⟨a, ha⟩ : ∃ a, 16 + sumS (u.olds.take i) = a := ⟨_, rfl⟩
    have ha2 : 16 + sumS (u.olds.take (i + 1)) = a + o.size := by omega
    obtain ⟨q, hq⟩ : ∃ q, puL u i = q := ⟨_, rfl⟩
    rw [ha, hq] at hstep
    rw [hq] at hpl
    have uq := unif_bytes q
    have ca : (a : Int) ≤ ((224 : Nat) : Int) := by omega
    have wz : IntKind.i64.wrap ((a : Int) + (o.size : Int)) = ((a + o.size : Nat) : Int) := by rw [wrap_i64 (by omega) (by omega)]; omega
    have hn : a + (224 - a) ≤ 224 := by omega
    have mn : Nat.min o.size (224 - a) = o.size := by
      show min o.size (224 - a) = _
      omega
    have step : ∀ (t : Env) (H : Heap) (nx : Nat), SubT (puT no u (i + 1)) t → SubH (puH u (i + 1)) H → ∃ m s'', m < n ∧ (∃ i, i + m = u.olds.length ∧ s'' = puSt no u i) ∧ Wk ⟨70, t, H, nx⟩ s'' := fun t H nx ht hH =>
      ⟨n - 1, puSt no u (i + 1), by omega, ⟨i + 1, by omega, rfl⟩, Wk.trans (Wk.mk (s' := ⟨70, puT no u (i + 1), puH u (i + 1), nx⟩) ht.spec hH.spec (Nat.le_refl _) rfl) (Wk.gc (by omega) pu_onT pu_onH)⟩
    cases hlv : o.live
    · skip
      have hos : o.size = 1 := by unfold Od.size; rw [hlv]; rfl
      have hot : o.text = [0] := by unfold Od.text; rw [hlv]; rfl
      rw [hos] at mn hstep wz
      rw [hot] at hstep
      have hcp : List.take a (q.map byteAV) ++ [byteAV 0] ++ List.drop (a + 1) (q.map byteAV) = (puL u (i + 1)).map byteAV := by
        rw [← hstep, List.map_append, List.map_append, List.map_take, List.map_drop]; rfl
      simp -dsimp -implicitDefEqProofs only [↓j0, ↓j1, ↓j7, ↓j9, ↓j12, ↓j13, ↓j14, ↓j15, j17, j18, j19, j20, j21, j22, j23, ↓j25, ↓j27, ↓j29, ↓j30, j33, j34, ↓j38, ↓j39, ↓j41, ↓j43, ↓j44, ↓j45, ↓j46, ↓j48, ↓j49, ↓j52, ↓j76, ↓j77, ↓j78, ↓j79, ↓j89, ↓j92, ↓j105, j107, j129, j131, ↓j145, ↓j146, ↓j147, ↓j148, ↓j149, ↓j153, j154, j159, AV.proj, AV.offOf, AV.upd, AV.size, AV.sizeL, AV.layable, j163, j166, j167, j170, j171, j173, j174, j177, ↓reduceIte, Nat.reduceAdd, Nat.reduceMul, Nat.reduceEqDiff, j182, j185, j189, j191, j196, j197, j206, j207, j208, j214, j222, j228, j230, j231, bndAV, j232, ↓j238, ↓j239, j240, j253, j275, j294, j295, j297, j389, j401, j423, puSt, puT, puH, ha, hq, hlt2, ho, hsz2, hlv, hpl, uq, ca, mn, hcp, hn]
      rw [hos] at ha2
      exact step _ _ _ (by simp -dsimp -implicitDefEqProofs only [↓j25, reduceCtorEq, ↓reduceIte, Nat.reduceEqDiff, j182, j202, j203, puT, hw, wz, ha2] <;> simp) (by simp -dsimp -implicitDefEqProofs only [↓j27, ↓reduceIte, Nat.reduceEqDiff, j182, j204, j205, puH] <;> simp)
    · have hp1 := hoo.page
      have hp2 := hoo.ts
      have hp3 := hoo.npg
      have x1 : IntKind.u64.wrap (o.page : Int) = (o.page : Int) := by rw [wrap_u64, Nat.mod_eq_of_lt (by omega)]
      have x2 : IntKind.u64.wrap (o.ts : Int) = (o.ts : Int) := by rw [wrap_u64, Nat.mod_eq_of_lt (by omega)]
      have x3 : IntKind.u64.wrap (o.npg : Int) = (o.npg : Int) := by rw [wrap_u64, Nat.mod_eq_of_lt (by omega)]
      have l1 := putL_len o.page 2
      have l2 := putL_len o.ts 4
      have l3 := putL_len o.npg 2
      simp -dsimp -implicitDefEqProofs only [↓j0, ↓j1, ↓j4, ↓j7, ↓j8, ↓j9, ↓j12, ↓j13, ↓j14, ↓j15, j17, j18, j19, j20, j21, j22, j23, j24, ↓j25, ↓j27, ↓j29, ↓j30, j34, ↓j39, ↓j41, ↓j43, ↓j44, ↓j45, ↓j46, ↓j48, ↓j50, ↓j53, ↓j76, ↓j77, ↓j78, ↓j79, ↓j89, ↓j92, j129, j130, j131, ↓j145, ↓j146, ↓j147, ↓j149, ↓j153, j159, AV.proj, AV.offOf, AV.upd, AV.size, AV.sizeL, AV.layable, j163, j164, j166, j167, j170, j171, j172, j174, j177, ↓reduceIte, Nat.reduceAdd, Nat.reduceEqDiff, j182, j185, j191, j196, j197, j206, j207, j208, ↓j225, j253, j261, j280, j294, j295, j297, j300, j389, j423, j463, puSt, puT, puH, ha, hq, hlt2, ho, hsz2, hlv, x1]
      refine CallTo.pure (args := [.int .u64 o.page, .int .i64 ((2 : Nat) : Int)]) rfl fok43 (by simp -dsimp -implicitDefEqProofs only [↓j25, ↓j29, ↓j30, j33, j173, j174, ↓reduceIte]; rfl) (notup (fun vs h => by cases h) fun vs h => by cases h) (put_spec o.page 2 (by omega)) ?_
      have w8 : IntKind.u8.wrap (o.delta.length : Int) = ((UInt8.ofNat o.delta.length).toNat : Int) := by rw [wrap_u8]; simp
      have hb2 : bytesOf [AV.int .u8 (o.nsl.toNat : Int), AV.int .u8 ((UInt8.ofNat o.delta.length).toNat : Int)] = some [o.nsl, UInt8.ofNat o.delta.length] := bytesOf_bytes [o.nsl, UInt8.ofNat o.delta.length]
      have hu2 : Unif 1 [AV.int .u8 (o.nsl.toNat : Int), AV.int .u8 ((UInt8.ofNat o.delta.length).toNat : Int)] := fun x hx => by
        simp only [List.mem_cons, List.not_mem_nil, or_false] at hx
        rcases hx with rfl | rfl <;> rfl
      have htx : 1 :: putL o.page 2 ++ putL o.ts 4 ++ putL o.npg 2 ++ [o.nsl, UInt8.ofNat o.delta.length] ++ o.delta = o.text := by
        unfold Od.text; rw [hlv]; simp
      obtain ⟨T1, hT1⟩ : ∃ T, 1 :: putL o.page 2 = T := ⟨_, rfl⟩
      rw [hT1] at htx
      have n1 : T1.length = 3 := by rw [← hT1, List.length_cons, l1]
      obtain ⟨T2, hT2⟩ : ∃ T, T1 ++ putL o.ts 4 = T := ⟨_, rfl⟩
      rw [hT2] at htx
      have n2 : T2.length = 7 := by rw [← hT2, List.length_append, n1, l2]
      obtain ⟨T3, hT3⟩ : ∃ T, T2 ++ putL o.npg 2 = T := ⟨_, rfl⟩
      rw [hT3] at htx
      have n3 : T3.length = 9 := by rw [← hT3, List.length_append, n2, l3]
      obtain ⟨T4, hT4⟩ : ∃ T, T3 ++ [o.nsl, UInt8.ofNat o.delta.length] = T := ⟨_, rfl⟩
      rw [hT4] at htx
      have n4 : T4.length = 11 := by rw [← hT4, List.length_append, n3]; rfl
      have s0 : (ByteArray.mk #[1]).size = 1 := rfl
      have s2 : (ByteArray.mk #[o.nsl, UInt8.ofNat o.delta.length]).size = 2 := rfl
      have a1 : (ByteArray.mk #[1]) ++ (ByteArray.mk (putL o.page 2).toArray) = ByteArray.mk T1.toArray := by rw [← hT1]; exact str_append [1] _
      have a2 : (ByteArray.mk T1.toArray) ++ (ByteArray.mk (putL o.ts 4).toArray) = ByteArray.mk T2.toArray := by rw [← hT2]; exact str_append _ _
      have a3 : (ByteArray.mk T2.toArray) ++ (ByteArray.mk (putL o.npg 2).toArray) = ByteArray.mk T3.toArray := by rw [← hT3]; exact str_append _ _
      have a4 : (ByteArray.mk T3.toArray) ++ (ByteArray.mk #[o.nsl, UInt8.ofNat o.delta.length]) = ByteArray.mk T4.toArray := by rw [← hT4]; exact str_append _ [o.nsl, UInt8.ofNat o.delta.length]
      have a5 : (ByteArray.mk T4.toArray) ++ (ByteArray.mk o.delta.toArray) = ByteArray.mk o.text.toArray := by rw [← htx]; exact str_append _ _
      have k5 : 11 + o.delta.length ≤ 9223372036854775807 := by omega
      simp -dsimp -implicitDefEqProofs only [↓j4, j17, j18, j20, j24, ↓j25, ↓j27, ↓j29, ↓j30, j34, ↓j43, ↓j45, ↓j48, ↓j50, ↓j53, ↓j76, ↓j79, j117, ↓j120, j130, ↓j145, ↓j146, ↓j153, AV.proj, AV.offOf, AV.size, AV.sizeL, j163, j164, j166, j167, j170, j171, j172, j174, ↓reduceIte, Nat.reduceAdd, Nat.reduceEqDiff, Nat.reduceLeDiff, j182, j196, j197, ↓j225, j280, j282, j303, j467, str_bytes, l1, x2, s0, a1]
      refine CallTo.pure (args := [.int .u64 o.ts, .int .i64 ((4 : Nat) : Int)]) rfl fok43 (by simp -dsimp -implicitDefEqProofs only [↓j25, ↓j29, ↓j30, j33, j173, j174, ↓reduceIte]; rfl) (notup (fun vs h => by cases h) fun vs h => by cases h) (put_spec o.ts 4 (by omega)) ?_
      simp -dsimp -implicitDefEqProofs only [↓j4, j17, j18, j20, j24, ↓j25, ↓j27, ↓j29, ↓j43, ↓j45, ↓j48, ↓j50, ↓j53, ↓j76, ↓j79, j117, ↓j120, j130, ↓j145, ↓j146, ↓j153, AV.proj, AV.offOf, AV.size, AV.sizeL, j163, j164, j166, j167, j170, j171, j172, j174, ↓reduceIte, Nat.reduceAdd, Nat.reduceEqDiff, Nat.reduceLeDiff, j182, j196, j197, ↓j225, j261, j280, j287, j306, j463, str_bytes, l2, n1, a2, x3]
      refine CallTo.pure (args := [.int .u64 o.npg, .int .i64 ((2 : Nat) : Int)]) rfl fok43 (by simp -dsimp -implicitDefEqProofs only [↓j25, ↓j29, ↓j30, j33, j173, j174, ↓reduceIte]; rfl) (notup (fun vs h => by cases h) fun vs h => by cases h) (put_spec o.npg 2 (by omega)) ?_
      simp -dsimp -implicitDefEqProofs only [↓j3, ↓j4, j17, j18, j20, j24, ↓j25, ↓j27, ↓j29, ↓j39, ↓j43, ↓j45, ↓j48, ↓j50, ↓j58, ↓j59, ↓j74, ↓j76, ↓j79, ↓j106, j107, j117, ↓j120, ↓j121, j125, j126, j127, j128, j130, j132, j141, ↓j145, ↓j146, ↓j153, partsAV, AV.proj, AV.offOf, AV.size, AV.sizeL, AV.layable, j163, j164, j166, j167, j168, j169, j170, j171, j172, j173, j174, j179, j180, ↓reduceIte, Nat.reduceAdd, Nat.reduceMul, Nat.reduceEqDiff, Nat.reduceLeDiff, j182, j183, j196, j197, j213, j214, j215, j216, j217, j223, ↓j225, Nat.reducePow, j227, List.replicate, j228, j230, j231, j234, j255, j256, j258, j259, j290, j306, j309, j403, j454, j459, str_bytes, l3, n2, a3, n3, w8, hb2, hu2, s2, a4, n4, a5, k5]
      refine ⟨by kernel_rfl, ?_⟩
      have hcp : List.take a (q.map byteAV) ++ List.take o.size (o.text.map byteAV) ++ List.drop (a + o.size) (q.map byteAV) = (puL u (i + 1)).map byteAV := by
        rw [copyB, List.take_of_length_le (l := o.text) (by omega), hstep]
      simp -dsimp -implicitDefEqProofs only [↓j0, ↓j1, ↓j7, ↓j15, j17, j18, j20, j21, j22, j23, ↓j25, ↓j27, ↓j29, ↓j30, j33, ↓j38, ↓j39, ↓j48, ↓j49, ↓j52, ↓j89, ↓j105, j107, ↓j145, ↓j146, ↓j153, j154, AV.proj, AV.offOf, AV.upd, j170, j171, ↓reduceIte, Nat.reduceMul, Nat.reduceEqDiff, j182, j185, j189, j196, j207, j208, j214, j222, bndAV, j232, ↓j238, ↓j239, j240, j275, j401, htl, hpl, uq, ca, mn, hn, hcp, wz]
      exact step _ _ _ (by simp -dsimp -implicitDefEqProofs only [↓j25, reduceCtorEq, ↓reduceIte, Nat.reduceEqDiff, j182, j202, j203, puT, hw, ha2] <;> simp) (by simp -dsimp -implicitDefEqProofs only [↓j27, ↓reduceIte, Nat.reduceEqDiff, j182, j204, j205, puH] <;> simp)
  have hi2 : i = u.olds.length := by omega
  subst hi2
  have hd : decide ((u.olds.length : Int) < (u.olds.length : Int)) = false := decide_eq_false (by omega)
  have hps := pseal_spec 2 no u.lsn hno hu.lsn (puL u u.olds.length) hpl
  have hT : u.olds.take u.olds.length = u.olds := List.take_of_length_le (Nat.le_refl _)
  have hdr : (puL u u.olds.length).drop 15 = undoRest u ++ zb (208 - sumS u.olds) := by
    unfold puL undoRest
    rw [hT, List.drop_left' (zb_len 15)]
    rfl
  rw [hdr] at hps
  have hsl : (sealP 2 no u.lsn (undoRest u ++ zb (208 - sumS u.olds))).length = 224 := sealP_len (by simp only [undoRest, List.length_append, List.length_cons, textL_len, zb_len]; omega)
  have e1 : putUndo no u = sealP 2 no u.lsn (undoRest u ++ zb (208 - sumS u.olds)) := by unfold putUndo; rw [hm]; rfl
  have e2 : (if mayP u then (0 : Int) else 1) = 0 := by rw [hm]; rfl
  obtain ⟨q, hq⟩ : ∃ q, puL u u.olds.length = q := ⟨_, rfl⟩
  rw [hq] at hps hpl
  obtain ⟨p, hp⟩ : ∃ p, sealP 2 no u.lsn (undoRest u ++ zb (208 - sumS u.olds)) = p := ⟨_, rfl⟩
  rw [hp] at hps hsl e1
  have uq := unif_bytes q
  simp -dsimp -implicitDefEqProofs only [↓j0, ↓j1, ↓j7, ↓j11, ↓j12, ↓j13, ↓j15, j17, j18, j20, ↓j25, ↓j27, ↓j29, ↓j38, ↓j43, ↓j45, ↓j48, ↓j53, ↓j76, ↓j79, ↓j89, j129, j130, ↓j145, ↓j146, ↓j148, ↓j149, ↓j153, j159, AV.proj, AV.offOf, AV.sizeL, j163, j167, j171, reduceCtorEq, ↓reduceIte, Nat.reduceEqDiff, j182, j185, j197, j240, j273, j274, j279, j394, puSt, puT, puH, hq, hd, hpl]
  refine CallTo.pure (args := [.int .u8 ((2 : UInt8).toNat : Nat), .int .u16 no, .int .u64 u.lsn, arrAV q]) rfl fok44 (by simp -dsimp -implicitDefEqProofs only [↓j25, ↓j29, ↓j30, j33, j173, j174, ↓reduceIte, Nat.reduceEqDiff]; rfl) (fun x hx => (args_seal x hx).2) hps ?_
  simp -dsimp -implicitDefEqProofs only [↓j0, ↓j1, ↓j10, j17, j18, j19, j20, j21, j22, j23, ↓j25, ↓j27, ↓j29, ↓j30, j33, ↓j39, ↓j44, ↓j78, ↓j145, ↓j146, ↓j153, AV.proj, AV.offOf, AV.upd, AV.size, AV.layable, j170, j171, ↓reduceIte, Nat.reduceEqDiff, j182, j240, j273, hsl, hz]
  rw [putAV, e1, e2]
  exact Final.many (.inr rfl) (rs := [.cell 4 26, .tmp 5]) (us := [arrAV p, .int .i64 0]) rfl ⟨⟨101, 0, [], _, rfl, rfl, rfl, rfl, by simp -dsimp -implicitDefEqProofs only [j129, j182, j240, j273, j274, hsl]⟩, ⟨rfl, fun vs h => by cases h⟩, trivial⟩ (by simp) ⟨.same _ (on_bytes _ _), .same _ trivial, trivial⟩
end Go.Proofs.Ytimdepgenefkmaa
end
section
namespace Go.Proofs.Ytimdepgenefkmaa
open Go Go.RowKit

theorem kept_spec (u : Ud) (hu : u.Ok) (hb : u.olds.length ≤ 1048576) : ACall Try.prog 50 [u.av] [] u.av [] := by
  refine ACall.run (Z := Z) (N := 10) mixed hZ Try.func50 rfl rfl (by kernel_rfl) (by simp) args_ud 100 ?_
  have hul := unif_od u.olds
  have hu0 : Unif 6 [] := fun x hx => by simp at hx
  have hT : List.take u.olds.length (u.olds.map Od.av) = u.olds.map Od.av := List.take_of_length_le (by simp)
  simp -dsimp -implicitDefEqProofs only [↓j0, ↓j1, ↓j4, ↓j7, ↓j8, ↓j12, ↓j15, j17, j18, j20, j24, ↓j25, ↓j27, ↓j29, ↓j41, ↓j42, ↓j43, ↓j45, ↓j51, ↓j74, ↓j76, ↓j79, j125, j127, j130, j133, ↓j145, ↓j146, ↓j153, partsAV, AV.proj, AV.offOf, AV.size, AV.sizeL, AV.layable, argEnv, j163, j164, j166, j167, j170, j171, j172, j173, j174, ↓reduceIte, Nat.reduceAdd, Nat.reduceEqDiff, j182, j196, j197, j214, j218, j219, j226, Nat.reducePow, List.replicate, j234, j279, j388, j394, j397, j433, j450]
  refine DoAppend_of rfl rfl at69 ?_
  simp -dsimp -implicitDefEqProofs only [↓j27, ↓j101, ↓j102, ↓j104, ↓j146, ↓j153, ↓reduceIte, Nat.reduceEqDiff, j182, j184, j188, j189, j196, j197, j214, j222, j223, j231, j234, hul, hu0, hT]
  refine ⟨⟨by omega, by omega⟩, ?_⟩
  simp -dsimp -implicitDefEqProofs only [↓j3, ↓j4, j17, j18, j19, j20, j21, j22, j23, j24, ↓j25, ↓j27, ↓j29, ↓j44, ↓j54, ↓j78, ↓j124, j125, j126, j127, j128, ↓j145, ↓j146, ↓j153, partsAV, AV.proj, AV.offOf, AV.upd, AV.size, AV.sizeL, AV.layable, j163, j164, j166, j167, j168, j169, j170, j171, j172, j173, j174, j179, j180, ↓reduceIte, Nat.reduceAdd, Nat.reduceEqDiff, j182, j183, j196, j197, j213, j214, j215, j216, j217, j222, j228, j229, j391, j395, j398, j453, hT]
  refine ⟨by kernel_rfl, ?_⟩
  simp -dsimp -implicitDefEqProofs only [↓j10]
  have hfz : Frz (fun _ => False) [(101, ABlk.cells (AV.agg [AV.int .u64 u.lsn, AV.sl 103 0 [] 0 u.olds.length u.olds.length 6])), (103, .cells (.agg (u.olds.map Od.av))), (100, .cells u.av)] (.agg [.int .u64 u.lsn, .sl 103 0 [] 0 u.olds.length u.olds.length 6]) u.av := by
    refine Frz.agg _ _ rfl fun k hk => ?_
    match k, hk with
    | 0, _ => exact .same _ trivial
    | 1, _ =>
      have h := Frz.sl (K := fun _ => False) (H := [(101, ABlk.cells (AV.agg [AV.int .u64 u.lsn, AV.sl 103 0 [] 0 u.olds.length u.olds.length 6])), (103, .cells (.agg (u.olds.map Od.av))), (100, .cells u.av)]) 103 0 [] 0 u.olds.length u.olds.length 6 _ (u.olds.map Od.av) rfl (fun h => h) rfl rfl (by simp) hul (fun x hx => AV.onL_iff.1 (on_ods _ u.olds) x (List.mem_of_mem_drop (List.mem_of_mem_take hx)))
      rw [List.drop_zero, hT] at h
      exact h
  exact Final.one (.inr rfl) (r := .cell 2 71) rfl ⟨101, 0, [], _, rfl, rfl, rfl, rfl, by simp -dsimp -implicitDefEqProofs only [j129, AV.size, AV.sizeL, Nat.reduceAdd, j182, j197, j391, j392]⟩ (fun vs h => by cases h) (fun vs h => by cases h) hfz
end Go.Proofs.Ytimdepgenefkmaa
end
section
namespace Go.Proofs.Ytimdepgenefkmaa
open Go Go.RowKit

theorem textL_split {l : List Od} {i : Nat} {o : Od} (h : l[i]? = some o) : textL l = textL (l.take i) ++ (o.text ++ textL (l.drop (i + 1))) := by
  have hi : i < l.length := by
    rcases Nat.lt_or_ge i l.length with h1 | h1
    · exact h1
    · rw [List.getElem?_eq_none h1] at h; cases h
  have e : l = l.take i ++ (o :: l.drop (i + 1)) := by
    have h2 : l[i] = o := by rw [List.getElem?_eq_getElem hi] at h; exact Option.some.inj h
    rw [← h2, ← List.drop_eq_getElem_cons hi, List.take_append_drop]
  conv => lhs; rw [e]
  rw [textL_append, textL]
theorem put_drop {no : Nat} (hno : no < 65536) {u : Ud} (hl : u.lsn < 18446744073709551616) (hm : mayP u = true) {i : Nat} {o : Od} (h : u.olds[i]? = some o) :
    (putUndo no u).drop (16 + sumS (u.olds.take i)) = o.text ++ (textL (u.olds.drop (i + 1)) ++ zb (208 - sumS u.olds)) := by
  have hp : putUndo no u = sealP 2 no u.lsn (undoRest u ++ zb (208 - sumS u.olds)) := by unfold putUndo; rw [hm]; rfl
  have h15 := (seal_parts (k := 2) (no := no) (lsn := u.lsn) (t := undoRest u ++ zb (208 - sumS u.olds)) hno hl).2.2.2.2
  have e : 16 + sumS (u.olds.take i) = 15 + (1 + sumS (u.olds.take i)) := by omega
  rw [hp, e, ← List.drop_drop, h15]
  unfold undoRest
  rw [List.cons_append, show 1 + sumS (u.olds.take i) = sumS (u.olds.take i) + 1 by omega, List.drop_succ_cons, textL_split h, List.append_assoc, ← textL_len, List.drop_left, List.append_assoc]
theorem put_tail {no : Nat} (hno : no < 65536) {u : Ud} (hl : u.lsn < 18446744073709551616) (hm : mayP u = true) : (putUndo no u).drop (16 + sumS u.olds) = zb (208 - sumS u.olds) := by
  have hp : putUndo no u = sealP 2 no u.lsn (undoRest u ++ zb (208 - sumS u.olds)) := by unfold putUndo; rw [hm]; rfl
  have h15 := (seal_parts (k := 2) (no := no) (lsn := u.lsn) (t := undoRest u ++ zb (208 - sumS u.olds)) hno hl).2.2.2.2
  have e : 16 + sumS u.olds = 15 + (1 + sumS u.olds) := by omega
  rw [hp, e, ← List.drop_drop, h15]
  unfold undoRest
  rw [List.cons_append, show 1 + sumS u.olds = sumS u.olds + 1 by omega, List.drop_succ_cons, ← textL_len, List.drop_left]
end Go.Proofs.Ytimdepgenefkmaa
end
