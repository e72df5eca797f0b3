/- Which blocks hold something of a stream. -/
import Derived.Test.YtbhhbadeabhfcaaC6
set_option linter.unusedVariables false
set_option linter.unusedSimpArgs false
namespace Go.Proofs.Ytbhhbadeabhfcaa
open Go Go.RowKit

abbrev Sr := Int × Int
abbrev Sr.av (s : Sr) : AV := .agg [.int .u32 s.1, .int .u64 s.2]
abbrev rowS (l : List Sr) : AV := .vsl (l.map Sr.av) l.length
theorem unif_sr (L : List Sr) : Unif 2 (L.map Sr.av) := fun x hx => by
  obtain ⟨o, _, rfl⟩ := List.mem_map.1 hx; rfl
theorem sizeL_sr (L : List Sr) (i : Nat) (h : i ≤ L.length) : AV.sizeL ((L.map Sr.av).take i) = i * 2 := (unif_sr L).sizeL_take (by simpa using h)
theorem on_sr (S : Nat → Prop) (L : List Sr) : AV.onL S (L.map Sr.av) := by
  rw [AV.onL_iff]
  intro x hx
  obtain ⟨o, _, rfl⟩ := List.mem_map.1 hx
  simp [AV.on, AV.onL]
theorem take_sr (xs : List Sr) : (xs.map Sr.av).take xs.length = xs.map Sr.av := List.take_of_length_le (by simp)
theorem frz_sr {K : Nat → Prop} {H : Heap} {n m c : Nat} {xs : List Sr} (hk : ¬ K n) (hm : m ≤ xs.length) (h : Heap.get H n = some (.cells (.agg (xs.map Sr.av)))) : Frz K H (.sl n 0 [] 0 m c 2) (rowS (xs.take m)) := by
  have := Frz.sl (K := K) (H := H) n 0 [] 0 m c 2 _ (xs.map Sr.av) h hk rfl rfl (by simp; omega) (unif_sr xs) (fun x hx => AV.onL_iff.1 (on_sr K xs) x (List.mem_of_mem_drop (List.mem_of_mem_take hx)))
  rw [List.drop_zero, ← List.map_take] at this
  rw [rowS, List.length_take, Nat.min_eq_left hm]
  exact this
theorem args_ss {a b : List Sr} : ∀ x, x ∈ [rowS a, rowS b] → AV.on (fun _ => False) x ∧ ∀ vs, x ≠ .tuple vs := fun x hx => by
  simp only [List.mem_cons, List.not_mem_nil, or_false] at hx
  rcases hx with rfl | rfl
  · exact ⟨on_sr _ _, fun vs h => by cases h⟩
  · exact ⟨on_sr _ _, fun vs h => by cases h⟩
theorem cellsEq_sr (a b : Sr) : cellsEq [.int .u32 a.1, .int .u64 a.2] [.int .u32 b.1, .int .u64 b.2] = some ((a.1 == b.1) && ((a.2 == b.2) && true)) := by
  simp [cellsEq, scEq]
theorem sr_eq (a b : Sr) : ((a.1 == b.1) && ((a.2 == b.2) && true)) = (a == b) := by
  rw [Bool.eq_iff_iff]
  simp [Prod.ext_iff]

def ssSt (a b : List Sr) (i : Nat) : St := ⟨26, [(13, .int .i64 i), (12, .int .i64 a.length), (0, rowS a), (1, rowS b), (4, .bool false)], [], 0⟩
theorem same_spec (a b : List Sr) (hl : a.length ≤ 9223372036854775807) : ACall Try.prog 16 [rowS a, rowS b] [] (.bool (a == b)) [] := by
  refine ACall.run (Z := Z) (N := 26) mixed hZ Try.func16 rfl rfl (by kernel_rfl) (by simp) args_ss 0 ?_
  have ret : ∀ (r : Bool) (t : Env) (H : Heap) (k : Nat), look t 4 = some (.bool r) → r = (a == b) → Final Try.prog Try.f16 (.bool (a == b)) [] .ret ⟨26, t, H, k⟩ := by
    intro b t H k h hb
    subst hb
    exact Final.one (.inr rfl) (r := .tmp 4) rfl ⟨h, fun vs h => by cases h⟩ (fun vs h => by cases h) (fun vs h => by cases h) (.same _ trivial)
  simp -dsimp -implicitDefEqProofs only [↓j0, ↓j1, ↓j7, ↓j12, ↓j13, ↓j15, j17, j18, j20, ↓j25, ↓j29, ↓j30, j32, ↓j38, ↓j39, ↓j48, ↓j58, ↓j76, j126, ↓j129, ↓j130, ↓j133, j142, argEnv, j156, reduceCtorEq, ↓reduceIte, Nat.reduceEqDiff, j169, j180, j396]
  refine ⟨fun h2 => ?_, fun h2 => ?_⟩
  · simp -dsimp -implicitDefEqProofs only [↓j0, ↓j1, ↓j7, ↓j10, ↓j12, ↓j15, j17, j18, j20, ↓j30, j32, ↓j39, ↓j129, j156, h2]
    refine ret false _ _ _ rfl ?_
    have hne : a ≠ b := fun h => by subst h; simp at h2
    simpa using hne
  have e2 : a.length = b.length := by
    have : (a.length : Int) = b.length := by simpa using h2
    omega
  simp -dsimp -implicitDefEqProofs only [↓j0, ↓j1, ↓j7, ↓j9, ↓j12, ↓j14, ↓j15, ↓j16, j17, j18, j20, ↓j25, ↓j29, ↓j30, j33, ↓j38, ↓j58, j126, ↓j129, j156, reduceCtorEq, ↓reduceIte, j396, h2]
  refine AWp.loopR (Z := Z) mixed hZ (by kernel_rfl) (fun n s => ∃ i, i + n = a.length ∧ a.take i = b.take i ∧ s = ssSt a b i) (n0 := a.length) (s0 := ssSt a b 0) ?_ ⟨0, by omega, rfl, rfl⟩ ?_ rfl
  · exact Wk.sub (by simp -dsimp -implicitDefEqProofs only [↓j25, j163, reduceCtorEq, ↓reduceIte, Nat.reduceEqDiff, j166, j167, j168, j186, j187, j188, j193, j207] <;> simp)
  rintro n s ⟨i, hi, hs, rfl⟩
  refine ⟨rfl, ?_⟩
  rcases Nat.lt_or_ge i a.length with hlt | hge
  · have hd : decide ((i : Int) < (a.length : Int)) = true := decide_eq_true (by omega)
    have hlt1 : (i : Int) < (a.length : Int) := by omega
    have hlt2 : (i : Int) < (b.length : Int) := by omega
    obtain ⟨x, hx⟩ := list_get (xs := a) (i := i) (by omega)
    obtain ⟨y, hy⟩ := list_get (xs := b) (i := i) (by omega)
    have hsz := sizeL_sr a i (by omega)
    have hsz2 := sizeL_sr b i (by omega)
    have hw : IntKind.i64.wrap ((i : Int) + 1) = ((i + 1 : Nat) : Int) := by rw [wrap_i64 (by omega) (by omega)]; omega
    have hk := cellsEq_sr x y
    rw [sr_eq] at hk
    simp -dsimp -implicitDefEqProofs only [↓j0, ↓j1, ↓j3, ↓j4, ↓j7, ↓j8, ↓j9, ↓j12, ↓j13, ↓j14, ↓j15, j17, j18, j20, j24, ↓j25, ↓j29, ↓j38, ↓j39, ↓j43, ↓j46, ↓j48, ↓j64, ↓j76, ↓j78, ↓j79, j116, ↓j129, ↓j130, ↓j131, ↓j133, j143, AV.proj, AV.offOf, AV.size, AV.sizeL, AV.flat, AV.flatL, j154, j155, j156, j157, j158, j161, reduceCtorEq, ↓reduceIte, Nat.reduceAdd, Nat.reduceEqDiff, j166, j169, j175, j181, j190, j191, j192, j196, kindOf, j277, j279, j280, j287, j288, ssSt, hx, hy, hlt1, hlt2, hsz, hsz2, hk]
    refine ⟨by kernel_rfl, ?_⟩
    simp -dsimp -implicitDefEqProofs only [↓j13, ↓j25, ↓j29, ↓j129, ↓j133, ↓reduceIte]
    cases hxy : (x == y)
    · simp -dsimp -implicitDefEqProofs only [↓j0, ↓j1, ↓j7, ↓j10, ↓j12, ↓j15, j17, j18, j20, ↓j30, j32, ↓j39, ↓j129, ↓j131, j156, j178]
      refine ret false _ _ _ rfl ?_
      have hne : a ≠ b := by
        rintro rfl
        rw [hx] at hy; cases hy; simp at hxy
      have : (a == b) = false := by simpa using hne
      exact this.symm
    · simp -dsimp -implicitDefEqProofs only [↓j0, ↓j1, ↓j7, ↓j9, ↓j15, j17, j18, j20, ↓j25, ↓j29, ↓j30, j33, ↓j38, ↓j48, ↓j76, ↓j129, ↓j130, ↓j132, j138, j156, ↓reduceIte, Nat.reduceEqDiff, j169, j177]
      have hxy' : x = y := by simpa using hxy
      exact ⟨n - 1, ssSt a b (i + 1), by omega, ⟨i + 1, by omega, by rw [take_succ hx, take_succ hy, hs, hxy'], rfl⟩, Wk.sub (by simp -dsimp -implicitDefEqProofs only [↓j25, reduceCtorEq, ↓reduceIte, Nat.reduceEqDiff, j166, j186, j187, j188, j207, hw] <;> simp)⟩
  · have hd : decide ((i : Int) < (a.length : Int)) = false := decide_eq_false (by omega)
    have hx : a.take i = a := List.take_of_length_le (by omega)
    have hy : b.take i = b := List.take_of_length_le (by omega)
    rw [hx, hy] at hs
    simp -dsimp -implicitDefEqProofs only [↓j0, ↓j1, ↓j7, ↓j10, ↓j11, ↓j12, ↓j13, ↓j15, j17, j18, j20, ↓j25, ↓j29, ↓j30, j32, ↓j39, ↓j48, ↓j76, ↓j129, ↓j130, ↓j132, ↓j133, j143, j156, ↓reduceIte, Nat.reduceEqDiff, j169, ssSt, hd]
    refine ret true _ _ _ rfl ?_
    subst hs; simp

def keepN : List Sr → Int → Nat
  | [], _ => 0
  | s :: r, e => if s.2 < e then keepN r e + 1 else 0
theorem keepN_le : ∀ (l : List Sr) (e : Int), keepN l e ≤ l.length
  | [], _ => Nat.le_refl _
  | s :: r, e => by
    have := keepN_le r e
    simp only [keepN, List.length_cons]
    split <;> omega
theorem keepN_at {e : Int} : ∀ {l : List Sr} {i : Nat}, (∀ s, s ∈ l.take i → s.2 < e) → (∀ s, l[i]? = some s → ¬ s.2 < e) → i ≤ l.length → keepN l e = i
  | [], i, _, _, h => by simp at h; subst h; rfl
  | s :: r, 0, _, h, _ => by
    have := h s (by simp)
    simp [keepN, this]
  | s :: r, i + 1, h1, h2, h3 => by
    have hs := h1 s (by simp)
    have := keepN_at (e := e) (l := r) (i := i) (fun x hx => h1 x (by simp [hx])) (fun x hx => h2 x (by simpa using hx)) (by simpa using h3)
    simp [keepN, hs, this]
abbrev inB (l : List Sr) : Heap := [(1, .cells (.agg (l.map Sr.av)))]
abbrev keepAV (first : Nat) (l : List Sr) (e : Int) : AV := .tuple [rowS (l.take (keepN l e)), .int .u32 ((first + keepN l e) % 4294967296 : Nat)]
def kpSt (first : Nat) (l : List Sr) (e : Int) (i : Nat) : St := ⟨32, [(8, .int .i64 i), (0, .int .u32 first), (1, .sl 1 0 [] 0 l.length l.length 2), (2, .int .u64 e)], inB l, 2⟩
theorem inB_on {l : List Sr} (S : Nat → Prop) : ∀ n b, Heap.get (inB l) n = some b → b.on S := by
  intro n b h
  simp only [Heap.get] at h
  by_cases h1 : n = 1
  · subst h1; simp only [if_true, Option.some.injEq] at h; subst h; exact on_sr _ _
  · simp [h1] at h
theorem inB_keep {l : List Sr} {H : Heap} (h1 : Heap.get H 1 = some (.cells (.agg (l.map Sr.av)))) : ∀ n b, Heap.get (inB l) n = some b → ∃ b0, Heap.get H n = some b0 ∧ BFrz (fun n => Heap.get (inB l) n ≠ none) H b0 b := by
  intro n b h
  simp only [Heap.get] at h
  by_cases hn : n = 1
  · subst hn; simp only [if_true, Option.some.injEq] at h; subst h; exact ⟨_, h1, .same _ (on_sr _ _)⟩
  · simp [hn] at h
theorem keep_args {first n : Nat} {l : List Sr} {e : Int} : ∀ x, x ∈ [.int .u32 (first : Int), .sl 1 0 [] 0 n n 2, .int .u64 e] → AV.on (fun n => n ∈ (inB l).map (·.1)) x ∧ ∀ vs, x ≠ .tuple vs := fun x hx => by
  simp only [List.mem_cons, List.not_mem_nil, or_false] at hx
  rcases hx with rfl | rfl | rfl
  · exact ⟨trivial, fun vs h => by cases h⟩
  · exact ⟨show (1 : Nat) ∈ _ by simp, fun vs h => by cases h⟩
  · exact ⟨trivial, fun vs h => by cases h⟩
theorem keep_spec (first : Nat) (l : List Sr) (e : Int) (hl : l.length ≤ 100) : ACall Try.prog 15 [.int .u32 (first : Int), .sl 1 0 [] 0 l.length l.length 2, .int .u64 e] (inB l) (keepAV first l e) (inB l) := by
  refine ACall.runH (Z := Z) (N := 32) mixed hZ Try.func15 rfl rfl (by kernel_rfl) (by simp) keep_args (inB_on _) 2 (fun n hn => by simp at hn; omega) ?_
  simp -dsimp -implicitDefEqProofs only [↓j0, ↓j1, ↓j7, ↓j12, ↓j14, ↓j15, ↓j16, j17, j18, j20, ↓j30, j33, j36, ↓j39, ↓j129, argEnv, j155, Nat.reduceAdd, j180]
  refine AWp.loopR (Z := Z) mixed hZ (by kernel_rfl) (fun n s => ∃ i, i + n = l.length ∧ (∀ s, s ∈ l.take i → s.2 < e) ∧ s = kpSt first l e i) (n0 := l.length) (s0 := kpSt first l e 0) ?_ ⟨0, by omega, fun s hs => by simp at hs, rfl⟩ ?_ rfl
  · exact Wk.sub (by simp -dsimp -implicitDefEqProofs only [↓j25, ↓j27, j163, reduceCtorEq, ↓reduceIte, Nat.reduceEqDiff, j166, j167, j168, j186, j187, j188, j189, j193, j207] <;> simp)
  rintro n s ⟨i, hi, hs, rfl⟩
  refine ⟨rfl, ?_⟩
  have hil : i ≤ l.length := by omega
  have hli : (i : Int) ≤ (l.length : Int) := by omega
  have hu := unif_sr l
  have hT : List.take i (l.map Sr.av) = (l.take i).map Sr.av := by rw [List.map_take]
  have hlt2 : (l.take i).length = i := by rw [List.length_take]; omega
  have hw32 : IntKind.u32.wrap (i : Int) = (i : Int) := by rw [wrap_u32, Nat.mod_eq_of_lt (by omega)]
  have hw33 : IntKind.u32.wrap ((first : Int) + (i : Int)) = ((first + i) % 4294967296 : Nat) := by
    have : (first : Int) + (i : Int) = ((first + i : Nat) : Int) := by omega
    rw [this, wrap_u32]
  have fin : ∀ (x : AV) (t : Env) (H : Heap) (m : Nat), keepN l e = i → look t 6 = some x → (∀ vs, x ≠ .tuple vs) → look t 7 = some (.int .u32 ((first + i) % 4294967296 : Nat)) → Heap.get H 1 = some (.cells (.agg (l.map Sr.av))) → Frz (fun n => Heap.get (inB l) n ≠ none) H x (rowS (l.take i)) →
      Final Try.prog Try.f15 (keepAV first l e) (inB l) .ret ⟨32, t, H, m⟩ := by
    intro x t H m hk h6 hx h7 h1 hf
    rw [keepAV, hk]
    exact Final.manyH (.inr rfl) (rs := [.tmp 6, .tmp 7]) (us := [x, .int .u32 ((first + i) % 4294967296 : Nat)]) rfl ⟨⟨h6, hx⟩, ⟨h7, fun vs h => by cases h⟩, trivial⟩ (by simp) ⟨hf, .same _ trivial, trivial⟩ (inB_keep h1)
  rcases Nat.lt_or_ge i l.length with hlt | hge
  · have hd : decide ((i : Int) < (l.length : Int)) = true := decide_eq_true (by omega)
    have hlt1 : (i : Int) < (l.length : Int) := by omega
    obtain ⟨x, hx⟩ := list_get (xs := l) (i := i) (by omega)
    have hsz := sizeL_sr l i (by omega)
    have hw : IntKind.i64.wrap ((i : Int) + 1) = ((i + 1 : Nat) : Int) := by rw [wrap_i64 (by omega) (by omega)]; omega
    simp -dsimp -implicitDefEqProofs only [↓j0, ↓j1, ↓j2, ↓j7, ↓j12, ↓j13, ↓j15, j17, j18, j20, ↓j25, ↓j27, ↓j29, ↓j30, j32, ↓j38, ↓j40, ↓j43, ↓j45, ↓j46, ↓j48, ↓j58, ↓j63, ↓j66, j70, ↓j76, ↓j80, j117, j127, ↓j129, ↓j130, ↓j131, ↓j133, ↓j134, ↓j137, j143, AV.proj, AV.offOf, AV.size, AV.sizeL, j147, j148, j150, j151, j154, j155, j159, j161, reduceCtorEq, ↓reduceIte, Nat.reduceEqDiff, j166, j169, j175, j180, j181, j190, j191, j192, j244, j277, j285, j396, kpSt, hx, hlt1, hsz]
    refine ⟨fun hc => ?_, fun hc => ?_⟩
    · have hc' := of_decide_eq_true hc
      simp -dsimp -implicitDefEqProofs only [↓j0, ↓j1, ↓j7, ↓j9, ↓j14, ↓j15, j17, j18, j20, ↓j25, ↓j29, ↓j30, j33, ↓j38, ↓j39, ↓j48, ↓j76, ↓j129, ↓j130, j138, j155, ↓reduceIte, Nat.reduceEqDiff, j169, hc]
      exact ⟨n - 1, kpSt first l e (i + 1), by omega, ⟨i + 1, by omega, fun s hs' => by
        rw [take_succ hx, List.mem_append, List.mem_singleton] at hs'
        rcases hs' with h | rfl
        · exact hs s h
        · exact hc', rfl⟩, Wk.sub (by simp -dsimp -implicitDefEqProofs only [↓j25, ↓j27, reduceCtorEq, ↓reduceIte, Nat.reduceEqDiff, j166, j186, j187, j188, j189, j207, hw] <;> simp)⟩
    · have hc' := of_decide_eq_false hc
      have hk := keepN_at hs (fun s h => by rw [hx] at h; cases h; exact hc') hil
      simp -dsimp -implicitDefEqProofs only [↓j1, ↓j7, ↓j11, ↓j12, ↓j15, j17, j18, j20, ↓j25, ↓j29, ↓j30, j36, ↓j38, ↓j49, ↓j51, ↓j86, ↓j129, ↓j130, j155, reduceCtorEq, ↓reduceIte, Nat.reduceEqDiff, Int.reduceToNat, j166, j181, j191, j192, bndAV, j216, j217, j218, j277, hc, hli]
      refine DoAppend_of rfl rfl at37 ?_
      simp -dsimp -implicitDefEqProofs only [↓j27, ↓j87, ↓j93, j94, ↓j129, ↓j130, ↓j137, AV.proj, AV.offOf, ↓reduceIte, j166, j180, j181, j206, j211, j218, hu, hT, hil]
      refine ⟨by rw [hlt2]; omega, ?_⟩
      refine ⟨fun hz => ?_, fun hz => ?_⟩
      · have hi0 : i = 0 := by
          rw [List.drop_zero, hT, List.length_map, hlt2] at hz; simpa using hz
        subst hi0
        simp -dsimp -implicitDefEqProofs only [↓j0, ↓j1, ↓j10, j17, j18, j20, ↓j25, ↓j29, ↓j38, ↓j39, ↓j48, ↓j50, ↓j76, ↓j129, ↓j130, j138, j155, reduceCtorEq, ↓reduceIte, Nat.reduceEqDiff, j169, j180, j181, ↓j209, j218, j242, j386, hw32, hw33]
        exact fin .nilsl _ _ _ hk rfl (fun vs h => by cases h) rfl rfl .nil
      · simp -dsimp -implicitDefEqProofs only [↓j0, ↓j1, ↓j10, j17, j18, j20, ↓j25, ↓j29, ↓j38, ↓j39, ↓j48, ↓j50, ↓j76, ↓j129, ↓j130, j138, j154, j155, reduceCtorEq, ↓reduceIte, Nat.reduceAdd, Nat.reduceEqDiff, j169, j206, ↓j209, j211, j242, j386, hT, hw32, hw33, hlt2]
        refine fin _ _ _ _ hk rfl (fun vs h => by cases h) rfl rfl ?_
        have := frz_sr (K := fun n => Heap.get (inB l) n ≠ none) (H := [(2, .cells (.agg ((l.take i).map Sr.av))), (1, .cells (.agg (l.map Sr.av)))]) (n := 2) (m := i) (c := i) (xs := l.take i) (by simp [Heap.get]) (by omega) rfl
        rw [List.take_take, Nat.min_self] at this
        exact this
  · have hd : decide ((i : Int) < (l.length : Int)) = false := decide_eq_false (by omega)
    have hk := keepN_at hs (fun s h => by rw [List.getElem?_eq_none hge] at h; cases h) hil
    simp -dsimp -implicitDefEqProofs only [↓j0, ↓j1, ↓j2, ↓j7, ↓j11, ↓j12, ↓j13, ↓j15, j17, j18, j20, ↓j25, ↓j29, ↓j30, j32, j36, ↓j38, ↓j40, ↓j48, ↓j49, ↓j51, ↓j58, j69, ↓j76, ↓j86, j127, ↓j129, ↓j130, ↓j132, ↓j133, ↓j134, j143, j147, j148, j155, j159, reduceCtorEq, ↓reduceIte, Nat.reduceEqDiff, Int.reduceToNat, j166, j169, j181, j191, j192, bndAV, j216, j217, j218, j277, j396, kpSt, hd, hli]
    refine DoAppend_of rfl rfl at37 ?_
    simp -dsimp -implicitDefEqProofs only [↓j27, ↓j87, ↓j93, j94, ↓j129, ↓j130, ↓j137, AV.proj, AV.offOf, ↓reduceIte, j166, j180, j181, j206, j211, j218, hu, hT, hil]
    refine ⟨by rw [hlt2]; omega, ?_⟩
    refine ⟨fun hz => ?_, fun hz => ?_⟩
    · have hi0 : i = 0 := by
        rw [List.drop_zero, hT, List.length_map, hlt2] at hz; simpa using hz
      subst hi0
      simp -dsimp -implicitDefEqProofs only [↓j0, ↓j1, ↓j10, j17, j18, j20, ↓j25, ↓j29, ↓j38, ↓j39, ↓j48, ↓j50, ↓j76, ↓j129, ↓j130, j138, j155, reduceCtorEq, ↓reduceIte, Nat.reduceEqDiff, j169, j181, ↓j209, j242, j386, hw32, hw33]
      exact fin .nilsl _ _ _ hk rfl (fun vs h => by cases h) rfl rfl .nil
    · simp -dsimp -implicitDefEqProofs only [↓j0, ↓j1, ↓j10, j17, j18, j20, ↓j25, ↓j29, ↓j38, ↓j39, ↓j48, ↓j50, ↓j76, ↓j129, ↓j130, j138, j154, j155, reduceCtorEq, ↓reduceIte, Nat.reduceAdd, Nat.reduceEqDiff, j169, j206, ↓j209, j211, j242, j386, hT, hw32, hw33, hlt2]
      refine fin _ _ _ _ hk rfl (fun vs h => by cases h) rfl rfl ?_
      have := frz_sr (K := fun n => Heap.get (inB l) n ≠ none) (H := [(2, .cells (.agg ((l.take i).map Sr.av))), (1, .cells (.agg (l.map Sr.av)))]) (n := 2) (m := i) (c := i) (xs := l.take i) (by simp [Heap.get]) (by omega) rfl
      rw [List.take_take, Nat.min_self] at this
      exact this
end Go.Proofs.Ytbhhbadeabhfcaa
