/- The document's answer for Keep. -/
import Derived.Test.YtbhhbadeabhfcaaC7
set_option linter.unusedVariables false
set_option linter.unusedSimpArgs false
namespace Go.Proofs.Ytbhhbadeabhfcaa
open Go Go.RowKit

def rkT (first : Nat) (l : List Sr) (e : Int) (i : Nat) (x : AV) : Env := [(9, .int .i64 i), (8, x), (0, .int .u32 ((first + i) % 4294967296 : Nat)), (1, rowS l), (2, .int .u64 e)]
def rkSt (first : Nat) (l : List Sr) (e : Int) (i c : Nat) : Bool → St
  | false => ⟨34, rkT first l e i .nilsl, [], c + 1⟩
  | true => ⟨34, rkT first l e i (.sl c 0 [] 0 i i 2), [(c, .cells (.agg ((l.take i).map Sr.av)))], c + 1⟩
theorem args_rk {first : Nat} {l : List Sr} {e : Int} : ∀ x, x ∈ [.int .u32 (first : Int), rowS l, .int .u64 e] → AV.on (fun _ => False) x ∧ ∀ vs, x ≠ .tuple vs := fun x hx => by
  simp only [List.mem_cons, List.not_mem_nil, or_false] at hx
  rcases hx with rfl | rfl | rfl
  · exact ⟨trivial, fun vs h => by cases h⟩
  · exact ⟨on_sr _ _, fun vs h => by cases h⟩
  · exact ⟨trivial, fun vs h => by cases h⟩
theorem rkeep_spec (first : Nat) (l : List Sr) (e : Int) (hf : first < 4294967296) (hl : l.length ≤ 100) : ACall Try.prog 17 [.int .u32 (first : Int), rowS l, .int .u64 e] [] (keepAV first l e) [] := by
  refine ACall.run (Z := Z) (N := 34) mixed hZ Try.func17 rfl rfl (by kernel_rfl) (by simp) args_rk 0 ?_
  have hf0 : ((first + 0) % 4294967296 : Nat) = first := by rw [Nat.add_zero, Nat.mod_eq_of_lt hf]
  simp -dsimp -implicitDefEqProofs only [↓j0, ↓j1, ↓j7, ↓j12, ↓j14, ↓j15, ↓j16, j17, j18, j20, ↓j30, j33, j36, ↓j39, ↓j129, argEnv, j156, Nat.reduceAdd, j180]
  refine AWp.loopR (Z := Z) mixed hZ (by kernel_rfl) (fun n s => ∃ i c x, i + n = l.length ∧ (∀ s, s ∈ l.take i → s.2 < e) ∧ (x = false → i = 0) ∧ s = rkSt first l e i c x) (n0 := l.length) (s0 := rkSt first l e 0 0 false) ?_ ⟨0, 0, false, by omega, (fun s hs => by simp at hs), (fun _ => rfl), rfl⟩ ?_ rfl
  · exact Wk.sub (by simp -dsimp -implicitDefEqProofs only [↓j25, j163, reduceCtorEq, ↓reduceIte, Nat.reduceEqDiff, j166, j167, j168, j180, j181, j186, j187, j188, j193, j210, rkT] <;> simp <;> omega)
  rintro n s ⟨i, c, x, hi, hs, hx0, rfl⟩
  refine ⟨by cases x <;> rfl, ?_⟩
  have hlt2 : (l.take i).length = i := by rw [List.length_take]; omega
  have fin : ∀ (t : Env) (m : Nat), keepN l e = i → look t 6 = some (if x then .sl c 0 [] 0 i i 2 else .nilsl) → look t 7 = some (.int .u32 ((first + i) % 4294967296 : Nat)) →
      Final Try.prog Try.f17 (keepAV first l e) [] .ret ⟨34, t, if x then [(c, .cells (.agg ((l.take i).map Sr.av)))] else [], m⟩ := by
    intro t m hk h6 h7
    rw [keepAV, hk]
    cases x
    · have h0 := hx0 rfl
      subst h0
      exact Final.many (.inr rfl) (rs := [.tmp 6, .tmp 7]) (us := [.nilsl, .int .u32 ((first + 0) % 4294967296 : Nat)]) rfl ⟨⟨h6, fun vs h => by cases h⟩, ⟨h7, fun vs h => by cases h⟩, trivial⟩ (by simp) ⟨.nil, .same _ trivial, trivial⟩
    · have := frz_sr (K := fun _ => False) (H := [(c, .cells (.agg ((l.take i).map Sr.av)))]) (n := c) (m := i) (c := i) (xs := l.take i) (fun h => h) (by omega) (by simp [Heap.get])
      rw [List.take_take, Nat.min_self] at this
      exact Final.many (.inr rfl) (rs := [.tmp 6, .tmp 7]) (us := [.sl c 0 [] 0 i i 2, .int .u32 ((first + i) % 4294967296 : Nat)]) rfl ⟨⟨h6, fun vs h => by cases h⟩, ⟨h7, fun vs h => by cases h⟩, trivial⟩ (by simp) ⟨this, .same _ trivial, trivial⟩
  rcases Nat.lt_or_ge i l.length with hlt | hge
  · have hd : decide ((i : Int) < (l.length : Int)) = true := decide_eq_true (by omega)
    have hlt1 : (i : Int) < (l.length : Int) := by omega
    obtain ⟨y, hy⟩ := list_get (xs := l) (i := i) (by omega)
    have hsz := sizeL_sr l i (by omega)
    have hw : IntKind.i64.wrap ((i : Int) + 1) = ((i + 1 : Nat) : Int) := by rw [wrap_i64 (by omega) (by omega)]; omega
    have hw2 : IntKind.u32.wrap ((((first + i) % 4294967296 : Nat) : Int) + 1) = ((first + (i + 1)) % 4294967296 : Nat) := by
      have : (((first + i) % 4294967296 : Nat) : Int) + 1 = (((first + i) % 4294967296 + 1 : Nat) : Int) := by omega
      rw [this, wrap_u32]
      congr 1; omega
    have hu1 : Unif 2 [y.av] := unif_sr [y]
    have htk : (l.take (i + 1)).map Sr.av = (l.take i).map Sr.av ++ [y.av] := by rw [take_succ hy]; simp
    have huL := unif_sr (l.take i)
    have hT : List.take i ((l.take i).map Sr.av) = (l.take i).map Sr.av := List.take_of_length_le (by simp; omega)
    have next : y.2 < e → ∀ s, s ∈ l.take (i + 1) → s.2 < e := fun h s hs' => by
      rw [take_succ hy, List.mem_append, List.mem_singleton] at hs'
      rcases hs' with h' | rfl
      · exact hs s h'
      · exact h
    cases x
    all_goals
      simp -dsimp -implicitDefEqProofs only [↓j0, ↓j1, ↓j7, ↓j9, ↓j12, ↓j13, ↓j14, ↓j15, j17, j18, j20, ↓j25, ↓j29, ↓j38, ↓j43, ↓j45, ↓j46, ↓j48, ↓j58, ↓j64, ↓j67, ↓j76, ↓j79, j117, j126, ↓j129, ↓j130, ↓j131, ↓j133, j143, j146, AV.proj, AV.offOf, AV.size, AV.sizeL, j147, j148, j150, j151, j154, j155, j156, j161, reduceCtorEq, ↓reduceIte, Nat.reduceEqDiff, j166, j169, j175, j181, j190, j191, j192, j244, j277, j285, j396, rkSt, rkT, hy, hlt1, hsz]
      refine ⟨fun hc => ?_, fun hc => ?_⟩
    · have hc' := of_decide_eq_true hc
      have hk := keepN_at hs (fun s h => by rw [hy] at h; cases h; omega) (by omega)
      simp -dsimp -implicitDefEqProofs only [↓j0, ↓j1, ↓j7, ↓j10, ↓j11, ↓j12, ↓j15, j17, j18, j20, ↓j25, ↓j29, ↓j38, ↓j39, ↓j129, j156, reduceCtorEq, ↓reduceIte, Nat.reduceEqDiff, hc]
      exact fin _ _ hk rfl rfl
    · have hc' := of_decide_eq_false hc
      have h0 := hx0 rfl
      have e1 : i + 1 = 1 := by omega
      have e2 : (l.take 1).map Sr.av = [y.av] := by rw [← e1, htk, h0]; simp
      simp -dsimp -implicitDefEqProofs only [↓j1, ↓j7, ↓j9, ↓j12, ↓j15, j17, j18, j20, ↓j25, ↓j29, ↓j38, ↓j43, ↓j46, ↓j51, ↓j61, ↓j64, ↓j79, j112, j113, j114, j115, j116, ↓j129, ↓j130, partsAV, AV.proj, AV.offOf, AV.size, AV.sizeL, AV.layable, j147, j151, j153, j156, j161, j163, j164, reduceCtorEq, ↓reduceIte, Nat.reduceAdd, Nat.reduceMul, Nat.reduceEqDiff, Nat.reduceLeDiff, j166, j167, j181, j190, j191, j192, j197, j198, j199, j201, j208, Nat.reducePow, List.replicate, j218, j277, j279, j280, j364, hc, hy, hlt1, hsz]
      refine DoAppend_of rfl rfl at37 ?_
      simp -dsimp -implicitDefEqProofs only [↓j0, ↓j1, ↓j7, ↓j15, j17, j18, j20, ↓j25, ↓j27, ↓j29, ↓j30, j33, ↓j38, ↓j39, ↓j48, ↓j76, ↓j87, ↓j93, j94, ↓j129, ↓j130, ↓j132, ↓j137, j138, AV.proj, AV.offOf, j150, j154, j155, reduceCtorEq, ↓reduceIte, Nat.reduceAdd, Nat.reduceMul, Nat.reduceEqDiff, Nat.reduceLeDiff, j166, j169, j180, j181, j207, j208, j211, j212, j214, j215, Nat.reduceBEq, j218, hu1, hw2]
      exact ⟨n - 1, rkSt first l e (i + 1) (c + 2) true, by omega, ⟨i + 1, c + 2, true, by omega, next (by omega), (fun h => by cases h), rfl⟩, Wk.sub (by simp -dsimp -implicitDefEqProofs only [↓j25, ↓j27, reduceCtorEq, ↓reduceIte, Nat.reduceAdd, Nat.reduceEqDiff, j166, j186, j187, j188, j189, j207, j208, rkT, hw, e1, e2] <;> simp)⟩
    · have hc' := of_decide_eq_true hc
      have hk := keepN_at hs (fun s h => by rw [hy] at h; cases h; omega) (by omega)
      simp -dsimp -implicitDefEqProofs only [↓j0, ↓j1, ↓j7, ↓j10, ↓j11, ↓j12, ↓j15, j17, j18, j20, ↓j25, ↓j29, ↓j38, ↓j39, ↓j129, j155, reduceCtorEq, ↓reduceIte, Nat.reduceEqDiff, hc]
      exact fin _ _ hk rfl rfl
    · have hc' := of_decide_eq_false hc
      simp -dsimp -implicitDefEqProofs only [↓j1, ↓j7, ↓j9, ↓j12, ↓j15, j17, j18, j20, ↓j25, ↓j29, ↓j38, ↓j43, ↓j46, ↓j51, ↓j61, ↓j64, ↓j79, j112, j113, j114, j115, j116, ↓j129, ↓j130, partsAV, AV.proj, AV.offOf, AV.size, AV.sizeL, AV.layable, j147, j151, j153, j154, j155, j161, j163, j164, reduceCtorEq, ↓reduceIte, Nat.reduceAdd, Nat.reduceMul, Nat.reduceEqDiff, Nat.reduceLeDiff, j166, j167, j181, j190, j191, j192, j197, j198, j199, j201, j208, Nat.reducePow, List.replicate, j218, j277, j279, j280, j364, hc, hy, hlt1, hsz]
      refine DoAppend_of rfl rfl at37 ?_
      simp -dsimp -implicitDefEqProofs only [↓j27, ↓j88, ↓j89, ↓j93, j94, ↓j129, ↓j130, ↓j137, AV.proj, AV.offOf, j150, reduceCtorEq, ↓reduceIte, Nat.reduceLeDiff, j166, j168, j172, j173, j180, j181, j197, j198, j199, j205, j206, j207, j211, j212, j214, j215, j218, hu1, huL, hlt2]
      refine ⟨⟨by omega, by omega⟩, ?_⟩
      simp -dsimp -implicitDefEqProofs only [↓j0, ↓j1, ↓j7, ↓j15, j17, j18, j20, j21, j22, j23, ↓j25, ↓j29, ↓j30, j33, ↓j38, ↓j39, ↓j48, ↓j76, ↓j129, ↓j130, j138, j150, j154, j155, reduceCtorEq, ↓reduceIte, Nat.reduceAdd, Nat.reduceEqDiff, j169, j180, j205, j208, j211, j212, j214, j215, hw2, hT]
      exact ⟨n - 1, rkSt first l e (i + 1) (c + 2) true, by omega, ⟨i + 1, c + 2, true, by omega, next (by omega), (fun h => by cases h), rfl⟩, Wk.sub (by simp -dsimp -implicitDefEqProofs only [↓j25, ↓j27, reduceCtorEq, ↓reduceIte, Nat.reduceAdd, Nat.reduceEqDiff, j166, j186, j187, j188, j189, j207, j208, rkT, hw, htk] <;> simp)⟩
  · have hd : decide ((i : Int) < (l.length : Int)) = false := decide_eq_false (by omega)
    have hk := keepN_at hs (fun s h => by rw [List.getElem?_eq_none hge] at h; cases h) (by omega)
    cases x
    all_goals
      simp -dsimp -implicitDefEqProofs only [↓j0, ↓j1, ↓j7, ↓j10, ↓j11, ↓j12, ↓j13, ↓j15, j17, j18, j20, ↓j25, ↓j29, ↓j38, ↓j39, ↓j48, ↓j58, ↓j76, j126, ↓j129, ↓j130, ↓j132, ↓j133, j143, j155, j156, reduceCtorEq, ↓reduceIte, Nat.reduceEqDiff, j169, j396, rkSt, rkT, hd]
      exact fin _ _ hk rfl rfl
end Go.Proofs.Ytbhhbadeabhfcaa
