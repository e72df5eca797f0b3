/- The law RingKeeps. -/
import Derived.Test.YtbhhbadeabhfcaaC8
set_option linter.unusedVariables false
set_option linter.unusedSimpArgs false
namespace Go.Proofs.Ytbhhbadeabhfcaa
open Go Go.RowKit

theorem fok15 : fnOk Try.prog 15 = true := by kernel_rfl
theorem fok16 : fnOk Try.prog 16 = true := by kernel_rfl
theorem fok17 : fnOk Try.prog 17 = true := by kernel_rfl
theorem notup3 {x y z : AV} (hx : ∀ vs, x ≠ .tuple vs) (hy : ∀ vs, y ≠ .tuple vs) (hz : ∀ vs, z ≠ .tuple vs) : ∀ w, w ∈ [x, y, z] → ∀ vs, w ≠ .tuple vs := fun w hw => by
  simp only [List.mem_cons, List.not_mem_nil, or_false] at hw
  rcases hw with rfl | rfl | rfl
  · exact hx
  · exact hy
  · exact hz
def rkpT (first : Nat) (l : List Sr) (e : Int) (i k : Nat) : Env := [(33, .int .i64 i), (32, .int .i64 l.length), (7, .sl 1 0 [] 0 l.length l.length 2), (8, rowS (l.take k)), (9, .int .u32 ((first + k) % 4294967296 : Nat)), (0, .int .u32 first), (1, rowS l), (2, .int .u64 e), (6, .bool false)]
def rkpSt (first : Nat) (l : List Sr) (e : Int) (l' : List Sr) (i k : Nat) : St := ⟨59, rkpT first l e i k, inB l', 2⟩
theorem ringKeeps_spec (first : Nat) (l : List Sr) (e : Int) (hf : first < 4294967296) (hl : l.length ≤ 9223372036854775807) : ACall Try.prog 4 [.int .u32 (first : Int), rowS l, .int .u64 e] [] (.bool true) [] := by
  refine ACall.run (Z := Z) (N := 59) mixed hZ Try.func4 rfl rfl (by kernel_rfl) (by simp) args_rk 0 ?_
  have ret : ∀ (t : Env) (H : Heap) (m : Nat), look t 6 = some (.bool true) → Final Try.prog Try.f4 (.bool true) [] .ret ⟨59, t, H, m⟩ := fun t H m h =>
    Final.one (.inr rfl) (r := .tmp 6) rfl ⟨h, fun vs h => by cases h⟩ (fun vs h => by cases h) (fun vs h => by cases h) (.same _ trivial)
  have nil0 : ∀ x : AV, x ∈ ([] : List AV) → ∀ vs, x ≠ .tuple vs := fun x hx => by simp at hx
  simp -dsimp -implicitDefEqProofs only [↓j0, ↓j1, ↓j7, ↓j12, ↓j13, ↓j15, j17, j18, j20, ↓j25, ↓j29, ↓j30, j32, j33, ↓j38, ↓j39, ↓j48, ↓j58, ↓j76, j126, ↓j129, ↓j130, ↓j133, j145, argEnv, j156, reduceCtorEq, ↓reduceIte, Nat.reduceAdd, Nat.reduceEqDiff, j169, j180, j396]
  refine ⟨fun h100 => ?_, fun h100 => ?_⟩
  · simp -dsimp -implicitDefEqProofs only [↓j1, ↓j7, ↓j12, ↓j15, ↓j53]
    refine CallTo.pure (args := []) rfl fok14 rfl nil0 awake_spec ?_
    simp -dsimp -implicitDefEqProofs only [↓j0, ↓j1, ↓j10, j17, j18, j20, ↓j25, ↓j29, ↓j39, ↓j129, j156, ↓reduceIte]
    exact ret _ _ _ rfl
  have h100' := of_decide_eq_false h100
  have hu := unif_sr l
  have hu0 : Unif 2 [] := fun x hx => by simp at hx
  have hb : l.length * 16 ≤ 140737488355328 := by omega
  simp -dsimp -implicitDefEqProofs only [↓j1, ↓j7, ↓j9, ↓j12, ↓j15, j17, j18, j20, ↓j25, ↓j29, ↓j38, ↓j51, ↓j61, j112, j114, ↓j129, ↓j130, partsAV, AV.layable, j155, j156, reduceCtorEq, ↓reduceIte, Nat.reduceEqDiff, j166, j180, j198, j202, j203, j210, Nat.reducePow, List.replicate, j218, j364]
  refine DoAppend_of rfl rfl at37 ?_
  simp -dsimp -implicitDefEqProofs only [↓j0, ↓j1, ↓j7, ↓j12, ↓j15, j17, j18, j20, j21, j22, j23, ↓j25, ↓j27, ↓j29, ↓j38, ↓j39, ↓j53, ↓j88, ↓j89, ↓j91, ↓j129, ↓j130, ↓j137, j155, j156, reduceCtorEq, ↓reduceIte, Nat.reduceAdd, Nat.reduceEqDiff, j166, j172, j173, j180, j181, j198, j206, j207, j212, j213, j215, j218, hu, hu0, take_sr, hb, hl]
  have hks := keep_spec first l e (by omega)
  have hrk := rkeep_spec first l e hf (by omega)
  have hss := same_spec l l hl
  have hll : (l == l) = true := by simp
  rw [hll] at hss
  have hkl := keepN_le l e
  obtain ⟨k, hk⟩ : ∃ k, keepN l e = k := ⟨_, rfl⟩
  rw [keepAV, hk] at hks hrk
  rw [hk] at hkl
  have hst := same_spec (l.take k) (l.take k) (by rw [List.length_take]; omega)
  have hll2 : (l.take k == l.take k) = true := by simp
  rw [hll2] at hst
  refine CallTo.gen (args := [.int .u32 (first : Int), .sl 1 0 [] 0 l.length l.length 2, .int .u64 e]) (inB l) (inB l) 2 rfl fok15 (by simp -dsimp -implicitDefEqProofs only [↓j25, ↓j29, j157, j158, ↓reduceIte, Nat.reduceEqDiff]) (notup3 (fun vs h => by cases h) (fun vs h => by cases h) fun vs h => by cases h) hks (SubH.of (by simp -dsimp -implicitDefEqProofs only [↓j27, ↓reduceIte, j166, j188, j189])) ⟨by simp, fun n x h hn => by
    simp only [Heap.get] at h
    by_cases h1 : n = 1
    · subst h1; simp at hn
    · simp [h1] at h⟩ ?_
  simp -dsimp -implicitDefEqProofs only [↓j0, ↓j1, ↓j7, ↓j12, ↓j15, j17, j18, j20, j21, j22, j23, ↓j25, ↓j29, ↓j38, ↓j39, ↓j53, ↓j57, j72, ↓j129, j147, j148, j155, j156, j157, j158, reduceCtorEq, ↓reduceIte, Nat.reduceEqDiff]
  have hbo : ACall Try.prog 16 [.sl 1 0 [] 0 l.length l.length 2, rowS l] (inB l) (.bool true) (inB l) := by
    refine ACall.borrow hss rfl ⟨?_, .same _ (on_sr _ _), trivial⟩
    have := frz_sr (K := fun _ => False) (H := inB l) (n := 1) (m := l.length) (c := l.length) (xs := l) (fun h => h) (Nat.le_refl _) rfl
    rw [List.take_of_length_le (Nat.le_refl _)] at this
    exact this
  refine CallTo.gen (args := [.sl 1 0 [] 0 l.length l.length 2, rowS l]) (inB l) (inB l) 2 rfl fok16 (by simp -dsimp -implicitDefEqProofs only [↓j25, ↓j29, j157, j158, ↓reduceIte, Nat.reduceEqDiff]) (notup (fun vs h => by cases h) fun vs h => by cases h) hbo (SubH.of (by simp -dsimp -implicitDefEqProofs only [↓j27, ↓reduceIte, j166, j188, j189])) ⟨by simp, fun n x h hn => by
    simp only [Heap.get] at h
    by_cases h1 : n = 1
    · subst h1; simp at hn
    · simp [h1] at h⟩ ?_
  simp -dsimp -implicitDefEqProofs only [↓j0, ↓j1, ↓j7, ↓j9, ↓j12, ↓j13, ↓j14, ↓j15, ↓j16, j17, j18, j20, j21, j22, j23, ↓j25, ↓j29, ↓j30, j33, ↓j38, ↓j55, ↓j58, j71, j127, ↓j129, ↓j132, ↓j133, j155, j156, j157, j158, ↓reduceIte, Nat.reduceEqDiff, j177, j396]
  refine AWp.loopR (Z := Z) mixed hZ (by kernel_rfl) (fun n s => ∃ i l', i + n = l.length ∧ l'.length = l.length ∧ s = rkpSt first l e l' i k) (n0 := l.length) (s0 := rkpSt first l e l 0 k) ?_ ⟨0, l, by omega, rfl, rfl⟩ ?_ rfl
  · exact Wk.sub (by simp -dsimp -implicitDefEqProofs only [↓j25, ↓j27, j163, reduceCtorEq, ↓reduceIte, Nat.reduceEqDiff, j166, j167, j168, j186, j187, j188, j189, j193, j207, rkpT] <;> simp)
  rintro n s ⟨i, l', hi, hl', rfl⟩
  refine ⟨rfl, ?_⟩
  rcases Nat.lt_or_ge i l.length with hlt | hge
  · have hd : decide ((i : Int) < (l.length : Int)) = true := decide_eq_true (by omega)
    have hlt1 : (i : Int) < (l.length : Int) := by omega
    obtain ⟨y, hy⟩ := list_get (xs := l') (i := i) (by omega)
    have hsz := sizeL_sr l' i (by omega)
    have hw : IntKind.i64.wrap ((i : Int) + 1) = ((i + 1 : Nat) : Int) := by rw [wrap_i64 (by omega) (by omega)]; omega
    have hset : (l'.map Sr.av).set i (.agg [.int .u32 y.1, .int .u64 1099511627776]) = (l'.set i (y.1, 1099511627776)).map Sr.av := by rw [List.map_set]
    simp -dsimp -implicitDefEqProofs only [↓j0, ↓j1, ↓j7, ↓j9, ↓j12, ↓j13, ↓j14, ↓j15, j17, j18, j19, j20, j21, j22, j23, ↓j25, ↓j27, ↓j29, ↓j30, j33, ↓j38, ↓j39, ↓j44, ↓j45, ↓j46, ↓j48, ↓j65, ↓j66, ↓j76, ↓j80, ↓j129, ↓j130, ↓j131, ↓j133, ↓j137, j138, j143, AV.proj, AV.offOf, AV.upd, AV.size, AV.sizeL, AV.layable, j147, j148, j150, j151, j152, j153, j154, j155, j156, j161, ↓reduceIte, Nat.reduceEqDiff, j166, j169, j175, j180, j181, j190, j191, j192, j243, j277, j285, rkpSt, rkpT, hy, hlt1, hsz, hset]
    exact ⟨n - 1, rkpSt first l e (l'.set i (y.1, 1099511627776)) (i + 1) k, by omega, ⟨i + 1, l'.set i (y.1, 1099511627776), by omega, by rw [List.length_set]; exact hl', rfl⟩, Wk.sub (by simp -dsimp -implicitDefEqProofs only [↓j25, ↓j27, reduceCtorEq, ↓reduceIte, Nat.reduceEqDiff, j166, j186, j187, j188, j189, j207, rkpT, hw] <;> simp)⟩
  · have hd : decide ((i : Int) < (l.length : Int)) = false := decide_eq_false (by omega)
    have hee : ((((first + k) % 4294967296 : Nat) : Int) == (((first + k) % 4294967296 : Nat) : Int)) = true := by simp
    simp -dsimp -implicitDefEqProofs only [↓j0, ↓j1, ↓j7, ↓j11, ↓j12, ↓j13, ↓j15, j17, j18, j20, ↓j25, ↓j29, ↓j38, ↓j48, ↓j53, ↓j76, ↓j129, ↓j130, ↓j132, ↓j133, j143, j155, reduceCtorEq, ↓reduceIte, Nat.reduceEqDiff, j169, rkpSt, rkpT, hd]
    refine CallTo.pure (args := [.int .u32 (first : Int), rowS l, .int .u64 e]) rfl fok17 (by simp -dsimp -implicitDefEqProofs only [↓j25, ↓j29, j157, j158, ↓reduceIte, Nat.reduceEqDiff]) (fun x hx => (args_rk x hx).2) hrk ?_
    simp -dsimp -implicitDefEqProofs only [↓j0, ↓j1, ↓j7, ↓j12, ↓j15, j17, j18, j20, ↓j25, ↓j29, ↓j38, ↓j39, ↓j53, ↓j57, j72, ↓j129, j147, j148, j155, ↓reduceIte, Nat.reduceEqDiff]
    refine CallTo.pure (args := [rowS (l.take k), rowS (l.take k)]) rfl fok16 (by simp -dsimp -implicitDefEqProofs only [↓j25, ↓j29, j157, j158, ↓reduceIte, Nat.reduceEqDiff]) (fun x hx => (args_ss x hx).2) hst ?_
    simp -dsimp -implicitDefEqProofs only [↓j1, ↓j2, j17, j18, j20, ↓j25, ↓j29, ↓j30, j32, ↓j38, ↓j40, ↓j48, ↓j53, j70, ↓j76, ↓j129, ↓j130, ↓j131, ↓j134, j141, j147, j148, j155, j159, ↓reduceIte, Nat.reduceEqDiff, j169, hee]
    refine CallTo.pure (args := []) rfl fok14 rfl nil0 awake_spec ?_
    simp -dsimp -implicitDefEqProofs only [↓j0, ↓j1, ↓j10, j17, j18, j20, ↓j25, ↓j29, ↓j30, j32, ↓j39, ↓j40, j70, ↓j129, j155, ↓reduceIte, Nat.reduceEqDiff]
    exact ret _ _ _ rfl
end Go.Proofs.Ytbhhbadeabhfcaa
