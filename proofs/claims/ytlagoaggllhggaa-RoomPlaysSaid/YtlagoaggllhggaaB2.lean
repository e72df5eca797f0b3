/- Live and Find of a room; the watchman. -/
import Derived.Test.YtlagoaggllhggaaB1
set_option linter.unusedVariables false
set_option linter.unusedSimpArgs false
namespace Go.Proofs.Ytlagoaggllhggaa
open Go Go.RowKit

theorem fok16 : fnOk Try.prog 16 = true := by kernel_rfl
theorem fok18 : fnOk Try.prog 18 = true := by kernel_rfl
theorem fok17 : fnOk Try.prog 17 = true := by kernel_rfl
theorem fok11' : fnOk Try.prog 11 = true := by kernel_rfl
theorem ptr_arg : ∀ x, x ∈ ([] : List AV) → AV.on (fun _ => False) x ∧ ∀ vs, x ≠ .tuple vs := fun x hx => by simp at hx

/-- Pages that a room holds here. -/
def Small (L : List Pg) : Prop := L.length ≤ 32 ∧ ∀ p, p ∈ L → p.2.length ≤ 100
def liveAll (L : List Pg) : Nat := (L.map fun p => liveN p.2).sum
theorem liveAll_take {L : List Pg} {i : Nat} {p : Pg} (h : L[i]? = some p) : liveAll (L.take (i + 1)) = liveAll (L.take i) + liveN p.2 := by
  rw [take_succ h]; simp [liveAll]
theorem liveAll_le : ∀ {L : List Pg}, (∀ p, p ∈ L → p.2.length ≤ 100) → liveAll L ≤ L.length * 100
  | [], _ => by simp [liveAll]
  | p :: L, h => by
    have h1 := liveAll_le (L := L) fun q hq => h q (by simp [hq])
    have h2 := liveN_le p.2
    have h3 := h p (by simp)
    simp [liveAll] at *; omega

theorem live_nil : ACall Try.prog 17 [.nilptr] [] (.int .i64 0) [] := by
  refine ACall.run (Z := Z) (N := 23) mixed hZ Try.func17 rfl rfl (by kernel_rfl) (by simp) (nil_args ptr_arg) 0 ?_
  simp -dsimp -implicitDefEqProofs only [↓j0, ↓j1, ↓j7, ↓j9, ↓j10, ↓j12, ↓j13, ↓j15, j17, j18, j20, ↓j25, ↓j29, ↓j30, j33, j35, ↓j38, ↓j39, ↓j48, ↓j145, ↓j146, ↓j148, ↓j149, argEnv, j172, reduceCtorEq, ↓reduceIte, Nat.reduceEqDiff, j193, j212, ↓j236, j266]
  exact Final.one (.inr rfl) (r := .tmp 2) rfl ⟨rfl, fun vs h => by cases h⟩ (fun vs h => by cases h) (fun vs h => by cases h) (.same _ trivial)
def lvSt (L : List Pg) (last i acc m : Nat) : St := ⟨23, [(13, .int .i64 i), (12, .int .i64 L.length), (11, .sl 0 0 [] 0 L.length L.length 2), (3, .int .i64 acc), (2, .int .i64 0), (0, .ptr 1 0 [])], roomH L last, m + 2⟩
theorem lives_spec (L : List Pg) (last : Nat) (hs : Small L) : ACall Try.prog 17 [.ptr 1 0 []] (roomH L last) (.int .i64 (liveAll L)) (roomH L last) := by
  refine ACall.runH (Z := Z) (N := 23) mixed hZ Try.func17 rfl rfl (by kernel_rfl) (by simp) (room_args ptr_arg) (room_on _ (by simp)) 2 room_lt ?_
  simp -dsimp -implicitDefEqProofs only [↓j0, ↓j1, ↓j7, ↓j12, ↓j13, ↓j14, ↓j15, ↓j16, j17, j18, j20, ↓j25, ↓j27, ↓j29, ↓j30, j33, j35, ↓j38, ↓j39, ↓j43, ↓j45, ↓j48, ↓j56, ↓j58, ↓j61, ↓j76, ↓j79, j135, j143, ↓j145, ↓j146, ↓j147, ↓j149, ↓j153, AV.proj, AV.offOf, AV.sizeL, argEnv, j163, j167, j171, reduceCtorEq, ↓reduceIte, j182, j197, j212, ↓j235, j266, j271, j358, j413]
  refine AWp.loopR (Z := Z) mixed hZ (by kernel_rfl) (fun n s => ∃ i m, i + n = L.length ∧ s = lvSt L last i (liveAll (L.take i)) m) (n0 := L.length) (s0 := lvSt L last 0 0 0) ?_ ⟨0, 0, by omega, rfl⟩ ?_ rfl
  · exact Wk.sub (by simp -dsimp -implicitDefEqProofs only [↓j25, ↓j27, j179, reduceCtorEq, ↓reduceIte, Nat.reduceEqDiff, j182, j183, j184, j196, j202, j203, j204, j205, j209, j223] <;> simp)
  · rintro n s ⟨i, m, hi, rfl⟩
    refine ⟨rfl, ?_⟩
    simp -dsimp -implicitDefEqProofs only [↓j0, ↓j1, ↓j7, ↓j12, ↓j13, ↓j15, j17, j18, j20, ↓j25, ↓j29, ↓j48, ↓j89, ↓j145, ↓j146, ↓j149, j159, j171, ↓reduceIte, Nat.reduceEqDiff, j185, lvSt]
    refine ⟨fun hlt => ?_, fun hge => ?_⟩
    · have hlt' : (i : Int) < (L.length : Int) := of_decide_eq_true hlt
      obtain ⟨p, hp⟩ := list_get (xs := L) (i := i) (by omega)
      have hpm := hs.2 p (List.mem_of_getElem? hp)
      have hsz := sizeL_pg L i (by omega)
      have hw : IntKind.i64.wrap ((i : Int) + 1) = ((i + 1 : Nat) : Int) := by rw [wrap_i64 (by have := hs.1; omega) (by have := hs.1; omega)]; omega
      have hb : liveAll (L.take i) ≤ 3200 := by
        have h1 := liveAll_le (L := L.take i) fun q hq => hs.2 q (List.mem_of_mem_take hq)
        have h2 := hs.1
        rw [List.length_take] at h1; omega
      have hln := liveN_le p.2
      have hw2 : IntKind.i64.wrap ((liveAll (L.take i) : Int) + (liveN p.2 : Int)) = ((liveAll (L.take i) + liveN p.2 : Nat) : Int) := by rw [wrap_i64 (by omega) (by omega)]; omega
      simp -dsimp -implicitDefEqProofs only [↓j0, ↓j1, ↓j7, ↓j9, ↓j12, ↓j14, ↓j15, j17, j18, j19, j20, j21, j22, j23, ↓j25, ↓j27, ↓j29, ↓j38, ↓j41, ↓j43, ↓j44, ↓j46, ↓j53, ↓j76, ↓j78, ↓j93, j129, ↓j145, ↓j146, ↓j153, AV.proj, AV.offOf, AV.upd, AV.size, AV.sizeL, AV.layable, j170, j171, j177, reduceCtorEq, ↓reduceIte, Nat.reduceAdd, Nat.reduceEqDiff, j182, j191, j196, j197, j206, j207, j208, j224, j272, j289, j290, j374, hp, hlt', hsz]
      refine CallTo.pure (args := [undoAV p.1 p.2]) rfl fok16 (by simp -dsimp -implicitDefEqProofs only [↓j25, ↓j29, j173, j174, ↓reduceIte]) (fun x hx => (args1 x hx).2) (live_spec p.1 p.2 (by omega)) ?_
      simp -dsimp -implicitDefEqProofs only [↓j0, ↓j1, ↓j7, ↓j15, j17, j18, j20, ↓j25, ↓j29, ↓j30, j33, ↓j38, ↓j39, ↓j48, ↓j89, ↓j145, ↓j146, j154, j171, ↓reduceIte, Nat.reduceEqDiff, j185]
      refine ⟨n - 1, lvSt L last (i + 1) (liveAll (L.take (i + 1))) (m + 1), by omega, ⟨i + 1, m + 1, by omega, rfl⟩, Wk.sub ?_⟩
      rw [liveAll_take hp]
      simp -dsimp -implicitDefEqProofs only [↓j25, ↓j27, reduceCtorEq, ↓reduceIte, Nat.reduceAdd, Nat.reduceEqDiff, j182, j202, j203, j204, j205, j223, j224, hw, hw2] <;> simp
    · have hge' : ¬ (i : Int) < (L.length : Int) := of_decide_eq_false hge
      have : L.take i = L := List.take_of_length_le (by omega)
      simp -dsimp -implicitDefEqProofs only [↓j0, ↓j1, ↓j7, ↓j10, ↓j11, ↓j12, ↓j15, j17, j18, j20, ↓j25, ↓j29, ↓j38, ↓j39, ↓j145, j171, ↓reduceIte, Nat.reduceEqDiff, hge]
      rw [this]
      exact Final.oneH (.inr rfl) (r := .tmp 2) rfl ⟨rfl, fun vs h => by cases h⟩ (fun vs h => by cases h) (fun vs h => by cases h) (.same _ trivial) (room_keep rfl rfl)
end Go.Proofs.Ytlagoaggllhggaa
