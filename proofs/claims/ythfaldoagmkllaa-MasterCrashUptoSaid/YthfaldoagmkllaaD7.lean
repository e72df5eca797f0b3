/- Sync, Plan; filled blocks, copied lists. -/
import Derived.Test.YthfaldoagmkllaaD6
set_option linter.unusedVariables false
set_option linter.unusedSimpArgs false
namespace Go.Proofs.Ythfaldoagmkllaa
open Go Go.RowKit

def DS.syncP (d : DS) : Nat × DS := if d.down then (4, d) else if d.opP.1 ≠ 0 then (d.opP.1, d.opP.2) else (0, d.opP.2.settle [] true)
theorem fok36 : fnOk Try.prog 36 = true := by kernel_rfl
theorem put_settle {d : DS} {keep : List Bool} {all : Bool} {a b : Nat} : ∀ n x, Heap.get (diskH0 (d.settle keep all)) n = some x → n ∉ (diskH0 d).map (·.1) → a ≤ n ∧ n < b :=
  put_sameD (d := d) (d' := d.settle keep all) (fun h => h) (fun h => absurd rfl h)
theorem sync_spec (d : DS) (hd : d.Ok) (ho : d.ops < 1000000) : ACall Try.prog 36 [.ptr 0 0 []] (diskH0 d) (.int .i64 (d.syncP.1 : Nat)) (diskH0 d.syncP.2) := by
  refine ACall.runH (Z := Z) (N := 19) mixed hZ Try.func36 rfl rfl (by kernel_rfl) (by simp) (disk_args no_args) (disk_on fun _ h => h) 5 disk_lt ?_
  have fin : ∀ (c : Nat) (e : DS) (t : Env) (m : Nat), (c, e) = d.syncP → look t 2 = some (.int .i64 (c : Nat)) → Final Try.prog Try.f36 (.int .i64 (d.syncP.1 : Nat)) (diskH0 d.syncP.2) .ret ⟨19, t, diskH0 e, m⟩ := by
    intro c e t m hx h2
    rw [← hx]
    exact Final.oneH (.inr rfl) (r := .tmp 2) rfl ⟨h2, fun vs h => by cases h⟩ (fun vs h => by cases h) (fun vs h => by cases h) (.same _ trivial) (disk_same nm0)
  simp -dsimp -implicitDefEqProofs only [↓j0, ↓j1, ↓j2, ↓j7, ↓j12, ↓j13, ↓j15, j17, j18, j20, ↓j25, ↓j27, ↓j29, ↓j30, j32, j33, j35, ↓j38, ↓j39, ↓j40, ↓j43, ↓j45, ↓j48, ↓j56, ↓j76, ↓j79, j83, j131, ↓j145, ↓j146, ↓j148, ↓j149, ↓j151, ↓j153, AV.proj, AV.offOf, AV.size, AV.sizeL, argEnv, j163, j164, j166, j167, j171, j175, reduceCtorEq, ↓reduceIte, Nat.reduceAdd, Nat.reduceEqDiff, j182, j195, j196, j197, j211, ↓j235, j253, j319, j381, size_pendV, size_failV]
  refine ⟨fun h1 => ?_, fun h1 => ?_⟩
  · simp -dsimp -implicitDefEqProofs only [↓j0, ↓j1, ↓j7, ↓j10, ↓j12, ↓j15, j17, j18, j20, ↓j30, j33, ↓j39, ↓j145, j171, h1]
    exact fin 4 d _ _ (by rw [DS.syncP, if_pos h1]) rfl
  have hok := opP_ok hd ho
  have hop := op_spec d hd
  obtain ⟨q1, q2, q3, q4, q5, q6, q7⟩ := opP_same d
  have hval : d.syncP = if d.opP.1 ≠ 0 then (d.opP.1, d.opP.2) else (0, d.opP.2.settle [] true) := by rw [DS.syncP, if_neg (by simp [h1])]
  obtain ⟨e, he⟩ : ∃ e, d.opP.2 = e := ⟨_, rfl⟩
  obtain ⟨k, hk⟩ : ∃ k, d.opP.1 = k := ⟨_, rfl⟩
  rw [he] at hop q1 q2 q3 q4 q5 q6 q7 hval hok
  rw [hk] at hop hval
  simp -dsimp -implicitDefEqProofs only [↓j1, ↓j7, ↓j9, ↓j12, ↓j15, j17, j18, j20, ↓j25, ↓j29, ↓j38, ↓j53, ↓j145, j171, reduceCtorEq, ↓reduceIte, h1]
  refine CallTo.gen (args := [.ptr 0 0 []]) (diskH0 d) (diskH0 e) 5 rfl fok37 (by simp -dsimp -implicitDefEqProofs only [↓j25, ↓j29, j173, j174, ↓reduceIte]) (fun x hx vs h => ?_) hop (fun n b h => h) ⟨by simp, put_sameD (by rw [q5]; exact id) (by rw [q4]; exact id)⟩ ?_
  · subst h; simp at hx
  rw [app_disk0]
  simp -dsimp -implicitDefEqProofs only [↓j0, ↓j1, ↓j7, ↓j12, ↓j13, ↓j15, j17, j18, j20, ↓j25, ↓j29, ↓j30, j33, ↓j38, ↓j39, ↓j48, ↓j89, ↓j145, ↓j146, ↓j149, j158, j171, ↓reduceIte, j185]
  refine ⟨fun h4 => ?_, fun h4 => ?_⟩
  · have h4' : k ≠ 0 := by rintro rfl; simp at h4
    rw [if_pos h4'] at hval
    simp -dsimp -implicitDefEqProofs only [↓j0, ↓j1, ↓j7, ↓j10, ↓j12, ↓j15, j17, j18, j20, ↓j25, ↓j29, ↓j38, ↓j39, ↓j145, j171, ↓reduceIte, Nat.reduceEqDiff, h4]
    exact fin k e _ _ hval.symm rfl
  have h4' : k = 0 := by simpa using h4
  subst h4'
  rw [if_neg (by simp)] at hval
  have hse := settle_spec e hok [] true (by simp)
  simp -dsimp -implicitDefEqProofs only [↓j1, ↓j7, ↓j9, ↓j12, ↓j15, j17, j18, j20, ↓j25, ↓j29, ↓j38, ↓j53, ↓j145, j171, reduceCtorEq, ↓reduceIte, h4]
  refine CallTo.gen (args := [.ptr 0 0 [], .nilsl, .bool true]) (v := .tuple []) (diskH0 e) (diskH0 (e.settle [] true)) 5 rfl fok39 (by simp -dsimp -implicitDefEqProofs only [↓j25, ↓j29, ↓j30, j32, j36, j173, j174, ↓reduceIte]) (fun x hx vs h => ?_) ?_ (fun n b h => h) ⟨by simp, put_settle⟩ ?_
  · subst h; simp at hx
  · exact hse.nilArgs ⟨.same _ (names_disk.2 (.inl rfl)), .nil, .same _ trivial, trivial⟩
  rw [app_disk0]
  simp -dsimp -implicitDefEqProofs only [↓j0, ↓j1, ↓j7, ↓j10, ↓j12, ↓j15, j17, j18, j20, ↓j30, j33, ↓j39, ↓j145, j171]
  exact fin 0 _ _ _ hval.symm rfl
end Go.Proofs.Ythfaldoagmkllaa
