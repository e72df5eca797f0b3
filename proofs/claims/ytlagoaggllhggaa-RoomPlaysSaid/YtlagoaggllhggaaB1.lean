/- A room's memory; has, New, Live. -/
import Derived.Test.YtlagoaggllhggaaA15
set_option linter.unusedVariables false
set_option linter.unusedSimpArgs false
namespace Go.Proofs.Ytlagoaggllhggaa
open Go Go.RowKit

abbrev Pg := Int × List Old
abbrev Pg.av (p : Pg) : AV := undoAV p.1 p.2
abbrev roomB (q : Nat) (L : List Pg) (last : Nat) : ABlk := .cells (.agg [.sl q 0 [] 0 L.length L.length 2, .int .i64 last])
abbrev listB (L : List Pg) : ABlk := .cells (.agg (L.map Pg.av))
abbrev roomH (L : List Pg) (last : Nat) : Heap := [(1, roomB 0 L last), (0, listB L)]
theorem unif_pg (L : List Pg) : Unif 2 (L.map Pg.av) := fun x hx => by
  obtain ⟨o, _, rfl⟩ := List.mem_map.1 hx; rfl
theorem sizeL_pg (L : List Pg) (i : Nat) (h : i ≤ L.length) : AV.sizeL ((L.map Pg.av).take i) = i * 2 := (unif_pg L).sizeL_take (by simpa using h)
theorem on_pg (S : Nat → Prop) (L : List Pg) : AV.onL S (L.map Pg.av) := by
  rw [AV.onL_iff]
  intro x hx
  obtain ⟨o, _, rfl⟩ := List.mem_map.1 hx
  exact on_undo _ _ _
theorem get_room {L : List Pg} {last : Nat} {n : Nat} {b : ABlk} (h : Heap.get (roomH L last) n = some b) : (n = 1 ∧ b = roomB 0 L last) ∨ (n = 0 ∧ b = listB L) := by
  simp only [Heap.get] at h
  by_cases h1 : n = 1
  · subst h1; simp only [if_true, Option.some.injEq] at h; exact .inl ⟨rfl, h.symm⟩
  · rw [if_neg h1] at h
    by_cases h0 : n = 0
    · subst h0; simp only [if_true, Option.some.injEq] at h; exact .inr ⟨rfl, h.symm⟩
    · simp [h0] at h
theorem room_on {L : List Pg} {last : Nat} (S : Nat → Prop) (h0 : S 0) : ∀ n b, Heap.get (roomH L last) n = some b → b.on S := by
  intro n b h
  rcases get_room h with ⟨_, rfl⟩ | ⟨_, rfl⟩
  · exact ⟨h0, trivial, trivial⟩
  · exact on_pg _ _
theorem room_keep {L : List Pg} {last : Nat} {H : Heap} (h1 : Heap.get H 1 = some (roomB 0 L last)) (h0 : Heap.get H 0 = some (listB L)) :
    ∀ n b, Heap.get (roomH L last) n = some b → ∃ b0, Heap.get H n = some b0 ∧ BFrz (fun n => Heap.get (roomH L last) n ≠ none) H b0 b := by
  intro n b h
  rcases get_room h with ⟨rfl, rfl⟩ | ⟨rfl, rfl⟩
  · exact ⟨_, h1, .same _ ⟨show Heap.get (roomH L last) 0 ≠ none by simp [Heap.get], trivial, trivial⟩⟩
  · exact ⟨_, h0, .same _ (on_pg _ _)⟩
theorem room_args {L : List Pg} {last : Nat} {ws : List AV} (ha : ∀ x, x ∈ ws → AV.on (fun _ => False) x ∧ ∀ vs, x ≠ .tuple vs) : ∀ x, x ∈ .ptr 1 0 [] :: ws → AV.on (fun n => n ∈ (roomH L last).map (·.1)) x ∧ ∀ vs, x ≠ .tuple vs := by
  intro x hx
  rcases List.mem_cons.1 hx with rfl | hx
  · exact ⟨by show (1 : Nat) ∈ _; simp, fun vs h => by cases h⟩
  · exact ⟨on_mono (fun _ h => h.elim) (ha x hx).1, (ha x hx).2⟩
theorem room_lt {L : List Pg} {last : Nat} : ∀ n, n ∈ (roomH L last).map (·.1) → n < 2 := by
  intro n hn; simp at hn; omega
theorem int_arg {k : IntKind} {n : Int} : ∀ x, x ∈ [AV.int k n] → AV.on (fun _ => False) x ∧ ∀ vs, x ≠ .tuple vs := fun x hx => by
  simp only [List.mem_singleton] at hx; subst hx; exact ⟨trivial, fun vs h => by cases h⟩
theorem nil_args {ws : List AV} (ha : ∀ x, x ∈ ws → AV.on (fun _ => False) x ∧ ∀ vs, x ≠ .tuple vs) : ∀ x, x ∈ AV.nilptr :: ws → AV.on (fun _ => False) x ∧ ∀ vs, x ≠ .tuple vs := by
  intro x hx
  rcases List.mem_cons.1 hx with rfl | hx
  · exact ⟨trivial, fun vs h => by cases h⟩
  · exact ha x hx

theorem fok22 : fnOk Try.prog 22 = true := by kernel_rfl
theorem fok6 : fnOk Try.prog 6 = true := by kernel_rfl
def hasP (L : List Pg) (no : Int) : Bool := decide (0 ≤ no) && decide (no < (L.length : Int))
theorem has_nil (no : Int) : ACall Try.prog 22 [.nilptr, .int .i64 no] [] (.bool false) [] := by
  refine ACall.run (Z := Z) (N := 20) mixed hZ Try.func22 rfl rfl (by kernel_rfl) (by simp) (nil_args int_arg) 0 ?_
  simp -dsimp -implicitDefEqProofs only [↓j0, ↓j1, ↓j2, ↓j7, ↓j10, ↓j12, ↓j15, j17, j18, j20, ↓j25, ↓j29, ↓j30, j32, j35, ↓j38, ↓j39, ↓j40, ↓j48, j82, ↓j145, ↓j146, ↓j148, ↓j150, argEnv, j163, j164, j172, j175, reduceCtorEq, ↓reduceIte, Nat.reduceEqDiff, j193, j196, j212, ↓j236, j266]
  exact Final.one (.inr rfl) (r := .tmp 4) rfl ⟨rfl, fun vs h => by cases h⟩ (fun vs h => by cases h) (fun vs h => by cases h) (.same _ trivial)
theorem has_spec (L : List Pg) (last : Nat) (no : Int) : ACall Try.prog 22 [.ptr 1 0 [], .int .i64 no] (roomH L last) (.bool (hasP L no)) (roomH L last) := by
  refine ACall.runH (Z := Z) (N := 20) mixed hZ Try.func22 rfl rfl (by kernel_rfl) (by simp) (room_args int_arg) (room_on _ (by simp)) 2 room_lt ?_
  simp -dsimp -implicitDefEqProofs only [↓j0, ↓j1, ↓j2, ↓j7, ↓j12, ↓j15, j17, j18, j20, ↓j25, ↓j29, ↓j30, j32, j33, j35, ↓j38, ↓j39, ↓j40, ↓j48, j83, ↓j89, ↓j145, ↓j146, ↓j147, ↓j150, j162, argEnv, j163, j164, j171, j175, reduceCtorEq, ↓reduceIte, Nat.reduceEqDiff, j185, j196, j212, ↓j235, j266]
  have ret : ∀ (b : Bool) (t : Env) (m : Nat), b = hasP L no → look t 4 = some (.bool b) → Final Try.prog Try.f22 (.bool (hasP L no)) (roomH L last) .ret ⟨20, t, roomH L last, m⟩ := fun b t m hb h =>
    Final.oneH (.inr rfl) (r := .tmp 4) rfl ⟨hb ▸ h, fun vs h => by cases h⟩ (fun vs h => by cases h) (fun vs h => by cases h) (.same _ trivial) (room_keep rfl rfl)
  refine ⟨fun h => ?_, fun h => ?_⟩
  · simp -dsimp -implicitDefEqProofs only [↓j0, ↓j1, ↓j2, ↓j10, j17, j18, j20, ↓j25, ↓j27, ↓j29, ↓j30, j32, ↓j38, ↓j39, ↓j40, ↓j43, ↓j45, ↓j48, ↓j56, ↓j58, ↓j61, ↓j76, ↓j79, j83, ↓j89, j135, j143, ↓j145, ↓j146, ↓j147, ↓j150, ↓j153, j159, AV.proj, AV.offOf, AV.sizeL, j163, j164, j167, j171, j175, reduceCtorEq, ↓reduceIte, Nat.reduceEqDiff, j182, j185, j197, j271, j358, j413, h]
    refine ret _ _ _ ?_ rfl
    rw [hasP, h, Bool.true_and]
  · simp -dsimp -implicitDefEqProofs only [↓j0, ↓j1, ↓j2, ↓j10, j17, j18, j20, ↓j25, ↓j29, ↓j30, j32, ↓j39, ↓j40, j82, ↓j145, ↓j148, ↓j150, j163, j164, j171, j175, ↓reduceIte, Nat.reduceEqDiff, h]
    refine ret _ _ _ ?_ rfl
    rw [hasP, h, Bool.false_and]

theorem map_replicate_pg (k : Nat) : (List.replicate k ((0, []) : Pg)).map Pg.av = List.replicate k (undoAV 0 []) := by
  rw [List.map_replicate]
abbrev L0 (k : Nat) : List Pg := List.replicate k (0, [])
theorem new_bad (n : Int) (h : n < 1 ∨ 32 < n) : ACall Try.prog 6 [.int .i64 n] [] .nilptr [] := by
  refine ACall.run (Z := Z) (N := 13) mixed hZ Try.func6 rfl rfl (by kernel_rfl) (by simp) int_arg 0 ?_
  simp -dsimp -implicitDefEqProofs only [↓j0, ↓j1, ↓j2, ↓j7, ↓j12, ↓j15, j17, j18, j20, ↓j25, ↓j29, ↓j30, j33, j35, ↓j38, ↓j39, ↓j48, ↓j89, ↓j145, ↓j146, ↓j151, j159, argEnv, j163, j164, j172, j175, reduceCtorEq, ↓reduceIte, j185]
  have ret : ∀ (t : Env) (H : Heap) (m : Nat), look t 2 = some .nilptr → Final Try.prog Try.f6 .nilptr [] .ret ⟨13, t, H, m⟩ := fun t H m h =>
    Final.one (.inr rfl) (r := .tmp 2) rfl ⟨h, fun vs h => by cases h⟩ (fun vs h => by cases h) (fun vs h => by cases h) (.same _ trivial)
  refine ⟨fun h1 => ?_, fun h1 => ?_⟩
  · simp -dsimp -implicitDefEqProofs only [↓j0, ↓j1, ↓j2, ↓j7, ↓j10, ↓j12, ↓j13, ↓j15, j17, j18, j20, ↓j25, ↓j29, ↓j30, j32, j35, ↓j39, ↓j40, j81, ↓j145, ↓j147, ↓j149, ↓j151, j163, j164, j172, j175, ↓reduceIte, Nat.reduceEqDiff, h1]
    exact ret _ _ _ rfl
  · have h1' := of_decide_eq_false h1
    have h2 : decide (32 < n) = true := decide_eq_true (by omega)
    simp -dsimp -implicitDefEqProofs only [↓j0, ↓j1, ↓j2, ↓j7, ↓j10, ↓j12, ↓j13, ↓j15, j17, j18, j20, ↓j25, ↓j29, ↓j30, j32, j33, j35, ↓j38, ↓j39, ↓j40, ↓j48, j83, ↓j89, ↓j145, ↓j146, ↓j147, ↓j148, ↓j149, ↓j151, j161, j163, j164, j172, j175, reduceCtorEq, ↓reduceIte, Nat.reduceEqDiff, j185, j195, h1, h2]
    exact ret _ _ _ rfl
theorem new_spec (k : Nat) (h1 : 1 ≤ k) (h32 : k ≤ 32) : ACall Try.prog 6 [.int .i64 k] [] (.ptr 1 0 []) (roomH (L0 k) 0) := by
  refine ACall.run (Z := Z) (N := 13) mixed hZ Try.func6 rfl rfl (by kernel_rfl) (by simp) int_arg 0 ?_
  have d1 : decide ((k : Int) < 1) = false := decide_eq_false (by omega)
  have d2 : decide (32 < (k : Int)) = false := decide_eq_false (by omega)
  simp -dsimp -implicitDefEqProofs only [↓j0, ↓j1, ↓j2, ↓j7, ↓j9, ↓j12, ↓j13, ↓j15, j17, j18, j20, ↓j25, ↓j29, ↓j30, j32, j33, j35, ↓j38, ↓j39, ↓j40, ↓j48, ↓j75, j83, j88, ↓j89, ↓j145, ↓j146, ↓j148, ↓j149, ↓j151, j159, j161, argEnv, j163, j164, j172, j175, reduceCtorEq, ↓reduceIte, Nat.reduceEqDiff, j184, j185, j195, j208, j232, j388, d1, d2]
  refine ⟨by omega, ?_⟩
  simp -dsimp -implicitDefEqProofs only [↓j0, ↓j1, ↓j10, j17, j18, j20, ↓j25, ↓j29, ↓j39, ↓j42, ↓j54, ↓j124, j125, j126, j127, j128, ↓j145, ↓j146, partsAV, AV.size, AV.sizeL, AV.layable, j163, j167, j169, j170, j171, j172, j179, j180, ↓reduceIte, Nat.reduceAdd, j182, j183, j196, j207, j213, j214, j215, j217, j359, j404]
  have e : (L0 k).length = k := List.length_replicate
  refine Final.oneH (.inr rfl) (r := .tmp 2) rfl ⟨rfl, fun vs h => by cases h⟩ (fun vs h => by cases h) (fun vs h => by cases h) (.same _ (show Heap.get (roomH (L0 k) 0) 1 ≠ none by simp [Heap.get])) (room_keep ?_ ?_)
  · show some _ = some _
    rw [roomB, e]; rfl
  · show some _ = some _
    rw [listB, map_replicate_pg]; rfl
end Go.Proofs.Ytlagoaggllhggaa
