/- The law RingJoins. -/
import Derived.Test.YtbhhbadeabhfcaaC25
set_option linter.unusedVariables false
set_option linter.unusedSimpArgs false
namespace Go.Proofs.Ytbhhbadeabhfcaa
open Go Go.RowKit

theorem jGo_len {first base : Nat} : ∀ (l : List Ch) (i : Nat) (b : List UInt8) (ss : List Sr) (e : Nat), (jGo first base l i b ss e).2.1.length ≤ ss.length + l.length
  | [], i, b, ss, e => by simp [jGo]
  | c :: r, i, b, ss, e => by
    rw [jGo]
    split
    · simp
    · have := jGo_len (first := first) (base := base) r (i + 1) (b.take (c.off - base) ++ c.by_) (ss ++ [((c.no : Int), (c.off : Int))]) c.ep
      simp only [List.length_append, List.length_cons, List.length_nil] at this ⊢; omega
theorem joinP_len (first : Nat) (l : List Ch) : (joinP first l).2.2.1.length ≤ l.length := by
  cases l with
  | nil => simp [joinP]
  | cons c r =>
    rw [joinP]
    split
    · simp
    · have := jGo_len (first := first) (base := c.off) (c :: r) 0 [] [] 0
      simpa using this
theorem fok22 : fnOk Try.prog 22 = true := by kernel_rfl
theorem fok23 : fnOk Try.prog 23 = true := by kernel_rfl
theorem fok24 : fnOk Try.prog 24 = true := by kernel_rfl
def rljSt (first : Nat) (l : List Ch) (r : JR) (i : Nat) : St := ⟨73, [(31, .int .i64 i), (30, .int .i64 l.length), (5, rowC l), (6, .int .u64 r.1), (7, .str ⟨r.2.1.toArray⟩), (8, rowS r.2.2.1), (9, .int .u32 r.2.2.2), (0, .int .u32 first), (1, rowC l), (4, .bool false)], [], 0⟩
theorem ringJoins_spec (first : Nat) (l : List Ch) (hf : first < 4294967296) (hll : l.length ≤ 9223372036854775807) (hw : AllWf l) (hs : sumB l ≤ 1048576) : ACall Try.prog 7 [.int .u32 (first : Int), rowC l] [] (.bool true) [] := by
  refine ACall.run (Z := Z) (N := 73) mixed hZ Try.func7 rfl rfl (by kernel_rfl) (by simp) args_join 0 ?_
  have ret : ∀ (t : Env) (H : Heap) (m : Nat), look t 4 = some (.bool true) → Final Try.prog Try.f7 (.bool true) [] .ret ⟨73, t, H, m⟩ := fun t H m h =>
    Final.one (.inr rfl) (r := .tmp 4) rfl ⟨h, fun vs h => by cases h⟩ (fun vs h => by cases h) (fun vs h => by cases h) (.same _ trivial)
  have nil0 : ∀ x : AV, x ∈ ([] : List AV) → ∀ vs, x ≠ .tuple vs := fun x hx => by simp at hx
  simp -dsimp -implicitDefEqProofs only [↓j0, ↓j1, ↓j7, ↓j12, ↓j13, ↓j15, j17, j18, j20, ↓j25, ↓j29, ↓j30, j32, j33, ↓j38, ↓j39, ↓j48, ↓j58, ↓j76, j126, ↓j129, ↓j130, ↓j133, j145, argEnv, j156, reduceCtorEq, ↓reduceIte, Nat.reduceEqDiff, j169, j180, j400]
  refine ⟨fun h100 => ?_, fun h100 => ?_⟩
  · simp -dsimp -implicitDefEqProofs only [↓j1, ↓j7, ↓j12, ↓j15, ↓j53]
    refine CallTo.pure (args := []) rfl fok14 rfl nil0 awake_spec ?_
    simp -dsimp -implicitDefEqProofs only [↓j0, ↓j1, ↓j10, j17, j18, j20, ↓j25, ↓j29, ↓j39, ↓j129, j156, ↓reduceIte]
    exact ret _ _ _ rfl
  have h100' := of_decide_eq_false h100
  have hl : l.length ≤ 100 := by omega
  have hk := kept_spec l hl
  have hj := join_spec first l hf hl hw hs
  have hr := rjoin_spec first l hf hl hw hs
  have hjl := joinP_len first l
  obtain ⟨r, hre⟩ : ∃ r, joinP first l = r := ⟨_, rfl⟩
  rw [hre] at hj hr hjl
  obtain ⟨ra, rb, rs, rn⟩ := r
  simp only at hjl
  have hsm := same_spec rs rs (by omega)
  simp -dsimp -implicitDefEqProofs only [↓j1, ↓j7, ↓j9, ↓j12, ↓j15, j17, j18, j20, ↓j25, ↓j29, ↓j38, ↓j53, ↓j129, j156, reduceCtorEq, ↓reduceIte, Nat.reduceEqDiff]
  refine CallTo.pure (args := [rowC l]) rfl fok22 (by simp -dsimp -implicitDefEqProofs only [↓j25, ↓j29, j157, j158, ↓reduceIte]) (fun x hx => (args_chs x hx).2) hk ?_
  simp -dsimp -implicitDefEqProofs only [↓j0, ↓j1, ↓j7, ↓j12, ↓j15, j17, j18, j20, ↓j25, ↓j29, ↓j38, ↓j39, ↓j53, ↓j129, j156, reduceCtorEq, ↓reduceIte, Nat.reduceEqDiff]
  refine CallTo.pure (args := [.int .u32 (first : Int), rowC l]) rfl fok23 (by simp -dsimp -implicitDefEqProofs only [↓j25, ↓j29, j157, j158, ↓reduceIte, Nat.reduceEqDiff]) (fun x hx => (args_join x hx).2) hj ?_
  simp -dsimp -implicitDefEqProofs only [↓j0, ↓j1, ↓j7, ↓j12, ↓j14, ↓j15, ↓j16, j17, j18, j20, ↓j25, ↓j29, ↓j30, j33, ↓j38, ↓j39, ↓j57, ↓j58, j72, j126, ↓j129, j147, j148, j156, ↓reduceIte, Nat.reduceEqDiff, j400]
  refine AWp.loopR (Z := Z) mixed hZ (by kernel_rfl) (fun n s => ∃ i, i + n = l.length ∧ s = rljSt first l (ra, rb, rs, rn) i) (n0 := l.length) (s0 := rljSt first l (ra, rb, rs, rn) 0) ?_ ⟨0, by omega, rfl⟩ ?_ rfl
  · exact Wk.sub (by simp -dsimp -implicitDefEqProofs only [↓j25, j163, reduceCtorEq, ↓reduceIte, Nat.reduceEqDiff, j166, j167, j168, j186, j187, j188, j193, j207] <;> simp)
  rintro n s ⟨i, hi, rfl⟩
  refine ⟨rfl, ?_⟩
  rcases Nat.lt_or_ge i l.length with hlt | hge
  · have hd : decide ((i : Int) < (l.length : Int)) = true := decide_eq_true (by omega)
    have hlt1 : (i : Int) < (l.length : Int) := by omega
    obtain ⟨y, hy⟩ := list_get (xs := l) (i := i) (by omega)
    have hsz := sizeL_ch l i (by omega)
    have hw1 : IntKind.i64.wrap ((i : Int) + 1) = ((i + 1 : Nat) : Int) := by rw [wrap_i64 (by omega) (by omega)]; omega
    have hcc := cellsEq_ch y
    simp -dsimp -implicitDefEqProofs only [↓j0, ↓j1, ↓j3, ↓j4, ↓j7, ↓j8, ↓j9, ↓j12, ↓j13, ↓j14, ↓j15, j17, j18, j20, j24, ↓j25, ↓j29, ↓j38, ↓j39, ↓j43, ↓j46, ↓j48, ↓j64, ↓j76, ↓j78, ↓j79, j116, ↓j129, ↓j130, ↓j131, ↓j133, j143, AV.proj, AV.offOf, AV.size, AV.sizeL, AV.flat, AV.flatL, j154, j155, j156, j157, j158, j161, reduceCtorEq, ↓reduceIte, Nat.reduceAdd, Nat.reduceEqDiff, j166, j169, j175, j177, j181, j190, j191, j192, j196, kindOf, j246, j247, j260, j261, j301, rljSt, hlt1, hy, hsz, hcc]
    refine ⟨by kernel_rfl, ?_⟩
    simp -dsimp -implicitDefEqProofs only [↓j0, ↓j1, ↓j7, ↓j9, ↓j13, ↓j15, j17, j18, j20, ↓j25, ↓j29, ↓j30, j33, ↓j38, ↓j48, ↓j76, ↓j129, ↓j130, ↓j132, ↓j133, j138, j156, ↓reduceIte, Nat.reduceEqDiff, j169]
    exact ⟨n - 1, rljSt first l (ra, rb, rs, rn) (i + 1), by omega, ⟨i + 1, by omega, rfl⟩, Wk.sub (by simp -dsimp -implicitDefEqProofs only [↓j25, reduceCtorEq, ↓reduceIte, Nat.reduceEqDiff, j166, j186, j187, j188, j207, hw1] <;> simp)⟩
  · have hd : decide ((i : Int) < (l.length : Int)) = false := decide_eq_false (by omega)
    have hst : strEq ⟨rb.toArray⟩ ⟨rb.toArray⟩ = true := strEq_iff.2 rfl
    have hss : (rs == rs) = true := by simp
    have e1 : ((ra : Int) == (ra : Int)) = true := by simp
    have e2 : ((rn : Int) == (rn : Int)) = true := by simp
    rw [hss] at hsm
    simp -dsimp -implicitDefEqProofs only [↓j0, ↓j1, ↓j7, ↓j11, ↓j12, ↓j13, ↓j15, j17, j18, j20, ↓j25, ↓j29, ↓j38, ↓j48, ↓j53, ↓j76, ↓j129, ↓j130, ↓j132, ↓j133, j143, j156, reduceCtorEq, ↓reduceIte, Nat.reduceEqDiff, j169, rljSt, hd]
    refine CallTo.pure (args := [.int .u32 (first : Int), rowC l]) rfl fok24 (by simp -dsimp -implicitDefEqProofs only [↓j25, ↓j29, j157, j158, ↓reduceIte, Nat.reduceEqDiff]) (fun x hx => (args_join x hx).2) hr ?_
    simp -dsimp -implicitDefEqProofs only [↓j0, ↓j1, ↓j2, ↓j7, ↓j12, ↓j15, j17, j18, j20, ↓j25, ↓j29, ↓j30, j32, ↓j38, ↓j39, ↓j40, ↓j48, ↓j53, ↓j57, j70, j72, ↓j76, j102, ↓j107, ↓j129, ↓j130, ↓j131, ↓j134, j141, j147, j148, j156, j159, ↓reduceIte, Nat.reduceEqDiff, j169, hst, e1]
    refine CallTo.pure (args := [rowS rs, rowS rs]) rfl fok16 (by simp -dsimp -implicitDefEqProofs only [↓j25, ↓j29, j157, j158, ↓reduceIte, Nat.reduceEqDiff]) (fun x hx => (args_ss x hx).2) hsm ?_
    simp -dsimp -implicitDefEqProofs only [↓j1, ↓j2, j17, j18, j20, ↓j25, ↓j29, ↓j30, j32, ↓j38, ↓j40, ↓j48, ↓j53, j70, ↓j76, ↓j129, ↓j130, ↓j131, ↓j134, j141, j147, j148, j156, j159, ↓reduceIte, Nat.reduceEqDiff, j169, e2]
    refine CallTo.pure (args := []) rfl fok14 rfl nil0 awake_spec ?_
    simp -dsimp -implicitDefEqProofs only [↓j0, ↓j1, ↓j10, j17, j18, j20, ↓j25, ↓j29, ↓j30, j32, ↓j39, ↓j40, j70, ↓j129, j156, ↓reduceIte, Nat.reduceEqDiff]
    exact ret _ _ _ rfl
end Go.Proofs.Ytbhhbadeabhfcaa
