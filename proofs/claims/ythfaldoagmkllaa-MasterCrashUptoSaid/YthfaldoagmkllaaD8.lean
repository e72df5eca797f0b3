/- Plan; filled blocks; copied lists. -/
import Derived.Test.YthfaldoagmkllaaD7
set_option linter.unusedVariables false
set_option linter.unusedSimpArgs false
namespace Go.Proofs.Ythfaldoagmkllaa
open Go Go.RowKit

def plN (fs : List Int) : Nat → List (Int × Bool)
  | 0 => []
  | i + 1 => match fs[i]? with
    | some f => aPut (plN fs i) f true
    | none => plN fs i
def DS.planP (d : DS) (fs : List Int) (fuse : Int) : DS := { d with ops := 0, fuse := fuse, fails := some (plN fs fs.length) }
theorem plN_ok {fs : List Int} (h : ∀ f, f ∈ fs → flOk f) : ∀ i, ((plN fs i).map (·.1)).Nodup ∧ ∀ e, e ∈ plN fs i → flOk e.1
  | 0 => ⟨by simp [plN], fun e h => by simp [plN] at h⟩
  | i + 1 => by
    obtain ⟨h1, h2⟩ := plN_ok h i
    simp only [plN]
    cases hf : fs[i]? with
    | none => exact ⟨h1, h2⟩
    | some f =>
      refine ⟨aPut_nodup _ _ h1, fun e he => ?_⟩
      rcases aPut_mem he with rfl | h3
      · exact h f (List.mem_of_getElem? hf)
      · exact h2 e h3
theorem plan_ok {d : DS} (hd : d.Ok) {fs : List Int} (h : ∀ f, f ∈ fs → flOk f) (fuse : Int) : (d.planP fs fuse).Ok :=
  ⟨hd.n1, hd.n2, hd.sure, hd.seen, hd.pend, hd.sureN, hd.seenN, hd.few, fun f hf => by cases hf; exact plN_ok h _, Nat.zero_le _⟩
abbrev intsAV (l : List Int) : AV := .vsl (l.map (.int .i64)) l.length
theorem on_ints (S : Nat → Prop) (l : List Int) : AV.onL S (l.map (.int .i64)) := by
  rw [AV.onL_iff]
  intro x hx
  obtain ⟨o, _, rfl⟩ := List.mem_map.1 hx
  trivial
theorem unif_ints (l : List Int) : Unif 1 (l.map (.int .i64)) := fun x hx => by
  obtain ⟨o, _, rfl⟩ := List.mem_map.1 hx; rfl
theorem args_li {l : List Int} {b : Int} : ∀ y, y ∈ [intsAV l, .int .i64 b] → AV.on (fun _ => False) y ∧ ∀ vs, y ≠ .tuple vs := fun y hy => by
  simp only [List.mem_cons, List.not_mem_nil, or_false] at hy
  rcases hy with rfl | rfl
  · exact ⟨on_ints _ _, fun vs h => by cases h⟩
  · exact ⟨trivial, fun vs h => by cases h⟩
theorem fok21 : fnOk Try.prog 21 = true := by kernel_rfl
theorem nm5 : Nm 2 5 4 := ⟨by omega, by omega, by omega, by omega, by omega, by omega⟩
def plSt (d : DS) (fs : List Int) (fuse : Int) (i : Nat) : St := ⟨33, [(23, .int .i64 i), (22, .int .i64 fs.length), (21, intsAV fs), (0, .ptr 0 0 [])], (5, .map (mapE flK flV (plN fs i))) :: (0, .cells (.agg [.int .i64 d.n, .mapv 1, .mapv 2, pendV d.pend 4, .mapv 5, .int .i64 fuse, .int .i64 0, .bool d.down])) :: (1, mapB d.sure) :: (2, mapB d.seen) :: (failB d.fails 3 ++ pendB d.pend 4), 6⟩
theorem plan_spec (d : DS) (hd : d.Ok) (fs : List Int) (hf : ∀ f, f ∈ fs → flOk f) (hl : fs.length ≤ 9223372036854775807) (fuse : Int) : ACall Try.prog 21 [.ptr 0 0 [], intsAV fs, .int .i64 fuse] (diskH0 d) (.tuple []) (diskH (d.planP fs fuse) 2 5 4) := by
  refine ACall.runH (Z := Z) (N := 33) mixed hZ Try.func21 rfl rfl (by kernel_rfl) (by simp) (disk_args args_li) (disk_on fun _ h => h) 5 disk_lt ?_
  simp -dsimp -implicitDefEqProofs only [↓j0, ↓j1, ↓j7, ↓j9, ↓j12, ↓j13, ↓j14, ↓j15, ↓j16, j17, j18, j19, j20, j21, j23, ↓j25, ↓j27, ↓j29, ↓j30, j33, j35, ↓j38, ↓j44, ↓j45, ↓j48, ↓j56, ↓j58, ↓j62, ↓j66, ↓j78, ↓j79, j142, ↓j145, ↓j146, ↓j148, ↓j149, ↓j153, AV.proj, AV.offOf, AV.upd, AV.size, AV.sizeL, AV.layable, argEnv, j163, j164, j166, j167, j168, j169, j170, j171, reduceCtorEq, ↓reduceIte, Nat.reduceAdd, Nat.reduceEqDiff, j182, j188, j189, j196, j197, j211, ↓j235, j249, j319, j355, j372, j375, j378, j469, size_pendV, size_failV, del_app, del_pendB, del_failB]
  refine AWp.loopR (Z := Z) mixed hZ (by kernel_rfl) (fun k s => ∃ i, i + k = fs.length ∧ s = plSt d fs fuse i) (n0 := fs.length) (s0 := plSt d fs fuse 0) ?_ ⟨0, by omega, rfl⟩ ?_ rfl
  · refine Wk.mk (SubT.spec (t0 := (plSt d fs fuse 0).t) ?_) (fun n b h => ?_) (Nat.le_refl _) rfl
    · simp -dsimp -implicitDefEqProofs only [↓j25, j179, reduceCtorEq, ↓reduceIte, Nat.reduceEqDiff, j182, j183, j184, j202, j203, j209, plSt] <;> simp
    · simp only [plSt, plN, mapE, List.map_nil, Heap.get] at h ⊢
      by_cases h0 : n = 0
      · subst h0; simpa using h
      · by_cases h5 : n = 5
        · subst h5; simpa using h
        · simpa [h0, h5] using h
  rintro k s ⟨i, hi, rfl⟩
  refine ⟨rfl, ?_⟩
  rcases Nat.lt_or_ge i fs.length with hlt | hge
  · obtain ⟨f, hfi⟩ := list_get hlt
    have hfo := hf f (List.mem_of_getElem? hfi)
    have hdi : decide ((i : Int) < (fs.length : Int)) = true := decide_eq_true (by omega)
    have hix : (i : Int) < (fs.length : Int) := by omega
    have hsz : AV.sizeL ((fs.map (.int .i64)).take i) = i * 1 := (unif_ints fs).sizeL_take (by simp; omega)
    have hw2 : IntKind.i64.wrap ((i : Int) + 1) = ((i + 1 : Nat) : Int) := by rw [wrap_i64 (by omega) (by omega)]; omega
    obtain ⟨p1, p2⟩ := plN_ok hf i
    have hup : mput (mapE flK flV (plN fs i)) (flK f) (flV true) = mapE flK flV (plN fs (i + 1)) := by
      rw [mput_map keyInj3 hfo p2 true]
      simp only [plN, hfi]
    simp -dsimp -implicitDefEqProofs only [↓j0, ↓j1, ↓j7, ↓j9, ↓j12, ↓j13, ↓j14, ↓j15, j17, j18, j20, ↓j25, ↓j27, ↓j29, ↓j30, j32, ↓j38, ↓j39, ↓j43, ↓j45, ↓j46, ↓j48, ↓j56, ↓j65, ↓j76, ↓j77, ↓j79, ↓j89, ↓j92, j130, j138, ↓j145, ↓j146, ↓j147, ↓j149, ↓j153, j159, AV.proj, AV.offOf, AV.size, AV.sizeL, j163, j164, j166, j167, j171, j177, reduceCtorEq, ↓reduceIte, Nat.reduceAdd, Nat.reduceEqDiff, j182, j185, j191, j196, j197, j206, j207, j208, j250, j322, j356, j372, plSt, hix, hsz, hfi, size_pendV]
    refine DoMapUpdate_own (k := flK f) Try.underlying76 rfl keyed3 (isKey3 hfo) (goodF p1 p2) (fun vs h => by cases h) hup ?_
    simp -dsimp -implicitDefEqProofs only [↓j0, ↓j1, ↓j7, ↓j15, j17, j18, j19, j20, j21, j23, ↓j25, ↓j29, ↓j30, j33, ↓j38, ↓j48, ↓j89, ↓j145, ↓j146, j154, j170, j171, reduceCtorEq, ↓reduceIte, Nat.reduceEqDiff, j185, j188, j189, hw2, del_app, del_pendB, del_failB]
    exact ⟨k - 1, plSt d fs fuse (i + 1), by omega, ⟨i + 1, by omega, rfl⟩, Wk.mk (SubT.spec (t0 := (plSt d fs fuse (i + 1)).t) (by simp -dsimp -implicitDefEqProofs only [↓j25, reduceCtorEq, ↓reduceIte, Nat.reduceEqDiff, j182, j202, j203, plSt])) (fun n b h => h) (Nat.le_refl _) rfl⟩
  · have hie : i = fs.length := by omega
    subst hie
    have hdi : decide ((fs.length : Int) < (fs.length : Int)) = false := decide_eq_false (by omega)
    simp -dsimp -implicitDefEqProofs only [↓j0, ↓j1, ↓j7, ↓j11, ↓j12, ↓j13, ↓j15, j17, j18, j20, ↓j25, ↓j29, ↓j48, ↓j89, ↓j145, ↓j146, ↓j148, ↓j149, j159, j171, ↓reduceIte, Nat.reduceEqDiff, j185, plSt, hdi]
    refine Final.manyH (.inl rfl) (rs := []) (us := []) rfl trivial (by simp) trivial (disk_keep rfl rfl rfl (fun f hf => by cases hf; rfl) (fun hp => ?_))
    have hp' : d.pend ≠ [] := hp
    simp [Heap.get, get_append, get_failB, pendB_eq hp', DS.planP]

def filL (b n : Nat) : List UInt8 := (List.range n).map fun i => UInt8.ofNat (b + i / 64)
theorem filL_len (b n : Nat) : (filL b n).length = n := by simp [filL]
def fiSt (b i : Nat) : St := ⟨17, [(4, .int .i64 i), (0, .int .u8 b), (3, .ptr 1 0 []), (2, .ptr 0 0 [])], [(1, .cells (arrAV (filL b i ++ zb (256 - i)))), (0, .cells (arrAV (zb 256)))], 2⟩
theorem args_bl {l : List Bool} : ∀ y, y ∈ [boolsAV l] → AV.on (fun _ => False) y ∧ ∀ vs, y ≠ .tuple vs := fun y hy => by
  simp only [List.mem_singleton] at hy; subst hy; exact ⟨on_bools _ _, fun vs h => by cases h⟩
end Go.Proofs.Ythfaldoagmkllaa
