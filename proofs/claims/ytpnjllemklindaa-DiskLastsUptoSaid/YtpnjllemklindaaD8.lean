/- Plan; filled blocks; copied lists. -/
import Derived.Test.YtpnjllemklindaaD7
set_option linter.unusedVariables false
set_option linter.unusedSimpArgs false
namespace Go.Proofs.Ytpnjllemklindaa
open Go Go.RowKit

def plN (fs : List Int) : Nat → List (Int × Bool)
  | 0 => []
  | i + 1 => match fs[i]? with
    | some f => aPut (plN fs i) f true
    | none => plN fs i
def DS.planP (d : DS) (fs : List Int) (fuse : Int) : DS := { d with ops := 0, fuse := fuse, fails := some (plN fs fs.length) }
theorem plN_ok {fs : List Int} (h : ∀ f, f ∈ fs → flOk f) : ∀ i, ((plN fs i).map (·.1)).Nodup ∧ ∀ e, e ∈ plN fs i → flOk e.1
  | 0 => ⟨by simp [plN], fun e h => by simp [plN] at h⟩
  | i + 1 => by
    obtain ⟨h1, h2⟩ := plN_ok h i
    simp only [plN]
    cases hf : fs[i]? with
    | none => exact ⟨h1, h2⟩
    | some f =>
      refine ⟨aPut_nodup _ _ h1, fun e he => ?_⟩
      rcases aPut_mem he with rfl | h3
      · exact h f (List.mem_of_getElem? hf)
      · exact h2 e h3
theorem plan_ok {d : DS} (hd : d.Ok) {fs : List Int} (h : ∀ f, f ∈ fs → flOk f) (fuse : Int) : (d.planP fs fuse).Ok :=
  ⟨hd.n1, hd.n2, hd.sure, hd.seen, hd.pend, hd.sureN, hd.seenN, hd.few, fun f hf => by cases hf; exact plN_ok h _, Nat.zero_le _⟩
abbrev intsAV (l : List Int) : AV := .vsl (l.map (.int .i64)) l.length
theorem on_ints (S : Nat → Prop) (l : List Int) : AV.onL S (l.map (.int .i64)) := by
  rw [AV.onL_iff]
  intro x hx
  obtain ⟨o, _, rfl⟩ := List.mem_map.1 hx
  trivial
theorem unif_ints (l : List Int) : Unif 1 (l.map (.int .i64)) := fun x hx => by
  obtain ⟨o, _, rfl⟩ := List.mem_map.1 hx; rfl
theorem args_li {l : List Int} {b : Int} : ∀ y, y ∈ [intsAV l, .int .i64 b] → AV.on (fun _ => False) y ∧ ∀ vs, y ≠ .tuple vs := fun y hy => by
  simp only [List.mem_cons, List.not_mem_nil, or_false] at hy
  rcases hy with rfl | rfl
  · exact ⟨on_ints _ _, fun vs h => by cases h⟩
  · exact ⟨trivial, fun vs h => by cases h⟩
theorem fok19 : fnOk Try.prog 19 = true := by kernel_rfl
theorem nm5 : Nm 2 5 4 := ⟨by omega, by omega, by omega, by omega, by omega, by omega⟩
def plSt (d : DS) (fs : List Int) (fuse : Int) (i : Nat) : St := ⟨33, [(23, .int .i64 i), (22, .int .i64 fs.length), (21, intsAV fs), (0, .ptr 0 0 [])], (5, .map (mapE flK flV (plN fs i))) :: (0, .cells (.agg [.int .i64 d.n, .mapv 1, .mapv 2, pendV d.pend 4, .mapv 5, .int .i64 fuse, .int .i64 0, .bool d.down])) :: (1, mapB d.sure) :: (2, mapB d.seen) :: (failB d.fails 3 ++ pendB d.pend 4), 6⟩
theorem plan_spec (d : DS) (hd : d.Ok) (fs : List Int) (hf : ∀ f, f ∈ fs → flOk f) (hl : fs.length ≤ 9223372036854775807) (fuse : Int) : ACall Try.prog 19 [.ptr 0 0 [], intsAV fs, .int .i64 fuse] (diskH0 d) (.tuple []) (diskH (d.planP fs fuse) 2 5 4) := by
  refine ACall.runH (Z := Z) (N := 33) mixed hZ Try.func19 rfl rfl (by kernel_rfl) (by simp) (disk_args args_li) (disk_on fun _ h => h) 5 disk_lt ?_
  simp -dsimp -implicitDefEqProofs only [↓j0, ↓j1, ↓j7, ↓j9, ↓j12, ↓j13, ↓j14, ↓j15, ↓j16, j17, j18, j19, j20, j21, j23, ↓j25, ↓j27, ↓j29, ↓j30, j33, j35, ↓j38, ↓j44, ↓j45, ↓j48, ↓j56, ↓j58, ↓j62, ↓j66, ↓j78, ↓j79, j142, ↓j145, ↓j146, ↓j148, ↓j149, ↓j153, AV.proj, AV.offOf, AV.upd, AV.size, AV.sizeL, AV.layable, argEnv, j163, j164, j166, j167, j168, j169, j170, j171, reduceCtorEq, ↓reduceIte, Nat.reduceAdd, Nat.reduceEqDiff, j182, j188, j189, j196, j197, j211, ↓j235, j249, j271, j359, j376, j379, j382, j501, size_pendV, size_failV, del_app, del_pendB, del_failB]
  refine AWp.loopR (Z := Z) mixed hZ (by kernel_rfl) (fun k s => ∃ i, i + k = fs.length ∧ s = plSt d fs fuse i) (n0 := fs.length) (s0 := plSt d fs fuse 0) ?_ ⟨0, by omega, rfl⟩ ?_ rfl
  · refine Wk.mk (SubT.spec (t0 := (plSt d fs fuse 0).t) ?_) (fun n b h => ?_) (Nat.le_refl _) rfl
    · simp -dsimp -implicitDefEqProofs only [↓j25, j179, reduceCtorEq, ↓reduceIte, Nat.reduceEqDiff, j182, j183, j184, j202, j203, j209, plSt] <;> simp
    · simp only [plSt, plN, mapE, List.map_nil, Heap.get] at h ⊢
      by_cases h0 : n = 0
      · subst h0; simpa using h
      · by_cases h5 : n = 5
        · subst h5; simpa using h
        · simpa [h0, h5] using h
  rintro k s ⟨i, hi, rfl⟩
  refine ⟨rfl, ?_⟩
  rcases Nat.lt_or_ge i fs.length with hlt | hge
  · obtain ⟨f, hfi⟩ := list_get hlt
    have hfo := hf f (List.mem_of_getElem? hfi)
    have hdi : decide ((i : Int) < (fs.length : Int)) = true := decide_eq_true (by omega)
    have hix : (i : Int) < (fs.length : Int) := by omega
    have hsz : AV.sizeL ((fs.map (.int .i64)).take i) = i * 1 := (unif_ints fs).sizeL_take (by simp; omega)
    have hw2 : IntKind.i64.wrap ((i : Int) + 1) = ((i + 1 : Nat) : Int) := by rw [wrap_i64 (by omega) (by omega)]; omega
    obtain ⟨p1, p2⟩ := plN_ok hf i
    have hup : mput (mapE flK flV (plN fs i)) (flK f) (flV true) = mapE flK flV (plN fs (i + 1)) := by
      rw [mput_map keyInj3 hfo p2 true]
      simp only [plN, hfi]
    simp -dsimp -implicitDefEqProofs only [↓j0, ↓j1, ↓j7, ↓j9, ↓j12, ↓j13, ↓j14, ↓j15, j17, j18, j20, ↓j25, ↓j27, ↓j29, ↓j30, j32, ↓j38, ↓j39, ↓j43, ↓j45, ↓j46, ↓j48, ↓j56, ↓j65, ↓j76, ↓j77, ↓j79, ↓j89, ↓j92, j130, j138, ↓j145, ↓j146, ↓j147, ↓j149, ↓j153, j159, AV.proj, AV.offOf, AV.size, AV.sizeL, j163, j164, j166, j167, j171, j177, reduceCtorEq, ↓reduceIte, Nat.reduceAdd, Nat.reduceEqDiff, j182, j185, j191, j196, j197, j206, j207, j208, j250, j291, j360, j376, plSt, hix, hsz, hfi, size_pendV]
    refine DoMapUpdate_own (k := flK f) Try.underlying63 rfl keyed3 (isKey3 hfo) (goodF p1 p2) (fun vs h => by cases h) hup ?_
    simp -dsimp -implicitDefEqProofs only [↓j0, ↓j1, ↓j7, ↓j15, j17, j18, j19, j20, j21, j23, ↓j25, ↓j29, ↓j30, j33, ↓j38, ↓j48, ↓j89, ↓j145, ↓j146, j154, j170, j171, reduceCtorEq, ↓reduceIte, Nat.reduceEqDiff, j185, j188, j189, hw2, del_app, del_pendB, del_failB]
    exact ⟨k - 1, plSt d fs fuse (i + 1), by omega, ⟨i + 1, by omega, rfl⟩, Wk.mk (SubT.spec (t0 := (plSt d fs fuse (i + 1)).t) (by simp -dsimp -implicitDefEqProofs only [↓j25, reduceCtorEq, ↓reduceIte, Nat.reduceEqDiff, j182, j202, j203, plSt])) (fun n b h => h) (Nat.le_refl _) rfl⟩
  · have hie : i = fs.length := by omega
    subst hie
    have hdi : decide ((fs.length : Int) < (fs.length : Int)) = false := decide_eq_false (by omega)
    simp -dsimp -implicitDefEqProofs only [↓j0, ↓j1, ↓j7, ↓j11, ↓j12, ↓j13, ↓j15, j17, j18, j20, ↓j25, ↓j29, ↓j48, ↓j89, ↓j145, ↓j146, ↓j148, ↓j149, j159, j171, ↓reduceIte, Nat.reduceEqDiff, j185, plSt, hdi]
    refine Final.manyH (.inl rfl) (rs := []) (us := []) rfl trivial (by simp) trivial (disk_keep rfl rfl rfl (fun f hf => by cases hf; rfl) (fun hp => ?_))
    have hp' : d.pend ≠ [] := hp
    simp [Heap.get, get_append, get_failB, pendB_eq hp', DS.planP]

theorem fok11 : fnOk Try.prog 11 = true := by kernel_rfl
theorem fok15 : fnOk Try.prog 15 = true := by kernel_rfl
def filL (b n : Nat) : List UInt8 := (List.range n).map fun i => UInt8.ofNat (b + i / 64)
theorem filL_len (b n : Nat) : (filL b n).length = n := by simp [filL]
def fiSt (b i : Nat) : St := ⟨17, [(4, .int .i64 i), (0, .int .u8 b), (3, .ptr 1 0 []), (2, .ptr 0 0 [])], [(1, .cells (arrAV (filL b i ++ zb (256 - i)))), (0, .cells (arrAV (zb 256)))], 2⟩
theorem filled_spec (b : Nat) (hb : b < 256) : ACall Try.prog 11 [.int .u8 b] [] (arrAV (filL b 256)) [] := by
  refine ACall.run (Z := Z) (N := 17) mixed hZ Try.func11 rfl rfl (by kernel_rfl) (by simp) args_i 0 ?_
  simp -dsimp -implicitDefEqProofs only [↓j0, ↓j1, ↓j7, ↓j12, ↓j14, ↓j15, ↓j16, j17, j18, j20, ↓j30, j33, ↓j39, ↓j41, ↓j145, argEnv, j170, j171, j172, Nat.reduceAdd, j196, j441]
  refine AWp.loopR (Z := Z) mixed hZ (by kernel_rfl) (fun k s => ∃ i, i + k = 256 ∧ s = fiSt b i) (n0 := 256) (s0 := fiSt b 0) ?_ ⟨0, by omega, rfl⟩ ?_ rfl
  · exact Wk.sub (by simp -dsimp -implicitDefEqProofs only [↓j25, ↓j27, j179, reduceCtorEq, ↓reduceIte, Nat.reduceEqDiff, j182, j183, j184, j202, j203, j204, j205, j209, j223, j233] <;> simp [filL])
  rintro k s ⟨i, hi, rfl⟩
  refine ⟨rfl, ?_⟩
  have hll : (filL b i ++ zb (256 - i)).length = 256 := by rw [List.length_append, filL_len, zb_len]; omega
  rcases Nat.lt_or_ge i 256 with hlt | hge
  · have hdi : decide ((i : Int) < 256) = true := decide_eq_true (by omega)
    have hix : (i : Int) < ((256 : Nat) : Int) := by omega
    have hw2 : IntKind.i64.wrap ((i : Int) + 1) = ((i + 1 : Nat) : Int) := by rw [wrap_i64 (by omega) (by omega)]; omega
    have w1 : IntKind.i64.wrap ((i : Int).tdiv 64) = ((i / 64 : Nat) : Int) := by
      rw [Int.tdiv_eq_ediv_of_nonneg (by omega), wrap_i64 (by omega) (by omega)]; omega
    have w3 : IntKind.u8.wrap ((i / 64 : Nat) : Int) = ((i / 64 : Nat) : Int) := by rw [wrap_u8, Nat.mod_eq_of_lt (by omega)]
    have w4 : IntKind.u8.wrap ((b : Int) + ((i / 64 : Nat) : Int)) = (((b + i / 64) % 256 : Nat) : Int) := by
      rw [show (b : Int) + ((i / 64 : Nat) : Int) = ((b + i / 64 : Nat) : Int) by omega, wrap_u8]
    have hset : ((filL b i ++ zb (256 - i)).map byteAV).set i (.int .u8 (((b + i / 64) % 256 : Nat) : Int)) = (filL b (i + 1) ++ zb (256 - (i + 1))).map byteAV := by
      have e1 : zb (256 - i) = 0 :: zb (256 - (i + 1)) := by rw [zb, show 256 - i = (256 - (i + 1)) + 1 by omega, List.replicate_succ]; rfl
      have e2 : filL b (i + 1) = filL b i ++ [UInt8.ofNat (b + i / 64)] := by simp [filL, List.range_succ]
      have e3 : AV.int .u8 (((b + i / 64) % 256 : Nat) : Int) = byteAV (UInt8.ofNat (b + i / 64)) := by simp [byteAV]
      rw [e3, ← List.map_set, e1, e2, List.set_append_right _ _ (by rw [filL_len]; exact Nat.le_refl _), filL_len, Nat.sub_self]
      simp
    obtain ⟨l, hl⟩ : ∃ l, filL b i ++ zb (256 - i) = l := ⟨_, rfl⟩
    rw [hl] at hll hset
    have hsz2 : AV.sizeL ((l.map byteAV).take i) = i * 1 := (unif_bytes l).sizeL_take (by simp; omega)
    obtain ⟨y, hy⟩ := list_get (xs := l) (i := i) (by omega)
    simp -dsimp -implicitDefEqProofs only [↓j0, ↓j1, ↓j7, ↓j9, ↓j12, ↓j13, ↓j14, ↓j15, j17, j18, j19, j20, j21, j22, j23, ↓j25, ↓j27, ↓j29, ↓j30, j33, ↓j38, ↓j39, ↓j44, ↓j46, ↓j48, ↓j50, ↓j78, ↓j89, ↓j94, j108, ↓j145, ↓j146, ↓j147, ↓j149, ↓j153, j154, j159, AV.proj, AV.offOf, AV.upd, AV.size, AV.layable, j170, j171, j177, reduceCtorEq, ↓reduceIte, Nat.reduceEqDiff, Int.reduceEq, j182, j185, j196, j197, j206, j207, j208, ↓j225, j254, j256, j282, j490, fiSt, hl, hdi, hix, w1, w3, w4, hsz2, hy, byteAV, hset]
    exact ⟨k - 1, fiSt b (i + 1), by omega, ⟨i + 1, by omega, rfl⟩, Wk.sub (by simp -dsimp -implicitDefEqProofs only [↓j25, ↓j27, reduceCtorEq, ↓reduceIte, Nat.reduceEqDiff, j182, j202, j203, j204, j205, j223, hw2] <;> simp)⟩
  · have hie : i = 256 := by omega
    subst hie
    have hdi : decide (((256 : Nat) : Int) < 256) = false := rfl
    have e : filL b 256 ++ zb (256 - 256) = filL b 256 := by simp [zb]
    have hfl := filL_len b 256
    rw [e] at hll
    simp -dsimp -implicitDefEqProofs only [↓j0, ↓j1, ↓j7, ↓j10, ↓j11, ↓j12, ↓j13, ↓j15, j17, j18, j19, j20, j21, j22, j23, ↓j25, ↓j27, ↓j29, ↓j30, j33, ↓j38, ↓j43, ↓j44, ↓j48, ↓j76, ↓j78, ↓j89, j129, ↓j145, ↓j146, ↓j148, ↓j149, ↓j153, j159, AV.proj, AV.offOf, AV.upd, AV.size, AV.layable, j170, j171, reduceCtorEq, ↓reduceIte, Nat.reduceEqDiff, Nat.reduceSub, j182, j185, j240, j243, j280, j281, fiSt, hdi, e, hfl]
    exact Final.one (.inr rfl) (r := .cell 2 29) rfl ⟨0, 0, [], _, rfl, rfl, rfl, rfl, by simp -dsimp -implicitDefEqProofs only [j129, j182, j240, j280, j281, hfl]⟩ (fun vs h => by cases h) (fun vs h => by cases h) (.same _ (on_bytes _ _))
theorem args_bl {l : List Bool} : ∀ y, y ∈ [boolsAV l] → AV.on (fun _ => False) y ∧ ∀ vs, y ≠ .tuple vs := fun y hy => by
  simp only [List.mem_singleton] at hy; subst hy; exact ⟨on_bools _ _, fun vs h => by cases h⟩
theorem copied_spec (l : List Bool) (hl : l.length ≤ 140737488355328) : ACall Try.prog 15 [boolsAV l] [] (boolsAV l) [] := by
  refine ACall.run (Z := Z) (N := 6) mixed hZ Try.func15 rfl rfl (by kernel_rfl) (by simp) args_bl 0 ?_
  have hu := unif_bools l
  have hu0 : Unif 1 [] := fun x hx => by simp at hx
  have hT : List.take l.length (l.map AV.bool) = l.map AV.bool := List.take_of_length_le (by simp)
  simp -dsimp -implicitDefEqProofs only [↓j0, ↓j1, ↓j7, ↓j12, ↓j15, j17, j18, j20, ↓j25, ↓j29, ↓j30, j36, ↓j38, ↓j39, ↓j51, ↓j74, j125, j127, ↓j145, ↓j146, partsAV, AV.layable, argEnv, j171, j172, reduceCtorEq, ↓reduceIte, Nat.reduceEqDiff, j182, j196, j214, j218, j219, j226, Nat.reducePow, List.replicate, j234, j462]
  refine DoAppend_of rfl rfl at23 ?_
  simp -dsimp -implicitDefEqProofs only [↓j27, ↓j101, ↓j102, ↓j104, ↓j146, ↓j153, reduceCtorEq, ↓reduceIte, j182, j184, j188, j189, j196, j197, j214, j222, j223, j231, j234, hu, hu0, hT]
  refine ⟨⟨by omega, by omega⟩, ?_⟩
  simp -dsimp -implicitDefEqProofs only [↓j0, ↓j1, ↓j10, j17, j18, j20, j21, j22, j23, ↓j25, ↓j29, ↓j39, ↓j145, j171, j172, ↓reduceIte, Nat.reduceAdd, j196, j222, j228, j229, hT]
  have hfz := Frz.sl (K := fun _ => False) (H := [(1, .cells (.agg (l.map AV.bool)))]) 1 0 [] 0 l.length l.length 1 _ (l.map AV.bool) rfl (fun h => h) rfl rfl (by simp) hu (fun x hx => AV.onL_iff.1 (on_bools (fun _ => False) l) x (List.mem_of_mem_drop (List.mem_of_mem_take hx)))
  rw [List.drop_zero, hT] at hfz
  exact Final.one (.inr rfl) (r := .tmp 2) rfl ⟨rfl, fun vs h => by cases h⟩ (fun vs h => by cases h) (fun vs h => by cases h) hfz
end Go.Proofs.Ytpnjllemklindaa
