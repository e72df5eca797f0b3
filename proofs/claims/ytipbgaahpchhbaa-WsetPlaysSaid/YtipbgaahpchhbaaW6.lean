/- Delta; a set that is not there; awake; the law WsetNone. -/
import Derived.Test.YtipbgaahpchhbaaW5
set_option maxRecDepth 8000
set_option linter.unusedVariables false
set_option linter.unusedSimpArgs false
namespace Go.Proofs.Ytipbgaahpchhbaa
open Go Go.RowKit

def deltaP (M : List KV) (page : Nat) : Bo := makeP ((aGet M page).getD (zb 64, zb 64)).1 ((aGet M page).getD (zb 64, zb 64)).2
theorem deltaP_len (M : List KV) (page : Nat) : True := trivial
theorem delta_spec (M : List KV) (hM : MOk M) (page : Nat) (hp : kOk page) : ACall Try.prog 14 [.ptr 2 0 [], .int .u16 page] (stH M) (.str ⟨(deltaP M page).toArray⟩) (stH M) := by
  refine ACall.runH (Z := Z) (N := 19) mixed hZ Try.func14 rfl rfl (by kernel_rfl) (by simp) (st_args arg_int) (st_on (by simp)) 3 st_lt ?_
  have hz := zb_len 64
  have ks := ks_ok hM
  have hv : mval (mapE kAV vAV M) (kAV page) (vAV (zb 64, zb 64)) = vAV ((aGet M page).getD (zb 64, zb 64)) := by
    rw [mval_map keyInj23 hp ks]
    cases aGet M page <;> rfl
  have hh : mhas (mapE kAV vAV M) (kAV page) = (aGet M page).isSome := mhas_map keyInj23 hp ks
  have hd : deltaP M page = makeP ((aGet M page).getD (zb 64, zb 64)).1 ((aGet M page).getD (zb 64, zb 64)).2 := rfl
  have he1 : ((aGet M page).getD (zb 64, zb 64)).1.length = 64 ∧ ((aGet M page).getD (zb 64, zb 64)).2.length = 64 := by
    cases hg : aGet M page with
    | some e => exact (hM.keys _ (aGet_mem hg)).2
    | none => exact ⟨hz, hz⟩
  obtain ⟨e, he⟩ : ∃ e, (aGet M page).getD (zb 64, zb 64) = e := ⟨_, rfl⟩
  rw [he] at hv he1 hd
  have h1 := he1.1
  have h2 := he1.2
  have hm := make_spec e.1 e.2 h1 h2
  rw [← hd] at hm
  simp -dsimp -implicitDefEqProofs only [↓j0, ↓j1, ↓j7, ↓j9, ↓j12, ↓j13, ↓j15, j17, j18, j20, ↓j25, ↓j27, ↓j29, ↓j30, j34, j35, ↓j38, ↓j39, ↓j43, ↓j45, ↓j48, ↓j56, ↓j64, ↓j76, ↓j79, j138, ↓j145, ↓j146, ↓j148, ↓j149, ↓j153, AV.proj, AV.offOf, AV.sizeL, argEnv, j163, j167, j171, reduceCtorEq, ↓reduceIte, Nat.reduceEqDiff, j182, j196, j197, j211, ↓j235, j297, j338, j342]
  refine DoLookup_own (k := kAV page) (es := mapE kAV vAV M) Try.underlying54 rfl Z58 keyed23 (isKey23 hp) (goodM hM) hv hh ?_
  simp -dsimp -implicitDefEqProofs only [↓j0, ↓j1, ↓j7, ↓j12, ↓j15, j17, j18, j19, j20, j21, j22, j23, ↓j25, ↓j27, ↓j29, ↓j41, ↓j43, ↓j44, ↓j45, ↓j53, ↓j76, ↓j78, ↓j79, j129, ↓j145, ↓j146, ↓j153, AV.proj, AV.offOf, AV.upd, AV.size, AV.sizeL, AV.layable, j163, j164, j166, j167, j170, j171, ↓reduceIte, Nat.reduceAdd, Nat.reduceEqDiff, j182, j195, j196, j197, j240, j274, j275, j344, j347, j350, j388, hz, h1, h2]
  refine CallTo.pure (args := [arrAV e.1, arrAV e.2]) rfl fok20 (by simp -dsimp -implicitDefEqProofs only [↓j25, ↓j29, j173, j174, ↓reduceIte, Nat.reduceEqDiff]) (fun x hx => (args_mk x hx).2) hm ?_
  simp -dsimp -implicitDefEqProofs only [↓j0, ↓j1, ↓j10, j17, j18, j20, ↓j25, ↓j29, ↓j39, ↓j145, j171, ↓reduceIte]
  exact Final.oneH (.inr rfl) (r := .tmp 4) rfl ⟨rfl, fun vs h => by cases h⟩ (fun vs h => by cases h) (fun vs h => by cases h) (.same _ trivial) (st_keep rfl rfl)
theorem args_nil1 : ∀ x, x ∈ [AV.nilptr] → AV.on (fun _ => False) x ∧ ∀ vs, x ≠ .tuple vs := fun x hx => by
  simp only [List.mem_singleton] at hx; subst hx; exact ⟨trivial, fun vs h => by cases h⟩
theorem args_nil2 {k : IntKind} {n : Int} : ∀ x, x ∈ [AV.nilptr, .int k n] → AV.on (fun _ => False) x ∧ ∀ vs, x ≠ .tuple vs := fun x hx => by
  simp only [List.mem_cons, List.not_mem_nil, or_false] at hx
  rcases hx with rfl | rfl <;> exact ⟨trivial, fun vs h => by cases h⟩
theorem args_nil5 {page : Nat} {base : Bo} {off : Int} {s : ByteArray} : ∀ x, x ∈ [AV.nilptr, .int .u16 page, arrAV base, .int .i64 off, .str s] → AV.on (fun _ => False) x ∧ ∀ vs, x ≠ .tuple vs := fun x hx => by
  simp only [List.mem_cons, List.not_mem_nil, or_false] at hx
  rcases hx with rfl | rfl | rfl | rfl | rfl
  · exact ⟨trivial, fun vs h => by cases h⟩
  · exact ⟨trivial, fun vs h => by cases h⟩
  · exact ⟨on_bytes _ _, fun vs h => by cases h⟩
  · exact ⟨trivial, fun vs h => by cases h⟩
  · exact ⟨trivial, fun vs h => by cases h⟩
theorem delta_nil (page : Nat) : ACall Try.prog 14 [.nilptr, .int .u16 page] [] (.str ⟨#[]⟩) [] := by
  refine ACall.run (Z := Z) (N := 19) mixed hZ Try.func14 rfl rfl (by kernel_rfl) (by simp) args_nil2 1 ?_
  simp -dsimp -implicitDefEqProofs only [↓j0, ↓j1, ↓j7, ↓j10, ↓j12, ↓j13, ↓j15, j17, j18, j20, ↓j25, ↓j29, ↓j30, j34, j35, ↓j38, ↓j39, ↓j48, ↓j145, ↓j146, ↓j147, ↓j149, argEnv, j172, reduceCtorEq, ↓reduceIte, j194, j196, j211, ↓j236, j297]
  exact Final.one (.inr rfl) (r := .tmp 4) rfl ⟨rfl, fun vs h => by cases h⟩ (fun vs h => by cases h) (fun vs h => by cases h) (.same _ trivial)
theorem pages_nil : ACall Try.prog 9 [.nilptr] [] (.vsl [] 0) [] := by
  refine ACall.run (Z := Z) (N := 10) mixed hZ Try.func9 rfl rfl (by kernel_rfl) (by simp) args_nil1 1 ?_
  simp -dsimp -implicitDefEqProofs only [↓j0, ↓j1, ↓j7, ↓j10, ↓j12, ↓j13, ↓j15, j17, j18, j20, ↓j25, ↓j29, ↓j30, j35, j36, ↓j38, ↓j39, ↓j48, ↓j145, ↓j146, ↓j147, ↓j149, argEnv, j172, reduceCtorEq, ↓reduceIte, j194, j211, ↓j236, j297]
  exact Final.one (.inr rfl) (r := .tmp 2) rfl ⟨rfl, fun vs h => by cases h⟩ (fun vs h => by cases h) (fun vs h => by cases h) .nil
theorem read_nil (page : Nat) : ACall Try.prog 10 [.nilptr, .int .u16 page] [] (.tuple [arrAV (zb 64), .bool false]) [] := by
  refine ACall.run (Z := Z) (N := 23) mixed hZ Try.func10 rfl rfl (by kernel_rfl) (by simp) args_nil2 1 ?_
  have hz := zb_len 64
  simp -dsimp -implicitDefEqProofs only [↓j0, ↓j1, ↓j7, ↓j10, ↓j12, ↓j13, ↓j15, j17, j18, j19, j20, j21, j22, j23, ↓j25, ↓j27, ↓j29, ↓j30, j32, j35, ↓j38, ↓j39, ↓j41, ↓j44, ↓j48, ↓j54, ↓j78, ↓j124, j125, j127, ↓j145, ↓j146, ↓j147, ↓j149, ↓j153, partsAV, AV.proj, AV.offOf, AV.upd, AV.size, AV.layable, argEnv, j171, j172, reduceCtorEq, ↓reduceIte, Nat.reduceAdd, Nat.reduceEqDiff, j182, j194, j196, j211, j214, j218, j219, ↓j236, j240, j274, j297, j376, j397, hz]
  exact Final.many (.inr rfl) (rs := [.cell 4 25, .tmp 5]) (us := [arrAV (zb 64), .bool false]) rfl ⟨⟨1, 0, [], _, rfl, rfl, rfl, rfl, by simp -dsimp -implicitDefEqProofs only [j129, j182, j240, j274, j275, hz]⟩, ⟨rfl, fun vs h => by cases h⟩, trivial⟩ (by simp) ⟨.same _ (on_bytes _ _), .same _ trivial, trivial⟩
theorem write_nil (page : Nat) (base : Bo) (hb : base.length = 64) (off : Int) (s : ByteArray) : ACall Try.prog 8 [.nilptr, .int .u16 page, arrAV base, .int .i64 off, .str s] [] (.int .i64 1) [] := by
  refine ACall.run (Z := Z) (N := 61) mixed hZ Try.func8 rfl rfl (by kernel_rfl) (by simp) args_nil5 1 ?_
  simp -dsimp -implicitDefEqProofs only [↓j0, ↓j1, ↓j2, ↓j7, ↓j10, ↓j12, ↓j13, ↓j15, j17, j18, j20, ↓j25, ↓j29, ↓j30, j32, j33, j35, ↓j38, ↓j39, ↓j40, ↓j42, ↓j48, j81, ↓j145, ↓j146, ↓j147, ↓j149, ↓j151, AV.layable, argEnv, j163, j164, j171, j172, j175, reduceCtorEq, ↓reduceIte, Nat.reduceAdd, Nat.reduceEqDiff, j194, j196, j211, ↓j236, j297]
  exact Final.one (.inr rfl) (r := .tmp 10) rfl ⟨rfl, fun vs h => by cases h⟩ (fun vs h => by cases h) (fun vs h => by cases h) (.same _ trivial)
def awL : Bo := layB (zb 64) 5 [120]
def awM : List KV := [(3, (zb 64, awL))]
theorem awL_len : awL.length = 64 := by unfold awL; rw [layB_len (by rw [zb_len]; decide)]; exact zb_len 64
theorem awL_get : awL[5]? = some 120 := rfl
theorem aw_write : writeP [] 3 (zb 64) 5 [120] = (0, awM) := by
  unfold writeP
  rw [if_neg (by simp)]; rfl
theorem awM_ok : MOk awM := by
  have := write_ok m0_ok (page := 3) (by show (3 : Nat) < 65536; decide) (zb_len 64) 5 [120]
  rw [aw_write] at this; exact this
theorem aw_pages : keysIn awM = [3] := by
  show sortN [3] = [3]
  unfold sortN; simp
theorem nil0 : ∀ x, x ∈ ([] : List AV) → ∀ vs, x ≠ .tuple vs := fun x hx => by cases hx
theorem awake_spec : ACall Try.prog 11 [] [] (.bool true) [] := by
  refine ACall.run (Z := Z) (N := 30) mixed hZ Try.func11 rfl rfl (by kernel_rfl) (by simp) (fun x hx => by cases hx) 0 ?_
  have hz := zb_len 64
  have hw := write_spec [] m0_ok 3 (by show (3 : Nat) < 65536; decide) (zb 64) hz 5 (by decide) [120] (by decide)
  rw [aw_write] at hw
  have hr := read_spec awM awM_ok 3 (by show (3 : Nat) < 65536; decide)
  have hre : readP awM 3 = (awL, true) := rfl
  rw [hre] at hr
  have hp := pages_spec awM awM_ok
  rw [aw_pages] at hp
  have hL := awL_len
  have hg := awL_get
  obtain ⟨L, hLL⟩ : ∃ L, awL = L := ⟨_, rfl⟩
  obtain ⟨M, hM⟩ : ∃ M, awM = M := ⟨_, rfl⟩
  rw [hM] at hw hr hp
  rw [hLL] at hr hL hg
  have hsz : AV.sizeL ((L.map byteAV).take 5) = 5 * 1 := (unif_bytes L).sizeL_take (by simp; omega)
  have hw : ACall Try.prog 8 [.ptr 2 0 [], .int .u16 3, arrAV (zb 64), .int .i64 5, .str ⟨#[120]⟩] (stH []) (.int .i64 0) (stH M) := hw
  have hr : ACall Try.prog 10 [.ptr 2 0 [], .int .u16 3] (stH M) (.tuple [arrAV L, .bool true]) (stH M) := hr
  have l5 : (5 : Int) < ((64 : Nat) : Int) := by decide
  simp -dsimp -implicitDefEqProofs only [↓j0, ↓j1, ↓j7, ↓j12, ↓j15, j17, j18, j20, ↓j30, j32, ↓j39, ↓j53, ↓j145, argEnv, j172]
  refine CallTo.gen (args := []) [] (stH []) 3 rfl fok7 (by simp -dsimp -implicitDefEqProofs only [j174]) nil0 new_spec (fun n b h => by simp [Heap.get] at h) ⟨by simp, put_new (k := 0) (by decide)⟩ ?_
  simp -dsimp -implicitDefEqProofs only [↓j0, ↓j1, ↓j2, ↓j7, ↓j12, ↓j15, j17, j18, j20, ↓j25, ↓j29, ↓j30, j35, ↓j38, ↓j39, ↓j48, ↓j53, ↓j54, ↓j124, j125, j127, ↓j145, ↓j146, ↓j148, ↓j151, partsAV, AV.layable, j163, j164, j171, j172, j174, j175, ↓reduceIte, Nat.reduceEqDiff, j182, j211, j214, j218, j219, ↓j235, j297, j397]
  refine CallTo.gen (args := [.ptr 2 0 [], .int .u16 3, arrAV (zb 64), .int .i64 5, .str ⟨#[120]⟩]) (stH []) (stH M) 3 rfl fok8 (by simp -dsimp -implicitDefEqProofs only [↓j25, ↓j29, ↓j30, j33, j34, j173, j174, ↓reduceIte, Nat.reduceEqDiff]) (fun x hx => (args_write (M := []) x hx).2) hw (SubH.of (by simp -dsimp -implicitDefEqProofs only [↓j27, ↓reduceIte, Nat.reduceEqDiff, j182, j204, j205])) ⟨by simp, put_st⟩ ?_
  have n0 : ((0 : Int) != 0) = false := rfl
  simp -dsimp -implicitDefEqProofs only [↓j0, ↓j1, ↓j2, ↓j7, ↓j9, ↓j12, ↓j13, ↓j15, j17, j18, j20, j21, j22, j23, ↓j25, ↓j29, ↓j30, j32, j33, ↓j38, ↓j40, ↓j48, ↓j53, j83, ↓j89, ↓j145, ↓j146, ↓j148, ↓j149, ↓j151, j158, j163, j164, j171, j172, j173, j174, j175, ↓reduceIte, Nat.reduceEqDiff, j185, j195, n0]
  refine CallTo.gen (args := [.ptr 2 0 [], .int .u16 3]) (stH M) (stH M) 3 rfl fok10 (by simp -dsimp -implicitDefEqProofs only [↓j25, ↓j29, ↓j30, j33, j173, j174, ↓reduceIte]) (notup2 (fun vs h => by cases h) fun vs h => by cases h) hr (SubH.of (by simp -dsimp -implicitDefEqProofs only [↓j27, ↓reduceIte, Nat.reduceEqDiff, j182, j204, j205])) ⟨by simp, put_st⟩ ?_
  simp -dsimp -implicitDefEqProofs only [↓j0, ↓j1, ↓j2, ↓j7, ↓j12, ↓j15, j17, j18, j19, j20, j21, j22, j23, ↓j25, ↓j27, ↓j29, ↓j30, j33, ↓j38, ↓j39, ↓j41, ↓j44, ↓j46, ↓j57, ↓j78, j85, ↓j94, ↓j145, ↓j146, ↓j147, ↓j150, ↓j153, AV.proj, AV.offOf, AV.upd, AV.size, AV.layable, j163, j164, j170, j171, j172, j173, j174, j175, ↓reduceIte, Nat.reduceAdd, Nat.reduceEqDiff, Int.reduceLE, j182, j184, j240, j274, j276, j376, hz, hL]
  refine ⟨by decide, ?_⟩
  have t5 : Int.toNat 5 = 5 := rfl
  have c5 : ((((120 : UInt8).toNat : Nat) : Int) == 120) = true := rfl
  simp -dsimp -implicitDefEqProofs only [↓j1, ↓j2, j17, j18, j20, ↓j25, ↓j27, ↓j29, ↓j30, j32, j33, ↓j38, ↓j40, ↓j43, ↓j48, ↓j53, ↓j76, j83, ↓j89, j130, ↓j145, ↓j146, ↓j147, ↓j150, ↓j153, j157, AV.proj, AV.offOf, j163, j164, j171, j175, j177, ↓reduceIte, Nat.reduceMul, Nat.reduceEqDiff, j182, j185, j196, j197, j206, j255, hg, hsz, t5, byteAV, c5]
  refine CallTo.gen (args := [.ptr 2 0 []]) (stH M) (stH M) 4 rfl fok9 (by simp -dsimp -implicitDefEqProofs only [↓j25, ↓j29, j173, j174, ↓reduceIte]) (notup1 fun vs h => by cases h) hp (SubH.of (by simp -dsimp -implicitDefEqProofs only [↓j27, ↓reduceIte, Nat.reduceEqDiff, j182, j204, j205])) ⟨by simp, put_st⟩ ?_
  have z1 : (((1 : Nat) : Int) == 1) = true := rfl
  simp -dsimp -implicitDefEqProofs only [↓j0, ↓j1, ↓j2, ↓j10, j17, j18, j20, j21, j22, j23, ↓j25, ↓j29, ↓j30, j32, j33, ↓j39, ↓j40, ↓j48, ↓j58, ↓j62, j83, ↓j89, j142, ↓j145, ↓j146, ↓j147, ↓j150, j157, j163, j164, j170, j171, j173, j174, j175, ↓reduceIte, Nat.reduceEqDiff, j185, j196, j230, j231, j429, z1]
  exact Final.one (.inr rfl) (r := .tmp 0) rfl ⟨rfl, fun vs h => by cases h⟩ (fun vs h => by cases h) (fun vs h => by cases h) (.same _ trivial)
theorem wsetNone_spec (page : Nat) (base : Bo) (hb : base.length = 64) (off : Int) (s : ByteArray) : ACall Try.prog 5 [.agg [.int .u16 page, arrAV base, .int .i64 off, .str s]] [] (.bool true) [] := by
  refine ACall.run (Z := Z) (N := 44) mixed hZ Try.func5 rfl rfl (by kernel_rfl) (by simp) (fun x hx => by
    simp only [List.mem_singleton] at hx; subst hx; exact ⟨⟨trivial, on_bytes _ _, trivial, trivial, trivial⟩, fun vs h => by cases h⟩) 0 ?_
  have hz := zb_len 64
  simp -dsimp -implicitDefEqProofs only [↓j0, ↓j1, ↓j7, ↓j12, ↓j15, j17, j18, j20, ↓j25, ↓j27, ↓j29, ↓j30, j32, j35, ↓j38, ↓j39, ↓j42, ↓j43, ↓j45, ↓j53, ↓j76, ↓j79, j130, ↓j145, ↓j146, ↓j153, AV.proj, AV.offOf, AV.sizeL, AV.layable, argEnv, j163, j167, j171, j172, ↓reduceIte, Nat.reduceEqDiff, j182, j196, j197, j267, j282]
  refine CallTo.pure (args := [.nilptr, .int .u16 page]) rfl fok10 (by simp -dsimp -implicitDefEqProofs only [↓j25, ↓j29, j173, j174, ↓reduceIte, Nat.reduceEqDiff]) (fun x hx => (args_nil2 x hx).2) (read_nil page) ?_
  simp -dsimp -implicitDefEqProofs only [↓j0, ↓j1, ↓j7, ↓j12, ↓j15, j17, j18, j19, j20, j21, j22, j23, ↓j25, ↓j27, ↓j29, ↓j38, ↓j39, ↓j41, ↓j43, ↓j44, ↓j45, ↓j53, ↓j57, ↓j76, ↓j78, ↓j79, j85, j129, j130, j132, ↓j145, ↓j146, ↓j153, AV.proj, AV.offOf, AV.upd, AV.size, AV.sizeL, AV.layable, j163, j164, j166, j167, j170, j171, reduceCtorEq, ↓reduceIte, Nat.reduceAdd, Nat.reduceEqDiff, j182, j196, j197, j240, j250, j258, j267, j274, j275, j282, j285, j288, j291, j376, hz, hb]
  refine CallTo.pure (args := [.nilptr, .int .u16 page, arrAV base, .int .i64 off, .str s]) rfl fok8 (by simp -dsimp -implicitDefEqProofs only [↓j25, ↓j29, j173, j174, ↓reduceIte, Nat.reduceEqDiff]) (fun x hx => (args_nil5 x hx).2) (write_nil page base hb off s) ?_
  simp -dsimp -implicitDefEqProofs only [↓j1, ↓j2, j17, j18, j20, ↓j25, ↓j27, ↓j29, ↓j30, j32, j33, ↓j38, ↓j40, ↓j43, ↓j45, ↓j48, ↓j53, ↓j55, ↓j76, ↓j79, j83, j84, ↓j89, j130, ↓j145, ↓j146, ↓j147, ↓j150, ↓j153, j157, AV.proj, AV.offOf, AV.sizeL, j163, j164, j167, j171, j175, reduceCtorEq, ↓reduceIte, Nat.reduceEqDiff, j182, j185, j194, j197, Int.reduceBEq, j267, j282]
  refine CallTo.pure (args := [.nilptr, .int .u16 page]) rfl fok14 (by simp -dsimp -implicitDefEqProofs only [↓j25, ↓j29, j173, j174, ↓reduceIte, Nat.reduceEqDiff]) (fun x hx => (args_nil2 x hx).2) (delta_nil page) ?_
  have se : strEq ⟨#[]⟩ ⟨#[]⟩ = true := strEq_iff.2 rfl
  simp -dsimp -implicitDefEqProofs only [↓j1, ↓j2, j17, j18, j20, ↓j25, ↓j29, ↓j30, j32, j34, ↓j38, ↓j40, ↓j48, ↓j53, j83, j115, ↓j120, ↓j145, ↓j147, ↓j150, j163, j164, j171, j175, ↓reduceIte, Nat.reduceEqDiff, se]
  refine CallTo.pure (args := [.nilptr]) rfl fok9 (by simp -dsimp -implicitDefEqProofs only [↓j25, ↓j29, j173, j174, ↓reduceIte]) (fun x hx => (args_nil1 x hx).2) pages_nil ?_
  have z0 : (((0 : Nat) : Int) == 0) = true := rfl
  simp -dsimp -implicitDefEqProofs only [↓j1, ↓j2, j17, j18, j20, ↓j25, ↓j29, ↓j30, j32, j33, ↓j38, ↓j40, ↓j48, ↓j53, ↓j58, ↓j62, j83, ↓j89, j142, ↓j145, ↓j146, ↓j147, ↓j150, j157, j163, j164, j171, j175, ↓reduceIte, Nat.reduceEqDiff, j185, j429, z0]
  refine CallTo.pure (args := []) rfl fok11 (by simp -dsimp -implicitDefEqProofs only [j174]) nil0 awake_spec ?_
  simp -dsimp -implicitDefEqProofs only [↓j0, ↓j1, ↓j10, j17, j18, j20, ↓j25, ↓j29, ↓j30, j32, ↓j39, ↓j40, j83, ↓j145, j171, ↓reduceIte, Nat.reduceEqDiff]
  exact Final.one (.inr rfl) (r := .tmp 2) rfl ⟨rfl, fun vs h => by cases h⟩ (fun vs h => by cases h) (fun vs h => by cases h) (.same _ trivial)
end Go.Proofs.Ytipbgaahpchhbaa
