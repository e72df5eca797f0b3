/- The keys of a map, in order. -/
import Derived.Test.YtipbgaahpchhbaaW1
import Derived.Test.YtipbgaahpchhbaaF39
import Derived.Test.YtipbgaahpchhbaaF40
set_option maxRecDepth 8000
set_option linter.unusedVariables false
set_option linter.unusedSimpArgs false
namespace Go.Proofs.Ytipbgaahpchhbaa
open Go Go.RowKit

abbrev Bo := List UInt8
abbrev KV := Nat × (Bo × Bo)
abbrev kAV (k : Nat) : AV := .int .u16 k
abbrev arrAV (l : Bo) : AV := .agg (l.map byteAV)
abbrev vAV (v : Bo × Bo) : AV := .agg [arrAV v.1, arrAV v.2]
def kv0 : KV := (0, [], [])
theorem plain_k (k : Nat) : ∃ v, plainV (kAV k) = some v := ⟨_, rfl⟩
theorem flat_bytes (l : Bo) : AV.flatL (l.map byteAV) = l.map byteAV := by
  induction l with
  | nil => rfl
  | cons b l ih => simp only [List.map_cons, AV.flatL, ih]; rfl
theorem scal_bytes : ∀ l : Bo, ∃ vs, (l.map byteAV).mapM scalarV = some vs
  | [] => ⟨_, rfl⟩
  | b :: l => by
    obtain ⟨vs, h⟩ := scal_bytes l
    exact ⟨Value.int .u8 (b.toNat : Int) :: vs, by simp only [List.map_cons, byteAV, List.mapM_cons, scalarV, h]; rfl⟩
theorem plain_v (k : Bo × Bo) : ∃ v, plainV (vAV k) = some v := by
  obtain ⟨vs, h⟩ := scal_bytes (k.1 ++ k.2)
  have e : AV.flatL [arrAV k.1, arrAV k.2] = (k.1 ++ k.2).map byteAV := by
    simp only [AV.flatL, AV.flat, flat_bytes, List.map_append, List.append_nil]
  exact ⟨.agg vs.toArray, by simp only [plainV, e, h]; rfl⟩
abbrev mapB (M : List KV) : ABlk := .map (mapE kAV vAV M)
theorem on_vAV (S : Nat → Prop) (v : Bo × Bo) : AV.on S (vAV v) := ⟨on_bytes _ _, on_bytes _ _, trivial⟩
theorem mapB_on (S : Nat → Prop) (M : List KV) : (mapB M).on S := fun x hx => by
  obtain ⟨y, _, rfl⟩ := List.mem_map.1 hx
  exact ⟨trivial, on_vAV S y.2⟩
def outV (ks : List Nat) (m : Nat) : AV := match ks with
  | [] => .nilsl
  | _ :: r => .sl m 0 [] 0 (r.length + 1) (r.length + 1) 1
def outB (ks : List Nat) (m : Nat) : Heap := match ks with
  | [] => []
  | k :: r => [(m, .cells (.agg ((k :: r).map kAV)))]
theorem outV_eq {ks : List Nat} {m : Nat} (h : ks ≠ []) : outV ks m = .sl m 0 [] 0 ks.length ks.length 1 := by cases ks with | nil => exact absurd rfl h | cons w r => rfl
theorem outB_eq {ks : List Nat} {m : Nat} (h : ks ≠ []) : outB ks m = [(m, .cells (.agg (ks.map kAV)))] := by cases ks with | nil => exact absurd rfl h | cons w r => rfl
theorem on_keys (S : Nat → Prop) (ks : List Nat) : AV.onL S (ks.map kAV) := by
  rw [AV.onL_iff]
  intro x hx
  obtain ⟨o, _, rfl⟩ := List.mem_map.1 hx; trivial
theorem unif_keys (ks : List Nat) : Unif 1 (ks.map kAV) := fun x hx => by
  obtain ⟨o, _, rfl⟩ := List.mem_map.1 hx; rfl
def keysOf (L : List KV) (js : List Nat) : List Nat := js.map fun j => (L.getD j kv0).1
def soT : Env := [(6, .ptr 101 0 []), (3, .ptr 100 0 []), (2, .nilsl)]
def soH (L : List KV) (ks : List Nat) (m bi bm clock : Nat) (ents : Array MapEntry) (js : List Nat) : Heap := (100, .cells (outV ks m)) :: (101, iterB bi bm clock ents js) :: (1, rangB bm clock ents) :: outB ks m
def soSt (L : List KV) (bi bm clock : Nat) (ents : Array MapEntry) (js : List Nat) : St := ⟨20, soT, soH L (keysOf L js) 102 bi bm clock ents js, 103⟩
theorem so_onT : onTL (fun k => k < 103 ∧ k ∉ [(104, 102)].map (·.2)) soT := onTL_cons (show (101 : Nat) < 103 ∧ _ by simp) (onTL_cons (show (100 : Nat) < 103 ∧ _ by simp) (onTL_cons trivial onTL_nil))
theorem so_onH {L : List KV} {k : Nat} {ks : List Nat} {bi bm clock : Nat} {ents : Array MapEntry} {js : List Nat} : onHL (okN [(104, 102)] 103) (soH L (k :: ks) 104 bi bm clock ents js) := by
  refine onHL_cons (.inl ⟨by omega, by simp⟩) (show okN [(104, 102)] 103 104 from .inr (by simp)) (onHL_cons (.inl ⟨by omega, by simp⟩) trivial (onHL_cons (.inl ⟨by omega, by simp⟩) trivial (onHL_cons (.inr (by simp)) (on_keys _ _) onHL_nil)))
theorem so_ren {L : List KV} {k : Nat} {ks : List Nat} {bi bm clock : Nat} {ents : Array MapEntry} {js : List Nat} : (soH L (k :: ks) 104 bi bm clock ents js).ren (rnL [(104, 102)]) = soH L (k :: ks) 102 bi bm clock ents js := by
  have h : AV.renL (rnL [(104, 102)]) ((k :: ks).map kAV) = (k :: ks).map kAV := AV.renL_fix (S := fun _ => False) (fun _ h => h.elim) (on_keys _ _)
  simp only [soH, Heap.ren, outV, outB, List.map_cons, List.map_nil, ABlk.ren, AV.ren, rnL] at h ⊢
  simp [AV.renL] at h ⊢
  exact h
theorem fok24 : fnOk Try.prog 24 = true := by kernel_rfl
theorem args_map : ∀ x, x ∈ [AV.mapv 1] → AV.on (fun n => n ∈ ([(1, mapB ([] : List KV))] : Heap).map (·.1)) x ∧ ∀ vs, x ≠ .tuple vs := fun x hx => by
  simp only [List.mem_singleton] at hx; subst hx
  exact ⟨show (1 : Nat) ∈ _ by simp, fun vs h => by cases h⟩
theorem args_sort {u v : AV} : ∀ x, x ∈ [AV.iface 32 u, .func 25 [v]] → ∀ vs, x ≠ .tuple vs := fun x hx vs h => by
  simp only [List.mem_cons, List.not_mem_nil, or_false] at hx
  rcases hx with rfl | rfl <;> cases h
/-- The keys of a map, in order. -/
def keysIn (M : List KV) : List Nat := sortN (M.map (·.1))
abbrev keysAV (ks : List Nat) : AV := .vsl (ks.map kAV) ks.length
set_option maxHeartbeats 3200000 in
theorem sorted_spec (M : List KV) (h12 : M.length ≤ 12) : ACall Try.prog 18 [.mapv 1] [(1, mapB M)] (keysAV (keysIn M)) [(1, mapB M)] := by
  refine ACall.runHW (Z := Z) (N := 20) mixed hZ Try.func18 rfl rfl (by kernel_rfl) (by simp) args_map (fun n b h => ?_) 100 (fun n h => by simp at h; omega) ?_
  · simp only [Heap.get] at h
    by_cases h1 : n = 1
    · subst h1; simp only [if_true, Option.some.injEq] at h; subst h; exact mapB_on _ _
    · rw [if_neg h1] at h; cases h
  simp -dsimp -implicitDefEqProofs only [↓j0, ↓j1, ↓j7, ↓j12, ↓j15, j17, j18, j20, ↓j25, ↓j29, ↓j30, j36, ↓j38, ↓j39, ↓j41, ↓j67, ↓j145, argEnv, j170, j171, reduceCtorEq, ↓reduceIte, Nat.reduceAdd, j380]
  refine NStep.range (es := mapE kAV vAV M) rfl Try.underlying54 rfl rfl (fun x hx => ?_) ?_
  · obtain ⟨y, _, rfl⟩ := List.mem_map.1 hx
    exact ⟨plain_k y.1, plain_v y.2⟩
  intro bi bm clock ents es0 hpm hen
  obtain ⟨L, hL, rfl⟩ := perm_map_inv hpm
  have hLl := hL.length_eq
  simp -dsimp -implicitDefEqProofs only [↓j0, ↓j14, ↓j16, j17, j18, j20, j21, j22, j23, j170, j171, ↓reduceIte, Nat.reduceAdd, Nat.reduceEqDiff]
  refine AWp.loopR (Z := Z) mixed hZ (by kernel_rfl) (fun k s => ∃ js, js.Nodup ∧ (∀ j, j ∈ js → j < L.length) ∧ js.length + k = L.length ∧ s = soSt L bi bm clock ents js) (n0 := L.length) (s0 := soSt L bi bm clock ents []) ?_ ⟨[], by simp, fun j h => by simp at h, by simp, rfl⟩ ?_ rfl
  · refine Wk.mk (SubT.spec (t0 := soT) ?_) (SubH.spec ?_) (show (102 : Nat) ≤ 103 by decide) rfl
    · simp -dsimp -implicitDefEqProofs only [↓j25, ↓reduceIte, Nat.reduceEqDiff, j182, j202, j203, soT]
    · simp only [soSt, soH, keysOf, List.map_nil, outV, outB, ↓j0, ↓j1, ↓j2, ↓j3, ↓j4, ↓j5, ↓j6, ↓j7, ↓j8, ↓j9, ↓j10, ↓j11, ↓j12, ↓j13, ↓j14, ↓j15, ↓j16, j17, j18, j19, j20, j21, j22, j23, j24, ↓j25, j26, ↓j27, j28, ↓j29, ↓j30, ↓j31, j32, j33, j34, j35, j36, j37, ↓j38, ↓j39, ↓j40, ↓j41, ↓j42, ↓j43, ↓j44, ↓j45, ↓j46, ↓j47, ↓j48, ↓j49, ↓j50, ↓j51, ↓j52, ↓j53, ↓j54, ↓j55, ↓j56, ↓j57, ↓j58, ↓j59, ↓j60, ↓j61, ↓j62, ↓j63, ↓j64, ↓j65, ↓j66, ↓j67, ↓j68, ↓j69, ↓j70, ↓j71, ↓j72, ↓j73, ↓j74, ↓j75, ↓j76, ↓j77, ↓j78, ↓j79, ↓j80, j81, j82, j83, j84, j85, j86, j87, j88, ↓j89, ↓j90, ↓j91, ↓j92, ↓j93, ↓j94, ↓j95, ↓j96, ↓j97, ↓j98, ↓j99, ↓j100, ↓j101, ↓j102, ↓j103, ↓j104, ↓j105, ↓j106, j107, j108, j109, j110, j111, j112, j113, j114, j115, j116, j117, j118, j119, ↓j120, ↓j121, ↓j122, ↓j123, ↓j124, j125, j126, j127, j128, j129, j130, j131, j132, j133, j134, j135, j136, j137, j138, j139, j140, j141, j142, j143, j144, ↓j145, ↓j146, ↓j147, ↓j148, ↓j149, ↓j150, ↓j151, ↓j152, ↓j153, j154, j155, j156, j157, j158, j159, j160, j161, j162, partsAV, AV.proj, AV.offOf, AV.upd, AV.size, AV.sizeL, AV.layable, AV.flat, AV.flatL, argEnv, j163, j164, j165, j166, j167, j168, j169, j170, j171, j172, j173, j174, j175, j176, j177, j178, j179, j180, j181, reduceCtorEq, ↓reduceIte, Nat.reduceAdd, Nat.reduceMul, Nat.reduceEqDiff, Nat.reduceLT, Nat.reduceLeDiff, Nat.reduceSub, Int.reduceLT, Int.reduceLE, Int.reduceAdd, Int.reduceEq, Int.reduceToNat, j182, j183, j184, j185, j186, j187, j188, j189, j190, j191, j192, j193, j194, j195, j196, j197, Int.reduceNeg, j198, j199, j200, j201, j202, j203, j204, j205, j206, j207, j208, j209, j210, j211, j212, kindOf, j213, j214, j215, j216, j217, j218, j219, j220, j221, j222, j223, j224, ↓j225, j226, Nat.reducePow, j227, List.replicate, j228, j229, j230, j231, Nat.reduceBEq, Int.reduceBEq, bndAV, j232, j233, j234, ↓j235, ↓j236, ↓j237, ↓j238, ↓j239, j240, j241, j242, j243, ↓j244, ↓j245, evL, capOk, j246, j247, j248, j249, j250, j251, j252, j253, j254, j255, j256, j257, j258, j259, j260, j261, j262, j263, j264, j265, j266, j267, j268, j269, j270, j271, j272, j273, j274, j275, j276, j277, j278, j279, j280, j281, j282, j283, j284, j285, j286, j287, j288, j289, j290, j291, j292, j293, j294, j295, j296, j297, j298, j299, j300, j301, j302, j303, j304, j305, j306, j307, j308, j309, j310, j311, j312, j313, j314, j315, j316, j317, j318, j319, j320, j321, j322, j323, j324, j325, j326, j327, j328, j329, j330, j331, j332, j333, j334, j335, j336, j337, j338, j339, j340, j341, j342, j343, j344, j345, j346, j347, j348, j349, j350, j351, j352, j353, j354, j355, j356, j357, j358, j359, j360, j361, j362, j363, j364, j365, j366, j367, j368, j369, j370, j371, j372, j373, j374, j375, j376, j377, j378, j379, j380, j381, j382, j383, j384, j385, j386, j387, j388, j389, j390, j391, j392, j393, j394, j395, j396, j397, j398, j399, j400, j401, j402, j403, j404, j405, j406, j407, j408, j409, j410, j411, j412, j413, j414, j415, j416, j417, j418, j419, j420, j421, j422, j423, j424, j425, j426, j427, j428, j429, j430, j431, j432, j433, j434, j435, j436, j437, j438, j439, j440, j441]
  rintro k s ⟨js, hjn, hjl, hjk, rfl⟩
  refine ⟨rfl, ?_⟩
  have hkl : (keysOf L js).length = js.length := by rw [keysOf, List.length_map]
  simp -dsimp -implicitDefEqProofs only [↓j1, ↓j7, ↓j12, ↓j15, ↓j68, soSt, soT, soH]
  refine NStep.next (n := 1) (es := mapE kAV vAV L) rfl rfl hen rfl rfl (fun j hj => by simpa using hjl j hj) (fun hall => ?_) (fun q x hq hnq => ?_)
  · have hall' : ∀ q, q < L.length → q ∈ js := fun q hq => hall q (by simpa using hq)
    have hpm2 : (keysOf L js).Perm (M.map (·.1)) := by
      have h := ((all_perm kv0 hjn hjl hall').trans hL).map (·.1)
      rw [List.map_map] at h
      exact h
    have hke : sortN (keysOf L js) = keysIn M := sortN_eq hpm2
    obtain ⟨ks, hks⟩ : ∃ ks, keysOf L js = ks := ⟨_, rfl⟩
    rw [hks] at hke hkl
    have hsl := sortN_len ks
    rw [hke] at hsl
    have hfin : ∀ (t : Env) (H : Heap) (m : Nat) (u : AV), look t 2 = some u → (∀ vs, u ≠ .tuple vs) → Heap.get H 1 = some (rangB bm clock ents) → Frz (fun n => Heap.get [(1, mapB M)] n ≠ none) ((1, mapB M) :: H) u (keysAV (keysIn M)) → FinalW Try.prog Try.f18 (keysAV (keysIn M)) [(1, mapB M)] .ret ⟨20, t, H, m⟩ := fun t H m u h1 hu h2 h3 => by
      refine ⟨_, Wk.blk (k := 1) (y := mapB M) h2 (brel_rang hen (hL.map _)), ?_⟩
      refine Final.oneH (.inr rfl) (r := .tmp 2) rfl ⟨h1, hu⟩ hu (fun vs h => by cases h) h3 (fun n b h => ?_)
      simp only [Heap.get] at h
      by_cases hn : n = 1
      · subst hn
        simp only [if_true, Option.some.injEq] at h
        subst h
        exact ⟨mapB M, by simp [Heap.get], show _ = _ ∧ _ from ⟨rfl, mapB_on _ M⟩⟩
      · rw [if_neg hn] at h; cases h
    cases ks with
    | nil =>
      have hk0 : keysIn M = [] := List.length_eq_zero_iff.1 hsl
      simp -dsimp -implicitDefEqProofs only [↓j0, ↓j1, ↓j7, ↓j11, ↓j12, ↓j13, ↓j15, j17, j18, j20, ↓j25, ↓j27, ↓j29, ↓j43, ↓j57, ↓j76, j85, j134, ↓j145, ↓j146, ↓j148, ↓j149, ↓j153, AV.proj, AV.offOf, j163, j171, ↓reduceIte, Nat.reduceEqDiff, j182, j302, Do_makeInterface, hks, outV, outB]
      refine CallTo.makeInterface .nilsl rfl (by kernel_rfl) (by simp -dsimp -implicitDefEqProofs only [↓j25, ↓j29, ↓reduceIte]) (fun vs h => by cases h) (fun vs h => by cases h) (fun h => by cases h) ?_
      simp -dsimp -implicitDefEqProofs only [↓j1, j17, j18, j20, ↓j25, ↓j29, ↓j53, ↓j71, ↓j145, ↓j146, j171, ↓reduceIte, Nat.reduceEqDiff, evL, capOk, j246, j247, j248]
      refine CallTo.gen (args := [.iface 32 .nilsl, .func 25 [.ptr 100 0 []]]) [(100, .cells .nilsl)] [(100, .cells .nilsl)] 103 rfl fok24 (by simp -dsimp -implicitDefEqProofs only [↓j25, ↓j29, j173, j174, ↓reduceIte, Nat.reduceEqDiff]) args_sort (sort_nil tiny_ok 100) (SubH.of (by simp -dsimp -implicitDefEqProofs only [↓j27, ↓reduceIte, j182, j204, j205])) ⟨by simp, fun n x h h2 => absurd (get_map h) h2⟩ ?_
      simp -dsimp -implicitDefEqProofs only [↓j0, ↓j1, ↓j7, ↓j10, ↓j12, ↓j15, j17, j18, j20, j21, j22, j23, ↓j25, ↓j27, ↓j29, ↓j39, ↓j43, ↓j76, j134, ↓j145, ↓j146, ↓j153, AV.proj, AV.offOf, j170, j171, j173, j174, ↓reduceIte, Nat.reduceEqDiff, j182, j302]
      refine hfin _ _ _ .nilsl rfl (fun vs h => by cases h) rfl ?_
      rw [hk0]; exact .nil
    | cons k0 kr =>
      have h12' : (k0 :: kr).length ≤ 12 := by
        have := hjk; omega
      have hsr := sort_row tiny_ok small_ok less_ok 100 102 (by decide) ((k0 :: kr).map fun n : Nat => (n : Int)) (kr.length + 1) (by simp) (by simpa using h12')
      rw [sortN_ints, hke, List.map_map] at hsr
      have hmm : (List.map ((AV.int IntKind.u16) ∘ fun n : Nat => (n : Int)) (k0 :: kr)) = (k0 :: kr).map kAV := rfl
      rw [hmm] at hsr
      simp -dsimp -implicitDefEqProofs only [↓j0, ↓j1, ↓j7, ↓j11, ↓j12, ↓j13, ↓j15, j17, j18, j20, ↓j25, ↓j27, ↓j29, ↓j43, ↓j57, ↓j76, j85, j135, ↓j145, ↓j146, ↓j148, ↓j149, ↓j153, AV.proj, AV.offOf, j163, j171, j173, ↓reduceIte, Nat.reduceEqDiff, j182, j302, Do_makeInterface, hks, outV, outB]
      refine CallTo.makeInterface (.sl 102 0 [] 0 (kr.length + 1) (kr.length + 1) 1) rfl (by kernel_rfl) (by simp -dsimp -implicitDefEqProofs only [↓j25, ↓j29, ↓reduceIte]) (fun vs h => by cases h) (fun vs h => by cases h) (fun h => by cases h) ?_
      simp -dsimp -implicitDefEqProofs only [↓j1, j17, j18, j20, ↓j25, ↓j29, ↓j53, ↓j71, ↓j145, ↓j146, j171, ↓reduceIte, Nat.reduceEqDiff, evL, capOk, j246, j247, j248]
      refine CallTo.gen (args := [.iface 32 (.sl 102 0 [] 0 (kr.length + 1) (kr.length + 1) 1), .func 25 [.ptr 100 0 []]]) [(100, .cells (.sl 102 0 [] 0 (kr.length + 1) (kr.length + 1) 1)), (102, .cells (.agg ((k0 :: kr).map kAV)))] [(100, .cells (.sl 102 0 [] 0 (kr.length + 1) (kr.length + 1) 1)), (102, .cells (.agg ((keysIn M).map kAV)))] 103 rfl fok24 (by simp -dsimp -implicitDefEqProofs only [↓j25, ↓j29, j173, j174, ↓reduceIte, Nat.reduceEqDiff]) args_sort hsr (SubH.of (by simp -dsimp -implicitDefEqProofs only [↓j27, j173, ↓reduceIte, Nat.reduceEqDiff, j182, j204, j205])) ⟨by simp, fun n x h h2 => absurd (get_map h) (by simpa using h2)⟩ ?_
      simp -dsimp -implicitDefEqProofs only [↓j0, ↓j1, ↓j7, ↓j10, ↓j12, ↓j15, j17, j18, j20, j21, j22, j23, ↓j25, ↓j27, ↓j29, ↓j39, ↓j43, ↓j76, j135, ↓j145, ↓j146, ↓j153, AV.proj, AV.offOf, j170, j171, j173, j174, ↓reduceIte, Nat.reduceEqDiff, j182, j302]
      refine hfin _ _ _ (.sl 102 0 [] 0 (kr.length + 1) (kr.length + 1) 1) rfl (fun vs h => by cases h) rfl ?_
      have hfr := Frz.sl (K := fun n => Heap.get [(1, mapB M)] n ≠ none) (H := (1, mapB M) :: (100, ABlk.cells (.sl 102 0 [] 0 (kr.length + 1) (kr.length + 1) 1)) :: (102, .cells (.agg ((keysIn M).map kAV))) :: (101, iterB bi bm clock ents js) :: (1, rangB bm clock ents) :: []) 102 0 [] 0 (kr.length + 1) (kr.length + 1) 1 (.agg ((keysIn M).map kAV)) ((keysIn M).map kAV) (by simp [Heap.get]) (by simp [Heap.get]) rfl (by simp [AV.offOf]) (by simp [hsl]) (unif_keys _) (fun x hx => by
        obtain ⟨y, hy⟩ := List.mem_map.1 (List.mem_of_mem_drop (List.mem_of_mem_take hx)); rw [← hy.2]; trivial)
      have e : (((keysIn M).map kAV).drop 0).take (kr.length + 1) = (keysIn M).map kAV := by
        rw [List.drop_zero, List.take_of_length_le (by rw [List.length_map, hsl]; simp)]
      rw [e] at hfr
      have e2 : (keysIn M).length = kr.length + 1 := by rw [hsl]; simp
      show Frz _ _ _ (.vsl ((keysIn M).map kAV) (keysIn M).length)
      rw [e2]
      exact hfr
  · obtain ⟨w, hw, rfl⟩ : ∃ w, L[q]? = some w ∧ (kAV w.1, vAV w.2) = x := by
      rw [List.getElem?_map] at hq
      cases hL' : L[q]? with
      | none => rw [hL'] at hq; cases hq
      | some w => rw [hL'] at hq; exact ⟨w, rfl, Option.some.inj hq⟩
    have hql : q < L.length := by
      rcases Nat.lt_or_ge q L.length with h | h
      · exact h
      · rw [List.getElem?_eq_none h] at hw; cases hw
    have hjl2 : ∀ j, j ∈ js ++ [q] → j < L.length := fun j hj => by
      rcases List.mem_append.1 hj with h | h
      · exact hjl j h
      · simp only [List.mem_singleton] at h; omega
    have hjn2 : (js ++ [q]).Nodup := by
      rw [List.nodup_append]
      exact ⟨hjn, by simp, fun a ha b hb => by simp only [List.mem_singleton] at hb; subst hb; exact fun h => hnq (h ▸ ha)⟩
    have hc2 : keysOf L (js ++ [q]) = keysOf L js ++ [w.1] := by
      simp only [keysOf, List.map_append, List.map_cons, List.map_nil, List.getD_eq_getElem?_getD, hw, Option.getD_some]
    have hlen := nodup_len L.length (js ++ [q]) hjn2 hjl2
    simp only [List.length_append, List.length_cons, List.length_nil] at hlen
    have nxt : ∀ (t : Env) (H : Heap) (m : Nat), SubT soT t → SubH (soH L (keysOf L js ++ [w.1]) 104 bi bm clock ents (js ++ [q])) H → ∃ m' s'', m' < k ∧ (∃ js, js.Nodup ∧ (∀ j, j ∈ js → j < L.length) ∧ js.length + m' = L.length ∧ s'' = soSt L bi bm clock ents js) ∧ Wk ⟨20, t, H, m⟩ s'' := fun t H m ht hH => by
      refine ⟨k - 1, soSt L bi bm clock ents (js ++ [q]), by omega, ⟨js ++ [q], hjn2, hjl2, by simp; omega, rfl⟩, ?_⟩
      rw [soSt, hc2]
      obtain ⟨a, r, har⟩ : ∃ a r, keysOf L js ++ [w.1] = a :: r := by
        cases hh : keysOf L js ++ [w.1] with
        | nil => simp at hh
        | cons a r => exact ⟨a, r, rfl⟩
      rw [har] at hH ⊢
      refine Wk.trans (Wk.mk (s' := ⟨20, soT, soH L (a :: r) 104 bi bm clock ents (js ++ [q]), m⟩) ht.spec hH.spec (Nat.le_refl _) rfl) ?_
      exact Wk.rensT [(104, 102)] (K := 103) (by decide) (by simp) (by simp) so_onT so_onH so_ren
    obtain ⟨ks, hks⟩ : ∃ ks, keysOf L js = ks := ⟨_, rfl⟩
    rw [hks] at nxt hkl
    have uk := unif_keys ks
    have u1 : Unif 1 [kAV w.1] := unif_keys [w.1]
    have tk : List.take 1 (List.drop 0 [kAV w.1]) = [kAV w.1] := rfl
    simp -dsimp -implicitDefEqProofs only [↓j0, ↓j1, ↓j7, ↓j9, ↓j12, ↓j13, ↓j14, ↓j15, j17, j18, j20, j21, j23, ↓j25, ↓j29, ↓j57, ↓j69, j85, ↓j145, ↓j147, ↓j149, j163, j170, j171, ↓reduceIte, Nat.reduceEqDiff]
    refine CallTo.entry (n := 1) (es := mapE kAV vAV L) (k := q) rfl rfl hen rfl rfl hq ?_
    cases ks with
    | nil =>
      simp -dsimp -implicitDefEqProofs only [↓j0, ↓j1, ↓j7, ↓j15, j17, j18, j20, j22, ↓j25, ↓j27, ↓j29, ↓j38, ↓j39, ↓j43, ↓j51, ↓j57, ↓j74, ↓j76, j85, j125, j126, j127, j128, j134, ↓j145, ↓j146, ↓j153, partsAV, AV.proj, AV.offOf, AV.size, AV.sizeL, AV.layable, j163, j167, j169, j170, j171, j173, j179, j180, ↓reduceIte, Nat.reduceAdd, Nat.reduceMul, Nat.reduceEqDiff, Nat.reduceLeDiff, j182, j183, j213, j214, j215, j217, Nat.reducePow, List.replicate, j234, j302, j399, hks, outV, outB]
      refine DoAppend_of rfl rfl at32 ?_
      simp -dsimp -implicitDefEqProofs only [↓j0, ↓j1, j17, j18, j19, j20, j21, j22, j23, ↓j25, ↓j27, ↓j29, ↓j44, ↓j78, ↓j100, ↓j106, j107, ↓j145, ↓j146, ↓j148, ↓j153, AV.proj, AV.offOf, AV.upd, AV.size, AV.layable, j166, j170, j171, ↓reduceIte, Nat.reduceAdd, Nat.reduceMul, Nat.reduceEqDiff, Nat.reduceLeDiff, j182, j196, j197, j223, j227, j228, j230, j231, Nat.reduceBEq, j234, j301, u1]
      exact nxt _ _ _ (by simp -dsimp -implicitDefEqProofs only [↓j25, ↓reduceIte, Nat.reduceEqDiff, j182, j202, j203, soT]) (by simp -dsimp -implicitDefEqProofs only [↓j27, j171, j173, j174, ↓reduceIte, Nat.reduceEqDiff, j182, j196, j204, j205, j231, soH, outV, outB])
    | cons k0 kr =>
      have uk2 : Unif 1 (kAV k0 :: List.map kAV kr) := uk
      have ck : List.take (kr.length + 1) (List.drop 0 (kAV k0 :: List.map kAV kr)) ++ [kAV w.1] = kAV k0 :: List.map kAV (kr ++ [w.1]) := by
        rw [List.drop_zero, List.take_of_length_le (by simp), List.map_append]; rfl
      have hkr : kr.length ≤ 12 := by
        have : kr.length + 1 = js.length := hkl
        omega
      simp -dsimp -implicitDefEqProofs only [↓j0, ↓j1, ↓j7, ↓j15, j17, j18, j20, j22, j23, ↓j25, ↓j27, ↓j29, ↓j38, ↓j39, ↓j43, ↓j51, ↓j57, ↓j74, ↓j76, j85, j125, j126, j127, j128, j135, ↓j145, ↓j146, ↓j153, partsAV, AV.proj, AV.offOf, AV.size, AV.sizeL, AV.layable, j163, j167, j169, j170, j171, j173, j179, j180, ↓reduceIte, Nat.reduceAdd, Nat.reduceMul, Nat.reduceEqDiff, Nat.reduceLeDiff, j182, j183, j213, j214, j215, j217, Nat.reducePow, List.replicate, j234, j302, j399, hks, outV, outB]
      refine DoAppend_of rfl rfl at32 ?_
      simp -dsimp -implicitDefEqProofs only [↓j27, ↓j101, ↓j102, ↓j106, j107, ↓j145, ↓j146, ↓j153, AV.proj, AV.offOf, j166, ↓reduceIte, Nat.reduceAdd, Nat.reduceEqDiff, Nat.reduceLeDiff, j182, j184, j188, j189, j196, j197, j213, j214, j215, j222, j223, j224, j227, j228, j230, j231, j234, u1, uk2]
      refine ⟨⟨by omega, by omega⟩, ?_⟩
      simp -dsimp -implicitDefEqProofs only [↓j0, ↓j1, j17, j18, j19, j20, j21, j22, j23, ↓j25, ↓j27, ↓j29, ↓j44, ↓j78, ↓j145, ↓j146, ↓j153, AV.proj, AV.offOf, AV.upd, AV.size, AV.layable, j166, j170, j171, ↓reduceIte, Nat.reduceAdd, Nat.reduceEqDiff, j182, j196, j224, j227, j228, j230, j231, j301]
      refine nxt _ _ _ (by simp -dsimp -implicitDefEqProofs only [↓j25, ↓reduceIte, Nat.reduceEqDiff, j182, j202, j203, soT]) ?_
      simp -dsimp -implicitDefEqProofs only [↓j27, j170, j173, j179, ↓reduceIte, Nat.reduceAdd, Nat.reduceEqDiff, j183, j184, j196, j204, j205, j224, j230, j231, j242, soH, outV, outB]
      rw [List.take_of_length_le (by simp), List.map_append]; rfl
end Go.Proofs.Ytipbgaahpchhbaa
