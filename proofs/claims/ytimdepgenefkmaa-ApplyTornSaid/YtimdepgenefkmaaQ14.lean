/- The law ApplyTorn. -/
import Derived.Test.YtimdepgenefkmaaQ13
set_option maxRecDepth 8000
set_option linter.unusedVariables false
set_option linter.unusedSimpArgs false
namespace Go.Proofs.Ytimdepgenefkmaa
open Go Go.RowKit

def bump (e : En) : En := ⟨e.lsn + 1, e.rc⟩
theorem fewL_lsn : ∀ (i : Nat) (l : List En) (e : En), e ∈ fewL i l → e.lsn ≤ i + l.length
  | _, [], e, h => by cases h
  | i, x :: r, e, h => by
    rw [List.length_cons]
    rcases List.mem_cons.1 h with rfl | h
    · show i + 1 ≤ _; omega
    · have := fewL_lsn (i + 1) r e h; omega
theorem fewP_lsn {l : List En} {e : En} (h : e ∈ fewP l) : e.lsn ≤ 40 := by
  have := fewL_lsn 0 _ e h
  rw [List.length_take] at this; omega
def tnL (uu : Bool) (no : Nat) (im : List UInt8) (fw : List En) (i : Nat) : List En := imgE uu no im :: (fw.take i).map bump
theorem tnL_len {uu : Bool} {no : Nat} {im : List UInt8} {fw : List En} {i : Nat} (h : i ≤ fw.length) : (tnL uu no im fw i).length = 1 + i := by
  rw [tnL, List.length_cons, List.length_map, List.length_take]; omega
theorem tnL_succ {uu : Bool} {no : Nat} {im : List UInt8} {fw : List En} {i : Nat} {e : En} (h : fw[i]? = some e) : tnL uu no im fw (i + 1) = tnL uu no im fw i ++ [bump e] := by
  rw [tnL, tnL, take_succ h]; simp
def tnT (fw : List En) (i nm : Nat) : Env := [(11, .sl nm 0 [] 0 (1 + i) (1 + i) 239), (23, .int .i64 i), (22, .int .i64 fw.length), (21, ensAV fw), (5, .ptr 100 0 []), (6, .ptr 101 0 []), (7, .ptr 102 0 []), (8, .ptr 103 0 []), (10, .bool false)]
def tnH (p q im : List UInt8) (uu : Bool) (no : Nat) (L : List En) (nm : Nat) : Heap := [(100, .cells (arrAV p)), (101, .cells (arrAV q)), (102, .cells (arrAV im)), (103, .cells (idAV uu no)), (nm, .cells (.agg (L.map En.av)))]
def tnSt (p q im : List UInt8) (uu : Bool) (no : Nat) (fw : List En) (i : Nat) : St := ⟨79, tnT fw i 104, tnH p q im uu no (tnL uu no im fw i) 104, 105⟩
theorem tn_onT {fw : List En} {i : Nat} : onTL (okN [(107, 104)] 105) (tnT fw i 107) :=
  onTL_cons (show okN [(107, 104)] 105 107 by simp [okN]) (onTL_cons trivial (onTL_cons trivial (onTL_cons (on_ens _ _) (onTL_cons (show okN [(107, 104)] 105 100 by simp [okN]) (onTL_cons (show okN [(107, 104)] 105 101 by simp [okN]) (onTL_cons (show okN [(107, 104)] 105 102 by simp [okN]) (onTL_cons (show okN [(107, 104)] 105 103 by simp [okN]) (onTL_cons trivial onTL_nil))))))))
theorem tn_onH {p q im : List UInt8} {uu : Bool} {no : Nat} {L : List En} : onHL (okN [(107, 104)] 105) (tnH p q im uu no L 107) :=
  onHL_cons (show okN [(107, 104)] 105 100 by simp [okN]) (on_bytes _ _) (onHL_cons (show okN [(107, 104)] 105 101 by simp [okN]) (on_bytes _ _) (onHL_cons (show okN [(107, 104)] 105 102 by simp [okN]) (on_bytes _ _) (onHL_cons (show okN [(107, 104)] 105 103 by simp [okN]) ⟨trivial, trivial, trivial⟩ (onHL_cons (show okN [(107, 104)] 105 107 by simp [okN]) (on_ens _ _) onHL_nil))))
theorem tn_renT {fw : List En} {i : Nat} : Env.ren (rnL [(107, 104)]) (tnT fw i 107) = tnT fw i 104 := by
  simp only [tnT, Env.ren, List.map_cons, List.map_nil, ren_ens]
  rfl
theorem tn_renH {p q im : List UInt8} {uu : Bool} {no : Nat} {L : List En} : Heap.ren (rnL [(107, 104)]) (tnH p q im uu no L 107) = tnH p q im uu no L 104 := by
  simp only [tnH, Heap.ren, List.map_cons, List.map_nil, ABlk.ren, ren_arr, ren_list, ren_id]
  rfl
theorem args_torn {p q im : List UInt8} {uu : Bool} {no : Nat} {l : List En} : ∀ x, x ∈ [arrAV p, arrAV q, arrAV im, idAV uu no, ensAV l] → AV.on (fun _ => False) x ∧ ∀ vs, x ≠ .tuple vs := fun x hx => by
  simp only [List.mem_cons, List.not_mem_nil, or_false] at hx
  rcases hx with rfl | rfl | rfl | rfl | rfl
  · exact ⟨on_bytes _ _, fun vs h => by cases h⟩
  · exact ⟨on_bytes _ _, fun vs h => by cases h⟩
  · exact ⟨on_bytes _ _, fun vs h => by cases h⟩
  · exact ⟨⟨trivial, trivial, trivial⟩, fun vs h => by cases h⟩
  · exact ⟨on_ens _ _, fun vs h => by cases h⟩
set_option maxHeartbeats 6400000 in
theorem applyTorn_spec (p q im : List UInt8) (hp : p.length = 224) (hq : q.length = 224) (hi : im.length = 224) (uu : Bool) (no : Nat) (hno : no < 65536) (log : List En) (hl : ∀ e, e ∈ log → e.Ok) (hn : log.length ≤ 9223372036854775807) : ACall Try.prog 6 [arrAV p, arrAV q, arrAV im, idAV uu no, ensAV log] [] (.bool true) [] := by
  refine ACall.run (Z := Z) (N := 79) mixed hZ Try.func6 rfl rfl (by kernel_rfl) (by simp) args_torn 100 ?_
  have ret : ∀ (t : Env) (H : Heap) (m : Nat), look t 10 = some (.bool true) → Final Try.prog Try.f6 (.bool true) [] .ret ⟨79, t, H, m⟩ := fun t H m h =>
    Final.one (.inr rfl) (r := .tmp 10) rfl ⟨h, fun vs h => by cases h⟩ (fun vs h => by cases h) (fun vs h => by cases h) (.same _ trivial)
  have nil0 : ∀ x : AV, x ∈ ([] : List AV) → ∀ vs, x ≠ .tuple vs := fun x hx => by cases hx
  have hfs := few_spec log hl hn
  have hfo := fewP_ok hl
  have hfl := fewP_len log
  have hfn : ∀ e, e ∈ fewP log → e.lsn ≤ 40 := fun e he => fewP_lsn he
  obtain ⟨fw, hL⟩ : ∃ l, fewP log = l := ⟨_, rfl⟩
  rw [hL] at hfs hfo hfl hfn
  have hz := zb_len 224
  have hio := imgE_ok (uu := uu) hno hi
  have hu0 : Unif 239 [(imgE uu no im).av] := unif_en [imgE uu no im] fun y hy => by rw [List.mem_singleton.1 hy]; exact hio
  simp -dsimp -implicitDefEqProofs only [↓j0, ↓j1, ↓j7, ↓j12, ↓j15, j17, j18, j20, ↓j25, ↓j27, ↓j29, ↓j30, j32, j33, ↓j38, ↓j39, ↓j42, ↓j43, ↓j53, ↓j54, ↓j74, ↓j76, ↓j124, j125, j126, j127, j128, j129, ↓j145, ↓j146, ↓j153, partsAV, AV.proj, AV.offOf, AV.size, AV.sizeL, AV.layable, argEnv, j163, j164, j166, j167, j168, j169, j170, j171, j172, j179, j180, reduceCtorEq, ↓reduceIte, Nat.reduceAdd, Nat.reduceMul, Nat.reduceEqDiff, Nat.reduceLeDiff, j182, j183, j196, j197, j213, j214, j215, j216, j217, Nat.reducePow, List.replicate, j234, j240, j243, j263, j264, j273, j274, j317, j320, j323, j345, j348, j442, j443, j444, hi]
  refine CallTo.pure (args := [ensAV log]) rfl fok13 (by simp -dsimp -implicitDefEqProofs only [↓j25, ↓j29, j173, j174, ↓reduceIte]) (fun x hx => (args_ens x hx).2) hfs ?_
  simp -dsimp -implicitDefEqProofs only [↓j0, ↓j1, ↓j14, ↓j16, j17, j18, j20, ↓j25, ↓j29, ↓j30, j33, ↓j38, ↓j58, ↓j62, j142, ↓j145, j171, ↓reduceIte, j473]
  refine AWp.loopR (Z := Z) mixed hZ (by kernel_rfl) (fun n s => ∃ i, i + n = fw.length ∧ s = tnSt p q im uu no fw i) (n0 := fw.length) (s0 := tnSt p q im uu no fw 0) ?_ ⟨0, by omega, rfl⟩ ?_ rfl
  · exact Wk.sub (by simp -dsimp -implicitDefEqProofs only [↓j25, ↓j27, j167, j173, j174, j179, ↓reduceIte, Nat.reduceEqDiff, j182, j183, j184, j197, j202, j203, j204, j205, j209, j223, tnT, tnH, tnL] <;> simp [imgE, imgR, Od.zero])
  rintro n s ⟨i, hin, rfl⟩
  refine ⟨rfl, ?_⟩
  have hlen := tnL_len (uu := uu) (no := no) (im := im) (fw := fw) (i := i) (by omega)
  have hLo : ∀ e, e ∈ tnL uu no im fw i → e.Ok := fun e he => by
    rcases List.mem_cons.1 he with rfl | he
    · exact hio
    · obtain ⟨x, hx, rfl⟩ := List.mem_map.1 he
      have h1 := hfn x (List.mem_of_mem_take hx)
      exact ⟨show x.lsn + 1 < _ by omega, (hfo x (List.mem_of_mem_take hx)).rc⟩
  rcases Nat.lt_or_ge i fw.length with hlt | hge
  · have hd : decide ((i : Int) < (fw.length : Int)) = true := decide_eq_true (by omega)
    have hlt2 : (i : Int) < (fw.length : Int) := by omega
    obtain ⟨e, he⟩ := list_get (xs := fw) hlt
    have heo := hfo e (List.mem_of_getElem? he)
    have hel := hfn e (List.mem_of_getElem? he)
    have hi2 := heo.rc.image
    have hsz : AV.sizeL ((fw.map En.av).take i) = i * 239 := (unif_en fw hfo).sizeL_take (by simp; omega)
    have hw : IntKind.i64.wrap ((i : Int) + 1) = ((i + 1 : Nat) : Int) := by rw [wrap_i64 (by omega) (by omega)]; omega
    have hw2 : IntKind.u64.wrap ((e.lsn : Int) + 1) = ((e.lsn + 1 : Nat) : Int) := by
      rw [show (e.lsn : Int) + 1 = ((e.lsn + 1 : Nat) : Int) by omega, wrap_u64, Nat.mod_eq_of_lt (by omega)]
    have hbo : (bump e).Ok := ⟨show e.lsn + 1 < _ by omega, heo.rc⟩
    have hu1 : Unif 239 [(bump e).av] := unif_en [bump e] fun y hy => by rw [List.mem_singleton.1 hy]; exact hbo
    have hsu := tnL_succ (uu := uu) (no := no) (im := im) he
    obtain ⟨L, hLL⟩ : ∃ L, tnL uu no im fw i = L := ⟨_, rfl⟩
    rw [hLL] at hlen hLo hsu
    have huL := unif_en L hLo
    have htk : (L.map En.av).take (1 + i) = L.map En.av := List.take_of_length_le (by simp; omega)
    have hma : (L ++ [bump e]).map En.av = L.map En.av ++ [(bump e).av] := by simp
    simp -dsimp -implicitDefEqProofs only [↓j0, ↓j1, ↓j7, ↓j9, ↓j12, ↓j13, ↓j14, ↓j15, j17, j18, j19, j20, j21, j22, j23, ↓j25, ↓j27, ↓j29, ↓j30, j33, ↓j38, ↓j41, ↓j43, ↓j44, ↓j45, ↓j46, ↓j48, ↓j51, ↓j74, ↓j76, ↓j77, ↓j78, ↓j79, ↓j89, ↓j92, j125, j126, j127, j128, j129, j130, ↓j145, ↓j146, ↓j147, ↓j149, ↓j153, j154, j159, partsAV, AV.proj, AV.offOf, AV.upd, AV.size, AV.sizeL, AV.layable, j163, j167, j169, j170, j171, j177, j179, j180, ↓reduceIte, Nat.reduceAdd, Nat.reduceMul, Nat.reduceEqDiff, Nat.reduceLeDiff, j182, j183, j185, j191, j197, j206, j207, j208, j213, j214, j215, j217, Nat.reducePow, List.replicate, j234, j240, j243, j278, j279, j341, j342, j344, j356, j425, j444, tnSt, tnT, tnH, hLL, hlt2, he, hsz, hi2, hw2]
    refine DoAppend_of rfl rfl at44 ?_
    have hu1 : Unif 239 [AV.agg [AV.int .u64 ((e.lsn + 1 : Nat) : Int), e.rc.av]] := hu1
    simp -dsimp -implicitDefEqProofs only [↓j27, ↓j101, ↓j102, ↓j106, j107, ↓j145, ↓j146, ↓j153, AV.proj, AV.offOf, j166, ↓reduceIte, Nat.reduceEqDiff, j182, j184, j188, j189, j196, j197, j213, j214, j215, j222, j223, j224, j227, j228, j230, j231, j234, hu1, huL]
    refine ⟨⟨by omega, by omega⟩, ?_⟩
    simp -dsimp -implicitDefEqProofs only [↓j0, ↓j1, ↓j7, ↓j15, j17, j18, j20, j21, j22, j23, ↓j25, ↓j29, ↓j30, j33, ↓j38, ↓j39, ↓j48, ↓j89, ↓j145, ↓j146, j154, j166, j170, j171, ↓reduceIte, Nat.reduceAdd, Nat.reduceEqDiff, j185, j196, j224, j227, j228, j230, j231, htk]
    refine ⟨n - 1, tnSt p q im uu no fw (i + 1), by omega, ⟨i + 1, by omega, rfl⟩, Wk.trans (Wk.mk (s' := ⟨79, tnT fw (i + 1) 107, tnH p q im uu no (tnL uu no im fw (i + 1)) 107, 108⟩) (SubT.spec ?_) (SubH.spec ?_) (Nat.le_refl _) rfl) (Wk.rensE [(107, 104)] (by omega) (by simp) (by simp) tn_onT tn_onH tn_renT tn_renH)⟩
    · simp -dsimp -implicitDefEqProofs only [↓j25, ↓reduceIte, Nat.reduceEqDiff, j182, j202, j203, tnT, hw] <;> simp
    · rw [hsu]
      simp -dsimp -implicitDefEqProofs only [↓j27, j179, ↓reduceIte, Nat.reduceEqDiff, j183, j184, j204, j205, tnH, hma] <;> simp [bump]
  · have hd : decide ((i : Int) < (fw.length : Int)) = false := decide_eq_false (by omega)
    have hie : i = fw.length := by omega
    subst hie
    have hri := right_spec uu no hno im hi
    have hrp := right_spec uu no hno p hp
    have hrq := right_spec uu no hno q hq
    have hlp := lsn_spec p hp
    have hlq := lsn_spec q hq
    have hLt : ∀ e, e ∈ (fw.take fw.length).map bump → e.Ok := fun e he => hLo e (List.mem_cons_of_mem _ he)
    obtain ⟨L, hLL⟩ : ∃ L, tnL uu no im fw fw.length = L := ⟨_, rfl⟩
    rw [hLL] at hlen hLo
    simp -dsimp -implicitDefEqProofs only [↓j0, ↓j1, ↓j7, ↓j11, ↓j12, ↓j13, ↓j15, j17, j18, j20, ↓j25, ↓j27, ↓j29, ↓j43, ↓j48, ↓j53, ↓j76, ↓j89, j129, ↓j145, ↓j146, ↓j148, ↓j149, ↓j153, j159, AV.proj, AV.offOf, AV.size, AV.sizeL, j171, ↓reduceIte, Nat.reduceAdd, Nat.reduceEqDiff, j182, j185, j197, j240, j263, j264, j273, j274, tnSt, tnT, tnH, hi, hd, hLL]
    refine CallTo.pure (args := [idAV uu no, arrAV im]) rfl fok14 (by simp -dsimp -implicitDefEqProofs only [↓j25, ↓j29, j173, j174, ↓reduceIte, Nat.reduceEqDiff]) (fun x hx => (args_idp x hx).2) hri ?_
    cases hI : rightP uu no im
    · simp -dsimp -implicitDefEqProofs only [↓j0, ↓j1, ↓j2, ↓j7, ↓j12, ↓j13, ↓j15, j17, j18, j20, ↓j25, ↓j29, ↓j30, j32, ↓j38, ↓j40, ↓j53, ↓j55, j81, j84, ↓j145, ↓j147, ↓j149, ↓j151, ↓j152, j163, j164, j171, j175, ↓reduceIte, Nat.reduceEqDiff, j194]
      refine CallTo.pure (args := []) rfl fok10 (by simp -dsimp -implicitDefEqProofs only [j174]) nil0 awake_spec ?_
      simp -dsimp -implicitDefEqProofs only [↓j0, ↓j1, ↓j10, j17, j18, j20, ↓j25, ↓j29, ↓j39, ↓j145, j171, ↓reduceIte]
      exact ret _ _ _ rfl
    simp -dsimp -implicitDefEqProofs only [↓j1, ↓j2, j17, j18, j20, ↓j25, ↓j27, ↓j29, ↓j38, ↓j43, ↓j53, ↓j55, ↓j76, j84, j129, ↓j145, ↓j146, ↓j148, ↓j151, ↓j153, AV.proj, AV.offOf, AV.size, AV.sizeL, j163, j164, j171, j175, ↓reduceIte, Nat.reduceAdd, Nat.reduceEqDiff, j182, j193, j197, j240, j263, j264, j273, j274, hp]
    refine CallTo.pure (args := [idAV uu no, arrAV p]) rfl fok14 (by simp -dsimp -implicitDefEqProofs only [↓j25, ↓j29, j173, j174, ↓reduceIte, Nat.reduceEqDiff]) (fun x hx => (args_idp x hx).2) hrp ?_
    cases hP : rightP uu no p
    · simp -dsimp -implicitDefEqProofs only [↓j1, ↓j2, j17, j18, j20, ↓j25, ↓j27, ↓j29, ↓j30, j32, ↓j38, ↓j40, ↓j43, ↓j53, ↓j76, j82, j83, j129, ↓j145, ↓j146, ↓j148, ↓j150, ↓j151, ↓j153, AV.proj, AV.offOf, AV.size, AV.sizeL, j163, j164, j171, j175, ↓reduceIte, Nat.reduceAdd, Nat.reduceEqDiff, j182, j195, j197, j240, j263, j264, j273, j274, hq]
      refine CallTo.pure (args := [idAV uu no, arrAV q]) rfl fok14 (by simp -dsimp -implicitDefEqProofs only [↓j25, ↓j29, j173, j174, ↓reduceIte, Nat.reduceEqDiff]) (fun x hx => (args_idp x hx).2) hrq ?_
      cases hQ : rightP uu no q
      · have hgp : ¬ (rightP uu no p = true ∧ 0 < lsnOf p) := by rw [hP]; simp
        have hgq : ¬ (rightP uu no q = true ∧ 0 < lsnOf q) := by rw [hQ]; simp
        have hsm := img_same hno hi hI hgp hgq ((fw.take fw.length).map bump)
        have hsm : replayP uu no p L = replayP uu no q L := by rw [← hLL]; exact hsm
        have hrx : rightP uu no (replayP uu no p L) = true := by rw [← hLL]; exact img_right hno hi hp hI hgp hLt
        have hxl := replay_len (uu := uu) (no := no) hp hLo
        have r1 := replay_own 104 (1 + fw.length) uu no hno p hp L (L.map En.av) hlen rfl hLo (by omega)
        have r2 := replay_own 104 (1 + fw.length) uu no hno q hq L (L.map En.av) hlen rfl hLo (by omega)
        rw [← hsm] at r2
        obtain ⟨X, hX⟩ : ∃ X, replayP uu no p L = X := ⟨_, rfl⟩
        rw [hX] at r1 r2 hrx hxl
        have hrs := right_spec uu no hno X hxl
        rw [hrx] at hrs
        have hce := cellsEq_bytes (l := X) (k := X) rfl
        have hkb := kinds_bytes hxl
        simp only [beq_self_eq_true] at hce
        simp -dsimp -implicitDefEqProofs only [↓j0, ↓j1, ↓j2, ↓j7, ↓j9, ↓j12, ↓j13, ↓j15, j17, j18, j20, ↓j25, ↓j27, ↓j29, ↓j30, j32, ↓j38, ↓j40, ↓j43, ↓j53, ↓j76, j82, j83, j129, ↓j145, ↓j146, ↓j148, ↓j149, ↓j150, ↓j151, ↓j153, AV.proj, AV.offOf, AV.size, AV.sizeL, j163, j164, j171, j175, ↓reduceIte, Nat.reduceAdd, Nat.reduceEqDiff, j182, j195, j197, j240, j263, j264, j273, j274, hp]
        refine CallTo.gen (args := [idAV uu no, arrAV p, .sl 104 0 [] 0 (1 + fw.length) (1 + fw.length) 239]) [(104, .cells (.agg (L.map En.av)))] [(104, .cells (.agg (L.map En.av)))] 105 rfl fok11 (by simp -dsimp -implicitDefEqProofs only [↓j25, ↓j29, j173, j174, ↓reduceIte, Nat.reduceEqDiff]) (args_own _ _ _ _ _) r1 (SubH.of (by simp -dsimp -implicitDefEqProofs only [↓j27, ↓reduceIte, Nat.reduceEqDiff, j182, j204, j205])) ⟨by simp, put_sub⟩ ?_
        simp -dsimp -implicitDefEqProofs only [↓j0, ↓j1, ↓j4, ↓j8, ↓j12, ↓j15, j17, j18, j19, j20, j21, j22, j23, j24, ↓j25, ↓j27, ↓j29, ↓j38, ↓j41, ↓j43, ↓j44, ↓j53, ↓j76, ↓j78, j129, ↓j145, ↓j146, ↓j153, AV.proj, AV.offOf, AV.upd, AV.size, AV.sizeL, AV.layable, j170, j171, j172, j173, j174, ↓reduceIte, Nat.reduceAdd, Nat.reduceEqDiff, j182, j197, j240, j243, j263, j264, j273, j274, j419, hq, hxl]
        refine CallTo.gen (args := [idAV uu no, arrAV q, .sl 104 0 [] 0 (1 + fw.length) (1 + fw.length) 239]) [(104, .cells (.agg (L.map En.av)))] [(104, .cells (.agg (L.map En.av)))] 106 rfl fok11 (by simp -dsimp -implicitDefEqProofs only [↓j25, ↓j29, j173, j174, ↓reduceIte, Nat.reduceEqDiff]) (args_own _ _ _ _ _) r2 (SubH.of (by simp -dsimp -implicitDefEqProofs only [↓j27, ↓reduceIte, Nat.reduceEqDiff, j182, j204, j205])) ⟨by simp, put_sub⟩ ?_
        simp -dsimp -implicitDefEqProofs only [↓j4, j17, j18, j20, j21, j22, j23, j24, ↓j25, ↓j29, ↓j48, ↓j91, ↓j145, j170, j171, j173, j174, ↓reduceIte, Nat.reduceEqDiff, j184, j211, j241, j274, j276, j277, hce]
        refine ⟨hkb, ?_⟩
        simp -dsimp -implicitDefEqProofs only [↓j4, ↓j5, j17, j18, j20, j24, ↓j25, ↓j27, ↓j29, ↓j38, ↓j43, ↓j53, ↓j76, j129, ↓j145, ↓j146, ↓j147, ↓j150, ↓j153, AV.proj, AV.offOf, AV.size, AV.sizeL, j163, j164, j170, j171, j172, j174, j175, ↓reduceIte, Nat.reduceAdd, Nat.reduceEqDiff, j182, j195, j197, j240, j263, j264, j273, j274, hxl]
        refine CallTo.pure (args := [idAV uu no, arrAV X]) rfl fok14 (by simp -dsimp -implicitDefEqProofs only [↓j25, ↓j29, j173, j174, ↓reduceIte, Nat.reduceEqDiff]) (fun x hx => (args_idp x hx).2) hrs ?_
        simp -dsimp -implicitDefEqProofs only [↓j4, ↓j5, j17, j18, j20, j24, ↓j25, ↓j29, ↓j30, j32, ↓j38, ↓j40, ↓j53, j83, ↓j145, ↓j147, ↓j150, j163, j164, j170, j171, j172, j174, j175, ↓reduceIte, Nat.reduceEqDiff]
        refine CallTo.pure (args := []) rfl fok10 (by simp -dsimp -implicitDefEqProofs only [j174]) nil0 awake_spec ?_
        simp -dsimp -implicitDefEqProofs only [↓j3, ↓j4, j17, j18, j20, j24, ↓j25, ↓j29, ↓j30, j32, ↓j39, ↓j40, j83, ↓j145, j170, j171, j172, j174, ↓reduceIte, Nat.reduceEqDiff]
        refine ⟨by kernel_rfl, ?_⟩
        simp -dsimp -implicitDefEqProofs only [↓j10]
        exact ret _ _ _ rfl
      · simp -dsimp -implicitDefEqProofs only [↓j2, j17, j18, j20, ↓j25, ↓j27, ↓j29, ↓j38, ↓j43, ↓j53, ↓j76, j129, ↓j145, ↓j146, ↓j147, ↓j148, ↓j150, ↓j151, ↓j153, AV.proj, AV.offOf, j163, j164, j171, j175, ↓reduceIte, Nat.reduceEqDiff, j182, j240, j273, j274, hq]
        refine CallTo.pure (args := [arrAV q]) rfl fok15 (by simp -dsimp -implicitDefEqProofs only [↓j25, ↓j29, j173, j174, ↓reduceIte]) (fun x hx => (args_arr x hx).2) hlq ?_
        by_cases kq : 0 < lsnOf q
        · have eq : decide ((0 : Int) < (lsnOf q : Int)) = true := decide_eq_true (by omega)
          simp -dsimp -implicitDefEqProofs only [↓j0, ↓j1, ↓j2, ↓j7, ↓j12, ↓j13, ↓j15, j17, j18, j20, ↓j25, ↓j29, ↓j30, j32, j33, ↓j40, ↓j48, ↓j53, j83, ↓j89, ↓j145, ↓j146, ↓j147, ↓j148, ↓j149, ↓j150, ↓j151, j161, j163, j164, j171, j175, ↓reduceIte, Nat.reduceEqDiff, j185, j195, eq]
          refine CallTo.pure (args := []) rfl fok10 (by simp -dsimp -implicitDefEqProofs only [j174]) nil0 awake_spec ?_
          simp -dsimp -implicitDefEqProofs only [↓j0, ↓j1, ↓j10, j17, j18, j20, ↓j25, ↓j29, ↓j39, ↓j145, j171, ↓reduceIte]
          exact ret _ _ _ rfl
        · have eq : decide ((0 : Int) < (lsnOf q : Int)) = false := decide_eq_false (by omega)
          have hgp : ¬ (rightP uu no p = true ∧ 0 < lsnOf p) := by rw [hP]; simp
          have hgq : ¬ (rightP uu no q = true ∧ 0 < lsnOf q) := by exact fun h => kq h.2
          have hsm := img_same hno hi hI hgp hgq ((fw.take fw.length).map bump)
          have hsm : replayP uu no p L = replayP uu no q L := by rw [← hLL]; exact hsm
          have hrx : rightP uu no (replayP uu no p L) = true := by rw [← hLL]; exact img_right hno hi hp hI hgp hLt
          have hxl := replay_len (uu := uu) (no := no) hp hLo
          have r1 := replay_own 104 (1 + fw.length) uu no hno p hp L (L.map En.av) hlen rfl hLo (by omega)
          have r2 := replay_own 104 (1 + fw.length) uu no hno q hq L (L.map En.av) hlen rfl hLo (by omega)
          rw [← hsm] at r2
          obtain ⟨X, hX⟩ : ∃ X, replayP uu no p L = X := ⟨_, rfl⟩
          rw [hX] at r1 r2 hrx hxl
          have hrs := right_spec uu no hno X hxl
          rw [hrx] at hrs
          have hce := cellsEq_bytes (l := X) (k := X) rfl
          have hkb := kinds_bytes hxl
          simp only [beq_self_eq_true] at hce
          simp -dsimp -implicitDefEqProofs only [↓j0, ↓j1, ↓j2, ↓j7, ↓j9, ↓j12, ↓j13, ↓j15, j17, j18, j20, ↓j25, ↓j27, ↓j29, ↓j30, j32, j33, ↓j38, ↓j40, ↓j43, ↓j48, ↓j53, ↓j76, j83, ↓j89, j129, ↓j145, ↓j146, ↓j147, ↓j148, ↓j149, ↓j150, ↓j151, ↓j153, j161, AV.proj, AV.offOf, AV.size, AV.sizeL, j163, j164, j171, j175, ↓reduceIte, Nat.reduceAdd, Nat.reduceEqDiff, j182, j185, j195, j197, j240, j263, j264, j273, j274, hp, eq]
          refine CallTo.gen (args := [idAV uu no, arrAV p, .sl 104 0 [] 0 (1 + fw.length) (1 + fw.length) 239]) [(104, .cells (.agg (L.map En.av)))] [(104, .cells (.agg (L.map En.av)))] 105 rfl fok11 (by simp -dsimp -implicitDefEqProofs only [↓j25, ↓j29, j173, j174, ↓reduceIte, Nat.reduceEqDiff]) (args_own _ _ _ _ _) r1 (SubH.of (by simp -dsimp -implicitDefEqProofs only [↓j27, ↓reduceIte, Nat.reduceEqDiff, j182, j204, j205])) ⟨by simp, put_sub⟩ ?_
          simp -dsimp -implicitDefEqProofs only [↓j0, ↓j1, ↓j4, ↓j8, ↓j12, ↓j15, j17, j18, j19, j20, j21, j22, j23, j24, ↓j25, ↓j27, ↓j29, ↓j38, ↓j41, ↓j43, ↓j44, ↓j53, ↓j76, ↓j78, j129, ↓j145, ↓j146, ↓j153, AV.proj, AV.offOf, AV.upd, AV.size, AV.sizeL, AV.layable, j170, j171, j172, j173, j174, ↓reduceIte, Nat.reduceAdd, Nat.reduceEqDiff, j182, j197, j240, j243, j263, j264, j273, j274, j419, hq, hxl]
          refine CallTo.gen (args := [idAV uu no, arrAV q, .sl 104 0 [] 0 (1 + fw.length) (1 + fw.length) 239]) [(104, .cells (.agg (L.map En.av)))] [(104, .cells (.agg (L.map En.av)))] 106 rfl fok11 (by simp -dsimp -implicitDefEqProofs only [↓j25, ↓j29, j173, j174, ↓reduceIte, Nat.reduceEqDiff]) (args_own _ _ _ _ _) r2 (SubH.of (by simp -dsimp -implicitDefEqProofs only [↓j27, ↓reduceIte, Nat.reduceEqDiff, j182, j204, j205])) ⟨by simp, put_sub⟩ ?_
          simp -dsimp -implicitDefEqProofs only [↓j4, j17, j18, j20, j21, j22, j23, j24, ↓j25, ↓j29, ↓j48, ↓j91, ↓j145, j170, j171, j173, j174, ↓reduceIte, Nat.reduceEqDiff, j184, j211, j241, j274, j276, j277, hce]
          refine ⟨hkb, ?_⟩
          simp -dsimp -implicitDefEqProofs only [↓j4, ↓j5, j17, j18, j20, j24, ↓j25, ↓j27, ↓j29, ↓j38, ↓j43, ↓j53, ↓j76, j129, ↓j145, ↓j146, ↓j147, ↓j150, ↓j153, AV.proj, AV.offOf, AV.size, AV.sizeL, j163, j164, j170, j171, j172, j174, j175, ↓reduceIte, Nat.reduceAdd, Nat.reduceEqDiff, j182, j195, j197, j240, j263, j264, j273, j274, hxl]
          refine CallTo.pure (args := [idAV uu no, arrAV X]) rfl fok14 (by simp -dsimp -implicitDefEqProofs only [↓j25, ↓j29, j173, j174, ↓reduceIte, Nat.reduceEqDiff]) (fun x hx => (args_idp x hx).2) hrs ?_
          simp -dsimp -implicitDefEqProofs only [↓j4, ↓j5, j17, j18, j20, j24, ↓j25, ↓j29, ↓j30, j32, ↓j38, ↓j40, ↓j53, j83, ↓j145, ↓j147, ↓j150, j163, j164, j170, j171, j172, j174, j175, ↓reduceIte, Nat.reduceEqDiff]
          refine CallTo.pure (args := []) rfl fok10 (by simp -dsimp -implicitDefEqProofs only [j174]) nil0 awake_spec ?_
          simp -dsimp -implicitDefEqProofs only [↓j3, ↓j4, j17, j18, j20, j24, ↓j25, ↓j29, ↓j30, j32, ↓j39, ↓j40, j83, ↓j145, j170, j171, j172, j174, ↓reduceIte, Nat.reduceEqDiff]
          refine ⟨by kernel_rfl, ?_⟩
          simp -dsimp -implicitDefEqProofs only [↓j10]
          exact ret _ _ _ rfl
    · simp -dsimp -implicitDefEqProofs only [↓j2, j17, j18, j20, ↓j25, ↓j27, ↓j29, ↓j38, ↓j43, ↓j53, ↓j76, j129, ↓j145, ↓j146, ↓j147, ↓j148, ↓j150, ↓j151, ↓j153, AV.proj, AV.offOf, j163, j164, j171, j175, ↓reduceIte, Nat.reduceEqDiff, j182, j240, j273, j274, hp]
      refine CallTo.pure (args := [arrAV p]) rfl fok15 (by simp -dsimp -implicitDefEqProofs only [↓j25, ↓j29, j173, j174, ↓reduceIte]) (fun x hx => (args_arr x hx).2) hlp ?_
      by_cases kp : 0 < lsnOf p
      · have ep : decide ((0 : Int) < (lsnOf p : Int)) = true := decide_eq_true (by omega)
        simp -dsimp -implicitDefEqProofs only [↓j0, ↓j1, ↓j2, ↓j7, ↓j12, ↓j13, ↓j15, j17, j18, j20, ↓j25, ↓j29, ↓j30, j32, j33, ↓j38, ↓j40, ↓j48, ↓j53, j81, j83, ↓j89, ↓j145, ↓j146, ↓j147, ↓j148, ↓j149, ↓j150, ↓j151, ↓j152, j161, j163, j164, j171, j175, ↓reduceIte, Nat.reduceEqDiff, j185, j195, ep]
        refine CallTo.pure (args := []) rfl fok10 (by simp -dsimp -implicitDefEqProofs only [j174]) nil0 awake_spec ?_
        simp -dsimp -implicitDefEqProofs only [↓j0, ↓j1, ↓j10, j17, j18, j20, ↓j25, ↓j29, ↓j39, ↓j145, j171, ↓reduceIte]
        exact ret _ _ _ rfl
      · have ep : decide ((0 : Int) < (lsnOf p : Int)) = false := decide_eq_false (by omega)
        simp -dsimp -implicitDefEqProofs only [↓j1, ↓j2, j17, j18, j20, ↓j25, ↓j27, ↓j29, ↓j30, j32, j33, ↓j38, ↓j40, ↓j43, ↓j48, ↓j53, ↓j76, j83, ↓j89, j129, ↓j145, ↓j146, ↓j147, ↓j148, ↓j150, ↓j151, ↓j153, j161, AV.proj, AV.offOf, AV.size, AV.sizeL, j163, j164, j171, j175, ↓reduceIte, Nat.reduceAdd, Nat.reduceEqDiff, j182, j185, j195, j197, j240, j263, j264, j273, j274, hq, ep]
        refine CallTo.pure (args := [idAV uu no, arrAV q]) rfl fok14 (by simp -dsimp -implicitDefEqProofs only [↓j25, ↓j29, j173, j174, ↓reduceIte, Nat.reduceEqDiff]) (fun x hx => (args_idp x hx).2) hrq ?_
        cases hQ : rightP uu no q
        · have hgp : ¬ (rightP uu no p = true ∧ 0 < lsnOf p) := by exact fun h => kp h.2
          have hgq : ¬ (rightP uu no q = true ∧ 0 < lsnOf q) := by rw [hQ]; simp
          have hsm := img_same hno hi hI hgp hgq ((fw.take fw.length).map bump)
          have hsm : replayP uu no p L = replayP uu no q L := by rw [← hLL]; exact hsm
          have hrx : rightP uu no (replayP uu no p L) = true := by rw [← hLL]; exact img_right hno hi hp hI hgp hLt
          have hxl := replay_len (uu := uu) (no := no) hp hLo
          have r1 := replay_own 104 (1 + fw.length) uu no hno p hp L (L.map En.av) hlen rfl hLo (by omega)
          have r2 := replay_own 104 (1 + fw.length) uu no hno q hq L (L.map En.av) hlen rfl hLo (by omega)
          rw [← hsm] at r2
          obtain ⟨X, hX⟩ : ∃ X, replayP uu no p L = X := ⟨_, rfl⟩
          rw [hX] at r1 r2 hrx hxl
          have hrs := right_spec uu no hno X hxl
          rw [hrx] at hrs
          have hce := cellsEq_bytes (l := X) (k := X) rfl
          have hkb := kinds_bytes hxl
          simp only [beq_self_eq_true] at hce
          simp -dsimp -implicitDefEqProofs only [↓j0, ↓j1, ↓j2, ↓j7, ↓j9, ↓j12, ↓j13, ↓j15, j17, j18, j20, ↓j25, ↓j27, ↓j29, ↓j30, j32, ↓j38, ↓j40, ↓j43, ↓j53, ↓j76, j82, j83, j129, ↓j145, ↓j146, ↓j148, ↓j149, ↓j150, ↓j151, ↓j153, AV.proj, AV.offOf, AV.size, AV.sizeL, j163, j164, j171, j175, ↓reduceIte, Nat.reduceAdd, Nat.reduceEqDiff, j182, j195, j197, j240, j263, j264, j273, j274, hp]
          refine CallTo.gen (args := [idAV uu no, arrAV p, .sl 104 0 [] 0 (1 + fw.length) (1 + fw.length) 239]) [(104, .cells (.agg (L.map En.av)))] [(104, .cells (.agg (L.map En.av)))] 105 rfl fok11 (by simp -dsimp -implicitDefEqProofs only [↓j25, ↓j29, j173, j174, ↓reduceIte, Nat.reduceEqDiff]) (args_own _ _ _ _ _) r1 (SubH.of (by simp -dsimp -implicitDefEqProofs only [↓j27, ↓reduceIte, Nat.reduceEqDiff, j182, j204, j205])) ⟨by simp, put_sub⟩ ?_
          simp -dsimp -implicitDefEqProofs only [↓j0, ↓j1, ↓j4, ↓j8, ↓j12, ↓j15, j17, j18, j19, j20, j21, j22, j23, j24, ↓j25, ↓j27, ↓j29, ↓j38, ↓j41, ↓j43, ↓j44, ↓j53, ↓j76, ↓j78, j129, ↓j145, ↓j146, ↓j153, AV.proj, AV.offOf, AV.upd, AV.size, AV.sizeL, AV.layable, j170, j171, j172, j173, j174, ↓reduceIte, Nat.reduceAdd, Nat.reduceEqDiff, j182, j197, j240, j243, j263, j264, j273, j274, j419, hq, hxl]
          refine CallTo.gen (args := [idAV uu no, arrAV q, .sl 104 0 [] 0 (1 + fw.length) (1 + fw.length) 239]) [(104, .cells (.agg (L.map En.av)))] [(104, .cells (.agg (L.map En.av)))] 106 rfl fok11 (by simp -dsimp -implicitDefEqProofs only [↓j25, ↓j29, j173, j174, ↓reduceIte, Nat.reduceEqDiff]) (args_own _ _ _ _ _) r2 (SubH.of (by simp -dsimp -implicitDefEqProofs only [↓j27, ↓reduceIte, Nat.reduceEqDiff, j182, j204, j205])) ⟨by simp, put_sub⟩ ?_
          simp -dsimp -implicitDefEqProofs only [↓j4, j17, j18, j20, j21, j22, j23, j24, ↓j25, ↓j29, ↓j48, ↓j91, ↓j145, j170, j171, j173, j174, ↓reduceIte, Nat.reduceEqDiff, j184, j211, j241, j274, j276, j277, hce]
          refine ⟨hkb, ?_⟩
          simp -dsimp -implicitDefEqProofs only [↓j4, ↓j5, j17, j18, j20, j24, ↓j25, ↓j27, ↓j29, ↓j38, ↓j43, ↓j53, ↓j76, j129, ↓j145, ↓j146, ↓j147, ↓j150, ↓j153, AV.proj, AV.offOf, AV.size, AV.sizeL, j163, j164, j170, j171, j172, j174, j175, ↓reduceIte, Nat.reduceAdd, Nat.reduceEqDiff, j182, j195, j197, j240, j263, j264, j273, j274, hxl]
          refine CallTo.pure (args := [idAV uu no, arrAV X]) rfl fok14 (by simp -dsimp -implicitDefEqProofs only [↓j25, ↓j29, j173, j174, ↓reduceIte, Nat.reduceEqDiff]) (fun x hx => (args_idp x hx).2) hrs ?_
          simp -dsimp -implicitDefEqProofs only [↓j4, ↓j5, j17, j18, j20, j24, ↓j25, ↓j29, ↓j30, j32, ↓j38, ↓j40, ↓j53, j83, ↓j145, ↓j147, ↓j150, j163, j164, j170, j171, j172, j174, j175, ↓reduceIte, Nat.reduceEqDiff]
          refine CallTo.pure (args := []) rfl fok10 (by simp -dsimp -implicitDefEqProofs only [j174]) nil0 awake_spec ?_
          simp -dsimp -implicitDefEqProofs only [↓j3, ↓j4, j17, j18, j20, j24, ↓j25, ↓j29, ↓j30, j32, ↓j39, ↓j40, j83, ↓j145, j170, j171, j172, j174, ↓reduceIte, Nat.reduceEqDiff]
          refine ⟨by kernel_rfl, ?_⟩
          simp -dsimp -implicitDefEqProofs only [↓j10]
          exact ret _ _ _ rfl
        · simp -dsimp -implicitDefEqProofs only [↓j2, j17, j18, j20, ↓j25, ↓j27, ↓j29, ↓j38, ↓j43, ↓j53, ↓j76, j129, ↓j145, ↓j146, ↓j147, ↓j148, ↓j150, ↓j151, ↓j153, AV.proj, AV.offOf, j163, j164, j171, j175, ↓reduceIte, Nat.reduceEqDiff, j182, j240, j273, j274, hq]
          refine CallTo.pure (args := [arrAV q]) rfl fok15 (by simp -dsimp -implicitDefEqProofs only [↓j25, ↓j29, j173, j174, ↓reduceIte]) (fun x hx => (args_arr x hx).2) hlq ?_
          by_cases kq : 0 < lsnOf q
          · have eq : decide ((0 : Int) < (lsnOf q : Int)) = true := decide_eq_true (by omega)
            simp -dsimp -implicitDefEqProofs only [↓j0, ↓j1, ↓j2, ↓j7, ↓j12, ↓j13, ↓j15, j17, j18, j20, ↓j25, ↓j29, ↓j30, j32, j33, ↓j40, ↓j48, ↓j53, j83, ↓j89, ↓j145, ↓j146, ↓j147, ↓j148, ↓j149, ↓j150, ↓j151, j161, j163, j164, j171, j175, ↓reduceIte, Nat.reduceEqDiff, j185, j195, eq]
            refine CallTo.pure (args := []) rfl fok10 (by simp -dsimp -implicitDefEqProofs only [j174]) nil0 awake_spec ?_
            simp -dsimp -implicitDefEqProofs only [↓j0, ↓j1, ↓j10, j17, j18, j20, ↓j25, ↓j29, ↓j39, ↓j145, j171, ↓reduceIte]
            exact ret _ _ _ rfl
          · have eq : decide ((0 : Int) < (lsnOf q : Int)) = false := decide_eq_false (by omega)
            have hgp : ¬ (rightP uu no p = true ∧ 0 < lsnOf p) := by exact fun h => kp h.2
            have hgq : ¬ (rightP uu no q = true ∧ 0 < lsnOf q) := by exact fun h => kq h.2
            have hsm := img_same hno hi hI hgp hgq ((fw.take fw.length).map bump)
            have hsm : replayP uu no p L = replayP uu no q L := by rw [← hLL]; exact hsm
            have hrx : rightP uu no (replayP uu no p L) = true := by rw [← hLL]; exact img_right hno hi hp hI hgp hLt
            have hxl := replay_len (uu := uu) (no := no) hp hLo
            have r1 := replay_own 104 (1 + fw.length) uu no hno p hp L (L.map En.av) hlen rfl hLo (by omega)
            have r2 := replay_own 104 (1 + fw.length) uu no hno q hq L (L.map En.av) hlen rfl hLo (by omega)
            rw [← hsm] at r2
            obtain ⟨X, hX⟩ : ∃ X, replayP uu no p L = X := ⟨_, rfl⟩
            rw [hX] at r1 r2 hrx hxl
            have hrs := right_spec uu no hno X hxl
            rw [hrx] at hrs
            have hce := cellsEq_bytes (l := X) (k := X) rfl
            have hkb := kinds_bytes hxl
            simp only [beq_self_eq_true] at hce
            simp -dsimp -implicitDefEqProofs only [↓j0, ↓j1, ↓j2, ↓j7, ↓j9, ↓j12, ↓j13, ↓j15, j17, j18, j20, ↓j25, ↓j27, ↓j29, ↓j30, j32, j33, ↓j38, ↓j40, ↓j43, ↓j48, ↓j53, ↓j76, j83, ↓j89, j129, ↓j145, ↓j146, ↓j147, ↓j148, ↓j149, ↓j150, ↓j151, ↓j153, j161, AV.proj, AV.offOf, AV.size, AV.sizeL, j163, j164, j171, j175, ↓reduceIte, Nat.reduceAdd, Nat.reduceEqDiff, j182, j185, j195, j197, j240, j263, j264, j273, j274, hp, eq]
            refine CallTo.gen (args := [idAV uu no, arrAV p, .sl 104 0 [] 0 (1 + fw.length) (1 + fw.length) 239]) [(104, .cells (.agg (L.map En.av)))] [(104, .cells (.agg (L.map En.av)))] 105 rfl fok11 (by simp -dsimp -implicitDefEqProofs only [↓j25, ↓j29, j173, j174, ↓reduceIte, Nat.reduceEqDiff]) (args_own _ _ _ _ _) r1 (SubH.of (by simp -dsimp -implicitDefEqProofs only [↓j27, ↓reduceIte, Nat.reduceEqDiff, j182, j204, j205])) ⟨by simp, put_sub⟩ ?_
            simp -dsimp -implicitDefEqProofs only [↓j0, ↓j1, ↓j4, ↓j8, ↓j12, ↓j15, j17, j18, j19, j20, j21, j22, j23, j24, ↓j25, ↓j27, ↓j29, ↓j38, ↓j41, ↓j43, ↓j44, ↓j53, ↓j76, ↓j78, j129, ↓j145, ↓j146, ↓j153, AV.proj, AV.offOf, AV.upd, AV.size, AV.sizeL, AV.layable, j170, j171, j172, j173, j174, ↓reduceIte, Nat.reduceAdd, Nat.reduceEqDiff, j182, j197, j240, j243, j263, j264, j273, j274, j419, hq, hxl]
            refine CallTo.gen (args := [idAV uu no, arrAV q, .sl 104 0 [] 0 (1 + fw.length) (1 + fw.length) 239]) [(104, .cells (.agg (L.map En.av)))] [(104, .cells (.agg (L.map En.av)))] 106 rfl fok11 (by simp -dsimp -implicitDefEqProofs only [↓j25, ↓j29, j173, j174, ↓reduceIte, Nat.reduceEqDiff]) (args_own _ _ _ _ _) r2 (SubH.of (by simp -dsimp -implicitDefEqProofs only [↓j27, ↓reduceIte, Nat.reduceEqDiff, j182, j204, j205])) ⟨by simp, put_sub⟩ ?_
            simp -dsimp -implicitDefEqProofs only [↓j4, j17, j18, j20, j21, j22, j23, j24, ↓j25, ↓j29, ↓j48, ↓j91, ↓j145, j170, j171, j173, j174, ↓reduceIte, Nat.reduceEqDiff, j184, j211, j241, j274, j276, j277, hce]
            refine ⟨hkb, ?_⟩
            simp -dsimp -implicitDefEqProofs only [↓j4, ↓j5, j17, j18, j20, j24, ↓j25, ↓j27, ↓j29, ↓j38, ↓j43, ↓j53, ↓j76, j129, ↓j145, ↓j146, ↓j147, ↓j150, ↓j153, AV.proj, AV.offOf, AV.size, AV.sizeL, j163, j164, j170, j171, j172, j174, j175, ↓reduceIte, Nat.reduceAdd, Nat.reduceEqDiff, j182, j195, j197, j240, j263, j264, j273, j274, hxl]
            refine CallTo.pure (args := [idAV uu no, arrAV X]) rfl fok14 (by simp -dsimp -implicitDefEqProofs only [↓j25, ↓j29, j173, j174, ↓reduceIte, Nat.reduceEqDiff]) (fun x hx => (args_idp x hx).2) hrs ?_
            simp -dsimp -implicitDefEqProofs only [↓j4, ↓j5, j17, j18, j20, j24, ↓j25, ↓j29, ↓j30, j32, ↓j38, ↓j40, ↓j53, j83, ↓j145, ↓j147, ↓j150, j163, j164, j170, j171, j172, j174, j175, ↓reduceIte, Nat.reduceEqDiff]
            refine CallTo.pure (args := []) rfl fok10 (by simp -dsimp -implicitDefEqProofs only [j174]) nil0 awake_spec ?_
            simp -dsimp -implicitDefEqProofs only [↓j3, ↓j4, j17, j18, j20, j24, ↓j25, ↓j29, ↓j30, j32, ↓j39, ↓j40, j83, ↓j145, j170, j171, j172, j174, ↓reduceIte, Nat.reduceEqDiff]
            refine ⟨by kernel_rfl, ?_⟩
            simp -dsimp -implicitDefEqProofs only [↓j10]
            exact ret _ _ _ rfl
end Go.Proofs.Ytimdepgenefkmaa
