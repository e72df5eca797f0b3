/- The law ApplyApart. -/
import Derived.Test.YtimdepgenefkmaaQ16
set_option maxRecDepth 8000
set_option linter.unusedVariables false
set_option linter.unusedSimpArgs false
namespace Go.Proofs.Ytimdepgenefkmaa
open Go Go.RowKit

def apE (log M N : List En) (i nm nl : Nat) (x y : Bool) : Env := [(9, eoT N nl y), (10, eoT M nm x), (24, .int .i64 i), (23, .int .i64 log.length), (22, ensAV log), (4, .ptr 100 0 []), (5, .ptr 101 0 []), (6, .ptr 102 0 []), (8, .bool false)]
def apB (p : List UInt8) (uu : Bool) (no : Nat) (ou : Bool) (on : Nat) : Heap := [(100, .cells (idAV uu no)), (101, .cells (idAV ou on)), (102, .cells (arrAV p))]
def apSt (log : List En) (p : List UInt8) (uu : Bool) (no : Nat) (ou : Bool) (on : Nat) (M N : List En) (i : Nat) (x y : Bool) : St := ⟨83, apE log M N i 103 104 x y, apB p uu no ou on ++ eoH M 103 x ++ eoH N 104 y, 105⟩
theorem ren_eo (π : Nat → Nat) (l : List En) (a : Nat) (x : Bool) : AV.ren π (eoT l a x) = eoT l (π a) x := by
  cases x
  · rfl
  · simp only [eoT, AV.ren]
theorem ren_eoH (π : Nat → Nat) (l : List En) (a : Nat) (x : Bool) : Heap.ren π (eoH l a x) = eoH l (π a) x := by
  cases x
  · rfl
  · simp only [eoH, Heap.ren, List.map_cons, List.map_nil, ABlk.ren, ren_list]
theorem renL_ens (π : Nat → Nat) (l : List En) : AV.renL π (l.map En.av) = l.map En.av := AV.renL_fix (S := fun _ => False) (fun _ h => h.elim) (on_ens _ l)
theorem ap_renT {π : Nat → Nat} (h0 : π 100 = 100) (h1 : π 101 = 101) (h2 : π 102 = 102) {log M N : List En} {i nm nl : Nat} {x y : Bool} : Env.ren π (apE log M N i nm nl x y) = apE log M N i (π nm) (π nl) x y := by
  simp only [apE, Env.ren, List.map_cons, List.map_nil, ren_ens, ren_eo, renL_ens, AV.ren, h0, h1, h2]
theorem ap_renH {π : Nat → Nat} (h0 : π 100 = 100) (h1 : π 101 = 101) (h2 : π 102 = 102) {p : List UInt8} {uu : Bool} {no : Nat} {ou : Bool} {on : Nat} {M N : List En} {nm nl : Nat} {x y : Bool} : Heap.ren π (apB p uu no ou on ++ eoH M nm x ++ eoH N nl y) = apB p uu no ou on ++ eoH M (π nm) x ++ eoH N (π nl) y := by
  have hb : Heap.ren π (apB p uu no ou on) = apB p uu no ou on := by
    simp only [apB, Heap.ren, List.map_cons, List.map_nil, ABlk.ren, ren_arr, ren_id, h0, h1, h2]
  have ha : ∀ a b : Heap, Heap.ren π (a ++ b) = Heap.ren π a ++ Heap.ren π b := fun a b => by simp only [Heap.ren, List.map_append]
  rw [ha, ha, hb, ren_eoH, ren_eoH]
theorem on_eo {S : Nat → Prop} (l : List En) {a : Nat} (h : S a) (x : Bool) : AV.on S (eoT l a x) := by
  cases x
  · trivial
  · exact h
theorem onHL_app {S : Nat → Prop} {a b : Heap} (ha : onHL S a) (hb : onHL S b) : onHL S (a ++ b) := fun e he => by
  rcases List.mem_append.1 he with h | h
  · exact ha e h
  · exact hb e h
theorem on_eoH {S : Nat → Prop} (l : List En) {a : Nat} (h : S a) (x : Bool) : onHL S (eoH l a x) := by
  cases x
  · exact onHL_nil
  · exact onHL_cons h (on_ens _ _) onHL_nil
theorem ap_onT {S : Nat → Prop} {log M N : List En} {i nm nl : Nat} {x y : Bool} (h0 : S 100) (h1 : S 101) (h2 : S 102) (hm : S nm) (hn : S nl) : onTL S (apE log M N i nm nl x y) :=
  onTL_cons (on_eo _ hn _) (onTL_cons (on_eo _ hm _) (onTL_cons trivial (onTL_cons trivial (onTL_cons (on_ens _ _) (onTL_cons h0 (onTL_cons h1 (onTL_cons h2 (onTL_cons trivial onTL_nil))))))))
theorem ap_onH {S : Nat → Prop} {p : List UInt8} {uu : Bool} {no : Nat} {ou : Bool} {on : Nat} {M N : List En} {nm nl : Nat} {x y : Bool} (h0 : S 100) (h1 : S 101) (h2 : S 102) (hm : S nm) (hn : S nl) : onHL S (apB p uu no ou on ++ eoH M nm x ++ eoH N nl y) :=
  onHL_app (onHL_app (onHL_cons h0 ⟨trivial, trivial, trivial⟩ (onHL_cons h1 ⟨trivial, trivial, trivial⟩ (onHL_cons h2 (on_bytes _ _) onHL_nil))) (on_eoH _ hm _)) (on_eoH _ hn _)
theorem args_apart {p : List UInt8} {uu : Bool} {no : Nat} {ou : Bool} {on : Nat} {l : List En} : ∀ x, x ∈ [idAV uu no, idAV ou on, arrAV p, ensAV l] → AV.on (fun _ => False) x ∧ ∀ vs, x ≠ .tuple vs := fun x hx => by
  simp only [List.mem_cons, List.not_mem_nil, or_false] at hx
  rcases hx with rfl | rfl | rfl | rfl
  · exact ⟨⟨trivial, trivial, trivial⟩, fun vs h => by cases h⟩
  · exact ⟨⟨trivial, trivial, trivial⟩, fun vs h => by cases h⟩
  · exact ⟨on_bytes _ _, fun vs h => by cases h⟩
  · exact ⟨on_ens _ _, fun vs h => by cases h⟩
set_option maxHeartbeats 6400000 in
theorem applyApart_spec (uu : Bool) (no : Nat) (hno : no < 65536) (ou : Bool) (on : Nat) (hon : on < 65536) (p : List UInt8) (hp : p.length = 224) (log : List En) (hl : ∀ e, e ∈ log → e.Ok) (hn : log.length ≤ 9223372036854775807) : ACall Try.prog 7 [idAV uu no, idAV ou on, arrAV p, ensAV log] [] (.bool true) [] := by
  refine ACall.run (Z := Z) (N := 83) mixed hZ Try.func7 rfl rfl (by kernel_rfl) (by simp) args_apart 100 ?_
  have ret : ∀ (t : Env) (H : Heap) (m : Nat), look t 8 = some (.bool true) → Final Try.prog Try.f7 (.bool true) [] .ret ⟨83, t, H, m⟩ := fun t H m h =>
    Final.one (.inr rfl) (r := .tmp 8) rfl ⟨h, fun vs h => by cases h⟩ (fun vs h => by cases h) (fun vs h => by cases h) (.same _ trivial)
  have nil0 : ∀ x : AV, x ∈ ([] : List AV) → ∀ vs, x ≠ .tuple vs := fun x hx => by cases hx
  have hz := zb_len 224
  have hce := cellsEq_id uu ou no on
  by_cases hid : uu = ou ∧ no = on
  · rw [decide_eq_true hid] at hce
    simp -dsimp -implicitDefEqProofs only [↓j0, ↓j1, ↓j2, ↓j7, ↓j12, ↓j13, ↓j15, j17, j18, j20, ↓j25, ↓j27, ↓j29, ↓j30, j32, ↓j38, ↓j39, ↓j40, ↓j42, ↓j43, ↓j48, ↓j53, ↓j76, j81, ↓j91, j129, ↓j145, ↓j146, ↓j147, ↓j149, ↓j151, ↓j153, AV.proj, AV.offOf, AV.size, AV.sizeL, AV.layable, AV.flat, AV.flatL, argEnv, j163, j164, j170, j171, j172, j173, j174, j175, reduceCtorEq, ↓reduceIte, Nat.reduceAdd, Nat.reduceEqDiff, j182, j195, j196, j197, j211, kindOf, j263, j264, j271, j272, hce]
    refine CallTo.pure (args := []) rfl fok10 (by simp -dsimp -implicitDefEqProofs only [j174]) nil0 awake_spec ?_
    simp -dsimp -implicitDefEqProofs only [↓j0, ↓j1, ↓j10, j17, j18, j20, ↓j25, ↓j29, ↓j39, ↓j145, j171, ↓reduceIte]
    exact ret _ _ _ rfl
  rw [decide_eq_false hid] at hce
  by_cases h60 : 60 < log.length
  · have e60 : decide ((60 : Int) < (log.length : Int)) = true := decide_eq_true (by omega)
    simp -dsimp -implicitDefEqProofs only [↓j0, ↓j1, ↓j2, ↓j7, ↓j12, ↓j13, ↓j15, j17, j18, j20, ↓j25, ↓j27, ↓j29, ↓j30, j32, j33, ↓j38, ↓j39, ↓j40, ↓j42, ↓j43, ↓j48, ↓j53, ↓j58, ↓j62, ↓j76, j83, ↓j89, ↓j91, j129, j142, ↓j145, ↓j146, ↓j147, ↓j148, ↓j149, ↓j151, ↓j153, j161, AV.proj, AV.offOf, AV.size, AV.sizeL, AV.layable, AV.flat, AV.flatL, argEnv, j163, j164, j170, j171, j172, j173, j174, j175, reduceCtorEq, ↓reduceIte, Nat.reduceAdd, Nat.reduceEqDiff, j182, j185, j195, j196, j197, j211, kindOf, j263, j264, j271, j272, j473, hce, e60]
    refine CallTo.pure (args := []) rfl fok10 (by simp -dsimp -implicitDefEqProofs only [j174]) nil0 awake_spec ?_
    simp -dsimp -implicitDefEqProofs only [↓j0, ↓j1, ↓j10, j17, j18, j20, ↓j25, ↓j29, ↓j39, ↓j145, j171, ↓reduceIte]
    exact ret _ _ _ rfl
  have e60 : decide ((60 : Int) < (log.length : Int)) = false := decide_eq_false (by omega)
  simp -dsimp -implicitDefEqProofs only [↓j0, ↓j1, ↓j2, ↓j7, ↓j9, ↓j12, ↓j13, ↓j14, ↓j15, ↓j16, j17, j18, j20, ↓j25, ↓j27, ↓j29, ↓j30, j32, j33, j36, ↓j38, ↓j39, ↓j40, ↓j42, ↓j43, ↓j48, ↓j58, ↓j62, ↓j76, j83, ↓j89, ↓j91, j129, j142, ↓j145, ↓j146, ↓j148, ↓j149, ↓j151, ↓j153, j161, AV.proj, AV.offOf, AV.size, AV.sizeL, AV.layable, AV.flat, AV.flatL, argEnv, j163, j164, j170, j171, j172, j173, j174, j175, reduceCtorEq, ↓reduceIte, Nat.reduceAdd, Nat.reduceEqDiff, j182, j185, j195, j196, j197, j211, kindOf, j263, j264, j271, j272, j473, hce, e60]
  refine AWp.loopR (Z := Z) mixed hZ (by kernel_rfl) (fun n s => ∃ i x y, i + n = log.length ∧ (x = false → mixF uu no ou on 0 (log.take i) = []) ∧ (y = false → selF uu no (log.take i) = []) ∧ s = apSt log p uu no ou on (mixF uu no ou on 0 (log.take i)) (selF uu no (log.take i)) i x y) (n0 := log.length) (s0 := apSt log p uu no ou on [] [] 0 false false) ?_ ⟨0, false, false, by omega, fun _ => rfl, fun _ => rfl, rfl⟩ ?_ rfl
  · exact Wk.sub (by simp -dsimp -implicitDefEqProofs only [↓j25, ↓j27, j172, j179, ↓reduceIte, Nat.reduceEqDiff, Nat.reduceLeDiff, j182, j183, j184, j202, j203, j204, j205, j209, apE, apB, eoT, eoH] <;> simp)
  rintro n s ⟨i, x, y, hin, hx, hy, rfl⟩
  refine ⟨rfl, ?_⟩
  rcases Nat.lt_or_ge i log.length with hlt | hge
  · have hd : decide ((i : Int) < (log.length : Int)) = true := decide_eq_true (by omega)
    have hlt2 : (i : Int) < (log.length : Int) := by omega
    obtain ⟨e, he⟩ := list_get (xs := log) hlt
    have heo := hl e (List.mem_of_getElem? he)
    have hi2 := heo.rc.image
    have hsz : AV.sizeL ((log.map En.av).take i) = i * 239 := (unif_en log hl).sizeL_take (by simp; omega)
    have hw : IntKind.i64.wrap ((i : Int) + 1) = ((i + 1 : Nat) : Int) := by rw [wrap_i64 (by omega) (by omega)]; omega
    have hw2 : IntKind.u64.wrap (i : Int) = (i : Int) := by rw [wrap_u64, Nat.mod_eq_of_lt (by omega)]
    have hci := cellsEq_id e.rc.undo uu e.rc.no no
    have hOo := otherE_ok (ou := ou) hon heo
    have hCo := comE_ok (i := i) (by omega)
    have hmt := mixF_take (uu := uu) (no := no) (ou := ou) (on := on) he
    have hst := selF_take (uu := uu) (no := no) he
    have hMo : ∀ e, e ∈ mixF uu no ou on 0 (log.take i) → e.Ok := mixF_ok hon 0 _ (by rw [List.length_take]; omega) fun e he => hl e (List.mem_of_mem_take he)
    have hNo : ∀ e, e ∈ selF uu no (log.take i) → e.Ok := fun e he => hl e (List.mem_of_mem_take (List.mem_filter.1 he).1)
    have hMl := mixF_len uu no ou on 0 (log.take i)
    have hNl := List.length_filter_le (isSel uu no) (log.take i)
    rw [List.length_take] at hMl hNl
    have hNl : (selF uu no (log.take i)).length ≤ 60 := by show (List.filter (isSel uu no) (log.take i)).length ≤ 60; omega
    have hO : AV.agg [AV.int .u64 e.lsn, AV.agg [AV.int .u8 e.rc.kind, idAV ou on, arrAV e.rc.image, AV.int .u32 e.rc.ts, AV.agg [AV.int .u16 e.rc.ppg, AV.int .u8 e.rc.psl.toNat], AV.str ⟨e.rc.delta.toArray⟩, AV.int .u8 e.rc.slot, e.rc.old.av]] = (otherE ou on e).av := rfl
    have hC : AV.agg [AV.int .u64 i, AV.agg [AV.int .u8 6, AV.agg [AV.bool false, AV.int .u16 0], AV.agg (bytesAV (zb 224)), AV.int .u32 7, AV.agg [AV.int .u16 0, AV.int .u8 0], AV.str ⟨#[]⟩, AV.int .u8 0, AV.agg [AV.bool false, AV.int .u16 0, AV.int .u32 0, AV.agg [AV.int .u16 0, AV.int .u8 0], AV.str ⟨#[]⟩]]] = (comE i).av := rfl
    obtain ⟨O, hOe⟩ : ∃ O, otherE ou on e = O := ⟨_, rfl⟩
    obtain ⟨C, hCe⟩ : ∃ C, comE i = C := ⟨_, rfl⟩
    rw [hOe] at hO hOo hmt
    rw [hCe] at hC hCo hmt
    obtain ⟨M, hMe⟩ : ∃ M, mixF uu no ou on 0 (log.take i) = M := ⟨_, rfl⟩
    obtain ⟨N, hNe⟩ : ∃ N, selF uu no (log.take i) = N := ⟨_, rfl⟩
    rw [hMe] at hx hMo hMl hmt
    rw [hNe] at hy hNo hNl hst
    rw [hMe, hNe]
    have hMl : M.length ≤ 180 := by omega
    have hOi := hOo.rc.image
    have hCi := hCo.rc.image
    have uE : Unif 239 [e.av] := unif_en [e] fun y hy => by rw [List.mem_singleton.1 hy]; exact heo
    have uOC : Unif 239 [O.av, C.av] := unif_en [O, C] fun y hy => by
      simp only [List.mem_cons, List.not_mem_nil, or_false] at hy
      rcases hy with rfl | rfl <;> assumption
    have uM := unif_en M hMo
    have uN := unif_en N hNo
    have uMe : Unif 239 (M.map En.av ++ [e.av]) := by
      have := unif_en (M ++ [e]) fun y hy => by
        rcases List.mem_append.1 hy with hy | hy
        · exact hMo y hy
        · rw [List.mem_singleton.1 hy]; exact heo
      simpa using this
    have tM := take_ens M
    have tN := take_ens N
    have tMe : (M.map En.av ++ [e.av]).take (M.length + 1) = M.map En.av ++ [e.av] := List.take_of_length_le (by simp)
    have step : ∀ (ps : List (Nat × Nat)) (M' N' : List En) (y' : Bool) (nm nl : Nat) (t : Env) (H : Heap) (nx : Nat), mixF uu no ou on 0 (log.take (i + 1)) = M' → selF uu no (log.take (i + 1)) = N' → (y' = false → N' = []) → (∀ q, q ∈ ps → 105 ≤ q.1 ∧ 100 ≤ q.2 ∧ q.2 < 105) → (ps.map (·.2)).Nodup → okN ps 105 100 → okN ps 105 101 → okN ps 105 102 → okN ps 105 nm → okN ps 105 nl → rnL ps 100 = 100 → rnL ps 101 = 101 → rnL ps 102 = 102 → rnL ps nm = 103 → rnL ps nl = 104 →
        SubT (apE log M' N' (i + 1) nm nl true y') t → SubH (apB p uu no ou on ++ eoH M' nm true ++ eoH N' nl y') H → ∃ m s'', m < n ∧ (∃ i x y, i + m = log.length ∧ (x = false → mixF uu no ou on 0 (log.take i) = []) ∧ (y = false → selF uu no (log.take i) = []) ∧ s'' = apSt log p uu no ou on (mixF uu no ou on 0 (log.take i)) (selF uu no (log.take i)) i x y) ∧ Wk ⟨83, t, H, nx⟩ s'' := by
      intro ps M' N' y' nm nl t H nx hM' hN' hy' h1 h2 o0 o1 o2 om ol r0 r1 r2 rm rl ht hH
      refine ⟨n - 1, apSt log p uu no ou on M' N' (i + 1) true y', by omega, ⟨i + 1, true, y', by omega, (fun h => by cases h), fun h => by rw [hN']; exact hy' h, by rw [hM', hN']⟩, Wk.trans (Wk.mk (s' := ⟨83, apE log M' N' (i + 1) nm nl true y', apB p uu no ou on ++ eoH M' nm true ++ eoH N' nl y', nx⟩) ht.spec hH.spec (Nat.le_refl _) rfl) (Wk.rensE ps (by omega) h1 h2 (ap_onT o0 o1 o2 om ol) (ap_onH o0 o1 o2 om ol) ?_ ?_)⟩
      · rw [ap_renT r0 r1 r2, rm, rl]
      · rw [ap_renH r0 r1 r2, rm, rl]
    by_cases k6 : e.rc.kind = 6
    · have e6 : ((e.rc.kind : Int) == 6) = true := by rw [beq_iff_eq]; omega
      have n6 : ((e.rc.kind : Int) != 6) = false := by simp; omega
      have hmx : isMix uu no e = true := decide_eq_true (.inl k6)
      have hse : isSel uu no e = false := decide_eq_false (fun h => h.1 k6)
      cases x
      · cases y
        · have hM0 := hx rfl
          subst hM0
          have hN0 := hy rfl
          subst hN0
          simp -dsimp -implicitDefEqProofs only [↓j0, ↓j1, ↓j2, ↓j7, ↓j9, ↓j12, ↓j13, ↓j14, ↓j15, j17, j18, j19, j20, j21, j22, j23, ↓j25, ↓j27, ↓j29, ↓j30, j32, j33, ↓j38, ↓j39, ↓j40, ↓j41, ↓j43, ↓j44, ↓j45, ↓j46, ↓j48, ↓j51, ↓j74, ↓j76, ↓j77, ↓j78, ↓j79, j81, ↓j89, ↓j92, j125, j126, j127, j128, j129, j130, ↓j145, ↓j146, ↓j147, ↓j149, ↓j151, ↓j153, j157, j159, partsAV, AV.proj, AV.offOf, AV.upd, AV.size, AV.sizeL, AV.layable, j163, j164, j166, j167, j169, j170, j171, j172, j175, j177, j179, j180, ↓reduceIte, Nat.reduceAdd, Nat.reduceMul, Nat.reduceEqDiff, Nat.reduceLeDiff, j182, j183, j185, j191, j196, j197, j206, j207, j208, j213, j214, j215, j217, Nat.reducePow, List.replicate, j234, j240, j255, j316, j341, j342, j347, j356, j425, j444, apSt, apE, apB, eoT, eoH, hz, hlt2, he, hsz, hi2, e6]
          refine DoAppend_of rfl rfl at44 ?_
          simp -dsimp -implicitDefEqProofs only [↓j0, ↓j1, ↓j2, ↓j7, ↓j9, ↓j12, ↓j13, ↓j15, j17, j18, j19, j20, j21, j22, j23, ↓j25, ↓j27, ↓j29, ↓j30, j32, j33, ↓j38, ↓j39, ↓j40, ↓j43, ↓j44, ↓j45, ↓j48, ↓j50, ↓j51, ↓j54, ↓j74, ↓j76, ↓j78, ↓j79, j82, ↓j89, ↓j100, ↓j106, j107, ↓j124, j125, j126, j127, j128, j129, j130, ↓j145, ↓j146, ↓j148, ↓j149, ↓j150, ↓j153, j158, partsAV, AV.proj, AV.offOf, AV.upd, AV.size, AV.sizeL, AV.layable, j163, j164, j166, j167, j168, j169, j170, j171, j175, j179, j180, ↓reduceIte, Nat.reduceAdd, Nat.reduceMul, Nat.reduceEqDiff, Nat.reduceLeDiff, j182, j183, j185, j196, j197, j213, j214, j215, j216, j217, j223, ↓j225, Nat.reducePow, j227, List.replicate, j228, j230, j231, Nat.reduceBEq, j234, j240, j255, j263, j264, j280, j316, j317, j319, j326, j341, j342, j345, j347, j348, j442, j443, j444, j459, hz, hw2, uE, hO, hC, hOi, hCi, n6]
          refine DoAppend_of rfl rfl at44 ?_
          simp -dsimp -implicitDefEqProofs only [↓j0, ↓j1, ↓j7, ↓j15, j17, j18, j20, j21, j22, j23, ↓j25, ↓j27, ↓j29, ↓j30, j33, ↓j38, ↓j39, ↓j48, ↓j89, ↓j101, ↓j102, ↓j106, j107, ↓j145, ↓j146, ↓j153, j154, AV.proj, AV.offOf, j166, j170, j171, ↓reduceIte, Nat.reduceAdd, Nat.reduceMul, Nat.reduceEqDiff, Nat.reduceLeDiff, j182, j185, j188, j189, j196, j197, j213, j214, j215, j223, j227, j228, j230, j231, j234, uE, uOC]
          refine step [(109, 103)] ([] ++ ([e] ++ [O, C])) ([] ++ []) false 109 104 _ _ _ (by rw [hmt, hmx]; rfl) (by rw [hst, hse]; rfl) (fun _ => rfl) (by simp) (by simp) (by simp [okN]) (by simp [okN]) (by simp [okN]) (by simp [okN]) (by simp [okN]) rfl rfl rfl rfl rfl ?_ ?_
          · simp -dsimp -implicitDefEqProofs only [↓j25, j170, j171, ↓reduceIte, Nat.reduceAdd, Nat.reduceEqDiff, j182, j196, j202, j203, j230, j231, apE, eoT, hw] <;> simp
          · simp -dsimp -implicitDefEqProofs only [↓j27, j170, j171, j172, j173, j174, ↓reduceIte, Nat.reduceEqDiff, j182, j204, j205, apB, eoH] <;> simp
        · have hM0 := hx rfl
          subst hM0
          simp -dsimp -implicitDefEqProofs only [↓j0, ↓j1, ↓j2, ↓j7, ↓j9, ↓j12, ↓j13, ↓j14, ↓j15, j17, j18, j19, j20, j21, j22, j23, ↓j25, ↓j27, ↓j29, ↓j30, j32, j33, ↓j38, ↓j39, ↓j40, ↓j41, ↓j43, ↓j44, ↓j45, ↓j46, ↓j48, ↓j51, ↓j74, ↓j76, ↓j77, ↓j78, ↓j79, j81, ↓j89, ↓j92, j125, j126, j127, j128, j129, j130, ↓j145, ↓j146, ↓j147, ↓j149, ↓j151, ↓j153, j157, j159, partsAV, AV.proj, AV.offOf, AV.upd, AV.size, AV.sizeL, AV.layable, j163, j164, j166, j167, j169, j170, j171, j172, j175, j177, j179, j180, ↓reduceIte, Nat.reduceAdd, Nat.reduceMul, Nat.reduceEqDiff, Nat.reduceLeDiff, j182, j183, j185, j191, j196, j197, j206, j207, j208, j213, j214, j215, j217, Nat.reducePow, List.replicate, j234, j240, j255, j316, j341, j342, j347, j356, j425, j444, apSt, apE, apB, eoT, eoH, hz, hlt2, he, hsz, hi2, e6]
          refine DoAppend_of rfl rfl at44 ?_
          simp -dsimp -implicitDefEqProofs only [↓j0, ↓j1, ↓j2, ↓j7, ↓j9, ↓j12, ↓j13, ↓j15, j17, j18, j19, j20, j21, j22, j23, ↓j25, ↓j27, ↓j29, ↓j30, j32, j33, ↓j38, ↓j39, ↓j40, ↓j43, ↓j44, ↓j45, ↓j48, ↓j50, ↓j51, ↓j54, ↓j74, ↓j76, ↓j78, ↓j79, j82, ↓j89, ↓j100, ↓j106, j107, ↓j124, j125, j126, j127, j128, j129, j130, ↓j145, ↓j146, ↓j148, ↓j149, ↓j150, ↓j153, j158, partsAV, AV.proj, AV.offOf, AV.upd, AV.size, AV.sizeL, AV.layable, j163, j164, j166, j167, j168, j169, j170, j171, j175, j179, j180, ↓reduceIte, Nat.reduceAdd, Nat.reduceMul, Nat.reduceEqDiff, Nat.reduceLeDiff, j182, j183, j185, j196, j197, j213, j214, j215, j216, j217, j223, ↓j225, Nat.reducePow, j227, List.replicate, j228, j230, j231, Nat.reduceBEq, j234, j240, j255, j263, j264, j280, j316, j317, j319, j326, j341, j342, j345, j347, j348, j442, j443, j444, j459, hz, hw2, uE, hO, hC, hOi, hCi, n6]
          refine DoAppend_of rfl rfl at44 ?_
          simp -dsimp -implicitDefEqProofs only [↓j0, ↓j1, ↓j7, ↓j15, j17, j18, j20, j21, j22, j23, ↓j25, ↓j27, ↓j29, ↓j30, j33, ↓j38, ↓j39, ↓j48, ↓j89, ↓j101, ↓j102, ↓j106, j107, ↓j145, ↓j146, ↓j153, j154, AV.proj, AV.offOf, j166, j170, j171, ↓reduceIte, Nat.reduceAdd, Nat.reduceMul, Nat.reduceEqDiff, Nat.reduceLeDiff, j182, j185, j188, j189, j196, j197, j213, j214, j215, j223, j227, j228, j230, j231, j234, uE, uOC]
          refine step [(109, 103)] ([] ++ ([e] ++ [O, C])) (N ++ []) true 109 104 _ _ _ (by rw [hmt, hmx]; rfl) (by rw [hst, hse]; rfl) (fun h => by cases h) (by simp) (by simp) (by simp [okN]) (by simp [okN]) (by simp [okN]) (by simp [okN]) (by simp [okN]) rfl rfl rfl rfl rfl ?_ ?_
          · simp -dsimp -implicitDefEqProofs only [↓j25, j170, j171, j172, ↓reduceIte, Nat.reduceAdd, Nat.reduceEqDiff, j182, j196, j202, j203, j230, j231, apE, eoT, hw] <;> simp
          · simp -dsimp -implicitDefEqProofs only [↓j27, j170, j171, j172, j173, j174, ↓reduceIte, Nat.reduceEqDiff, j182, j204, j205, apB, eoH] <;> simp
      · cases y
        · have hN0 := hy rfl
          subst hN0
          simp -dsimp -implicitDefEqProofs only [↓j0, ↓j1, ↓j2, ↓j7, ↓j9, ↓j12, ↓j13, ↓j14, ↓j15, j17, j18, j19, j20, j21, j22, j23, ↓j25, ↓j27, ↓j29, ↓j30, j32, j33, ↓j38, ↓j39, ↓j40, ↓j41, ↓j43, ↓j44, ↓j45, ↓j46, ↓j48, ↓j51, ↓j74, ↓j76, ↓j77, ↓j78, ↓j79, j81, ↓j89, ↓j92, j125, j126, j127, j128, j129, j130, ↓j145, ↓j146, ↓j147, ↓j149, ↓j151, ↓j153, j157, j159, partsAV, AV.proj, AV.offOf, AV.upd, AV.size, AV.sizeL, AV.layable, j163, j164, j166, j167, j169, j170, j171, j172, j175, j177, j179, j180, ↓reduceIte, Nat.reduceAdd, Nat.reduceMul, Nat.reduceEqDiff, Nat.reduceLeDiff, j182, j183, j185, j191, j196, j197, j206, j207, j208, j213, j214, j215, j217, Nat.reducePow, List.replicate, j234, j240, j255, j316, j341, j342, j347, j356, j425, j444, apSt, apE, apB, eoT, eoH, hz, hlt2, he, hsz, hi2, e6]
          refine DoAppend_of rfl rfl at44 ?_
          simp -dsimp -implicitDefEqProofs only [↓j27, ↓j101, ↓j102, ↓j106, j107, ↓j145, ↓j146, ↓j153, AV.proj, AV.offOf, j166, ↓reduceIte, Nat.reduceEqDiff, Nat.reduceLeDiff, j182, j184, j188, j189, j196, j197, j213, j214, j215, j222, j223, j227, j228, j230, j231, j234, uE, uM]
          refine ⟨⟨by first | omega | (simp; omega), by first | omega | (simp; omega)⟩, ?_⟩
          simp -dsimp -implicitDefEqProofs only [↓j0, ↓j1, ↓j2, ↓j7, ↓j9, ↓j12, ↓j13, ↓j15, j17, j18, j19, j20, j21, j22, j23, ↓j25, ↓j27, ↓j29, ↓j30, j32, j33, ↓j38, ↓j39, ↓j40, ↓j43, ↓j44, ↓j45, ↓j48, ↓j50, ↓j51, ↓j54, ↓j74, ↓j76, ↓j78, ↓j79, j82, ↓j89, ↓j124, j125, j126, j127, j128, j129, j130, ↓j145, ↓j146, ↓j148, ↓j149, ↓j150, ↓j153, j158, partsAV, AV.proj, AV.offOf, AV.upd, AV.size, AV.sizeL, AV.layable, j163, j164, j166, j167, j168, j169, j170, j171, j175, j179, j180, ↓reduceIte, Nat.reduceAdd, Nat.reduceMul, Nat.reduceEqDiff, Nat.reduceLeDiff, j182, j183, j185, j196, j197, j213, j214, j215, j216, j217, ↓j225, Nat.reducePow, j227, List.replicate, j228, j230, j231, j234, j240, j255, j263, j264, j280, j316, j317, j319, j326, j341, j342, j345, j347, j348, j442, j443, j444, j459, hz, hw2, tM, hO, hC, hOi, hCi, n6]
          refine DoAppend_of rfl rfl at44 ?_
          simp -dsimp -implicitDefEqProofs only [↓j27, ↓j101, ↓j102, ↓j106, j107, ↓j145, ↓j146, ↓j153, AV.proj, AV.offOf, j166, ↓reduceIte, Nat.reduceAdd, Nat.reduceEqDiff, Nat.reduceLeDiff, j182, j184, j188, j189, j196, j197, j213, j214, j215, j222, j223, j224, j227, j228, j230, j231, j234, j242, uOC, uMe]
          refine ⟨⟨by first | omega | (simp; omega), by first | omega | (simp; omega)⟩, ?_⟩
          simp -dsimp -implicitDefEqProofs only [↓j0, ↓j1, ↓j7, ↓j15, j17, j18, j20, j21, j22, j23, ↓j25, ↓j29, ↓j30, j33, ↓j38, ↓j39, ↓j48, ↓j89, ↓j145, ↓j146, j154, j166, j170, j171, ↓reduceIte, Nat.reduceAdd, Nat.reduceEqDiff, j185, j196, j224, j227, j228, j230, j231, tMe]
          refine step [(109, 103)] (M ++ ([e] ++ [O, C])) ([] ++ []) false 109 104 _ _ _ (by rw [hmt, hmx]; rfl) (by rw [hst, hse]; rfl) (fun _ => rfl) (by simp) (by simp) (by simp [okN]) (by simp [okN]) (by simp [okN]) (by simp [okN]) (by simp [okN]) rfl rfl rfl rfl rfl ?_ ?_
          · simp -dsimp -implicitDefEqProofs only [↓j25, j170, j171, ↓reduceIte, Nat.reduceAdd, Nat.reduceEqDiff, j182, j196, j202, j203, j230, j231, j242, apE, eoT, hw] <;> simp
          · simp -dsimp -implicitDefEqProofs only [↓j27, j170, j171, j172, j179, ↓reduceIte, Nat.reduceEqDiff, j183, j184, j204, j205, apB, eoH] <;> simp
        · simp -dsimp -implicitDefEqProofs only [↓j0, ↓j1, ↓j2, ↓j7, ↓j9, ↓j12, ↓j13, ↓j14, ↓j15, j17, j18, j19, j20, j21, j22, j23, ↓j25, ↓j27, ↓j29, ↓j30, j32, j33, ↓j38, ↓j39, ↓j40, ↓j41, ↓j43, ↓j44, ↓j45, ↓j46, ↓j48, ↓j51, ↓j74, ↓j76, ↓j77, ↓j78, ↓j79, j81, ↓j89, ↓j92, j125, j126, j127, j128, j129, j130, ↓j145, ↓j146, ↓j147, ↓j149, ↓j151, ↓j153, j157, j159, partsAV, AV.proj, AV.offOf, AV.upd, AV.size, AV.sizeL, AV.layable, j163, j164, j166, j167, j169, j170, j171, j175, j177, j179, j180, ↓reduceIte, Nat.reduceAdd, Nat.reduceMul, Nat.reduceEqDiff, Nat.reduceLeDiff, j182, j183, j185, j191, j196, j197, j206, j207, j208, j213, j214, j215, j217, Nat.reducePow, List.replicate, j234, j240, j255, j316, j341, j342, j347, j356, j425, j444, apSt, apE, apB, eoT, eoH, hz, hlt2, he, hsz, hi2, e6]
          refine DoAppend_of rfl rfl at44 ?_
          simp -dsimp -implicitDefEqProofs only [↓j27, ↓j101, ↓j102, ↓j106, j107, ↓j145, ↓j146, ↓j153, AV.proj, AV.offOf, j166, ↓reduceIte, Nat.reduceEqDiff, Nat.reduceLeDiff, j182, j184, j188, j189, j196, j197, j213, j214, j215, j222, j223, j227, j228, j230, j231, j234, uE, uM]
          refine ⟨⟨by first | omega | (simp; omega), by first | omega | (simp; omega)⟩, ?_⟩
          simp -dsimp -implicitDefEqProofs only [↓j0, ↓j1, ↓j2, ↓j7, ↓j9, ↓j12, ↓j13, ↓j15, j17, j18, j19, j20, j21, j22, j23, ↓j25, ↓j27, ↓j29, ↓j30, j32, j33, ↓j38, ↓j39, ↓j40, ↓j43, ↓j44, ↓j45, ↓j48, ↓j50, ↓j51, ↓j54, ↓j74, ↓j76, ↓j78, ↓j79, j82, ↓j89, ↓j124, j125, j126, j127, j128, j129, j130, ↓j145, ↓j146, ↓j148, ↓j149, ↓j150, ↓j153, j158, partsAV, AV.proj, AV.offOf, AV.upd, AV.size, AV.sizeL, AV.layable, j163, j164, j166, j167, j168, j169, j170, j171, j175, j179, j180, ↓reduceIte, Nat.reduceAdd, Nat.reduceMul, Nat.reduceEqDiff, Nat.reduceLeDiff, j182, j183, j185, j196, j197, j213, j214, j215, j216, j217, ↓j225, Nat.reducePow, j227, List.replicate, j228, j230, j231, j234, j240, j255, j263, j264, j280, j316, j317, j319, j326, j341, j342, j345, j347, j348, j442, j443, j444, j459, hz, hw2, tM, hO, hC, hOi, hCi, n6]
          refine DoAppend_of rfl rfl at44 ?_
          simp -dsimp -implicitDefEqProofs only [↓j27, ↓j101, ↓j102, ↓j106, j107, ↓j145, ↓j146, ↓j153, AV.proj, AV.offOf, j166, ↓reduceIte, Nat.reduceAdd, Nat.reduceEqDiff, Nat.reduceLeDiff, j182, j184, j188, j189, j196, j197, j213, j214, j215, j222, j223, j224, j227, j228, j230, j231, j234, j242, uOC, uMe]
          refine ⟨⟨by first | omega | (simp; omega), by first | omega | (simp; omega)⟩, ?_⟩
          simp -dsimp -implicitDefEqProofs only [↓j0, ↓j1, ↓j7, ↓j15, j17, j18, j20, j21, j22, j23, ↓j25, ↓j29, ↓j30, j33, ↓j38, ↓j39, ↓j48, ↓j89, ↓j145, ↓j146, j154, j166, j170, j171, ↓reduceIte, Nat.reduceAdd, Nat.reduceEqDiff, j185, j196, j224, j227, j228, j230, j231, tMe]
          refine step [(109, 103)] (M ++ ([e] ++ [O, C])) (N ++ []) true 109 104 _ _ _ (by rw [hmt, hmx]; rfl) (by rw [hst, hse]; rfl) (fun h => by cases h) (by simp) (by simp) (by simp [okN]) (by simp [okN]) (by simp [okN]) (by simp [okN]) (by simp [okN]) rfl rfl rfl rfl rfl ?_ ?_
          · simp -dsimp -implicitDefEqProofs only [↓j25, j170, j171, j172, ↓reduceIte, Nat.reduceAdd, Nat.reduceEqDiff, j182, j196, j202, j203, j230, j231, j242, apE, eoT, hw] <;> simp
          · simp -dsimp -implicitDefEqProofs only [↓j27, j170, j171, j172, j179, ↓reduceIte, Nat.reduceEqDiff, j182, j183, j184, j204, j205, apB, eoH] <;> simp
    have e6 : ((e.rc.kind : Int) == 6) = false := by rw [beq_eq_false_iff_ne]; omega
    have n6 : ((e.rc.kind : Int) != 6) = true := by simp; omega
    by_cases hpg : e.rc.undo = uu ∧ e.rc.no = no
    · rw [decide_eq_true hpg] at hci
      have hmx : isMix uu no e = true := decide_eq_true (.inr hpg)
      have hse : isSel uu no e = true := decide_eq_true ⟨k6, hpg⟩
      cases x
      · cases y
        · have hM0 := hx rfl
          subst hM0
          have hN0 := hy rfl
          subst hN0
          simp -dsimp -implicitDefEqProofs only [↓j0, ↓j1, ↓j2, ↓j7, ↓j9, ↓j12, ↓j13, ↓j14, ↓j15, j17, j18, j19, j20, j21, j22, j23, ↓j25, ↓j27, ↓j29, ↓j30, j32, j33, ↓j38, ↓j39, ↓j40, ↓j41, ↓j43, ↓j44, ↓j45, ↓j46, ↓j48, ↓j51, ↓j74, ↓j76, ↓j77, ↓j78, ↓j79, j83, ↓j89, ↓j91, ↓j92, j125, j126, j127, j128, j129, j130, ↓j145, ↓j146, ↓j147, ↓j148, ↓j149, ↓j151, ↓j153, j157, j159, partsAV, AV.proj, AV.offOf, AV.upd, AV.size, AV.sizeL, AV.layable, AV.flat, AV.flatL, j163, j164, j166, j167, j169, j170, j171, j172, j173, j174, j175, j177, j179, j180, ↓reduceIte, Nat.reduceAdd, Nat.reduceMul, Nat.reduceEqDiff, Nat.reduceLeDiff, j182, j183, j185, j191, j195, j196, j197, j206, j207, j208, j211, kindOf, j213, j214, j215, j217, Nat.reducePow, List.replicate, j234, j240, j255, j263, j264, j271, j272, j316, j319, j341, j342, j347, j356, j425, j444, apSt, apE, apB, eoT, eoH, hz, hlt2, he, hsz, hi2, e6, hci]
          refine DoAppend_of rfl rfl at44 ?_
          simp -dsimp -implicitDefEqProofs only [↓j0, ↓j1, ↓j2, ↓j7, ↓j12, ↓j13, ↓j15, j17, j18, j20, ↓j25, ↓j27, ↓j29, ↓j30, j32, j33, ↓j38, ↓j39, ↓j40, ↓j43, ↓j45, ↓j48, ↓j51, ↓j74, ↓j76, ↓j79, j83, ↓j89, ↓j91, ↓j100, ↓j106, j107, j125, j126, j127, j128, j129, j130, ↓j145, ↓j146, ↓j147, ↓j148, ↓j149, ↓j150, ↓j153, j158, partsAV, AV.proj, AV.offOf, AV.size, AV.sizeL, AV.layable, AV.flat, AV.flatL, j163, j164, j166, j167, j169, j170, j171, j172, j173, j174, j175, j179, j180, ↓reduceIte, Nat.reduceAdd, Nat.reduceMul, Nat.reduceEqDiff, Nat.reduceLeDiff, j182, j183, j185, j195, j196, j197, j211, kindOf, j213, j214, j215, j217, j223, Nat.reducePow, j227, List.replicate, j228, j230, j231, Nat.reduceBEq, j234, j240, j255, j263, j264, j271, j272, j316, j319, j341, j342, j347, j444, hz, hi2, uE, n6, hci]
          refine DoAppend_of rfl rfl at44 ?_
          simp -dsimp -implicitDefEqProofs only [↓j0, ↓j1, ↓j7, ↓j12, ↓j15, j17, j18, j19, j20, j21, j22, j23, ↓j25, ↓j27, ↓j29, ↓j30, j33, ↓j38, ↓j39, ↓j43, ↓j44, ↓j45, ↓j50, ↓j51, ↓j54, ↓j74, ↓j76, ↓j78, ↓j79, ↓j100, ↓j106, j107, ↓j124, j125, j126, j127, j128, j129, ↓j145, ↓j146, ↓j148, ↓j153, partsAV, AV.proj, AV.offOf, AV.upd, AV.size, AV.sizeL, AV.layable, j163, j164, j166, j167, j168, j169, j170, j171, j179, j180, ↓reduceIte, Nat.reduceAdd, Nat.reduceMul, Nat.reduceEqDiff, Nat.reduceLeDiff, j182, j183, j196, j197, j213, j214, j215, j216, j217, j223, ↓j225, Nat.reducePow, j227, List.replicate, j228, j230, j231, Nat.reduceBEq, j234, j240, j263, j264, j280, j317, j319, j326, j341, j342, j345, j347, j348, j442, j443, j444, j459, hz, hw2, uE, hO, hC, hOi, hCi]
          refine DoAppend_of rfl rfl at44 ?_
          simp -dsimp -implicitDefEqProofs only [↓j0, ↓j1, ↓j7, ↓j15, j17, j18, j20, j21, j22, j23, ↓j25, ↓j27, ↓j29, ↓j30, j33, ↓j38, ↓j39, ↓j48, ↓j89, ↓j101, ↓j102, ↓j106, j107, ↓j145, ↓j146, ↓j153, j154, AV.proj, AV.offOf, j166, j170, j171, ↓reduceIte, Nat.reduceAdd, Nat.reduceMul, Nat.reduceEqDiff, Nat.reduceLeDiff, j182, j185, j188, j189, j196, j197, j213, j214, j215, j223, j227, j228, j230, j231, j234, uE, uOC]
          refine step [(111, 103), (109, 104)] ([] ++ ([e] ++ [O, C])) ([] ++ [e]) true 111 109 _ _ _ (by rw [hmt, hmx]; rfl) (by rw [hst, hse]; rfl) (fun h => by cases h) (by simp) (by simp) (by simp [okN]) (by simp [okN]) (by simp [okN]) (by simp [okN]) (by simp [okN]) rfl rfl rfl rfl rfl ?_ ?_
          · simp -dsimp -implicitDefEqProofs only [↓j25, j170, j171, ↓reduceIte, Nat.reduceAdd, Nat.reduceEqDiff, j182, j196, j202, j203, j230, j231, apE, eoT, hw] <;> simp
          · simp -dsimp -implicitDefEqProofs only [↓j27, j170, j171, j173, j174, ↓reduceIte, Nat.reduceEqDiff, j182, j204, j205, apB, eoH] <;> simp
        · have hM0 := hx rfl
          subst hM0
          simp -dsimp -implicitDefEqProofs only [↓j0, ↓j1, ↓j2, ↓j7, ↓j9, ↓j12, ↓j13, ↓j14, ↓j15, j17, j18, j19, j20, j21, j22, j23, ↓j25, ↓j27, ↓j29, ↓j30, j32, j33, ↓j38, ↓j39, ↓j40, ↓j41, ↓j43, ↓j44, ↓j45, ↓j46, ↓j48, ↓j51, ↓j74, ↓j76, ↓j77, ↓j78, ↓j79, j83, ↓j89, ↓j91, ↓j92, j125, j126, j127, j128, j129, j130, ↓j145, ↓j146, ↓j147, ↓j148, ↓j149, ↓j151, ↓j153, j157, j159, partsAV, AV.proj, AV.offOf, AV.upd, AV.size, AV.sizeL, AV.layable, AV.flat, AV.flatL, j163, j164, j166, j167, j169, j170, j171, j172, j173, j174, j175, j177, j179, j180, ↓reduceIte, Nat.reduceAdd, Nat.reduceMul, Nat.reduceEqDiff, Nat.reduceLeDiff, j182, j183, j185, j191, j195, j196, j197, j206, j207, j208, j211, kindOf, j213, j214, j215, j217, Nat.reducePow, List.replicate, j234, j240, j255, j263, j264, j271, j272, j316, j319, j341, j342, j347, j356, j425, j444, apSt, apE, apB, eoT, eoH, hz, hlt2, he, hsz, hi2, e6, hci]
          refine DoAppend_of rfl rfl at44 ?_
          simp -dsimp -implicitDefEqProofs only [↓j0, ↓j1, ↓j2, ↓j7, ↓j12, ↓j13, ↓j15, j17, j18, j20, ↓j25, ↓j27, ↓j29, ↓j30, j32, j33, ↓j38, ↓j39, ↓j40, ↓j43, ↓j45, ↓j48, ↓j51, ↓j74, ↓j76, ↓j79, j83, ↓j89, ↓j91, ↓j100, ↓j106, j107, j125, j126, j127, j128, j129, j130, ↓j145, ↓j146, ↓j147, ↓j148, ↓j149, ↓j150, ↓j153, j158, partsAV, AV.proj, AV.offOf, AV.size, AV.sizeL, AV.layable, AV.flat, AV.flatL, j163, j164, j166, j167, j169, j170, j171, j172, j173, j174, j175, j179, j180, ↓reduceIte, Nat.reduceAdd, Nat.reduceMul, Nat.reduceEqDiff, Nat.reduceLeDiff, j182, j183, j185, j195, j196, j197, j211, kindOf, j213, j214, j215, j217, j223, Nat.reducePow, j227, List.replicate, j228, j230, j231, Nat.reduceBEq, j234, j240, j255, j263, j264, j271, j272, j316, j319, j341, j342, j347, j444, hz, hi2, uE, n6, hci]
          refine DoAppend_of rfl rfl at44 ?_
          simp -dsimp -implicitDefEqProofs only [↓j27, ↓j101, ↓j102, ↓j106, j107, ↓j145, ↓j146, ↓j153, AV.proj, AV.offOf, j166, ↓reduceIte, Nat.reduceEqDiff, Nat.reduceLeDiff, j182, j184, j188, j189, j196, j197, j213, j214, j215, j222, j223, j227, j228, j230, j231, j234, uE, uN]
          refine ⟨⟨by first | omega | (simp; omega), by first | omega | (simp; omega)⟩, ?_⟩
          simp -dsimp -implicitDefEqProofs only [↓j0, ↓j1, ↓j7, ↓j12, ↓j15, j17, j18, j19, j20, j21, j22, j23, ↓j25, ↓j27, ↓j29, ↓j30, j33, ↓j38, ↓j39, ↓j43, ↓j44, ↓j45, ↓j50, ↓j51, ↓j54, ↓j74, ↓j76, ↓j78, ↓j79, ↓j124, j125, j126, j127, j128, j129, ↓j145, ↓j146, ↓j153, partsAV, AV.proj, AV.offOf, AV.upd, AV.size, AV.sizeL, AV.layable, j163, j164, j166, j167, j168, j169, j170, j171, j179, j180, ↓reduceIte, Nat.reduceAdd, Nat.reduceMul, Nat.reduceEqDiff, Nat.reduceLeDiff, j182, j183, j196, j197, j213, j214, j215, j216, j217, ↓j225, Nat.reducePow, j227, List.replicate, j228, j230, j231, j234, j240, j263, j264, j280, j317, j319, j326, j341, j342, j345, j347, j348, j442, j443, j444, j459, hz, hw2, tN, hO, hC, hOi, hCi]
          refine DoAppend_of rfl rfl at44 ?_
          simp -dsimp -implicitDefEqProofs only [↓j0, ↓j1, ↓j7, ↓j15, j17, j18, j20, j21, j22, j23, ↓j25, ↓j27, ↓j29, ↓j30, j33, ↓j38, ↓j39, ↓j48, ↓j89, ↓j101, ↓j102, ↓j106, j107, ↓j145, ↓j146, ↓j153, j154, AV.proj, AV.offOf, j166, j170, j171, ↓reduceIte, Nat.reduceAdd, Nat.reduceMul, Nat.reduceEqDiff, Nat.reduceLeDiff, j182, j185, j188, j189, j196, j197, j213, j214, j215, j223, j227, j228, j230, j231, j234, uE, uOC]
          refine step [(111, 103), (109, 104)] ([] ++ ([e] ++ [O, C])) (N ++ [e]) true 111 109 _ _ _ (by rw [hmt, hmx]; rfl) (by rw [hst, hse]; rfl) (fun h => by cases h) (by simp) (by simp) (by simp [okN]) (by simp [okN]) (by simp [okN]) (by simp [okN]) (by simp [okN]) rfl rfl rfl rfl rfl ?_ ?_
          · simp -dsimp -implicitDefEqProofs only [↓j25, j170, j171, ↓reduceIte, Nat.reduceAdd, Nat.reduceEqDiff, j182, j196, j202, j203, j230, j231, j242, apE, eoT, hw] <;> simp
          · simp -dsimp -implicitDefEqProofs only [↓j27, j170, j171, j173, j174, j179, ↓reduceIte, Nat.reduceEqDiff, j183, j184, j204, j205, apB, eoH] <;> simp
      · cases y
        · have hN0 := hy rfl
          subst hN0
          simp -dsimp -implicitDefEqProofs only [↓j0, ↓j1, ↓j2, ↓j7, ↓j9, ↓j12, ↓j13, ↓j14, ↓j15, j17, j18, j19, j20, j21, j22, j23, ↓j25, ↓j27, ↓j29, ↓j30, j32, j33, ↓j38, ↓j39, ↓j40, ↓j41, ↓j43, ↓j44, ↓j45, ↓j46, ↓j48, ↓j51, ↓j74, ↓j76, ↓j77, ↓j78, ↓j79, j83, ↓j89, ↓j91, ↓j92, j125, j126, j127, j128, j129, j130, ↓j145, ↓j146, ↓j147, ↓j148, ↓j149, ↓j151, ↓j153, j157, j159, partsAV, AV.proj, AV.offOf, AV.upd, AV.size, AV.sizeL, AV.layable, AV.flat, AV.flatL, j163, j164, j166, j167, j169, j170, j171, j172, j173, j174, j175, j177, j179, j180, ↓reduceIte, Nat.reduceAdd, Nat.reduceMul, Nat.reduceEqDiff, Nat.reduceLeDiff, j182, j183, j185, j191, j195, j196, j197, j206, j207, j208, j211, kindOf, j213, j214, j215, j217, Nat.reducePow, List.replicate, j234, j240, j255, j263, j264, j271, j272, j316, j319, j341, j342, j347, j356, j425, j444, apSt, apE, apB, eoT, eoH, hz, hlt2, he, hsz, hi2, e6, hci]
          refine DoAppend_of rfl rfl at44 ?_
          simp -dsimp -implicitDefEqProofs only [↓j27, ↓j101, ↓j102, ↓j106, j107, ↓j145, ↓j146, ↓j153, AV.proj, AV.offOf, j166, ↓reduceIte, Nat.reduceEqDiff, Nat.reduceLeDiff, j182, j184, j188, j189, j196, j197, j213, j214, j215, j222, j223, j227, j228, j230, j231, j234, uE, uM]
          refine ⟨⟨by first | omega | (simp; omega), by first | omega | (simp; omega)⟩, ?_⟩
          simp -dsimp -implicitDefEqProofs only [↓j0, ↓j1, ↓j2, ↓j7, ↓j12, ↓j13, ↓j15, j17, j18, j20, j21, j22, j23, ↓j25, ↓j27, ↓j29, ↓j30, j32, j33, ↓j38, ↓j39, ↓j40, ↓j43, ↓j45, ↓j48, ↓j51, ↓j74, ↓j76, ↓j79, j83, ↓j89, ↓j91, j125, j126, j127, j128, j129, j130, ↓j145, ↓j146, ↓j147, ↓j149, ↓j150, ↓j153, j158, partsAV, AV.proj, AV.offOf, AV.size, AV.sizeL, AV.layable, AV.flat, AV.flatL, j163, j164, j166, j167, j169, j170, j171, j172, j173, j174, j175, j179, j180, ↓reduceIte, Nat.reduceAdd, Nat.reduceMul, Nat.reduceEqDiff, Nat.reduceLeDiff, j182, j183, j185, j195, j196, j197, j211, kindOf, j213, j214, j215, j217, Nat.reducePow, j227, List.replicate, j228, j230, j231, j234, j240, j255, j263, j264, j271, j272, j316, j319, j341, j342, j347, j444, hz, hi2, tM, n6, hci]
          refine DoAppend_of rfl rfl at44 ?_
          simp -dsimp -implicitDefEqProofs only [↓j0, ↓j1, ↓j7, ↓j12, ↓j15, j17, j18, j19, j20, j21, j22, j23, ↓j25, ↓j27, ↓j29, ↓j30, j33, ↓j38, ↓j39, ↓j43, ↓j44, ↓j45, ↓j50, ↓j51, ↓j54, ↓j74, ↓j76, ↓j78, ↓j79, ↓j100, ↓j106, j107, ↓j124, j125, j126, j127, j128, j129, ↓j145, ↓j146, ↓j148, ↓j153, partsAV, AV.proj, AV.offOf, AV.upd, AV.size, AV.sizeL, AV.layable, j163, j164, j166, j167, j168, j169, j170, j171, j179, j180, ↓reduceIte, Nat.reduceAdd, Nat.reduceMul, Nat.reduceEqDiff, Nat.reduceLeDiff, j182, j183, j196, j197, j213, j214, j215, j216, j217, j223, ↓j225, Nat.reducePow, j227, List.replicate, j228, j230, j231, Nat.reduceBEq, j234, j240, j263, j264, j280, j317, j319, j326, j341, j342, j345, j347, j348, j442, j443, j444, j459, hz, hw2, uE, hO, hC, hOi, hCi]
          refine DoAppend_of rfl rfl at44 ?_
          simp -dsimp -implicitDefEqProofs only [↓j27, ↓j101, ↓j102, ↓j106, j107, ↓j145, ↓j146, ↓j153, AV.proj, AV.offOf, j166, ↓reduceIte, Nat.reduceAdd, Nat.reduceEqDiff, Nat.reduceLeDiff, j182, j184, j188, j189, j196, j197, j213, j214, j215, j222, j223, j224, j227, j228, j230, j231, j234, j242, uOC, uMe]
          refine ⟨⟨by first | omega | (simp; omega), by first | omega | (simp; omega)⟩, ?_⟩
          simp -dsimp -implicitDefEqProofs only [↓j0, ↓j1, ↓j7, ↓j15, j17, j18, j20, j21, j22, j23, ↓j25, ↓j29, ↓j30, j33, ↓j38, ↓j39, ↓j48, ↓j89, ↓j145, ↓j146, j154, j166, j170, j171, ↓reduceIte, Nat.reduceAdd, Nat.reduceEqDiff, j185, j196, j224, j227, j228, j230, j231, tMe]
          refine step [(111, 103), (109, 104)] (M ++ ([e] ++ [O, C])) ([] ++ [e]) true 111 109 _ _ _ (by rw [hmt, hmx]; rfl) (by rw [hst, hse]; rfl) (fun h => by cases h) (by simp) (by simp) (by simp [okN]) (by simp [okN]) (by simp [okN]) (by simp [okN]) (by simp [okN]) rfl rfl rfl rfl rfl ?_ ?_
          · simp -dsimp -implicitDefEqProofs only [↓j25, j170, j171, ↓reduceIte, Nat.reduceAdd, Nat.reduceEqDiff, j182, j196, j202, j203, j230, j231, j242, apE, eoT, hw] <;> simp
          · simp -dsimp -implicitDefEqProofs only [↓j27, j170, j171, j173, j174, j179, ↓reduceIte, Nat.reduceEqDiff, j182, j183, j184, j204, j205, apB, eoH] <;> simp
        · simp -dsimp -implicitDefEqProofs only [↓j0, ↓j1, ↓j2, ↓j7, ↓j9, ↓j12, ↓j13, ↓j14, ↓j15, j17, j18, j19, j20, j21, j22, j23, ↓j25, ↓j27, ↓j29, ↓j30, j32, j33, ↓j38, ↓j39, ↓j40, ↓j41, ↓j43, ↓j44, ↓j45, ↓j46, ↓j48, ↓j51, ↓j74, ↓j76, ↓j77, ↓j78, ↓j79, j83, ↓j89, ↓j91, ↓j92, j125, j126, j127, j128, j129, j130, ↓j145, ↓j146, ↓j147, ↓j148, ↓j149, ↓j151, ↓j153, j157, j159, partsAV, AV.proj, AV.offOf, AV.upd, AV.size, AV.sizeL, AV.layable, AV.flat, AV.flatL, j163, j164, j166, j167, j169, j170, j171, j172, j173, j174, j175, j177, j179, j180, ↓reduceIte, Nat.reduceAdd, Nat.reduceMul, Nat.reduceEqDiff, Nat.reduceLeDiff, j182, j183, j185, j191, j195, j196, j197, j206, j207, j208, j211, kindOf, j213, j214, j215, j217, Nat.reducePow, List.replicate, j234, j240, j255, j263, j264, j271, j272, j316, j319, j341, j342, j347, j356, j425, j444, apSt, apE, apB, eoT, eoH, hz, hlt2, he, hsz, hi2, e6, hci]
          refine DoAppend_of rfl rfl at44 ?_
          simp -dsimp -implicitDefEqProofs only [↓j27, ↓j101, ↓j102, ↓j106, j107, ↓j145, ↓j146, ↓j153, AV.proj, AV.offOf, j166, ↓reduceIte, Nat.reduceEqDiff, Nat.reduceLeDiff, j182, j184, j188, j189, j196, j197, j213, j214, j215, j222, j223, j227, j228, j230, j231, j234, uE, uM]
          refine ⟨⟨by first | omega | (simp; omega), by first | omega | (simp; omega)⟩, ?_⟩
          simp -dsimp -implicitDefEqProofs only [↓j0, ↓j1, ↓j2, ↓j7, ↓j12, ↓j13, ↓j15, j17, j18, j20, j21, j22, j23, ↓j25, ↓j27, ↓j29, ↓j30, j32, j33, ↓j38, ↓j39, ↓j40, ↓j43, ↓j45, ↓j48, ↓j51, ↓j74, ↓j76, ↓j79, j83, ↓j89, ↓j91, j125, j126, j127, j128, j129, j130, ↓j145, ↓j146, ↓j147, ↓j149, ↓j150, ↓j153, j158, partsAV, AV.proj, AV.offOf, AV.size, AV.sizeL, AV.layable, AV.flat, AV.flatL, j163, j164, j166, j167, j169, j170, j171, j172, j173, j174, j175, j179, j180, ↓reduceIte, Nat.reduceAdd, Nat.reduceMul, Nat.reduceEqDiff, Nat.reduceLeDiff, j182, j183, j185, j195, j196, j197, j211, kindOf, j213, j214, j215, j217, Nat.reducePow, j227, List.replicate, j228, j230, j231, j234, j240, j255, j263, j264, j271, j272, j316, j319, j341, j342, j347, j444, hz, hi2, tM, n6, hci]
          refine DoAppend_of rfl rfl at44 ?_
          simp -dsimp -implicitDefEqProofs only [↓j27, ↓j101, ↓j102, ↓j106, j107, ↓j145, ↓j146, ↓j153, AV.proj, AV.offOf, j166, ↓reduceIte, Nat.reduceEqDiff, Nat.reduceLeDiff, j182, j184, j188, j189, j196, j197, j213, j214, j215, j222, j223, j227, j228, j230, j231, j234, uE, uN]
          refine ⟨⟨by first | omega | (simp; omega), by first | omega | (simp; omega)⟩, ?_⟩
          simp -dsimp -implicitDefEqProofs only [↓j0, ↓j1, ↓j7, ↓j12, ↓j15, j17, j18, j19, j20, j21, j22, j23, ↓j25, ↓j27, ↓j29, ↓j30, j33, ↓j38, ↓j39, ↓j43, ↓j44, ↓j45, ↓j50, ↓j51, ↓j54, ↓j74, ↓j76, ↓j78, ↓j79, ↓j124, j125, j126, j127, j128, j129, ↓j145, ↓j146, ↓j153, partsAV, AV.proj, AV.offOf, AV.upd, AV.size, AV.sizeL, AV.layable, j163, j164, j166, j167, j168, j169, j170, j171, j179, j180, ↓reduceIte, Nat.reduceAdd, Nat.reduceMul, Nat.reduceEqDiff, Nat.reduceLeDiff, j182, j183, j196, j197, j213, j214, j215, j216, j217, ↓j225, Nat.reducePow, j227, List.replicate, j228, j230, j231, j234, j240, j263, j264, j280, j317, j319, j326, j341, j342, j345, j347, j348, j442, j443, j444, j459, hz, hw2, tN, hO, hC, hOi, hCi]
          refine DoAppend_of rfl rfl at44 ?_
          simp -dsimp -implicitDefEqProofs only [↓j27, ↓j101, ↓j102, ↓j106, j107, ↓j145, ↓j146, ↓j153, AV.proj, AV.offOf, j166, ↓reduceIte, Nat.reduceAdd, Nat.reduceEqDiff, Nat.reduceLeDiff, j182, j184, j188, j189, j196, j197, j213, j214, j215, j222, j223, j224, j227, j228, j230, j231, j234, j242, uOC, uMe]
          refine ⟨⟨by first | omega | (simp; omega), by first | omega | (simp; omega)⟩, ?_⟩
          simp -dsimp -implicitDefEqProofs only [↓j0, ↓j1, ↓j7, ↓j15, j17, j18, j20, j21, j22, j23, ↓j25, ↓j29, ↓j30, j33, ↓j38, ↓j39, ↓j48, ↓j89, ↓j145, ↓j146, j154, j166, j170, j171, ↓reduceIte, Nat.reduceAdd, Nat.reduceEqDiff, j185, j196, j224, j227, j228, j230, j231, tMe]
          refine step [(111, 103), (109, 104)] (M ++ ([e] ++ [O, C])) (N ++ [e]) true 111 109 _ _ _ (by rw [hmt, hmx]; rfl) (by rw [hst, hse]; rfl) (fun h => by cases h) (by simp) (by simp) (by simp [okN]) (by simp [okN]) (by simp [okN]) (by simp [okN]) (by simp [okN]) rfl rfl rfl rfl rfl ?_ ?_
          · simp -dsimp -implicitDefEqProofs only [↓j25, j170, j171, ↓reduceIte, Nat.reduceAdd, Nat.reduceEqDiff, j182, j196, j202, j203, j230, j231, j242, apE, eoT, hw] <;> simp
          · simp -dsimp -implicitDefEqProofs only [↓j27, j170, j171, j179, ↓reduceIte, Nat.reduceEqDiff, j183, j184, j204, j205, apB, eoH] <;> simp
    · rw [decide_eq_false hpg] at hci
      have hmx : isMix uu no e = false := decide_eq_false (fun h => h.elim k6 hpg)
      have hse : isSel uu no e = false := decide_eq_false (fun h => hpg h.2)
      cases x
      · cases y
        · have hM0 := hx rfl
          subst hM0
          have hN0 := hy rfl
          subst hN0
          simp -dsimp -implicitDefEqProofs only [↓j0, ↓j1, ↓j2, ↓j7, ↓j9, ↓j12, ↓j13, ↓j14, ↓j15, j17, j18, j19, j20, j21, j22, j23, ↓j25, ↓j27, ↓j29, ↓j30, j32, j33, ↓j38, ↓j39, ↓j40, ↓j41, ↓j43, ↓j44, ↓j45, ↓j46, ↓j48, ↓j50, ↓j51, ↓j54, ↓j74, ↓j76, ↓j77, ↓j78, ↓j79, j83, ↓j89, ↓j91, ↓j92, ↓j124, j125, j126, j127, j128, j129, j130, ↓j145, ↓j146, ↓j147, ↓j148, ↓j149, ↓j150, ↓j151, ↓j153, j157, j158, j159, partsAV, AV.proj, AV.offOf, AV.upd, AV.size, AV.sizeL, AV.layable, AV.flat, AV.flatL, j163, j164, j166, j167, j168, j169, j170, j171, j172, j173, j174, j175, j177, j179, j180, ↓reduceIte, Nat.reduceAdd, Nat.reduceMul, Nat.reduceEqDiff, Nat.reduceLeDiff, j182, j183, j185, j191, j195, j196, j197, j206, j207, j208, j211, kindOf, j213, j214, j215, j216, j217, ↓j225, Nat.reducePow, List.replicate, j234, j240, j255, j263, j264, j271, j272, j280, j316, j317, j319, j326, j341, j342, j345, j347, j348, j356, j425, j442, j443, j444, j459, apSt, apE, apB, eoT, eoH, hz, hlt2, he, hsz, hi2, hw2, hO, hC, hOi, hCi, e6, n6, hci]
          refine DoAppend_of rfl rfl at44 ?_
          simp -dsimp -implicitDefEqProofs only [↓j0, ↓j1, ↓j7, ↓j15, j17, j18, j20, ↓j25, ↓j27, ↓j29, ↓j30, j33, ↓j38, ↓j39, ↓j48, ↓j89, ↓j100, ↓j106, j107, ↓j145, ↓j146, ↓j148, ↓j153, j154, AV.proj, AV.offOf, j166, j170, j171, ↓reduceIte, Nat.reduceAdd, Nat.reduceMul, Nat.reduceEqDiff, Nat.reduceLeDiff, j182, j185, j196, j197, j223, j227, j228, j230, j231, Nat.reduceBEq, j234, uOC]
          refine step [(107, 103)] ([] ++ ([] ++ [O, C])) ([] ++ []) false 107 104 _ _ _ (by rw [hmt, hmx]; rfl) (by rw [hst, hse]; rfl) (fun _ => rfl) (by simp) (by simp) (by simp [okN]) (by simp [okN]) (by simp [okN]) (by simp [okN]) (by simp [okN]) rfl rfl rfl rfl rfl ?_ ?_
          · simp -dsimp -implicitDefEqProofs only [↓j25, j171, ↓reduceIte, Nat.reduceAdd, Nat.reduceEqDiff, j182, j196, j202, j203, j230, j231, apE, eoT, hw] <;> simp
          · simp -dsimp -implicitDefEqProofs only [↓j27, j170, j171, j172, j173, j174, ↓reduceIte, Nat.reduceEqDiff, j182, j204, j205, apB, eoH] <;> simp
        · have hM0 := hx rfl
          subst hM0
          simp -dsimp -implicitDefEqProofs only [↓j0, ↓j1, ↓j2, ↓j7, ↓j9, ↓j12, ↓j13, ↓j14, ↓j15, j17, j18, j19, j20, j21, j22, j23, ↓j25, ↓j27, ↓j29, ↓j30, j32, j33, ↓j38, ↓j39, ↓j40, ↓j41, ↓j43, ↓j44, ↓j45, ↓j46, ↓j48, ↓j50, ↓j51, ↓j54, ↓j74, ↓j76, ↓j77, ↓j78, ↓j79, j83, ↓j89, ↓j91, ↓j92, ↓j124, j125, j126, j127, j128, j129, j130, ↓j145, ↓j146, ↓j147, ↓j148, ↓j149, ↓j150, ↓j151, ↓j153, j157, j158, j159, partsAV, AV.proj, AV.offOf, AV.upd, AV.size, AV.sizeL, AV.layable, AV.flat, AV.flatL, j163, j164, j166, j167, j168, j169, j170, j171, j172, j173, j174, j175, j177, j179, j180, ↓reduceIte, Nat.reduceAdd, Nat.reduceMul, Nat.reduceEqDiff, Nat.reduceLeDiff, j182, j183, j185, j191, j195, j196, j197, j206, j207, j208, j211, kindOf, j213, j214, j215, j216, j217, ↓j225, Nat.reducePow, List.replicate, j234, j240, j255, j263, j264, j271, j272, j280, j316, j317, j319, j326, j341, j342, j345, j347, j348, j356, j425, j442, j443, j444, j459, apSt, apE, apB, eoT, eoH, hz, hlt2, he, hsz, hi2, hw2, hO, hC, hOi, hCi, e6, n6, hci]
          refine DoAppend_of rfl rfl at44 ?_
          simp -dsimp -implicitDefEqProofs only [↓j0, ↓j1, ↓j7, ↓j15, j17, j18, j20, ↓j25, ↓j27, ↓j29, ↓j30, j33, ↓j38, ↓j39, ↓j48, ↓j89, ↓j100, ↓j106, j107, ↓j145, ↓j146, ↓j148, ↓j153, j154, AV.proj, AV.offOf, j166, j170, j171, ↓reduceIte, Nat.reduceAdd, Nat.reduceMul, Nat.reduceEqDiff, Nat.reduceLeDiff, j182, j185, j196, j197, j223, j227, j228, j230, j231, Nat.reduceBEq, j234, uOC]
          refine step [(107, 103)] ([] ++ ([] ++ [O, C])) (N ++ []) true 107 104 _ _ _ (by rw [hmt, hmx]; rfl) (by rw [hst, hse]; rfl) (fun h => by cases h) (by simp) (by simp) (by simp [okN]) (by simp [okN]) (by simp [okN]) (by simp [okN]) (by simp [okN]) rfl rfl rfl rfl rfl ?_ ?_
          · simp -dsimp -implicitDefEqProofs only [↓j25, j171, j172, ↓reduceIte, Nat.reduceAdd, Nat.reduceEqDiff, j182, j196, j202, j203, j230, j231, apE, eoT, hw] <;> simp
          · simp -dsimp -implicitDefEqProofs only [↓j27, j170, j171, j172, j173, j174, ↓reduceIte, Nat.reduceEqDiff, j182, j204, j205, apB, eoH] <;> simp
      · cases y
        · have hN0 := hy rfl
          subst hN0
          simp -dsimp -implicitDefEqProofs only [↓j0, ↓j1, ↓j2, ↓j7, ↓j9, ↓j12, ↓j13, ↓j14, ↓j15, j17, j18, j19, j20, j21, j22, j23, ↓j25, ↓j27, ↓j29, ↓j30, j32, j33, ↓j38, ↓j39, ↓j40, ↓j41, ↓j43, ↓j44, ↓j45, ↓j46, ↓j48, ↓j50, ↓j51, ↓j54, ↓j74, ↓j76, ↓j77, ↓j78, ↓j79, j83, ↓j89, ↓j91, ↓j92, ↓j124, j125, j126, j127, j128, j129, j130, ↓j145, ↓j146, ↓j147, ↓j148, ↓j149, ↓j150, ↓j151, ↓j153, j157, j158, j159, partsAV, AV.proj, AV.offOf, AV.upd, AV.size, AV.sizeL, AV.layable, AV.flat, AV.flatL, j163, j164, j166, j167, j168, j169, j170, j171, j172, j173, j174, j175, j177, j179, j180, ↓reduceIte, Nat.reduceAdd, Nat.reduceMul, Nat.reduceEqDiff, Nat.reduceLeDiff, j182, j183, j185, j191, j195, j196, j197, j206, j207, j208, j211, kindOf, j213, j214, j215, j216, j217, ↓j225, Nat.reducePow, List.replicate, j234, j240, j255, j263, j264, j271, j272, j280, j316, j317, j319, j326, j341, j342, j345, j347, j348, j356, j425, j442, j443, j444, j459, apSt, apE, apB, eoT, eoH, hz, hlt2, he, hsz, hi2, hw2, hO, hC, hOi, hCi, e6, n6, hci]
          refine DoAppend_of rfl rfl at44 ?_
          simp -dsimp -implicitDefEqProofs only [↓j27, ↓j101, ↓j102, ↓j106, j107, ↓j145, ↓j146, ↓j153, AV.proj, AV.offOf, j166, ↓reduceIte, Nat.reduceAdd, Nat.reduceEqDiff, Nat.reduceLeDiff, j182, j184, j188, j189, j196, j197, j213, j214, j215, j222, j223, j227, j228, j230, j231, j234, uOC, uM]
          refine ⟨⟨by first | omega | (simp; omega), by first | omega | (simp; omega)⟩, ?_⟩
          simp -dsimp -implicitDefEqProofs only [↓j0, ↓j1, ↓j7, ↓j15, j17, j18, j20, j21, j22, j23, ↓j25, ↓j29, ↓j30, j33, ↓j38, ↓j39, ↓j48, ↓j89, ↓j145, ↓j146, j154, j166, j170, j171, ↓reduceIte, Nat.reduceAdd, Nat.reduceEqDiff, j185, j196, j227, j228, j230, j231, tM]
          refine step [(107, 103)] (M ++ ([] ++ [O, C])) ([] ++ []) false 107 104 _ _ _ (by rw [hmt, hmx]; rfl) (by rw [hst, hse]; rfl) (fun _ => rfl) (by simp) (by simp) (by simp [okN]) (by simp [okN]) (by simp [okN]) (by simp [okN]) (by simp [okN]) rfl rfl rfl rfl rfl ?_ ?_
          · simp -dsimp -implicitDefEqProofs only [↓j25, j171, ↓reduceIte, Nat.reduceAdd, Nat.reduceEqDiff, j182, j196, j202, j203, j230, j231, j242, apE, eoT, hw] <;> simp
          · simp -dsimp -implicitDefEqProofs only [↓j27, j170, j171, j172, j179, ↓reduceIte, Nat.reduceEqDiff, j183, j184, j204, j205, apB, eoH] <;> simp
        · simp -dsimp -implicitDefEqProofs only [↓j0, ↓j1, ↓j2, ↓j7, ↓j9, ↓j12, ↓j13, ↓j14, ↓j15, j17, j18, j19, j20, j21, j22, j23, ↓j25, ↓j27, ↓j29, ↓j30, j32, j33, ↓j38, ↓j39, ↓j40, ↓j41, ↓j43, ↓j44, ↓j45, ↓j46, ↓j48, ↓j50, ↓j51, ↓j54, ↓j74, ↓j76, ↓j77, ↓j78, ↓j79, j83, ↓j89, ↓j91, ↓j92, ↓j124, j125, j126, j127, j128, j129, j130, ↓j145, ↓j146, ↓j147, ↓j148, ↓j149, ↓j150, ↓j151, ↓j153, j157, j158, j159, partsAV, AV.proj, AV.offOf, AV.upd, AV.size, AV.sizeL, AV.layable, AV.flat, AV.flatL, j163, j164, j166, j167, j168, j169, j170, j171, j172, j173, j174, j175, j177, j179, j180, ↓reduceIte, Nat.reduceAdd, Nat.reduceMul, Nat.reduceEqDiff, Nat.reduceLeDiff, j182, j183, j185, j191, j195, j196, j197, j206, j207, j208, j211, kindOf, j213, j214, j215, j216, j217, ↓j225, Nat.reducePow, List.replicate, j234, j240, j255, j263, j264, j271, j272, j280, j316, j317, j319, j326, j341, j342, j345, j347, j348, j356, j425, j442, j443, j444, j459, apSt, apE, apB, eoT, eoH, hz, hlt2, he, hsz, hi2, hw2, hO, hC, hOi, hCi, e6, n6, hci]
          refine DoAppend_of rfl rfl at44 ?_
          simp -dsimp -implicitDefEqProofs only [↓j27, ↓j101, ↓j102, ↓j106, j107, ↓j145, ↓j146, ↓j153, AV.proj, AV.offOf, j166, ↓reduceIte, Nat.reduceAdd, Nat.reduceEqDiff, Nat.reduceLeDiff, j182, j184, j188, j189, j196, j197, j213, j214, j215, j222, j223, j227, j228, j230, j231, j234, uOC, uM]
          refine ⟨⟨by first | omega | (simp; omega), by first | omega | (simp; omega)⟩, ?_⟩
          simp -dsimp -implicitDefEqProofs only [↓j0, ↓j1, ↓j7, ↓j15, j17, j18, j20, j21, j22, j23, ↓j25, ↓j29, ↓j30, j33, ↓j38, ↓j39, ↓j48, ↓j89, ↓j145, ↓j146, j154, j166, j170, j171, ↓reduceIte, Nat.reduceAdd, Nat.reduceEqDiff, j185, j196, j227, j228, j230, j231, tM]
          refine step [(107, 103)] (M ++ ([] ++ [O, C])) (N ++ []) true 107 104 _ _ _ (by rw [hmt, hmx]; rfl) (by rw [hst, hse]; rfl) (fun h => by cases h) (by simp) (by simp) (by simp [okN]) (by simp [okN]) (by simp [okN]) (by simp [okN]) (by simp [okN]) rfl rfl rfl rfl rfl ?_ ?_
          · simp -dsimp -implicitDefEqProofs only [↓j25, j171, j172, ↓reduceIte, Nat.reduceAdd, Nat.reduceEqDiff, j182, j196, j202, j203, j230, j231, j242, apE, eoT, hw] <;> simp
          · simp -dsimp -implicitDefEqProofs only [↓j27, j170, j171, j172, j179, ↓reduceIte, Nat.reduceEqDiff, j182, j183, j184, j204, j205, apB, eoH] <;> simp
  · have hd : decide ((i : Int) < (log.length : Int)) = false := decide_eq_false (by omega)
    have hT : log.take i = log := List.take_of_length_le hge
    rw [hT] at hx hy ⊢
    have hap := apart (fun h => hid ⟨h.1.symm, h.2.symm⟩) log 0 p
    have hMo : ∀ e, e ∈ mixF uu no ou on 0 log → e.Ok := mixF_ok hon 0 log (by omega) hl
    have hNo : ∀ e, e ∈ selF uu no log → e.Ok := fun e he => hl e (List.mem_filter.1 he).1
    have hMl := mixF_len uu no ou on 0 log
    have hNl : (selF uu no log).length ≤ log.length := List.length_filter_le _ _
    have hxl := replay_len (uu := uu) (no := no) hp hMo
    obtain ⟨M, hMe⟩ : ∃ M, mixF uu no ou on 0 log = M := ⟨_, rfl⟩
    obtain ⟨N, hNe⟩ : ∃ N, selF uu no log = N := ⟨_, rfl⟩
    rw [hMe] at hx hMo hMl hap hxl
    rw [hNe] at hy hNo hNl hap
    rw [hMe, hNe]
    have r1 : ∀ b, ACall Try.prog 11 [idAV uu no, arrAV p, eoT M 103 b] (eoH M 103 b) (arrAV (replayP uu no p M)) (eoH M 103 b) ∨ (b = false ∧ M ≠ []) := fun b => by
      cases b
      · by_cases h0 : M = []
        · left; rw [h0]; exact (replay_spec uu no hno p hp [] (fun e h => by cases h) (by simp)).lend (H := []) (put := []) ⟨.same _ ⟨trivial, trivial, trivial⟩, .same _ (on_bytes _ _), .nil, trivial⟩ (fun n b h => by simp [Heap.get] at h)
        · exact .inr ⟨rfl, h0⟩
      · exact .inl (replay_own 103 M.length uu no hno p hp M _ rfl rfl hMo (by omega))
    have r2 : ∀ b, ACall Try.prog 11 [idAV uu no, arrAV p, eoT N 104 b] (eoH N 104 b) (arrAV (replayP uu no p N)) (eoH N 104 b) ∨ (b = false ∧ N ≠ []) := fun b => by
      cases b
      · by_cases h0 : N = []
        · left; rw [h0]; exact (replay_spec uu no hno p hp [] (fun e h => by cases h) (by simp)).lend (H := []) (put := []) ⟨.same _ ⟨trivial, trivial, trivial⟩, .same _ (on_bytes _ _), .nil, trivial⟩ (fun n b h => by simp [Heap.get] at h)
        · exact .inr ⟨rfl, h0⟩
      · exact .inl (replay_own 104 N.length uu no hno p hp N _ rfl rfl hNo (by omega))
    have q1 := (r1 x).resolve_right (fun h => h.2 (hx h.1))
    have q2 := (r2 y).resolve_right (fun h => h.2 (hy h.1))
    rw [← hap] at q2
    obtain ⟨X, hX⟩ : ∃ X, replayP uu no p M = X := ⟨_, rfl⟩
    rw [hX] at q1 q2 hxl
    have hce := cellsEq_bytes (l := X) (k := X) rfl
    have hkb := kinds_bytes hxl
    simp only [beq_self_eq_true] at hce
    have tup : ∀ (L : List En) (a : Nat) (b : Bool), ∀ z, z ∈ [idAV uu no, arrAV p, eoT L a b] → ∀ vs, z ≠ .tuple vs := fun L a b z hz vs h => by
      simp only [List.mem_cons, List.not_mem_nil, or_false] at hz
      rcases hz with rfl | rfl | rfl
      · cases h
      · cases h
      · cases b <;> cases h
    cases x <;> cases y
    all_goals
      simp -dsimp -implicitDefEqProofs only [↓j0, ↓j1, ↓j4, ↓j7, ↓j8, ↓j11, ↓j12, ↓j13, ↓j15, j17, j18, j20, j24, ↓j25, ↓j27, ↓j29, ↓j38, ↓j43, ↓j48, ↓j53, ↓j76, ↓j89, j129, ↓j145, ↓j146, ↓j148, ↓j149, ↓j153, j159, AV.proj, AV.offOf, AV.size, AV.sizeL, j170, j171, j172, j174, ↓reduceIte, Nat.reduceAdd, Nat.reduceEqDiff, j182, j185, j197, j240, j263, j264, j273, j274, apSt, apE, apB, eoT, eoH, hp, hd]
      refine CallTo.gen (args := [idAV uu no, arrAV p, eoT M 103 _]) (eoH M 103 _) (eoH M 103 _) 105 rfl fok11 (by simp -dsimp -implicitDefEqProofs only [↓j25, ↓j29, j173, j174, ↓reduceIte, Nat.reduceEqDiff, eoT] <;> rfl) (tup _ _ _) q1 (SubH.of (by simp -dsimp -implicitDefEqProofs only [↓j27, ↓reduceIte, Nat.reduceEqDiff, j182, j204, j205, eoH] <;> simp [Heap.get])) ⟨by simp, put_sub⟩ ?_
      simp -dsimp -implicitDefEqProofs only [↓j4, j17, j18, j20, j21, j22, j23, j24, ↓j25, ↓j27, ↓j29, ↓j38, ↓j43, ↓j53, ↓j76, j129, ↓j145, ↓j146, ↓j153, AV.proj, AV.offOf, AV.size, AV.sizeL, j170, j171, j172, j173, j174, ↓reduceIte, Nat.reduceAdd, Nat.reduceEqDiff, j182, j197, j240, j263, j264, j273, j274, eoH, hp]
      refine CallTo.gen (args := [idAV uu no, arrAV p, eoT N 104 _]) (eoH N 104 _) (eoH N 104 _) 105 rfl fok11 (by simp -dsimp -implicitDefEqProofs only [↓j25, ↓j29, j173, j174, ↓reduceIte, Nat.reduceEqDiff, eoT] <;> rfl) (tup _ _ _) q2 (SubH.of (by simp -dsimp -implicitDefEqProofs only [↓j27, ↓reduceIte, Nat.reduceEqDiff, j182, j204, j205, eoH] <;> simp [Heap.get])) ⟨by simp, put_sub⟩ ?_
      simp -dsimp -implicitDefEqProofs only [↓j4, j17, j18, j20, j21, j22, j23, j24, ↓j25, ↓j29, ↓j48, ↓j91, ↓j145, j170, j171, j172, j173, j174, ↓reduceIte, Nat.reduceEqDiff, j184, j211, j241, j274, j276, j277, eoH, hce]
      refine ⟨hkb, ?_⟩
      simp -dsimp -implicitDefEqProofs only [↓j4, ↓j5, j17, j18, j20, j24, ↓j25, ↓j29, ↓j38, ↓j53, ↓j145, ↓j147, ↓j150, j163, j164, j170, j171, j172, j174, j175, ↓reduceIte, j195]
      refine CallTo.pure (args := []) rfl fok10 (by simp -dsimp -implicitDefEqProofs only [j174]) nil0 awake_spec ?_
      simp -dsimp -implicitDefEqProofs only [↓j3, ↓j4, j17, j18, j20, j24, ↓j25, ↓j29, ↓j30, j32, ↓j39, ↓j40, j83, ↓j145, j170, j171, j172, j174, ↓reduceIte, Nat.reduceEqDiff]
      refine ⟨by kernel_rfl, ?_⟩
      simp -dsimp -implicitDefEqProofs only [↓j10]
      exact ret _ _ _ rfl
end Go.Proofs.Ytimdepgenefkmaa
