/- The law WsetPlays. -/
import Derived.Test.YtipbgaahpchhbaaX9
set_option maxRecDepth 8000
set_option linter.unusedVariables false
set_option linter.unusedSimpArgs false
namespace Go.Proofs.Ytipbgaahpchhbaa
open Go Go.RowKit

def swA (n : Nat) : Nat := if n = 4 then 100 else if n = 100 then 4 else n
def swB (n : Nat) : Nat := if n = 4 then 102 else if n = 102 then 4 else n
theorem swA_swA (n : Nat) : swA (swA n) = n := by
  unfold swA
  repeat' split
  all_goals omega
theorem swB_swB (n : Nat) : swB (swB n) = n := by
  unfold swB
  repeat' split
  all_goals omega
theorem wos_ren (σ : Nat → Nat) (l : List Wo) : AV.renL σ (l.map Wo.av) = l.map Wo.av := AV.renL_fix (S := fun _ => False) (fun _ h => h.elim) (on_wos _ _)
theorem slH_ren {σ : Nat → Nat} {l : List Wo} {m m' : Nat} (h9 : σ 99 = 99) (hm : σ m = m') : (slH l m).ren σ = slH l m' := by
  have h := wos_ren σ l
  simp only [slH, Heap.ren, List.map_cons, List.map_nil, ABlk.ren, AV.ren, AV.renL, h, h9, hm]
theorem arr_ren (σ : Nat → Nat) (l : Bo) : AV.ren σ (arrAV l) = arrAV l := AV.ren_fix (S := fun _ => False) (fun _ h => h.elim) (on_bytes _ _)
theorem rs_ren (σ : Nat → Nat) (r : RS) : AV.ren σ (rsAV r) = rsAV r := by
  show AV.tuple [AV.ren σ (arrAV r.1), AV.ren σ (arrAV r.2.1), .bool r.2.2] = _
  rw [arr_ren, arr_ren]
theorem wo_ren (σ : Nat → Nat) (w : Wo) : AV.ren σ w.av = w.av := AV.ren_fix (S := fun _ => False) (fun _ h => h.elim) ⟨trivial, on_bytes _ _, trivial, trivial, trivial⟩
theorem keysV_ren (σ : Nat → Nat) (ks : List Nat) : AV.ren σ (keysAV ks) = keysAV ks := AV.ren_fix (S := fun _ => False) (fun _ h => h.elim) (on_keys _ _)
theorem rread100 (l : List Wo) (hl : ∀ o, o ∈ l → o.In) (hn : l.length ≤ 1000) (p : Nat) (hp : 0 < l.length) : ACall Try.prog 13 [.ptr 99 0 [], .int .u16 p] (slH l 100) (rsAV (rreadP l p)) (slH l 100) := by
  have h := (rread_spec l hl hn p).ren swA_swA
  rw [rs_sl hp, slH_ren (m' := 100) rfl rfl, rs_ren] at h
  exact h
theorem rread102 (l : List Wo) (hl : ∀ o, o ∈ l → o.In) (hn : l.length ≤ 1000) (p : Nat) (hp : 0 < l.length) : ACall Try.prog 13 [.ptr 99 0 [], .int .u16 p] (slH l 102) (rsAV (rreadP l p)) (slH l 102) := by
  have h := (rread_spec l hl hn p).ren swB_swB
  rw [rs_sl hp, slH_ren (m' := 102) rfl rfl, rs_ren] at h
  exact h
theorem rpages100 (l : List Wo) (hl : ∀ o, o ∈ l → o.Ok) (hn : l.length ≤ 1000) (h4 : (pgL l 65536).length ≤ 4) (hp : 0 < l.length) : ACall Try.prog 16 [.ptr 99 0 []] (slH l 100) (keysAV (pgL l 65536)) (slH l 100) := by
  have h := (rpages_spec l hl hn h4).ren swA_swA
  rw [rs_sl hp, slH_ren (m' := 100) rfl rfl, keysV_ren] at h
  exact h
/-- Write at the names of the law; the list's name behind it is 100 or 102. -/
theorem rwrite_no (l : List Wo) (hl : ∀ o, o ∈ l → o.Ok) (hn : l.length < 1000) (w : Wo) (hw : w.Ok) (hp : 0 < l.length) (h0 : (rwriteP l w).1 ≠ 0) (hs : (rwriteP l w).2 = l) : ACall Try.prog 12 [.ptr 99 0 [], w.av] (slH l 100) (.int .i64 (rwriteP l w).1) (slH l 100) := by
  have h := rwrite_spec l hl hn w hw
  rw [hs, rwriteN, if_neg h0] at h
  have h := h.ren swA_swA
  rw [rs_sl hp, slH_ren (m' := 100) rfl rfl] at h
  simp only [List.map_cons, List.map_nil, wo_ren] at h
  exact h
theorem rwrite_yes (l : List Wo) (hl : ∀ o, o ∈ l → o.Ok) (hn : l.length < 1000) (w : Wo) (hw : w.Ok) (hp : 0 < l.length) (h0 : (rwriteP l w).1 = 0) (hs : (rwriteP l w).2 = l ++ [w]) : ACall Try.prog 12 [.ptr 99 0 [], w.av] (slH l 100) (.int .i64 0) (slH (l ++ [w]) 102) := by
  have h := rwrite_spec l hl hn w hw
  rw [hs, rwriteN, if_pos h0, h0] at h
  have h := h.ren swA_swA
  rw [rs_sl hp, rs_sl (by simp), slH_ren (m := 4) (m' := 100) rfl rfl, slH_ren (m := 102) (m' := 102) rfl rfl] at h
  simp only [List.map_cons, List.map_nil, wo_ren] at h
  exact h
theorem rwrite_nil_no (w : Wo) (hw : w.Ok) (h0 : (rwriteP [] w).1 ≠ 0) (hs : (rwriteP [] w).2 = []) : ACall Try.prog 12 [.ptr 99 0 [], w.av] [(99, .cells (.agg [.nilsl]))] (.int .i64 (rwriteP [] w).1) [(99, .cells (.agg [.nilsl]))] := by
  have h := rwrite_spec [] (fun o h => by cases h) (by decide) w hw
  rw [hs, rwriteN, if_neg h0] at h
  exact h
theorem rwrite_nil_yes (w : Wo) (hw : w.Ok) (h0 : (rwriteP [] w).1 = 0) (hs : (rwriteP [] w).2 = [] ++ [w]) : ACall Try.prog 12 [.ptr 99 0 [], w.av] [(99, .cells (.agg [.nilsl]))] (.int .i64 0) (slH [w] 102) := by
  have h := rwrite_spec [] (fun o h => by cases h) (by decide) w hw
  rw [hs, rwriteN, if_pos h0, h0, List.nil_append, rs_sl (l := [w]) (by simp)] at h
  exact h
theorem put_sl2 {l l' : List Wo} {a : Nat} (h : a ≤ 102) : ∀ n x, Heap.get (slH l 102) n = some x → n ∉ (slH l' 100).map (·.1) → a ≤ n ∧ n < 103 := fun n x hh h2 => by
  simp only [slH, Heap.get] at hh
  by_cases h1 : n = 99
  · subst h1; exact absurd (by simp [slH]) h2
  rw [if_neg h1] at hh
  by_cases h3 : n = 102
  · omega
  · rw [if_neg h3] at hh; cases hh
theorem put_sl3 {l : List Wo} {a : Nat} (h : a ≤ 102) : ∀ n x, Heap.get (slH l 102) n = some x → n ∉ ([(99, .cells (.agg [.nilsl]))] : Heap).map (·.1) → a ≤ n ∧ n < 103 := fun n x hh h2 => by
  simp only [slH, Heap.get] at hh
  by_cases h1 : n = 99
  · subst h1; exact absurd (by simp) h2
  rw [if_neg h1] at hh
  by_cases h3 : n = 102
  · omega
  · rw [if_neg h3] at hh; cases hh
theorem put_st99 {M : List KV} {k : Nat} (hk : k ≤ 1) : ∀ n x, Heap.get (stH M) n = some x → n ∉ ([] : Heap).map (·.1) → k ≤ n ∧ n < 99 := fun n x h _ => by rcases get_st h with ⟨rfl, _⟩ | ⟨rfl, _⟩ <;> omega
def wpT (ops : List Wo) (i : Nat) : Env := [(5, .int .i64 i), (4, .ptr 99 0 []), (3, .ptr 2 0 []), (0, wosAV ops), (2, .bool false)]
def wpG (M : List KV) (l : List Wo) (m : Nat) : Heap := (2, stC) :: (1, mapB M) :: rsH l m
def wpSt (ops : List Wo) (M : List KV) (l : List Wo) (i : Nat) : St := ⟨114, wpT ops i, wpG M l 100, 101⟩
theorem wp_onT {S : Nat → Prop} {ops : List Wo} {i : Nat} (h9 : S 99) (h2 : S 2) : onTL S (wpT ops i) :=
  onTL_cons trivial (onTL_cons h9 (onTL_cons h2 (onTL_cons (on_wos _ _) (onTL_cons trivial onTL_nil))))
theorem wp_onH {S : Nat → Prop} {M : List KV} {l : List Wo} {m : Nat} (h9 : S 99) (h1 : S 1) (h2 : S 2) (hm : S m) : onHL S (wpG M l m) := by
  refine onHL_cons h2 ⟨h1, trivial⟩ (onHL_cons h1 (mapB_on _ _) ?_)
  cases l with
  | nil => exact onHL_cons h9 ⟨trivial, trivial⟩ onHL_nil
  | cons t r => exact onHL_cons h9 ⟨hm, trivial⟩ (onHL_cons hm (on_wos _ _) onHL_nil)
theorem wp_gc {ops : List Wo} {M : List KV} {l : List Wo} {i m : Nat} : Wk ⟨114, wpT ops i, wpG M l 100, m⟩ (wpSt ops M l i) :=
  Wk.gc (by decide) (wp_onT (S := fun m => m < 101) (by decide) (by decide)).onT (wp_onH (S := fun m => m < 101) (by decide) (by decide) (by decide) (by decide)).onH
theorem mapB_ren (σ : Nat → Nat) (M : List KV) : (mapE kAV vAV M).map (fun e => (AV.ren σ e.1, AV.ren σ e.2)) = mapE kAV vAV M := by
  simp only [mapE, List.map_map]
  refine List.map_congr_left fun e _ => ?_
  have h1 : AV.ren σ (vAV e.2) = vAV e.2 := AV.ren_fix (S := fun _ => False) (fun _ h => h.elim) ⟨on_bytes _ _, on_bytes _ _, trivial⟩
  show (AV.ren _ (kAV e.1), AV.ren _ (vAV e.2)) = _
  rw [h1]; rfl
theorem wp_ren {ops : List Wo} {M : List KV} {l : List Wo} {i : Nat} (hp : 0 < l.length) (m : Nat) : Wk ⟨114, wpT ops i, wpG M l 102, m⟩ (wpSt ops M l i) := by
  have h := Wk.rens (n := 114) (nx := m) (K := 101) (t := wpT ops i) (H := wpG M l 102) [(102, 100)] (by decide) (by simp) (by simp)
    (wp_onT (.inl ⟨by omega, by simp⟩) (.inl ⟨by omega, by simp⟩)) (wp_onH (.inl ⟨by omega, by simp⟩) (.inl ⟨by omega, by simp⟩) (.inl ⟨by omega, by simp⟩) (.inr (by simp)))
  have e1 : (wpT ops i).ren (rnL [(102, 100)]) = wpT ops i := by
    have ho := wos_ren (rnL [(102, 100)]) ops
    have r1 : rnL [(102, 100)] 99 = 99 := rfl
    have r2 : rnL [(102, 100)] 2 = 2 := rfl
    simp only [wpT, Env.ren, List.map_cons, List.map_nil, AV.ren, ho, r1, r2]
  have e2 : (wpG M l 102).ren (rnL [(102, 100)]) = wpG M l 100 := by
    have hs := slH_ren (σ := rnL [(102, 100)]) (l := l) (m := 102) (m' := 100) rfl rfl
    have hm := mapB_ren (rnL [(102, 100)]) M
    rw [wpG, wpG, rs_sl hp, rs_sl hp, ← hs]
    show (_, ABlk.ren _ stC) :: (_, ABlk.ren _ (mapB M)) :: Heap.ren _ _ = _
    have e3 : ABlk.ren (rnL [(102, 100)]) (mapB M) = mapB M := by
      show ABlk.map _ = ABlk.map _
      rw [hm]
    rw [e3]; rfl
  rw [e1, e2] at h
  exact h
set_option maxHeartbeats 12800000 in
theorem plays_spec (ops : List Wo) (hl : ∀ o, o ∈ ops → o.Ok) (hn : ops.length ≤ 9223372036854775807) : ACall Try.prog 4 [wosAV ops] [] (.bool true) [] := by
  refine ACall.run (Z := Z) (N := 114) mixed hZ Try.func4 rfl rfl (by kernel_rfl) (by simp) args_wos 0 ?_
  have fin : ∀ (t : Env) (H : Heap) (m : Nat), look t 2 = some (.bool true) → Final Try.prog Try.f4 (.bool true) [] .ret ⟨114, t, H, m⟩ := fun t H m h =>
    Final.one (.inr rfl) (r := .tmp 2) rfl ⟨h, fun vs h => by cases h⟩ (fun vs h => by cases h) (fun vs h => by cases h) (.same _ trivial)
  simp -dsimp -implicitDefEqProofs only [↓j0, ↓j1, ↓j7, ↓j12, ↓j15, j17, j18, j20, ↓j30, j32, ↓j39, ↓j53, ↓j145, argEnv, j172]
  refine CallTo.gen (args := []) [] (stH []) 99 rfl fok7 (by simp -dsimp -implicitDefEqProofs only [j174]) nil0 new_spec (fun n b h => by simp [Heap.get] at h) ⟨by simp, put_st99 (k := 0) (by decide)⟩ ?_
  simp -dsimp -implicitDefEqProofs only [↓j0, ↓j1, ↓j7, ↓j9, ↓j12, ↓j13, ↓j14, ↓j15, ↓j16, j17, j18, j20, ↓j25, ↓j29, ↓j30, j33, j35, ↓j38, ↓j39, ↓j42, ↓j48, ↓j54, ↓j124, j125, j127, ↓j145, ↓j146, ↓j148, ↓j149, partsAV, AV.layable, j170, j171, j172, j174, ↓reduceIte, Nat.reduceAdd, j182, j211, j214, j218, j219, ↓j235, j297, j408]
  refine AWp.loopR (Z := Z) mixed hZ (by kernel_rfl) (fun n s => ∃ M l i, MOk M ∧ MRel l M ∧ l.length ≤ i ∧ i + n = 30 ∧ s = wpSt ops M l i) (n0 := 30) (s0 := wpSt ops [] [] 0) ?_ ⟨[], [], 0, m0_ok, rel0, Nat.le_refl _, by omega, rfl⟩ ?_ rfl
  · exact Wk.sub (by simp -dsimp -implicitDefEqProofs only [↓j25, ↓j27, j179, reduceCtorEq, ↓reduceIte, Nat.reduceEqDiff, Nat.reduceLeDiff, j182, j183, j184, j202, j203, j204, j205, j209, wpT, wpG, rsH_nil] <;> simp)
  rintro n s ⟨M, l, i, hM, hrel, hli, hi, rfl⟩
  refine ⟨rfl, ?_⟩
  by_cases hlt : i < ops.length ∧ i < 30
  · obtain ⟨h1, h2⟩ := hlt
    have e1 : decide ((i : Int) < (ops.length : Int)) = true := decide_eq_true (by omega)
    have e2 : decide ((i : Int) < 30) = true := decide_eq_true (by omega)
    obtain ⟨x, hx⟩ := list_get (xs := ops) (i := i) h1
    have hxo := hl x (List.mem_of_getElem? hx)
    have hsz := (unif_wos ops hl).sizeL_take (k := i) (by simp; omega)
    have hlt2 : (i : Int) < (ops.length : Int) := by omega
    have hw : IntKind.i64.wrap ((i : Int) + 1) = ((i + 1 : Nat) : Int) := by rw [wrap_i64 (by omega) (by omega)]; omega
    have hxb := hxo.base
    have hwr := write_spec M hM x.page hxo.page x.base hxb x.off hxo.off x.s hxo.s
    have hwo := write_ok hM hxo.page hxb x.off x.s
    obtain ⟨k1, k2, k3, k4, k5⟩ := hrel.write hM hxo
    have hlo : ∀ o, o ∈ l → o.Ok := fun o ho => (hrel.inn o ho).ok
    have nn : ∀ a : Int, (a != a) = false := fun a => by simp
    have bb : ∀ a : Bool, (a != a) = false := fun a => by simp
    have ss : ∀ a : ByteArray, strEq a a = true := fun a => strEq_iff.2 rfl
    cases hl0 : l with
    | nil =>
      subst hl0
      by_cases h0 : (rwriteP [] x).1 = 0
      · have hll := k3 h0
        have hrw := rwrite_nil_yes x hxo h0 hll
        have hrel1 := k2
        rw [hll, List.nil_append] at hrel1
        have hp1 : 0 < ([x] : List Wo).length := by simp
        have hl1l : ([x] : List Wo).length = 1 := rfl
        rw [k1, h0] at hwr
        have hM1 := hwo
        obtain ⟨M1, hM1e⟩ : ∃ M1, (writeP M x.page x.base x.off x.s).2 = M1 := ⟨_, rfl⟩
        rw [hM1e] at hwr hM1 hrel1
        have hwr : ACall Try.prog 8 [.ptr 2 0 [], .int .u16 x.page, arrAV x.base, .int .i64 x.off, .str ⟨x.s.toArray⟩] (stH M) (.int .i64 0) (stH M1) := hwr
        simp -dsimp -implicitDefEqProofs only [↓j0, ↓j1, ↓j2, ↓j4, ↓j7, ↓j8, ↓j9, ↓j12, ↓j13, ↓j14, ↓j15, j17, j18, j19, j20, j21, j22, j23, j24, ↓j25, ↓j27, ↓j29, ↓j30, j32, j33, ↓j38, ↓j40, ↓j41, ↓j43, ↓j44, ↓j45, ↓j46, ↓j48, ↓j53, ↓j58, ↓j62, ↓j76, ↓j77, ↓j78, ↓j79, j83, ↓j89, ↓j92, j129, j130, j132, j142, ↓j145, ↓j146, ↓j147, ↓j149, ↓j150, ↓j153, j159, AV.proj, AV.offOf, AV.upd, AV.size, AV.sizeL, AV.layable, j163, j164, j166, j167, j170, j171, j172, j174, j175, j177, reduceCtorEq, ↓reduceIte, Nat.reduceAdd, Nat.reduceEqDiff, j182, j185, j191, j196, j197, j206, j207, j208, j240, j243, j250, j258, j264, j267, j274, j275, j279, j280, j282, j285, j288, j291, j377, j422, hx, hsz, hlt2, e2, hxb, wpSt, wpT, wpG, rsH_nil]
        refine CallTo.gen (args := [.ptr 2 0 [], .int .u16 x.page, arrAV x.base, .int .i64 x.off, .str ⟨x.s.toArray⟩]) (stH M) (stH M1) 102 rfl fok8 (by simp -dsimp -implicitDefEqProofs only [↓j25, ↓j29, j173, j174, ↓reduceIte, Nat.reduceEqDiff]) (fun y hy => (args_write (M := []) y hy).2) hwr (SubH.of (by simp -dsimp -implicitDefEqProofs only [↓j27, ↓reduceIte, Nat.reduceEqDiff, j182, j204, j205])) ⟨by simp, put_st⟩ ?_
        simp -dsimp -implicitDefEqProofs only [↓j4, j17, j18, j20, j21, j22, j23, j24, ↓j25, ↓j27, ↓j29, ↓j38, ↓j43, ↓j45, ↓j53, ↓j54, ↓j76, ↓j79, ↓j124, j125, j126, j127, j128, j129, j130, j132, ↓j145, ↓j146, ↓j153, partsAV, AV.proj, AV.offOf, AV.size, AV.sizeL, AV.layable, j163, j164, j166, j167, j168, j169, j170, j171, j172, j173, j174, j179, j180, ↓reduceIte, Nat.reduceAdd, Nat.reduceEqDiff, j182, j183, j196, j197, j213, j214, j215, j216, j217, j240, j243, j250, j258, j267, j274, j275, j282, j285, j288, j291, j325, j328, j331, j334, j409, hxb]
        refine CallTo.gen (args := [.ptr 99 0 [], x.av]) ([(99, .cells (.agg [.nilsl]))]) (slH [x] 102) 103 rfl fok12 (by simp -dsimp -implicitDefEqProofs only [↓j25, ↓j29, j173, j174, ↓reduceIte, Nat.reduceEqDiff]) (notup2 (fun vs h => by cases h) fun vs h => by cases h) hrw (SubH.of (by simp -dsimp -implicitDefEqProofs only [↓j27, ↓reduceIte, Nat.reduceEqDiff, j182, j204, j205])) ⟨by simp, put_sl3 (Nat.le_refl 102)⟩ ?_
        obtain ⟨base, hbl, hrr, hdd⟩ := hrel1.reads hM1 x.page
        have hrd := read_spec M1 hM1 x.page hxo.page
        have hrl := readP_len hM1 x.page
        have hdl := delta_spec M1 hM1 x.page hxo.page
        obtain ⟨⟨bd, was⟩, hre⟩ : ∃ r, readP M1 x.page = r := ⟨_, rfl⟩
        rw [hre] at hrd hrl hrr hdd
        have hrl : bd.length = 64 := hrl
        have hrd : ACall Try.prog 10 [.ptr 2 0 [], .int .u16 x.page] (stH M1) (.tuple [arrAV bd, .bool was]) (stH M1) := hrd
        have hdd : deltaP M1 x.page = makeP base bd := hdd
        rw [hdd] at hdl
        have hmk := rmake_ok base bd hbl hrl
        obtain ⟨D, hD⟩ : ∃ D, makeP base bd = D := ⟨_, rfl⟩
        rw [hD] at hdl hmk
        have hce := cellsEq_bytes (l := bd) (k := bd) rfl
        have hkb := kinds_bytes hrl
        simp only [beq_self_eq_true] at hce
        have hrs := rread102 [x] hrel1.inn (by omega) x.page hp1
        rw [hrr] at hrs
        have hrs : ACall Try.prog 13 [.ptr 99 0 [], .int .u16 x.page] (slH [x] 102) (.tuple [arrAV base, arrAV bd, .bool was]) (slH [x] 102) := hrs
        simp -dsimp -implicitDefEqProofs only [↓j3, ↓j4, j17, j18, j20, j21, j22, j23, j24, ↓j25, ↓j29, ↓j48, ↓j89, ↓j145, ↓j146, j158, j170, j171, j172, j173, j174, ↓reduceIte, Nat.reduceEqDiff, j185, j196, j230, j231, nn, slH]
        refine ⟨by kernel_rfl, ?_⟩
        simp -dsimp -implicitDefEqProofs only [↓j1, ↓j7, ↓j9, ↓j12, ↓j13, ↓j15, j17, j18, j20, ↓j25, ↓j27, ↓j29, ↓j38, ↓j43, ↓j45, ↓j53, ↓j76, ↓j79, j130, ↓j145, ↓j146, ↓j148, ↓j149, ↓j153, AV.proj, AV.offOf, AV.sizeL, j163, j167, j171, ↓reduceIte, Nat.reduceEqDiff, j182, j197, j267, j282]
        refine CallTo.gen (args := [.ptr 2 0 [], .int .u16 x.page]) (stH M1) (stH M1) 103 rfl fok10 (by simp -dsimp -implicitDefEqProofs only [↓j25, ↓j29, j173, j174, ↓reduceIte, Nat.reduceEqDiff]) (notup2 (fun vs h => by cases h) fun vs h => by cases h) hrd (SubH.of (by simp -dsimp -implicitDefEqProofs only [↓j27, ↓reduceIte, Nat.reduceEqDiff, j182, j204, j205])) ⟨by simp, put_st⟩ ?_
        simp -dsimp -implicitDefEqProofs only [↓j0, ↓j1, ↓j7, ↓j12, ↓j15, j17, j18, j19, j20, j21, j22, j23, ↓j25, ↓j27, ↓j29, ↓j38, ↓j39, ↓j41, ↓j43, ↓j44, ↓j45, ↓j53, ↓j57, ↓j76, ↓j78, ↓j79, j85, j130, ↓j145, ↓j146, ↓j153, AV.proj, AV.offOf, AV.upd, AV.size, AV.sizeL, AV.layable, j163, j164, j167, j170, j171, j173, j174, ↓reduceIte, Nat.reduceAdd, Nat.reduceEqDiff, j182, j197, j240, j243, j267, j274, j282, j376, hrl]
        refine CallTo.gen (args := [.ptr 99 0 [], .int .u16 x.page]) (slH [x] 102) (slH [x] 102) 104 rfl fok13 (by simp -dsimp -implicitDefEqProofs only [↓j25, ↓j29, j173, j174, ↓reduceIte, Nat.reduceEqDiff]) (notup2 (fun vs h => by cases h) fun vs h => by cases h) hrs (SubH.of (by simp -dsimp -implicitDefEqProofs only [↓j27, j173, j174, ↓reduceIte, Nat.reduceEqDiff, j182, j196, j204, j205, j230, j231, slH])) ⟨by simp, put_any⟩ ?_
        simp -dsimp -implicitDefEqProofs only [↓j0, ↓j1, ↓j4, ↓j8, ↓j12, ↓j15, j17, j18, j19, j20, j21, j22, j23, j24, ↓j25, ↓j27, ↓j29, ↓j38, ↓j39, ↓j41, ↓j43, ↓j44, ↓j48, ↓j57, ↓j76, ↓j78, j85, ↓j91, j129, ↓j145, ↓j146, ↓j153, AV.proj, AV.offOf, AV.upd, AV.size, AV.layable, j163, j164, j170, j171, j172, j173, j174, ↓reduceIte, Nat.reduceAdd, Nat.reduceEqDiff, j182, j184, j196, j212, j230, j231, j240, j241, j243, j269, j270, j274, j275, j277, j278, j375, slH, hrl, hbl, hce]
        refine ⟨hkb, ?_⟩
        simp -dsimp -implicitDefEqProofs only [↓j4, ↓j5, j17, j18, j20, j24, ↓j25, ↓j27, ↓j29, ↓j30, j32, ↓j38, ↓j40, ↓j43, ↓j45, ↓j48, ↓j53, ↓j76, ↓j79, j83, ↓j90, j130, ↓j145, ↓j146, ↓j148, ↓j151, ↓j153, AV.proj, AV.offOf, AV.sizeL, j163, j164, j167, j170, j171, j172, j174, j175, ↓reduceIte, Nat.reduceEqDiff, j182, j193, j195, j197, j212, j267, j282, j418, bb]
        refine CallTo.gen (args := [.ptr 2 0 [], .int .u16 x.page]) (stH M1) (stH M1) 106 rfl fok14 (by simp -dsimp -implicitDefEqProofs only [↓j25, ↓j29, j173, j174, ↓reduceIte, Nat.reduceEqDiff]) (notup2 (fun vs h => by cases h) fun vs h => by cases h) hdl (SubH.of (by simp -dsimp -implicitDefEqProofs only [↓j27, ↓reduceIte, Nat.reduceEqDiff, j182, j204, j205])) ⟨by simp, put_st⟩ ?_
        simp -dsimp -implicitDefEqProofs only [↓j5, j17, j18, j20, j21, j22, j23, j24, ↓j25, ↓j27, ↓j29, ↓j43, ↓j53, ↓j76, j129, ↓j145, ↓j146, ↓j148, ↓j151, ↓j153, AV.proj, AV.offOf, j163, j164, j170, j171, j172, j173, j174, j175, ↓reduceIte, Nat.reduceEqDiff, j182, j240, j269, j270, hrl, hbl]
        refine CallTo.pure (args := [arrAV base, arrAV bd]) rfl fok15 (by simp -dsimp -implicitDefEqProofs only [↓j25, ↓j29, j173, j174, ↓reduceIte, Nat.reduceEqDiff]) (fun y hy => (args_mk y hy).2) hmk ?_
        have nss : (!true) = false := rfl
        simp -dsimp -implicitDefEqProofs only [↓j3, ↓j4, ↓j5, j17, j18, j20, j24, ↓j25, ↓j29, ↓j30, j32, ↓j40, ↓j48, j83, j116, ↓j120, ↓j145, ↓j148, ↓j151, j163, j164, j170, j171, j172, j174, j175, ↓reduceIte, Nat.reduceEqDiff, j195, ss, nss]
        refine ⟨by kernel_rfl, ?_⟩
        simp -dsimp -implicitDefEqProofs only [↓j0, ↓j1, ↓j7, ↓j9, ↓j13, ↓j15, j17, j18, j20, ↓j25, ↓j29, ↓j30, j33, ↓j38, ↓j39, ↓j48, ↓j89, ↓j145, ↓j146, ↓j148, ↓j149, j154, j171, ↓reduceIte, Nat.reduceEqDiff, j185]
        exact ⟨n - 1, wpSt ops M1 [x] (i + 1), by omega, ⟨M1, [x], i + 1, hM1, hrel1, by omega, by omega, rfl⟩, Wk.trans (Wk.mk (s' := ⟨114, wpT ops (i + 1), wpG M1 [x] 102, 106⟩) (SubT.spec (by simp -dsimp -implicitDefEqProofs only [↓j25, reduceCtorEq, ↓reduceIte, Nat.reduceEqDiff, j182, j202, j203, wpT, hw] <;> simp)) (SubH.spec (by simp -dsimp -implicitDefEqProofs only [↓j27, j173, j174, ↓reduceIte, Nat.reduceEqDiff, j182, j196, j204, j205, j230, j231, wpG, rs_sl hp1, slH] <;> simp)) (Nat.le_refl _) rfl) (wp_ren hp1 _)⟩
      have hll := k4 h0
      have hMM := k5 h0
      rw [hMM, k1] at hwr
      rw [hMM] at k2
      have hM1 := hM
      have hrel1 := hrel
      have hrw := rwrite_nil_no x hxo h0 hll
      obtain ⟨e, he⟩ : ∃ e, (rwriteP [] x).1 = e := ⟨_, rfl⟩
      rw [he] at hwr hrw
      have hwr : ACall Try.prog 8 [.ptr 2 0 [], .int .u16 x.page, arrAV x.base, .int .i64 x.off, .str ⟨x.s.toArray⟩] (stH M) (.int .i64 (e : Nat)) (stH M) := hwr
      simp -dsimp -implicitDefEqProofs only [↓j0, ↓j1, ↓j2, ↓j4, ↓j7, ↓j8, ↓j9, ↓j12, ↓j13, ↓j14, ↓j15, j17, j18, j19, j20, j21, j22, j23, j24, ↓j25, ↓j27, ↓j29, ↓j30, j32, j33, ↓j38, ↓j40, ↓j41, ↓j43, ↓j44, ↓j45, ↓j46, ↓j48, ↓j53, ↓j58, ↓j62, ↓j76, ↓j77, ↓j78, ↓j79, j83, ↓j89, ↓j92, j129, j130, j132, j142, ↓j145, ↓j146, ↓j147, ↓j149, ↓j150, ↓j153, j159, AV.proj, AV.offOf, AV.upd, AV.size, AV.sizeL, AV.layable, j163, j164, j166, j167, j170, j171, j172, j174, j175, j177, reduceCtorEq, ↓reduceIte, Nat.reduceAdd, Nat.reduceEqDiff, j182, j185, j191, j196, j197, j206, j207, j208, j240, j243, j250, j258, j264, j267, j274, j275, j279, j280, j282, j285, j288, j291, j377, j422, hx, hsz, hlt2, e2, hxb, wpSt, wpT, wpG, rsH_nil]
      refine CallTo.gen (args := [.ptr 2 0 [], .int .u16 x.page, arrAV x.base, .int .i64 x.off, .str ⟨x.s.toArray⟩]) (stH M) (stH M) 102 rfl fok8 (by simp -dsimp -implicitDefEqProofs only [↓j25, ↓j29, j173, j174, ↓reduceIte, Nat.reduceEqDiff]) (fun y hy => (args_write (M := []) y hy).2) hwr (SubH.of (by simp -dsimp -implicitDefEqProofs only [↓j27, ↓reduceIte, Nat.reduceEqDiff, j182, j204, j205])) ⟨by simp, put_st⟩ ?_
      simp -dsimp -implicitDefEqProofs only [↓j4, j17, j18, j20, j21, j22, j23, j24, ↓j25, ↓j27, ↓j29, ↓j38, ↓j43, ↓j45, ↓j53, ↓j54, ↓j76, ↓j79, ↓j124, j125, j126, j127, j128, j129, j130, j132, ↓j145, ↓j146, ↓j153, partsAV, AV.proj, AV.offOf, AV.size, AV.sizeL, AV.layable, j163, j164, j166, j167, j168, j169, j170, j171, j172, j173, j174, j179, j180, ↓reduceIte, Nat.reduceAdd, Nat.reduceEqDiff, j182, j183, j196, j197, j213, j214, j215, j216, j217, j240, j243, j250, j258, j267, j274, j275, j282, j285, j288, j291, j325, j328, j331, j334, j409, hxb]
      refine CallTo.gen (args := [.ptr 99 0 [], x.av]) ([(99, .cells (.agg [.nilsl]))]) ([(99, .cells (.agg [.nilsl]))]) 102 rfl fok12 (by simp -dsimp -implicitDefEqProofs only [↓j25, ↓j29, j173, j174, ↓reduceIte, Nat.reduceEqDiff]) (notup2 (fun vs h => by cases h) fun vs h => by cases h) hrw (SubH.of (by simp -dsimp -implicitDefEqProofs only [↓j27, ↓reduceIte, Nat.reduceEqDiff, j182, j204, j205])) ⟨by simp, put_any⟩ ?_
      obtain ⟨base, hbl, hrr, hdd⟩ := hrel1.reads hM1 x.page
      have hrd := read_spec M hM1 x.page hxo.page
      have hrl := readP_len hM1 x.page
      have hdl := delta_spec M hM1 x.page hxo.page
      obtain ⟨⟨bd, was⟩, hre⟩ : ∃ r, readP M x.page = r := ⟨_, rfl⟩
      rw [hre] at hrd hrl hrr hdd
      have hrl : bd.length = 64 := hrl
      have hrd : ACall Try.prog 10 [.ptr 2 0 [], .int .u16 x.page] (stH M) (.tuple [arrAV bd, .bool was]) (stH M) := hrd
      have hdd : deltaP M x.page = makeP base bd := hdd
      rw [hdd] at hdl
      have hmk := rmake_ok base bd hbl hrl
      obtain ⟨D, hD⟩ : ∃ D, makeP base bd = D := ⟨_, rfl⟩
      rw [hD] at hdl hmk
      have hce := cellsEq_bytes (l := bd) (k := bd) rfl
      have hkb := kinds_bytes hrl
      simp only [beq_self_eq_true] at hce
      have hrs := rread_spec [] (fun o h => by cases h) (by decide) x.page
      rw [hrr] at hrs
      have hrs : ACall Try.prog 13 [.ptr 99 0 [], .int .u16 x.page] ([(99, .cells (.agg [.nilsl]))]) (.tuple [arrAV base, arrAV bd, .bool was]) ([(99, .cells (.agg [.nilsl]))]) := hrs
      simp -dsimp -implicitDefEqProofs only [↓j3, ↓j4, j17, j18, j20, j21, j22, j23, j24, ↓j25, ↓j29, ↓j48, ↓j89, ↓j145, ↓j146, j158, j170, j171, j172, j173, j174, ↓reduceIte, Nat.reduceEqDiff, j185, nn]
      refine ⟨by kernel_rfl, ?_⟩
      simp -dsimp -implicitDefEqProofs only [↓j1, ↓j7, ↓j9, ↓j12, ↓j13, ↓j15, j17, j18, j20, ↓j25, ↓j27, ↓j29, ↓j38, ↓j43, ↓j45, ↓j53, ↓j76, ↓j79, j130, ↓j145, ↓j146, ↓j148, ↓j149, ↓j153, AV.proj, AV.offOf, AV.sizeL, j163, j167, j171, ↓reduceIte, Nat.reduceEqDiff, j182, j197, j267, j282]
      refine CallTo.gen (args := [.ptr 2 0 [], .int .u16 x.page]) (stH M) (stH M) 102 rfl fok10 (by simp -dsimp -implicitDefEqProofs only [↓j25, ↓j29, j173, j174, ↓reduceIte, Nat.reduceEqDiff]) (notup2 (fun vs h => by cases h) fun vs h => by cases h) hrd (SubH.of (by simp -dsimp -implicitDefEqProofs only [↓j27, ↓reduceIte, Nat.reduceEqDiff, j182, j204, j205])) ⟨by simp, put_st⟩ ?_
      simp -dsimp -implicitDefEqProofs only [↓j0, ↓j1, ↓j7, ↓j12, ↓j15, j17, j18, j19, j20, j21, j22, j23, ↓j25, ↓j27, ↓j29, ↓j38, ↓j39, ↓j41, ↓j43, ↓j44, ↓j45, ↓j53, ↓j57, ↓j76, ↓j78, ↓j79, j85, j130, ↓j145, ↓j146, ↓j153, AV.proj, AV.offOf, AV.upd, AV.size, AV.sizeL, AV.layable, j163, j164, j167, j170, j171, j173, j174, ↓reduceIte, Nat.reduceAdd, Nat.reduceEqDiff, j182, j197, j240, j243, j267, j274, j282, j376, hrl]
      refine CallTo.gen (args := [.ptr 99 0 [], .int .u16 x.page]) ([(99, .cells (.agg [.nilsl]))]) ([(99, .cells (.agg [.nilsl]))]) 103 rfl fok13 (by simp -dsimp -implicitDefEqProofs only [↓j25, ↓j29, j173, j174, ↓reduceIte, Nat.reduceEqDiff]) (notup2 (fun vs h => by cases h) fun vs h => by cases h) hrs (SubH.of (by simp -dsimp -implicitDefEqProofs only [↓j27, ↓reduceIte, Nat.reduceEqDiff, j182, j204, j205])) ⟨by simp, put_any⟩ ?_
      simp -dsimp -implicitDefEqProofs only [↓j0, ↓j1, ↓j4, ↓j8, ↓j12, ↓j15, j17, j18, j19, j20, j21, j22, j23, j24, ↓j25, ↓j27, ↓j29, ↓j38, ↓j39, ↓j41, ↓j43, ↓j44, ↓j48, ↓j57, ↓j76, ↓j78, j85, ↓j91, j129, ↓j145, ↓j146, ↓j153, AV.proj, AV.offOf, AV.upd, AV.size, AV.layable, j163, j164, j170, j171, j172, j173, j174, ↓reduceIte, Nat.reduceAdd, Nat.reduceEqDiff, j182, j184, j212, j240, j241, j243, j269, j270, j274, j275, j277, j278, j375, hrl, hbl, hce]
      refine ⟨hkb, ?_⟩
      simp -dsimp -implicitDefEqProofs only [↓j4, ↓j5, j17, j18, j20, j24, ↓j25, ↓j27, ↓j29, ↓j30, j32, ↓j38, ↓j40, ↓j43, ↓j45, ↓j48, ↓j53, ↓j76, ↓j79, j83, ↓j90, j130, ↓j145, ↓j146, ↓j148, ↓j151, ↓j153, AV.proj, AV.offOf, AV.sizeL, j163, j164, j167, j170, j171, j172, j174, j175, ↓reduceIte, Nat.reduceEqDiff, j182, j193, j195, j197, j212, j267, j282, j418, bb]
      refine CallTo.gen (args := [.ptr 2 0 [], .int .u16 x.page]) (stH M) (stH M) 105 rfl fok14 (by simp -dsimp -implicitDefEqProofs only [↓j25, ↓j29, j173, j174, ↓reduceIte, Nat.reduceEqDiff]) (notup2 (fun vs h => by cases h) fun vs h => by cases h) hdl (SubH.of (by simp -dsimp -implicitDefEqProofs only [↓j27, ↓reduceIte, Nat.reduceEqDiff, j182, j204, j205])) ⟨by simp, put_st⟩ ?_
      simp -dsimp -implicitDefEqProofs only [↓j5, j17, j18, j20, j21, j22, j23, j24, ↓j25, ↓j27, ↓j29, ↓j43, ↓j53, ↓j76, j129, ↓j145, ↓j146, ↓j148, ↓j151, ↓j153, AV.proj, AV.offOf, j163, j164, j170, j171, j172, j173, j174, j175, ↓reduceIte, Nat.reduceEqDiff, j182, j240, j269, j270, hrl, hbl]
      refine CallTo.pure (args := [arrAV base, arrAV bd]) rfl fok15 (by simp -dsimp -implicitDefEqProofs only [↓j25, ↓j29, j173, j174, ↓reduceIte, Nat.reduceEqDiff]) (fun y hy => (args_mk y hy).2) hmk ?_
      have nss : (!true) = false := rfl
      simp -dsimp -implicitDefEqProofs only [↓j3, ↓j4, ↓j5, j17, j18, j20, j24, ↓j25, ↓j29, ↓j30, j32, ↓j40, ↓j48, j83, j116, ↓j120, ↓j145, ↓j148, ↓j151, j163, j164, j170, j171, j172, j174, j175, ↓reduceIte, Nat.reduceEqDiff, j195, ss, nss]
      refine ⟨by kernel_rfl, ?_⟩
      simp -dsimp -implicitDefEqProofs only [↓j0, ↓j1, ↓j7, ↓j9, ↓j13, ↓j15, j17, j18, j20, ↓j25, ↓j29, ↓j30, j33, ↓j38, ↓j39, ↓j48, ↓j89, ↓j145, ↓j146, ↓j148, ↓j149, j154, j171, ↓reduceIte, Nat.reduceEqDiff, j185]
      exact ⟨n - 1, wpSt ops M [] (i + 1), by omega, ⟨M, [], i + 1, hM1, hrel1, by omega, by omega, rfl⟩, Wk.trans (Wk.mk (s' := ⟨114, wpT ops (i + 1), wpG M [] 100, 105⟩) (SubT.spec (by simp -dsimp -implicitDefEqProofs only [↓j25, reduceCtorEq, ↓reduceIte, Nat.reduceEqDiff, j182, j202, j203, wpT, hw] <;> simp)) (SubH.spec (by simp -dsimp -implicitDefEqProofs only [↓j27, ↓reduceIte, Nat.reduceEqDiff, j182, j204, j205, wpG, rsH_nil] <;> simp)) (Nat.le_refl _) rfl) wp_gc⟩
    | cons t0 r0 =>
      rw [← hl0]
      have hp : 0 < l.length := by rw [hl0]; simp
      clear hl0
      by_cases h0 : (rwriteP l x).1 = 0
      · have hll := k3 h0
        have hrw := rwrite_yes l hlo (by omega) x hxo hp h0 hll
        have hrel1 := k2
        rw [hll] at hrel1
        have hl1l : (l ++ [x]).length = l.length + 1 := by rw [List.length_append]; rfl
        obtain ⟨l1, hl1⟩ : ∃ l1, l ++ [x] = l1 := ⟨_, rfl⟩
        rw [hl1] at hrel1 hrw hl1l
        have hp1 : 0 < (l1 : List Wo).length := by omega
        skip
        rw [k1, h0] at hwr
        have hM1 := hwo
        obtain ⟨M1, hM1e⟩ : ∃ M1, (writeP M x.page x.base x.off x.s).2 = M1 := ⟨_, rfl⟩
        rw [hM1e] at hwr hM1 hrel1
        have hwr : ACall Try.prog 8 [.ptr 2 0 [], .int .u16 x.page, arrAV x.base, .int .i64 x.off, .str ⟨x.s.toArray⟩] (stH M) (.int .i64 0) (stH M1) := hwr
        simp -dsimp -implicitDefEqProofs only [↓j0, ↓j1, ↓j2, ↓j4, ↓j7, ↓j8, ↓j9, ↓j12, ↓j13, ↓j14, ↓j15, j17, j18, j19, j20, j21, j22, j23, j24, ↓j25, ↓j27, ↓j29, ↓j30, j32, j33, ↓j38, ↓j40, ↓j41, ↓j43, ↓j44, ↓j45, ↓j46, ↓j48, ↓j53, ↓j58, ↓j62, ↓j76, ↓j77, ↓j78, ↓j79, j83, ↓j89, ↓j92, j129, j130, j132, j142, ↓j145, ↓j146, ↓j147, ↓j149, ↓j150, ↓j153, j159, AV.proj, AV.offOf, AV.upd, AV.size, AV.sizeL, AV.layable, j163, j164, j166, j167, j170, j171, j172, j174, j175, j177, reduceCtorEq, ↓reduceIte, Nat.reduceAdd, Nat.reduceEqDiff, j182, j185, j191, j196, j197, j206, j207, j208, j240, j243, j250, j258, j264, j267, j274, j275, j279, j280, j282, j285, j288, j291, j377, j422, hx, hsz, hlt2, e2, hxb, wpSt, wpT, wpG, rs_sl hp, slH]
        refine CallTo.gen (args := [.ptr 2 0 [], .int .u16 x.page, arrAV x.base, .int .i64 x.off, .str ⟨x.s.toArray⟩]) (stH M) (stH M1) 102 rfl fok8 (by simp -dsimp -implicitDefEqProofs only [↓j25, ↓j29, j173, j174, ↓reduceIte, Nat.reduceEqDiff]) (fun y hy => (args_write (M := []) y hy).2) hwr (SubH.of (by simp -dsimp -implicitDefEqProofs only [↓j27, ↓reduceIte, Nat.reduceEqDiff, j182, j204, j205])) ⟨by simp, put_st⟩ ?_
        simp -dsimp -implicitDefEqProofs only [↓j4, j17, j18, j20, j21, j22, j23, j24, ↓j25, ↓j27, ↓j29, ↓j38, ↓j43, ↓j45, ↓j53, ↓j54, ↓j76, ↓j79, ↓j124, j125, j126, j127, j128, j129, j130, j132, ↓j145, ↓j146, ↓j153, partsAV, AV.proj, AV.offOf, AV.size, AV.sizeL, AV.layable, j163, j164, j166, j167, j168, j169, j170, j171, j172, j173, j174, j179, j180, ↓reduceIte, Nat.reduceAdd, Nat.reduceEqDiff, j182, j183, j196, j197, j213, j214, j215, j216, j217, j240, j243, j250, j258, j267, j274, j275, j282, j285, j288, j291, j325, j328, j331, j334, j409, hxb]
        refine CallTo.gen (args := [.ptr 99 0 [], x.av]) (slH l 100) (slH l1 102) 103 rfl fok12 (by simp -dsimp -implicitDefEqProofs only [↓j25, ↓j29, j173, j174, ↓reduceIte, Nat.reduceEqDiff]) (notup2 (fun vs h => by cases h) fun vs h => by cases h) hrw (SubH.of (by simp -dsimp -implicitDefEqProofs only [↓j27, ↓reduceIte, Nat.reduceEqDiff, j182, j204, j205, slH])) ⟨by simp, put_sl2 (Nat.le_refl 102)⟩ ?_
        obtain ⟨base, hbl, hrr, hdd⟩ := hrel1.reads hM1 x.page
        have hrd := read_spec M1 hM1 x.page hxo.page
        have hrl := readP_len hM1 x.page
        have hdl := delta_spec M1 hM1 x.page hxo.page
        obtain ⟨⟨bd, was⟩, hre⟩ : ∃ r, readP M1 x.page = r := ⟨_, rfl⟩
        rw [hre] at hrd hrl hrr hdd
        have hrl : bd.length = 64 := hrl
        have hrd : ACall Try.prog 10 [.ptr 2 0 [], .int .u16 x.page] (stH M1) (.tuple [arrAV bd, .bool was]) (stH M1) := hrd
        have hdd : deltaP M1 x.page = makeP base bd := hdd
        rw [hdd] at hdl
        have hmk := rmake_ok base bd hbl hrl
        obtain ⟨D, hD⟩ : ∃ D, makeP base bd = D := ⟨_, rfl⟩
        rw [hD] at hdl hmk
        have hce := cellsEq_bytes (l := bd) (k := bd) rfl
        have hkb := kinds_bytes hrl
        simp only [beq_self_eq_true] at hce
        have hrs := rread102 l1 hrel1.inn (by omega) x.page hp1
        rw [hrr] at hrs
        have hrs : ACall Try.prog 13 [.ptr 99 0 [], .int .u16 x.page] (slH l1 102) (.tuple [arrAV base, arrAV bd, .bool was]) (slH l1 102) := hrs
        simp -dsimp -implicitDefEqProofs only [↓j3, ↓j4, j17, j18, j20, j21, j22, j23, j24, ↓j25, ↓j29, ↓j48, ↓j89, ↓j145, ↓j146, j158, j170, j171, j172, j173, j174, ↓reduceIte, Nat.reduceEqDiff, j185, nn, slH]
        refine ⟨by kernel_rfl, ?_⟩
        simp -dsimp -implicitDefEqProofs only [↓j1, ↓j7, ↓j9, ↓j12, ↓j13, ↓j15, j17, j18, j20, ↓j25, ↓j27, ↓j29, ↓j38, ↓j43, ↓j45, ↓j53, ↓j76, ↓j79, j130, ↓j145, ↓j146, ↓j148, ↓j149, ↓j153, AV.proj, AV.offOf, AV.sizeL, j163, j167, j171, ↓reduceIte, Nat.reduceEqDiff, j182, j197, j267, j282]
        refine CallTo.gen (args := [.ptr 2 0 [], .int .u16 x.page]) (stH M1) (stH M1) 103 rfl fok10 (by simp -dsimp -implicitDefEqProofs only [↓j25, ↓j29, j173, j174, ↓reduceIte, Nat.reduceEqDiff]) (notup2 (fun vs h => by cases h) fun vs h => by cases h) hrd (SubH.of (by simp -dsimp -implicitDefEqProofs only [↓j27, ↓reduceIte, Nat.reduceEqDiff, j182, j204, j205])) ⟨by simp, put_st⟩ ?_
        simp -dsimp -implicitDefEqProofs only [↓j0, ↓j1, ↓j7, ↓j12, ↓j15, j17, j18, j19, j20, j21, j22, j23, ↓j25, ↓j27, ↓j29, ↓j38, ↓j39, ↓j41, ↓j43, ↓j44, ↓j45, ↓j53, ↓j57, ↓j76, ↓j78, ↓j79, j85, j130, ↓j145, ↓j146, ↓j153, AV.proj, AV.offOf, AV.upd, AV.size, AV.sizeL, AV.layable, j163, j164, j167, j170, j171, j173, j174, ↓reduceIte, Nat.reduceAdd, Nat.reduceEqDiff, j182, j197, j240, j243, j267, j274, j282, j376, hrl]
        refine CallTo.gen (args := [.ptr 99 0 [], .int .u16 x.page]) (slH l1 102) (slH l1 102) 104 rfl fok13 (by simp -dsimp -implicitDefEqProofs only [↓j25, ↓j29, j173, j174, ↓reduceIte, Nat.reduceEqDiff]) (notup2 (fun vs h => by cases h) fun vs h => by cases h) hrs (SubH.of (by simp -dsimp -implicitDefEqProofs only [↓j27, ↓reduceIte, Nat.reduceEqDiff, j182, j204, j205, slH])) ⟨by simp, put_any⟩ ?_
        simp -dsimp -implicitDefEqProofs only [↓j0, ↓j1, ↓j4, ↓j8, ↓j12, ↓j15, j17, j18, j19, j20, j21, j22, j23, j24, ↓j25, ↓j27, ↓j29, ↓j38, ↓j39, ↓j41, ↓j43, ↓j44, ↓j48, ↓j57, ↓j76, ↓j78, j85, ↓j91, j129, ↓j145, ↓j146, ↓j153, AV.proj, AV.offOf, AV.upd, AV.size, AV.layable, j163, j164, j170, j171, j172, j173, j174, ↓reduceIte, Nat.reduceAdd, Nat.reduceEqDiff, j182, j184, j212, j240, j241, j243, j269, j270, j274, j275, j277, j278, j375, slH, hrl, hbl, hce]
        refine ⟨hkb, ?_⟩
        simp -dsimp -implicitDefEqProofs only [↓j4, ↓j5, j17, j18, j20, j24, ↓j25, ↓j27, ↓j29, ↓j30, j32, ↓j38, ↓j40, ↓j43, ↓j45, ↓j48, ↓j53, ↓j76, ↓j79, j83, ↓j90, j130, ↓j145, ↓j146, ↓j148, ↓j151, ↓j153, AV.proj, AV.offOf, AV.sizeL, j163, j164, j167, j170, j171, j172, j174, j175, ↓reduceIte, Nat.reduceEqDiff, j182, j193, j195, j197, j212, j267, j282, j418, bb]
        refine CallTo.gen (args := [.ptr 2 0 [], .int .u16 x.page]) (stH M1) (stH M1) 106 rfl fok14 (by simp -dsimp -implicitDefEqProofs only [↓j25, ↓j29, j173, j174, ↓reduceIte, Nat.reduceEqDiff]) (notup2 (fun vs h => by cases h) fun vs h => by cases h) hdl (SubH.of (by simp -dsimp -implicitDefEqProofs only [↓j27, ↓reduceIte, Nat.reduceEqDiff, j182, j204, j205])) ⟨by simp, put_st⟩ ?_
        simp -dsimp -implicitDefEqProofs only [↓j5, j17, j18, j20, j21, j22, j23, j24, ↓j25, ↓j27, ↓j29, ↓j43, ↓j53, ↓j76, j129, ↓j145, ↓j146, ↓j148, ↓j151, ↓j153, AV.proj, AV.offOf, j163, j164, j170, j171, j172, j173, j174, j175, ↓reduceIte, Nat.reduceEqDiff, j182, j240, j269, j270, hrl, hbl]
        refine CallTo.pure (args := [arrAV base, arrAV bd]) rfl fok15 (by simp -dsimp -implicitDefEqProofs only [↓j25, ↓j29, j173, j174, ↓reduceIte, Nat.reduceEqDiff]) (fun y hy => (args_mk y hy).2) hmk ?_
        have nss : (!true) = false := rfl
        simp -dsimp -implicitDefEqProofs only [↓j3, ↓j4, ↓j5, j17, j18, j20, j24, ↓j25, ↓j29, ↓j30, j32, ↓j40, ↓j48, j83, j116, ↓j120, ↓j145, ↓j148, ↓j151, j163, j164, j170, j171, j172, j174, j175, ↓reduceIte, Nat.reduceEqDiff, j195, ss, nss]
        refine ⟨by kernel_rfl, ?_⟩
        simp -dsimp -implicitDefEqProofs only [↓j0, ↓j1, ↓j7, ↓j9, ↓j13, ↓j15, j17, j18, j20, ↓j25, ↓j29, ↓j30, j33, ↓j38, ↓j39, ↓j48, ↓j89, ↓j145, ↓j146, ↓j148, ↓j149, j154, j171, ↓reduceIte, Nat.reduceEqDiff, j185]
        exact ⟨n - 1, wpSt ops M1 l1 (i + 1), by omega, ⟨M1, l1, i + 1, hM1, hrel1, by omega, by omega, rfl⟩, Wk.trans (Wk.mk (s' := ⟨114, wpT ops (i + 1), wpG M1 l1 102, 106⟩) (SubT.spec (by simp -dsimp -implicitDefEqProofs only [↓j25, reduceCtorEq, ↓reduceIte, Nat.reduceEqDiff, j182, j202, j203, wpT, hw] <;> simp)) (SubH.spec (by simp -dsimp -implicitDefEqProofs only [↓j27, ↓reduceIte, Nat.reduceEqDiff, j182, j204, j205, wpG, rs_sl hp1, slH] <;> simp)) (Nat.le_refl _) rfl) (wp_ren hp1 _)⟩
      have hll := k4 h0
      have hMM := k5 h0
      rw [hMM, k1] at hwr
      rw [hMM] at k2
      have hM1 := hM
      have hrel1 := hrel
      have hrw := rwrite_no l hlo (by omega) x hxo hp h0 hll
      have hp1 := hp
      obtain ⟨e, he⟩ : ∃ e, (rwriteP l x).1 = e := ⟨_, rfl⟩
      rw [he] at hwr hrw
      have hwr : ACall Try.prog 8 [.ptr 2 0 [], .int .u16 x.page, arrAV x.base, .int .i64 x.off, .str ⟨x.s.toArray⟩] (stH M) (.int .i64 (e : Nat)) (stH M) := hwr
      simp -dsimp -implicitDefEqProofs only [↓j0, ↓j1, ↓j2, ↓j4, ↓j7, ↓j8, ↓j9, ↓j12, ↓j13, ↓j14, ↓j15, j17, j18, j19, j20, j21, j22, j23, j24, ↓j25, ↓j27, ↓j29, ↓j30, j32, j33, ↓j38, ↓j40, ↓j41, ↓j43, ↓j44, ↓j45, ↓j46, ↓j48, ↓j53, ↓j58, ↓j62, ↓j76, ↓j77, ↓j78, ↓j79, j83, ↓j89, ↓j92, j129, j130, j132, j142, ↓j145, ↓j146, ↓j147, ↓j149, ↓j150, ↓j153, j159, AV.proj, AV.offOf, AV.upd, AV.size, AV.sizeL, AV.layable, j163, j164, j166, j167, j170, j171, j172, j174, j175, j177, reduceCtorEq, ↓reduceIte, Nat.reduceAdd, Nat.reduceEqDiff, j182, j185, j191, j196, j197, j206, j207, j208, j240, j243, j250, j258, j264, j267, j274, j275, j279, j280, j282, j285, j288, j291, j377, j422, hx, hsz, hlt2, e2, hxb, wpSt, wpT, wpG, rs_sl hp, slH]
      refine CallTo.gen (args := [.ptr 2 0 [], .int .u16 x.page, arrAV x.base, .int .i64 x.off, .str ⟨x.s.toArray⟩]) (stH M) (stH M) 102 rfl fok8 (by simp -dsimp -implicitDefEqProofs only [↓j25, ↓j29, j173, j174, ↓reduceIte, Nat.reduceEqDiff]) (fun y hy => (args_write (M := []) y hy).2) hwr (SubH.of (by simp -dsimp -implicitDefEqProofs only [↓j27, ↓reduceIte, Nat.reduceEqDiff, j182, j204, j205])) ⟨by simp, put_st⟩ ?_
      simp -dsimp -implicitDefEqProofs only [↓j4, j17, j18, j20, j21, j22, j23, j24, ↓j25, ↓j27, ↓j29, ↓j38, ↓j43, ↓j45, ↓j53, ↓j54, ↓j76, ↓j79, ↓j124, j125, j126, j127, j128, j129, j130, j132, ↓j145, ↓j146, ↓j153, partsAV, AV.proj, AV.offOf, AV.size, AV.sizeL, AV.layable, j163, j164, j166, j167, j168, j169, j170, j171, j172, j173, j174, j179, j180, ↓reduceIte, Nat.reduceAdd, Nat.reduceEqDiff, j182, j183, j196, j197, j213, j214, j215, j216, j217, j240, j243, j250, j258, j267, j274, j275, j282, j285, j288, j291, j325, j328, j331, j334, j409, hxb]
      refine CallTo.gen (args := [.ptr 99 0 [], x.av]) (slH l 100) (slH l 100) 102 rfl fok12 (by simp -dsimp -implicitDefEqProofs only [↓j25, ↓j29, j173, j174, ↓reduceIte, Nat.reduceEqDiff]) (notup2 (fun vs h => by cases h) fun vs h => by cases h) hrw (SubH.of (by simp -dsimp -implicitDefEqProofs only [↓j27, ↓reduceIte, Nat.reduceEqDiff, j182, j204, j205, slH])) ⟨by simp, put_any⟩ ?_
      obtain ⟨base, hbl, hrr, hdd⟩ := hrel1.reads hM1 x.page
      have hrd := read_spec M hM1 x.page hxo.page
      have hrl := readP_len hM1 x.page
      have hdl := delta_spec M hM1 x.page hxo.page
      obtain ⟨⟨bd, was⟩, hre⟩ : ∃ r, readP M x.page = r := ⟨_, rfl⟩
      rw [hre] at hrd hrl hrr hdd
      have hrl : bd.length = 64 := hrl
      have hrd : ACall Try.prog 10 [.ptr 2 0 [], .int .u16 x.page] (stH M) (.tuple [arrAV bd, .bool was]) (stH M) := hrd
      have hdd : deltaP M x.page = makeP base bd := hdd
      rw [hdd] at hdl
      have hmk := rmake_ok base bd hbl hrl
      obtain ⟨D, hD⟩ : ∃ D, makeP base bd = D := ⟨_, rfl⟩
      rw [hD] at hdl hmk
      have hce := cellsEq_bytes (l := bd) (k := bd) rfl
      have hkb := kinds_bytes hrl
      simp only [beq_self_eq_true] at hce
      have hrs := rread100 l hrel1.inn (by omega) x.page hp1
      rw [hrr] at hrs
      have hrs : ACall Try.prog 13 [.ptr 99 0 [], .int .u16 x.page] (slH l 100) (.tuple [arrAV base, arrAV bd, .bool was]) (slH l 100) := hrs
      simp -dsimp -implicitDefEqProofs only [↓j3, ↓j4, j17, j18, j20, j21, j22, j23, j24, ↓j25, ↓j29, ↓j48, ↓j89, ↓j145, ↓j146, j158, j170, j171, j172, j173, j174, ↓reduceIte, Nat.reduceEqDiff, j185, nn, slH]
      refine ⟨by kernel_rfl, ?_⟩
      simp -dsimp -implicitDefEqProofs only [↓j1, ↓j7, ↓j9, ↓j12, ↓j13, ↓j15, j17, j18, j20, ↓j25, ↓j27, ↓j29, ↓j38, ↓j43, ↓j45, ↓j53, ↓j76, ↓j79, j130, ↓j145, ↓j146, ↓j148, ↓j149, ↓j153, AV.proj, AV.offOf, AV.sizeL, j163, j167, j171, ↓reduceIte, Nat.reduceEqDiff, j182, j197, j267, j282]
      refine CallTo.gen (args := [.ptr 2 0 [], .int .u16 x.page]) (stH M) (stH M) 102 rfl fok10 (by simp -dsimp -implicitDefEqProofs only [↓j25, ↓j29, j173, j174, ↓reduceIte, Nat.reduceEqDiff]) (notup2 (fun vs h => by cases h) fun vs h => by cases h) hrd (SubH.of (by simp -dsimp -implicitDefEqProofs only [↓j27, ↓reduceIte, Nat.reduceEqDiff, j182, j204, j205])) ⟨by simp, put_st⟩ ?_
      simp -dsimp -implicitDefEqProofs only [↓j0, ↓j1, ↓j7, ↓j12, ↓j15, j17, j18, j19, j20, j21, j22, j23, ↓j25, ↓j27, ↓j29, ↓j38, ↓j39, ↓j41, ↓j43, ↓j44, ↓j45, ↓j53, ↓j57, ↓j76, ↓j78, ↓j79, j85, j130, ↓j145, ↓j146, ↓j153, AV.proj, AV.offOf, AV.upd, AV.size, AV.sizeL, AV.layable, j163, j164, j167, j170, j171, j173, j174, ↓reduceIte, Nat.reduceAdd, Nat.reduceEqDiff, j182, j197, j240, j243, j267, j274, j282, j376, hrl]
      refine CallTo.gen (args := [.ptr 99 0 [], .int .u16 x.page]) (slH l 100) (slH l 100) 103 rfl fok13 (by simp -dsimp -implicitDefEqProofs only [↓j25, ↓j29, j173, j174, ↓reduceIte, Nat.reduceEqDiff]) (notup2 (fun vs h => by cases h) fun vs h => by cases h) hrs (SubH.of (by simp -dsimp -implicitDefEqProofs only [↓j27, ↓reduceIte, Nat.reduceEqDiff, j182, j204, j205, slH])) ⟨by simp, put_any⟩ ?_
      simp -dsimp -implicitDefEqProofs only [↓j0, ↓j1, ↓j4, ↓j8, ↓j12, ↓j15, j17, j18, j19, j20, j21, j22, j23, j24, ↓j25, ↓j27, ↓j29, ↓j38, ↓j39, ↓j41, ↓j43, ↓j44, ↓j48, ↓j57, ↓j76, ↓j78, j85, ↓j91, j129, ↓j145, ↓j146, ↓j153, AV.proj, AV.offOf, AV.upd, AV.size, AV.layable, j163, j164, j170, j171, j172, j173, j174, ↓reduceIte, Nat.reduceAdd, Nat.reduceEqDiff, j182, j184, j212, j240, j241, j243, j269, j270, j274, j275, j277, j278, j375, slH, hrl, hbl, hce]
      refine ⟨hkb, ?_⟩
      simp -dsimp -implicitDefEqProofs only [↓j4, ↓j5, j17, j18, j20, j24, ↓j25, ↓j27, ↓j29, ↓j30, j32, ↓j38, ↓j40, ↓j43, ↓j45, ↓j48, ↓j53, ↓j76, ↓j79, j83, ↓j90, j130, ↓j145, ↓j146, ↓j148, ↓j151, ↓j153, AV.proj, AV.offOf, AV.sizeL, j163, j164, j167, j170, j171, j172, j174, j175, ↓reduceIte, Nat.reduceEqDiff, j182, j193, j195, j197, j212, j267, j282, j418, bb]
      refine CallTo.gen (args := [.ptr 2 0 [], .int .u16 x.page]) (stH M) (stH M) 105 rfl fok14 (by simp -dsimp -implicitDefEqProofs only [↓j25, ↓j29, j173, j174, ↓reduceIte, Nat.reduceEqDiff]) (notup2 (fun vs h => by cases h) fun vs h => by cases h) hdl (SubH.of (by simp -dsimp -implicitDefEqProofs only [↓j27, ↓reduceIte, Nat.reduceEqDiff, j182, j204, j205])) ⟨by simp, put_st⟩ ?_
      simp -dsimp -implicitDefEqProofs only [↓j5, j17, j18, j20, j21, j22, j23, j24, ↓j25, ↓j27, ↓j29, ↓j43, ↓j53, ↓j76, j129, ↓j145, ↓j146, ↓j148, ↓j151, ↓j153, AV.proj, AV.offOf, j163, j164, j170, j171, j172, j173, j174, j175, ↓reduceIte, Nat.reduceEqDiff, j182, j240, j269, j270, hrl, hbl]
      refine CallTo.pure (args := [arrAV base, arrAV bd]) rfl fok15 (by simp -dsimp -implicitDefEqProofs only [↓j25, ↓j29, j173, j174, ↓reduceIte, Nat.reduceEqDiff]) (fun y hy => (args_mk y hy).2) hmk ?_
      have nss : (!true) = false := rfl
      simp -dsimp -implicitDefEqProofs only [↓j3, ↓j4, ↓j5, j17, j18, j20, j24, ↓j25, ↓j29, ↓j30, j32, ↓j40, ↓j48, j83, j116, ↓j120, ↓j145, ↓j148, ↓j151, j163, j164, j170, j171, j172, j174, j175, ↓reduceIte, Nat.reduceEqDiff, j195, ss, nss]
      refine ⟨by kernel_rfl, ?_⟩
      simp -dsimp -implicitDefEqProofs only [↓j0, ↓j1, ↓j7, ↓j9, ↓j13, ↓j15, j17, j18, j20, ↓j25, ↓j29, ↓j30, j33, ↓j38, ↓j39, ↓j48, ↓j89, ↓j145, ↓j146, ↓j148, ↓j149, j154, j171, ↓reduceIte, Nat.reduceEqDiff, j185]
      exact ⟨n - 1, wpSt ops M l (i + 1), by omega, ⟨M, l, i + 1, hM1, hrel1, by omega, by omega, rfl⟩, Wk.trans (Wk.mk (s' := ⟨114, wpT ops (i + 1), wpG M l 100, 105⟩) (SubT.spec (by simp -dsimp -implicitDefEqProofs only [↓j25, reduceCtorEq, ↓reduceIte, Nat.reduceEqDiff, j182, j202, j203, wpT, hw] <;> simp)) (SubH.spec (by simp -dsimp -implicitDefEqProofs only [↓j27, ↓reduceIte, Nat.reduceEqDiff, j182, j204, j205, wpG, rs_sl hp1, slH] <;> simp)) (Nat.le_refl _) rfl) wp_gc⟩
  · by_cases h1 : i < ops.length
    · have h2 : ¬ i < 30 := fun h => hlt ⟨h1, h⟩
      have e1 : decide ((i : Int) < (ops.length : Int)) = true := decide_eq_true (by omega)
      have e2 : decide ((i : Int) < 30) = false := decide_eq_false (by omega)
      clear hlt
      have hpg := pages_spec M hM
      have hM4 := hM.few
      have hkl := keysIn_len M
      have hpp := hrel.pages hM
      have hlo : ∀ o, o ∈ l → o.Ok := fun o ho => (hrel.inn o ho).ok
      obtain ⟨ks, hks⟩ : ∃ ks, keysIn M = ks := ⟨_, rfl⟩
      rw [hks] at hpg hkl hpp
      have h4 : (pgL l 65536).length ≤ 4 := by rw [hpp]; omega
      have nn : ∀ a : Int, (a != a) = false := fun a => by simp
      cases hl0 : l with
      | nil =>
        rw [hl0] at h4 hpp
        have hrp := rpages_spec [] (fun o h => by cases h) (by decide) h4
        rw [hpp] at hrp
        have hrp : ACall Try.prog 16 [.ptr 99 0 []] [(99, .cells (.agg [.nilsl]))] (keysAV ks) [(99, .cells (.agg [.nilsl]))] := hrp
        simp -dsimp -implicitDefEqProofs only [↓j0, ↓j1, ↓j2, ↓j7, ↓j11, ↓j12, ↓j13, ↓j15, j17, j18, j20, ↓j25, ↓j29, ↓j30, j32, j33, ↓j38, ↓j40, ↓j48, ↓j53, ↓j58, ↓j62, j83, ↓j89, j142, ↓j145, ↓j146, ↓j147, ↓j148, ↓j149, ↓j150, j159, j163, j164, j171, j175, reduceCtorEq, ↓reduceIte, Nat.reduceEqDiff, j185, j422, wpSt, wpT, wpG, rsH_nil, e1, e2]
        refine CallTo.gen (args := [.ptr 2 0 []]) (stH M) (stH M) 101 rfl fok9 (by simp -dsimp -implicitDefEqProofs only [↓j25, ↓j29, j173, j174, ↓reduceIte]) (notup1 fun vs h => by cases h) hpg (SubH.of (by simp -dsimp -implicitDefEqProofs only [↓j27, ↓reduceIte, Nat.reduceEqDiff, j182, j204, j205])) ⟨by simp, put_st⟩ ?_
        simp -dsimp -implicitDefEqProofs only [↓j1, j17, j18, j20, j21, j22, j23, ↓j25, ↓j29, ↓j38, ↓j53, ↓j145, j170, j171, j173, j174, ↓reduceIte, Nat.reduceEqDiff]
        refine CallTo.gen (args := [.ptr 99 0 []]) ([(99, .cells (.agg [.nilsl]))]) ([(99, .cells (.agg [.nilsl]))]) 101 rfl fok16 (by simp -dsimp -implicitDefEqProofs only [↓j25, ↓j29, j173, j174, ↓reduceIte]) (notup1 fun vs h => by cases h) hrp (SubH.of (by simp -dsimp -implicitDefEqProofs only [↓j27, ↓reduceIte, Nat.reduceEqDiff, j182, j204, j205])) ⟨by simp, put_any⟩ ?_
        simp -dsimp -implicitDefEqProofs only [↓j0, ↓j1, ↓j7, ↓j9, ↓j12, ↓j13, ↓j14, ↓j15, ↓j16, j17, j18, j20, j21, j22, j23, ↓j25, ↓j29, ↓j30, j33, ↓j38, ↓j39, ↓j48, ↓j58, ↓j62, ↓j89, j142, ↓j145, ↓j146, ↓j148, ↓j149, j158, j170, j171, j173, j174, ↓reduceIte, Nat.reduceEqDiff, j185, j429, nn]
        refine AWp.loopR (Z := Z) mixed hZ (by kernel_rfl) (fun n s => ∃ j, j + n = ks.length ∧ s = ⟨114, [(100, .int .i64 (j : Nat)), (99, .int .i64 ks.length), (12, keysAV ks), (13, keysAV ks), (2, .bool false)], [], 101⟩) (n0 := ks.length) (s0 := ⟨114, [(100, .int .i64 ((0 : Nat) : Int)), (99, .int .i64 ks.length), (12, keysAV ks), (13, keysAV ks), (2, .bool false)], [], 101⟩) ?_ ⟨0, by omega, rfl⟩ ?_ rfl
        · exact Wk.sub (by simp -dsimp -implicitDefEqProofs only [↓j25, j179, reduceCtorEq, ↓reduceIte, Nat.reduceEqDiff, j182, j183, j184, j202, j203, j204, j209, j223] <;> simp)
        rintro n s ⟨j, hj, rfl⟩
        refine ⟨rfl, ?_⟩
        rcases Nat.lt_or_ge j ks.length with hjl | hjl
        · have f1 : decide ((j : Int) < (ks.length : Int)) = true := decide_eq_true (by omega)
          obtain ⟨p, hpj⟩ := list_get (xs := ks) (i := j) hjl
          have hszj := (unif_keys ks).sizeL_take (k := j) (by simp; omega)
          have hjl2 : (j : Int) < (ks.length : Int) := by omega
          have hwj : IntKind.i64.wrap ((j : Int) + 1) = ((j + 1 : Nat) : Int) := by rw [wrap_i64 (by omega) (by omega)]; omega
          simp -dsimp -implicitDefEqProofs only [↓j0, ↓j1, ↓j3, ↓j4, ↓j7, ↓j8, ↓j9, ↓j12, ↓j13, ↓j14, ↓j15, j17, j18, j20, j24, ↓j25, ↓j29, ↓j38, ↓j39, ↓j43, ↓j46, ↓j48, ↓j77, ↓j89, ↓j92, j130, ↓j145, ↓j146, ↓j147, ↓j149, j158, j159, AV.proj, AV.offOf, j170, j171, j172, j174, j177, ↓reduceIte, Nat.reduceEqDiff, j182, j185, j191, j197, j206, j207, j208, j267, j303, hpj, hszj, hjl2, nn]
          refine ⟨by kernel_rfl, ?_⟩
          simp -dsimp -implicitDefEqProofs only [↓j0, ↓j1, ↓j7, ↓j9, ↓j13, ↓j15, j17, j18, j20, ↓j25, ↓j29, ↓j30, j33, ↓j38, ↓j48, ↓j89, ↓j145, ↓j146, ↓j148, ↓j149, j154, j172, ↓reduceIte, Nat.reduceEqDiff, j185]
          exact ⟨n - 1, ⟨114, [(100, .int .i64 ((j + 1 : Nat) : Int)), (99, .int .i64 ks.length), (12, keysAV ks), (13, keysAV ks), (2, .bool false)], [], 101⟩, by omega, ⟨j + 1, by omega, rfl⟩, Wk.sub (by simp -dsimp -implicitDefEqProofs only [↓j25, ↓reduceIte, Nat.reduceEqDiff, j182, j202, j203, j204, j223, hwj] <;> simp)⟩
        · have hj2 : j = ks.length := by omega
          subst hj2
          have f1 : decide ((ks.length : Int) < (ks.length : Int)) = false := decide_eq_false (by omega)
          simp -dsimp -implicitDefEqProofs only [↓j0, ↓j1, ↓j7, ↓j11, ↓j12, ↓j13, ↓j15, j17, j18, j20, ↓j25, ↓j29, ↓j48, ↓j53, ↓j89, ↓j145, ↓j146, ↓j148, ↓j149, j159, j172, ↓reduceIte, Nat.reduceEqDiff, j185, f1]
          refine CallTo.pure (args := []) rfl fok11 (by simp -dsimp -implicitDefEqProofs only [j174]) nil0 awake_spec ?_
          simp -dsimp -implicitDefEqProofs only [↓j0, ↓j1, ↓j10, j17, j18, j20, ↓j25, ↓j29, ↓j39, ↓j145, j172, ↓reduceIte]
          exact fin _ _ _ rfl
      | cons t0 r0 =>
        rw [← hl0]
        have hp : 0 < l.length := by rw [hl0]; simp
        clear hl0
        have hrp := rpages100 l hlo (by omega) h4 hp
        rw [hpp] at hrp
        simp -dsimp -implicitDefEqProofs only [↓j0, ↓j1, ↓j2, ↓j7, ↓j11, ↓j12, ↓j13, ↓j15, j17, j18, j20, ↓j25, ↓j29, ↓j30, j32, j33, ↓j38, ↓j40, ↓j48, ↓j53, ↓j58, ↓j62, j83, ↓j89, j142, ↓j145, ↓j146, ↓j147, ↓j148, ↓j149, ↓j150, j159, j163, j164, j171, j175, reduceCtorEq, ↓reduceIte, Nat.reduceEqDiff, j185, j422, wpSt, wpT, wpG, rs_sl hp, slH, e1, e2]
        refine CallTo.gen (args := [.ptr 2 0 []]) (stH M) (stH M) 101 rfl fok9 (by simp -dsimp -implicitDefEqProofs only [↓j25, ↓j29, j173, j174, ↓reduceIte]) (notup1 fun vs h => by cases h) hpg (SubH.of (by simp -dsimp -implicitDefEqProofs only [↓j27, ↓reduceIte, Nat.reduceEqDiff, j182, j204, j205])) ⟨by simp, put_st⟩ ?_
        simp -dsimp -implicitDefEqProofs only [↓j1, j17, j18, j20, j21, j22, j23, ↓j25, ↓j29, ↓j38, ↓j53, ↓j145, j170, j171, j173, j174, ↓reduceIte, Nat.reduceEqDiff]
        refine CallTo.gen (args := [.ptr 99 0 []]) (slH l 100) (slH l 100) 101 rfl fok16 (by simp -dsimp -implicitDefEqProofs only [↓j25, ↓j29, j173, j174, ↓reduceIte]) (notup1 fun vs h => by cases h) hrp (SubH.of (by simp -dsimp -implicitDefEqProofs only [↓j27, ↓reduceIte, Nat.reduceEqDiff, j182, j204, j205, slH])) ⟨by simp, put_any⟩ ?_
        simp -dsimp -implicitDefEqProofs only [↓j0, ↓j1, ↓j7, ↓j9, ↓j12, ↓j13, ↓j14, ↓j15, ↓j16, j17, j18, j20, j21, j22, j23, ↓j25, ↓j29, ↓j30, j33, ↓j38, ↓j39, ↓j48, ↓j58, ↓j62, ↓j89, j142, ↓j145, ↓j146, ↓j148, ↓j149, j158, j170, j171, j173, j174, ↓reduceIte, Nat.reduceEqDiff, j185, j429, slH, nn]
        refine AWp.loopR (Z := Z) mixed hZ (by kernel_rfl) (fun n s => ∃ j, j + n = ks.length ∧ s = ⟨114, [(100, .int .i64 (j : Nat)), (99, .int .i64 ks.length), (12, keysAV ks), (13, keysAV ks), (2, .bool false)], [], 101⟩) (n0 := ks.length) (s0 := ⟨114, [(100, .int .i64 ((0 : Nat) : Int)), (99, .int .i64 ks.length), (12, keysAV ks), (13, keysAV ks), (2, .bool false)], [], 101⟩) ?_ ⟨0, by omega, rfl⟩ ?_ rfl
        · exact Wk.sub (by simp -dsimp -implicitDefEqProofs only [↓j25, j179, reduceCtorEq, ↓reduceIte, Nat.reduceEqDiff, j182, j183, j184, j202, j203, j204, j209, j223] <;> simp)
        rintro n s ⟨j, hj, rfl⟩
        refine ⟨rfl, ?_⟩
        rcases Nat.lt_or_ge j ks.length with hjl | hjl
        · have f1 : decide ((j : Int) < (ks.length : Int)) = true := decide_eq_true (by omega)
          obtain ⟨p, hpj⟩ := list_get (xs := ks) (i := j) hjl
          have hszj := (unif_keys ks).sizeL_take (k := j) (by simp; omega)
          have hjl2 : (j : Int) < (ks.length : Int) := by omega
          have hwj : IntKind.i64.wrap ((j : Int) + 1) = ((j + 1 : Nat) : Int) := by rw [wrap_i64 (by omega) (by omega)]; omega
          simp -dsimp -implicitDefEqProofs only [↓j0, ↓j1, ↓j3, ↓j4, ↓j7, ↓j8, ↓j9, ↓j12, ↓j13, ↓j14, ↓j15, j17, j18, j20, j24, ↓j25, ↓j29, ↓j38, ↓j39, ↓j43, ↓j46, ↓j48, ↓j77, ↓j89, ↓j92, j130, ↓j145, ↓j146, ↓j147, ↓j149, j158, j159, AV.proj, AV.offOf, j170, j171, j172, j174, j177, ↓reduceIte, Nat.reduceEqDiff, j182, j185, j191, j197, j206, j207, j208, j267, j303, hpj, hszj, hjl2, nn]
          refine ⟨by kernel_rfl, ?_⟩
          simp -dsimp -implicitDefEqProofs only [↓j0, ↓j1, ↓j7, ↓j9, ↓j13, ↓j15, j17, j18, j20, ↓j25, ↓j29, ↓j30, j33, ↓j38, ↓j48, ↓j89, ↓j145, ↓j146, ↓j148, ↓j149, j154, j172, ↓reduceIte, Nat.reduceEqDiff, j185]
          exact ⟨n - 1, ⟨114, [(100, .int .i64 ((j + 1 : Nat) : Int)), (99, .int .i64 ks.length), (12, keysAV ks), (13, keysAV ks), (2, .bool false)], [], 101⟩, by omega, ⟨j + 1, by omega, rfl⟩, Wk.sub (by simp -dsimp -implicitDefEqProofs only [↓j25, ↓reduceIte, Nat.reduceEqDiff, j182, j202, j203, j204, j223, hwj] <;> simp)⟩
        · have hj2 : j = ks.length := by omega
          subst hj2
          have f1 : decide ((ks.length : Int) < (ks.length : Int)) = false := decide_eq_false (by omega)
          simp -dsimp -implicitDefEqProofs only [↓j0, ↓j1, ↓j7, ↓j11, ↓j12, ↓j13, ↓j15, j17, j18, j20, ↓j25, ↓j29, ↓j48, ↓j53, ↓j89, ↓j145, ↓j146, ↓j148, ↓j149, j159, j172, ↓reduceIte, Nat.reduceEqDiff, j185, f1]
          refine CallTo.pure (args := []) rfl fok11 (by simp -dsimp -implicitDefEqProofs only [j174]) nil0 awake_spec ?_
          simp -dsimp -implicitDefEqProofs only [↓j0, ↓j1, ↓j10, j17, j18, j20, ↓j25, ↓j29, ↓j39, ↓j145, j172, ↓reduceIte]
          exact fin _ _ _ rfl
    · have e1 : decide ((i : Int) < (ops.length : Int)) = false := decide_eq_false (by omega)
      clear hlt
      have hpg := pages_spec M hM
      have hM4 := hM.few
      have hkl := keysIn_len M
      have hpp := hrel.pages hM
      have hlo : ∀ o, o ∈ l → o.Ok := fun o ho => (hrel.inn o ho).ok
      obtain ⟨ks, hks⟩ : ∃ ks, keysIn M = ks := ⟨_, rfl⟩
      rw [hks] at hpg hkl hpp
      have h4 : (pgL l 65536).length ≤ 4 := by rw [hpp]; omega
      have nn : ∀ a : Int, (a != a) = false := fun a => by simp
      cases hl0 : l with
      | nil =>
        rw [hl0] at h4 hpp
        have hrp := rpages_spec [] (fun o h => by cases h) (by decide) h4
        rw [hpp] at hrp
        have hrp : ACall Try.prog 16 [.ptr 99 0 []] [(99, .cells (.agg [.nilsl]))] (keysAV ks) [(99, .cells (.agg [.nilsl]))] := hrp
        simp -dsimp -implicitDefEqProofs only [↓j0, ↓j1, ↓j2, ↓j7, ↓j11, ↓j12, ↓j13, ↓j15, j17, j18, j20, ↓j25, ↓j29, ↓j30, j32, ↓j38, ↓j40, ↓j48, ↓j53, ↓j58, ↓j62, j82, ↓j89, j142, ↓j145, ↓j146, ↓j148, ↓j149, ↓j150, j159, j163, j164, j171, j175, reduceCtorEq, ↓reduceIte, Nat.reduceEqDiff, j185, j422, wpSt, wpT, wpG, rsH_nil, e1]
        refine CallTo.gen (args := [.ptr 2 0 []]) (stH M) (stH M) 101 rfl fok9 (by simp -dsimp -implicitDefEqProofs only [↓j25, ↓j29, j173, j174, ↓reduceIte]) (notup1 fun vs h => by cases h) hpg (SubH.of (by simp -dsimp -implicitDefEqProofs only [↓j27, ↓reduceIte, Nat.reduceEqDiff, j182, j204, j205])) ⟨by simp, put_st⟩ ?_
        simp -dsimp -implicitDefEqProofs only [↓j1, j17, j18, j20, j21, j22, j23, ↓j25, ↓j29, ↓j38, ↓j53, ↓j145, j170, j171, j173, j174, ↓reduceIte, Nat.reduceEqDiff]
        refine CallTo.gen (args := [.ptr 99 0 []]) ([(99, .cells (.agg [.nilsl]))]) ([(99, .cells (.agg [.nilsl]))]) 101 rfl fok16 (by simp -dsimp -implicitDefEqProofs only [↓j25, ↓j29, j173, j174, ↓reduceIte]) (notup1 fun vs h => by cases h) hrp (SubH.of (by simp -dsimp -implicitDefEqProofs only [↓j27, ↓reduceIte, Nat.reduceEqDiff, j182, j204, j205])) ⟨by simp, put_any⟩ ?_
        simp -dsimp -implicitDefEqProofs only [↓j0, ↓j1, ↓j7, ↓j9, ↓j12, ↓j13, ↓j14, ↓j15, ↓j16, j17, j18, j20, j21, j22, j23, ↓j25, ↓j29, ↓j30, j33, ↓j38, ↓j39, ↓j48, ↓j58, ↓j62, ↓j89, j142, ↓j145, ↓j146, ↓j148, ↓j149, j158, j170, j171, j173, j174, ↓reduceIte, Nat.reduceEqDiff, j185, j429, nn]
        refine AWp.loopR (Z := Z) mixed hZ (by kernel_rfl) (fun n s => ∃ j, j + n = ks.length ∧ s = ⟨114, [(100, .int .i64 (j : Nat)), (99, .int .i64 ks.length), (12, keysAV ks), (13, keysAV ks), (2, .bool false)], [], 101⟩) (n0 := ks.length) (s0 := ⟨114, [(100, .int .i64 ((0 : Nat) : Int)), (99, .int .i64 ks.length), (12, keysAV ks), (13, keysAV ks), (2, .bool false)], [], 101⟩) ?_ ⟨0, by omega, rfl⟩ ?_ rfl
        · exact Wk.sub (by simp -dsimp -implicitDefEqProofs only [↓j25, j179, reduceCtorEq, ↓reduceIte, Nat.reduceEqDiff, j182, j183, j184, j202, j203, j204, j209, j223] <;> simp)
        rintro n s ⟨j, hj, rfl⟩
        refine ⟨rfl, ?_⟩
        rcases Nat.lt_or_ge j ks.length with hjl | hjl
        · have f1 : decide ((j : Int) < (ks.length : Int)) = true := decide_eq_true (by omega)
          obtain ⟨p, hpj⟩ := list_get (xs := ks) (i := j) hjl
          have hszj := (unif_keys ks).sizeL_take (k := j) (by simp; omega)
          have hjl2 : (j : Int) < (ks.length : Int) := by omega
          have hwj : IntKind.i64.wrap ((j : Int) + 1) = ((j + 1 : Nat) : Int) := by rw [wrap_i64 (by omega) (by omega)]; omega
          simp -dsimp -implicitDefEqProofs only [↓j0, ↓j1, ↓j3, ↓j4, ↓j7, ↓j8, ↓j9, ↓j12, ↓j13, ↓j14, ↓j15, j17, j18, j20, j24, ↓j25, ↓j29, ↓j38, ↓j39, ↓j43, ↓j46, ↓j48, ↓j77, ↓j89, ↓j92, j130, ↓j145, ↓j146, ↓j147, ↓j149, j158, j159, AV.proj, AV.offOf, j170, j171, j172, j174, j177, ↓reduceIte, Nat.reduceEqDiff, j182, j185, j191, j197, j206, j207, j208, j267, j303, hpj, hszj, hjl2, nn]
          refine ⟨by kernel_rfl, ?_⟩
          simp -dsimp -implicitDefEqProofs only [↓j0, ↓j1, ↓j7, ↓j9, ↓j13, ↓j15, j17, j18, j20, ↓j25, ↓j29, ↓j30, j33, ↓j38, ↓j48, ↓j89, ↓j145, ↓j146, ↓j148, ↓j149, j154, j172, ↓reduceIte, Nat.reduceEqDiff, j185]
          exact ⟨n - 1, ⟨114, [(100, .int .i64 ((j + 1 : Nat) : Int)), (99, .int .i64 ks.length), (12, keysAV ks), (13, keysAV ks), (2, .bool false)], [], 101⟩, by omega, ⟨j + 1, by omega, rfl⟩, Wk.sub (by simp -dsimp -implicitDefEqProofs only [↓j25, ↓reduceIte, Nat.reduceEqDiff, j182, j202, j203, j204, j223, hwj] <;> simp)⟩
        · have hj2 : j = ks.length := by omega
          subst hj2
          have f1 : decide ((ks.length : Int) < (ks.length : Int)) = false := decide_eq_false (by omega)
          simp -dsimp -implicitDefEqProofs only [↓j0, ↓j1, ↓j7, ↓j11, ↓j12, ↓j13, ↓j15, j17, j18, j20, ↓j25, ↓j29, ↓j48, ↓j53, ↓j89, ↓j145, ↓j146, ↓j148, ↓j149, j159, j172, ↓reduceIte, Nat.reduceEqDiff, j185, f1]
          refine CallTo.pure (args := []) rfl fok11 (by simp -dsimp -implicitDefEqProofs only [j174]) nil0 awake_spec ?_
          simp -dsimp -implicitDefEqProofs only [↓j0, ↓j1, ↓j10, j17, j18, j20, ↓j25, ↓j29, ↓j39, ↓j145, j172, ↓reduceIte]
          exact fin _ _ _ rfl
      | cons t0 r0 =>
        rw [← hl0]
        have hp : 0 < l.length := by rw [hl0]; simp
        clear hl0
        have hrp := rpages100 l hlo (by omega) h4 hp
        rw [hpp] at hrp
        simp -dsimp -implicitDefEqProofs only [↓j0, ↓j1, ↓j2, ↓j7, ↓j11, ↓j12, ↓j13, ↓j15, j17, j18, j20, ↓j25, ↓j29, ↓j30, j32, ↓j38, ↓j40, ↓j48, ↓j53, ↓j58, ↓j62, j82, ↓j89, j142, ↓j145, ↓j146, ↓j148, ↓j149, ↓j150, j159, j163, j164, j171, j175, reduceCtorEq, ↓reduceIte, Nat.reduceEqDiff, j185, j422, wpSt, wpT, wpG, rs_sl hp, slH, e1]
        refine CallTo.gen (args := [.ptr 2 0 []]) (stH M) (stH M) 101 rfl fok9 (by simp -dsimp -implicitDefEqProofs only [↓j25, ↓j29, j173, j174, ↓reduceIte]) (notup1 fun vs h => by cases h) hpg (SubH.of (by simp -dsimp -implicitDefEqProofs only [↓j27, ↓reduceIte, Nat.reduceEqDiff, j182, j204, j205])) ⟨by simp, put_st⟩ ?_
        simp -dsimp -implicitDefEqProofs only [↓j1, j17, j18, j20, j21, j22, j23, ↓j25, ↓j29, ↓j38, ↓j53, ↓j145, j170, j171, j173, j174, ↓reduceIte, Nat.reduceEqDiff]
        refine CallTo.gen (args := [.ptr 99 0 []]) (slH l 100) (slH l 100) 101 rfl fok16 (by simp -dsimp -implicitDefEqProofs only [↓j25, ↓j29, j173, j174, ↓reduceIte]) (notup1 fun vs h => by cases h) hrp (SubH.of (by simp -dsimp -implicitDefEqProofs only [↓j27, ↓reduceIte, Nat.reduceEqDiff, j182, j204, j205, slH])) ⟨by simp, put_any⟩ ?_
        simp -dsimp -implicitDefEqProofs only [↓j0, ↓j1, ↓j7, ↓j9, ↓j12, ↓j13, ↓j14, ↓j15, ↓j16, j17, j18, j20, j21, j22, j23, ↓j25, ↓j29, ↓j30, j33, ↓j38, ↓j39, ↓j48, ↓j58, ↓j62, ↓j89, j142, ↓j145, ↓j146, ↓j148, ↓j149, j158, j170, j171, j173, j174, ↓reduceIte, Nat.reduceEqDiff, j185, j429, slH, nn]
        refine AWp.loopR (Z := Z) mixed hZ (by kernel_rfl) (fun n s => ∃ j, j + n = ks.length ∧ s = ⟨114, [(100, .int .i64 (j : Nat)), (99, .int .i64 ks.length), (12, keysAV ks), (13, keysAV ks), (2, .bool false)], [], 101⟩) (n0 := ks.length) (s0 := ⟨114, [(100, .int .i64 ((0 : Nat) : Int)), (99, .int .i64 ks.length), (12, keysAV ks), (13, keysAV ks), (2, .bool false)], [], 101⟩) ?_ ⟨0, by omega, rfl⟩ ?_ rfl
        · exact Wk.sub (by simp -dsimp -implicitDefEqProofs only [↓j25, j179, reduceCtorEq, ↓reduceIte, Nat.reduceEqDiff, j182, j183, j184, j202, j203, j204, j209, j223] <;> simp)
        rintro n s ⟨j, hj, rfl⟩
        refine ⟨rfl, ?_⟩
        rcases Nat.lt_or_ge j ks.length with hjl | hjl
        · have f1 : decide ((j : Int) < (ks.length : Int)) = true := decide_eq_true (by omega)
          obtain ⟨p, hpj⟩ := list_get (xs := ks) (i := j) hjl
          have hszj := (unif_keys ks).sizeL_take (k := j) (by simp; omega)
          have hjl2 : (j : Int) < (ks.length : Int) := by omega
          have hwj : IntKind.i64.wrap ((j : Int) + 1) = ((j + 1 : Nat) : Int) := by rw [wrap_i64 (by omega) (by omega)]; omega
          simp -dsimp -implicitDefEqProofs only [↓j0, ↓j1, ↓j3, ↓j4, ↓j7, ↓j8, ↓j9, ↓j12, ↓j13, ↓j14, ↓j15, j17, j18, j20, j24, ↓j25, ↓j29, ↓j38, ↓j39, ↓j43, ↓j46, ↓j48, ↓j77, ↓j89, ↓j92, j130, ↓j145, ↓j146, ↓j147, ↓j149, j158, j159, AV.proj, AV.offOf, j170, j171, j172, j174, j177, ↓reduceIte, Nat.reduceEqDiff, j182, j185, j191, j197, j206, j207, j208, j267, j303, hpj, hszj, hjl2, nn]
          refine ⟨by kernel_rfl, ?_⟩
          simp -dsimp -implicitDefEqProofs only [↓j0, ↓j1, ↓j7, ↓j9, ↓j13, ↓j15, j17, j18, j20, ↓j25, ↓j29, ↓j30, j33, ↓j38, ↓j48, ↓j89, ↓j145, ↓j146, ↓j148, ↓j149, j154, j172, ↓reduceIte, Nat.reduceEqDiff, j185]
          exact ⟨n - 1, ⟨114, [(100, .int .i64 ((j + 1 : Nat) : Int)), (99, .int .i64 ks.length), (12, keysAV ks), (13, keysAV ks), (2, .bool false)], [], 101⟩, by omega, ⟨j + 1, by omega, rfl⟩, Wk.sub (by simp -dsimp -implicitDefEqProofs only [↓j25, ↓reduceIte, Nat.reduceEqDiff, j182, j202, j203, j204, j223, hwj] <;> simp)⟩
        · have hj2 : j = ks.length := by omega
          subst hj2
          have f1 : decide ((ks.length : Int) < (ks.length : Int)) = false := decide_eq_false (by omega)
          simp -dsimp -implicitDefEqProofs only [↓j0, ↓j1, ↓j7, ↓j11, ↓j12, ↓j13, ↓j15, j17, j18, j20, ↓j25, ↓j29, ↓j48, ↓j53, ↓j89, ↓j145, ↓j146, ↓j148, ↓j149, j159, j172, ↓reduceIte, Nat.reduceEqDiff, j185, f1]
          refine CallTo.pure (args := []) rfl fok11 (by simp -dsimp -implicitDefEqProofs only [j174]) nil0 awake_spec ?_
          simp -dsimp -implicitDefEqProofs only [↓j0, ↓j1, ↓j10, j17, j18, j20, ↓j25, ↓j29, ↓j39, ↓j145, j172, ↓reduceIte]
          exact fin _ _ _ rfl
end Go.Proofs.Ytipbgaahpchhbaa
