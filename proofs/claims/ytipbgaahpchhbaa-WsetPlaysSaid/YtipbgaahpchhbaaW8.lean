/- The law WsetDeltas. -/
import Derived.Test.YtipbgaahpchhbaaW7
set_option maxRecDepth 8000
set_option linter.unusedVariables false
set_option linter.unusedSimpArgs false
namespace Go.Proofs.Ytipbgaahpchhbaa
open Go Go.RowKit

theorem on_wos (S : Nat → Prop) (l : List Wo) : AV.onL S (l.map Wo.av) := by
  rw [AV.onL_iff]
  intro x hx
  obtain ⟨o, _, rfl⟩ := List.mem_map.1 hx; exact ⟨trivial, on_bytes _ _, trivial, trivial, trivial⟩
theorem unif_wos (l : List Wo) (h : ∀ o, o ∈ l → o.Ok) : Unif 67 (l.map Wo.av) := fun x hx => by
  obtain ⟨o, ho, rfl⟩ := List.mem_map.1 hx
  have := (h o ho).base
  simp only [AV.size, AV.sizeL, sizeL_bytes, this]
abbrev bsAV (M : List KV) : List AV := M.map fun e => arrAV e.2.1
abbrev ksAV (M : List KV) : List AV := M.map fun e => kAV e.1
theorem unif_bs {M : List KV} (hM : MOk M) : Unif 64 (bsAV M) := fun x hx => by
  obtain ⟨o, ho, rfl⟩ := List.mem_map.1 hx
  have := (hM.keys o ho).2.1
  simp only [AV.size, sizeL_bytes, this]
theorem unif_ks (M : List KV) : Unif 1 (ksAV M) := fun x hx => by
  obtain ⟨o, ho, rfl⟩ := List.mem_map.1 hx; rfl
theorem on_bs (S : Nat → Prop) (M : List KV) : AV.onL S (bsAV M) := by
  rw [AV.onL_iff]
  intro x hx
  obtain ⟨o, _, rfl⟩ := List.mem_map.1 hx; exact on_bytes _ _
theorem on_ks (S : Nat → Prop) (M : List KV) : AV.onL S (ksAV M) := by
  rw [AV.onL_iff]
  intro x hx
  obtain ⟨o, _, rfl⟩ := List.mem_map.1 hx; trivial
def lsV (M : List KV) (m w : Nat) : AV := match M with
  | [] => .nilsl
  | _ :: r => .sl m 0 [] 0 (r.length + 1) (r.length + 1) w
def lsB (M : List KV) (a b : Nat) : Heap := match M with
  | [] => []
  | k :: r => [(a, .cells (.agg (ksAV (k :: r)))), (b, .cells (.agg (bsAV (k :: r))))]
theorem lsV_ne {M : List KV} (h : 0 < M.length) (m w : Nat) : lsV M m w = .sl m 0 [] 0 M.length M.length w := by
  cases M with
  | nil => simp at h
  | cons t r => rfl
theorem lsB_ne {M : List KV} (h : 0 < M.length) (a b : Nat) : lsB M a b = [(a, .cells (.agg (ksAV M))), (b, .cells (.agg (bsAV M)))] := by
  cases M with
  | nil => simp at h
  | cons t r => rfl
theorem lsV_nil (m w : Nat) : lsV [] m w = .nilsl := rfl
theorem lsB_nil (a b : Nat) : lsB [] a b = [] := rfl
theorem on_lsV {S : Nat → Prop} {M : List KV} {m w : Nat} (h : S m) : AV.on S (lsV M m w) := by
  cases M with
  | nil => trivial
  | cons x r => exact h
def dlT (ops : List Wo) (M : List KV) (i a b : Nat) : Env := [(6, .int .i64 i), (5, lsV M b 64), (4, lsV M a 1), (3, .ptr 2 0 []), (0, wosAV ops), (2, .bool false)]
def dlH (M : List KV) (a b : Nat) : Heap := (2, stC) :: (1, mapB M) :: lsB M a b
def dlSt (ops : List Wo) (M : List KV) (i : Nat) : St := ⟨146, dlT ops M i 100 101, dlH M 100 101, 102⟩
theorem dl_onT {S : Nat → Prop} {ops : List Wo} {M : List KV} {i a b : Nat} (ha : S a) (hb : S b) (h2 : S 2) : onTL S (dlT ops M i a b) :=
  onTL_cons trivial (onTL_cons (on_lsV hb) (onTL_cons (on_lsV ha) (onTL_cons h2 (onTL_cons (on_wos _ _) (onTL_cons trivial onTL_nil)))))
theorem dl_onH {S : Nat → Prop} {M : List KV} {a b : Nat} (ha : S a) (hb : S b) (h1 : S 1) (h2 : S 2) : onHL S (dlH M a b) := by
  refine onHL_cons h2 ⟨h1, trivial⟩ (onHL_cons h1 (mapB_on _ _) ?_)
  cases M with
  | nil => exact onHL_nil
  | cons t r => exact onHL_cons ha (on_ks _ _) (onHL_cons hb (on_bs _ _) onHL_nil)
theorem dl_gc {ops : List Wo} {M : List KV} {i m : Nat} : Wk ⟨146, dlT ops M i 100 101, dlH M 100 101, m⟩ (dlSt ops M i) := Wk.gc (by decide) (dl_onT (by decide) (by decide) (by decide)).onT (dl_onH (by decide) (by decide) (by decide) (by decide)).onH
theorem dl_ren {ops : List Wo} {M : List KV} {i m : Nat} : Wk ⟨146, dlT ops M i 105 107, dlH M 105 107, m⟩ (dlSt ops M i) := by
  have h := Wk.rens (n := 146) (nx := m) (K := 102) (t := dlT ops M i 105 107) (H := dlH M 105 107) [(105, 100), (107, 101)] (by decide) (by simp) (by simp)
    (dl_onT (.inr (by simp)) (.inr (by simp)) (.inl ⟨by omega, by simp⟩)) (dl_onH (.inr (by simp)) (.inr (by simp)) (.inl ⟨by omega, by simp⟩) (.inl ⟨by omega, by simp⟩))
  have r1 : rnL [(105, 100), (107, 101)] 105 = 100 := rfl
  have r2 : rnL [(105, 100), (107, 101)] 107 = 101 := rfl
  have r3 : rnL [(105, 100), (107, 101)] 2 = 2 := rfl
  have r4 : rnL [(105, 100), (107, 101)] 1 = 1 := rfl
  have e1 : (dlT ops M i 105 107).ren (rnL [(105, 100), (107, 101)]) = dlT ops M i 100 101 := by
    have ho : AV.renL (rnL [(105, 100), (107, 101)]) (ops.map Wo.av) = ops.map Wo.av := AV.renL_fix (S := fun _ => False) (fun _ h => h.elim) (on_wos _ _)
    cases M <;> simp only [dlT, Env.ren, lsV, List.map_cons, List.map_nil, AV.ren, ho, r1, r2, r3]
  have e2 : (dlH M 105 107).ren (rnL [(105, 100), (107, 101)]) = dlH M 100 101 := by
    have hm : (mapE kAV vAV M).map (fun e => (AV.ren (rnL [(105, 100), (107, 101)]) e.1, AV.ren (rnL [(105, 100), (107, 101)]) e.2)) = mapE kAV vAV M := by
      simp only [mapE, List.map_map]
      refine List.map_congr_left fun e _ => ?_
      have h1 : AV.ren (rnL [(105, 100), (107, 101)]) (vAV e.2) = vAV e.2 := AV.ren_fix (S := fun _ => False) (fun _ h => h.elim) ⟨on_bytes _ _, on_bytes _ _, trivial⟩
      show (AV.ren _ (kAV e.1), AV.ren _ (vAV e.2)) = _
      rw [h1]; rfl
    have h1 : AV.renL (rnL [(105, 100), (107, 101)]) (ksAV M) = ksAV M := AV.renL_fix (S := fun _ => False) (fun _ h => h.elim) (on_ks _ _)
    have h2 : AV.renL (rnL [(105, 100), (107, 101)]) (bsAV M) = bsAV M := AV.renL_fix (S := fun _ => False) (fun _ h => h.elim) (on_bs _ _)
    cases M with
    | nil =>
      simp only [dlH, lsB_nil, Heap.ren, List.map_cons, List.map_nil, ABlk.ren, AV.ren, AV.renL, hm, r1, r2, r3, r4]
      rfl
    | cons t r =>
      have hp : 0 < (t :: r).length := by simp
      simp only [dlH, lsB_ne hp, Heap.ren, List.map_cons, List.map_nil, ABlk.ren, AV.ren, AV.renL, r1, r2, r3, r4] at hm h1 h2 ⊢
      simp only [hm, h1, h2]
      rfl
  rw [e1, e2] at h
  exact h
theorem ks_put {M : List KV} {k : Nat} {e v : Bo × Bo} (h : aGet M k = some e) (hv : v.1 = e.1) : ksAV (aPut M k v) = ksAV M ∧ bsAV (aPut M k v) = bsAV M ∧ (aPut M k v).length = M.length := by
  induction M with
  | nil => simp [aGet] at h
  | cons x r ih =>
    unfold aGet at h
    unfold aPut
    by_cases hc : x.1 = k
    · rw [if_pos hc] at h ⊢
      cases h
      refine ⟨?_, ?_, rfl⟩
      · show kAV k :: _ = kAV x.1 :: _
        rw [hc]
      · show arrAV v.1 :: _ = arrAV x.2.1 :: _
        rw [hv]
    · rw [if_neg hc] at h ⊢
      obtain ⟨h1, h2, h3⟩ := ih h
      refine ⟨?_, ?_, ?_⟩
      · show kAV x.1 :: ksAV _ = kAV x.1 :: ksAV _
        rw [h1]
      · show arrAV x.2.1 :: bsAV _ = arrAV x.2.1 :: bsAV _
        rw [h2]
      · show _ + 1 = _ + 1
        rw [h3]
theorem put_st9 {M : List KV} {k : Nat} (hk : k ≤ 1) : ∀ n x, Heap.get (stH M) n = some x → n ∉ ([] : Heap).map (·.1) → k ≤ n ∧ n < 102 := fun n x h _ => by rcases get_st h with ⟨rfl, _⟩ | ⟨rfl, _⟩ <;> omega
theorem args_wos {l : List Wo} : ∀ x, x ∈ [wosAV l] → AV.on (fun _ => False) x ∧ ∀ vs, x ≠ .tuple vs := fun x hx => by
  simp only [List.mem_singleton] at hx; subst hx; exact ⟨on_wos _ _, fun vs h => by cases h⟩
/-- What the first writing of a page said it was. -/
def wasL (M : List KV) (p : Nat) : Bo := M.foldl (fun w e => if e.1 = p then e.2.1 else w) (zb 64)
theorem wasL_snoc {M : List KV} {p k : Nat} {e : KV} (h : M[k]? = some e) : wasL (M.take (k + 1)) p = if e.1 = p then e.2.1 else wasL (M.take k) p := by
  rw [take_succ h, wasL, List.foldl_append]; rfl
theorem wasL_none {p : Nat} : ∀ {M : List KV} {w : Bo}, p ∉ M.map (·.1) → M.foldl (fun w e => if e.1 = p then e.2.1 else w) w = w
  | [], w, _ => rfl
  | x :: r, w, h => by
    rw [List.foldl_cons, if_neg (fun e => h (by rw [← e]; exact List.mem_cons_self))]
    exact wasL_none fun hh => h (List.mem_cons_of_mem _ hh)
theorem wasL_get {p : Nat} {e : Bo × Bo} : ∀ {M : List KV} {w : Bo}, (M.map (·.1)).Nodup → aGet M p = some e → M.foldl (fun w e => if e.1 = p then e.2.1 else w) w = e.1
  | [], w, _, h => by simp [aGet] at h
  | x :: r, w, hn, h => by
    rw [List.map_cons, List.nodup_cons] at hn
    unfold aGet at h
    rw [List.foldl_cons]
    by_cases hc : x.1 = p
    · rw [if_pos hc] at h ⊢
      cases h
      exact wasL_none (hc ▸ hn.1)
    · rw [if_neg hc] at h ⊢
      exact wasL_get hn.2 h
theorem wasL_len {M : List KV} (hM : MOk M) (k p : Nat) : (wasL (M.take k) p).length = 64 := by
  induction k with
  | zero => exact zb_len 64
  | succ k ih =>
    rcases Nat.lt_or_ge k M.length with h | h
    · obtain ⟨e, he⟩ := list_get (xs := M) (i := k) h
      rw [wasL_snoc he]
      split
      · exact (hM.keys e (List.mem_of_getElem? he)).2.1
      · exact ih
    · rw [List.take_of_length_le (by omega)]
      rw [List.take_of_length_le (by omega)] at ih
      exact ih
theorem keys_lt {M : List KV} (hM : MOk M) {i q p : Nat} (h1 : (keysIn M)[i]? = some q) (h2 : (keysIn M)[i + 1]? = some p) : q < p := by
  have hs := sortN_sorted (M.map (·.1))
  have hn : (keysIn M).Nodup := (sortN_perm _).nodup_iff.2 hM.nodup
  have l1 : i < (keysIn M).length := (List.getElem?_eq_some_iff.1 h1).1
  have l2 : i + 1 < (keysIn M).length := (List.getElem?_eq_some_iff.1 h2).1
  have e1 := (List.getElem?_eq_some_iff.1 h1).2
  have e2 := (List.getElem?_eq_some_iff.1 h2).2
  have hle := List.pairwise_iff_getElem.1 hs i (i + 1) l1 l2 (by omega)
  have hne := List.pairwise_iff_getElem.1 hn i (i + 1) l1 l2 (by omega)
  have hle : (keysIn M)[i] ≤ (keysIn M)[i + 1] := hle
  rw [e1, e2] at hle hne
  omega
def d2T (ks : List Nat) (M : List KV) (i : Nat) : Env := [(72, .int .i64 i), (71, .int .i64 ks.length), (70, keysAV ks), (10, keysAV ks), (5, .sl 101 0 [] 0 M.length M.length 64), (4, .sl 100 0 [] 0 M.length M.length 1), (3, .ptr 2 0 []), (2, .bool false)]
def d2H (M : List KV) : Heap := [(2, stC), (1, mapB M), (100, .cells (.agg (ksAV M))), (101, .cells (.agg (bsAV M)))]
def d2St (ks : List Nat) (M : List KV) (i : Nat) : St := ⟨146, d2T ks M i, d2H M, 102⟩
theorem d2_onT {ks : List Nat} {M : List KV} {i : Nat} : onTL (fun m => m < 102) (d2T ks M i) :=
  onTL_cons trivial (onTL_cons trivial (onTL_cons (on_keys _ _) (onTL_cons (on_keys _ _) (onTL_cons (show (101 : Nat) < 102 by decide) (onTL_cons (show (100 : Nat) < 102 by decide) (onTL_cons (show (2 : Nat) < 102 by decide) (onTL_cons trivial onTL_nil)))))))
theorem d2_onH {M : List KV} : onHL (fun m => m < 102) (d2H M) :=
  onHL_cons (show (2 : Nat) < 102 by decide) ⟨show (1 : Nat) < 102 by decide, trivial⟩ (onHL_cons (show (1 : Nat) < 102 by decide) (mapB_on _ _) (onHL_cons (show (100 : Nat) < 102 by decide) (on_ks _ _) (onHL_cons (show (101 : Nat) < 102 by decide) (on_bs _ _) onHL_nil)))
def d3T (ks : List Nat) (M : List KV) (i p k : Nat) : Env := (86, .int .i64 k) :: (85, .int .i64 M.length) :: (14, .bool true) :: (13, .ptr 102 0 []) :: (15, .ptr 103 0 []) :: (12, .int .u16 p) :: (11, .int .i64 i) :: d2T ks M i
def d3St (ks : List Nat) (M : List KV) (i p : Nat) (now : Bo) (k : Nat) : St := ⟨146, d3T ks M i p k, (102, .cells (arrAV now)) :: (103, .cells (arrAV (wasL (M.take k) p))) :: d2H M, 104⟩
set_option maxHeartbeats 6400000 in
theorem deltas_spec (ops : List Wo) (hl : ∀ o, o ∈ ops → o.Ok) (hn : ops.length ≤ 9223372036854775807) : ACall Try.prog 6 [wosAV ops] [] (.bool true) [] := by
  refine ACall.run (Z := Z) (N := 146) mixed hZ Try.func6 rfl rfl (by kernel_rfl) (by simp) args_wos 0 ?_
  have fin : ∀ (t : Env) (H : Heap) (m : Nat), look t 2 = some (.bool true) → Final Try.prog Try.f6 (.bool true) [] .ret ⟨146, t, H, m⟩ := fun t H m h =>
    Final.one (.inr rfl) (r := .tmp 2) rfl ⟨h, fun vs h => by cases h⟩ (fun vs h => by cases h) (fun vs h => by cases h) (.same _ trivial)
  have hz := zb_len 64
  simp -dsimp -implicitDefEqProofs only [↓j0, ↓j1, ↓j7, ↓j12, ↓j15, j17, j18, j20, ↓j30, j32, ↓j39, ↓j53, ↓j145, argEnv, j172]
  refine CallTo.gen (args := []) [] (stH []) 102 rfl fok7 (by simp -dsimp -implicitDefEqProofs only [j174]) nil0 new_spec (fun n b h => by simp [Heap.get] at h) ⟨by simp, put_st9 (k := 0) (by decide)⟩ ?_
  simp -dsimp -implicitDefEqProofs only [↓j0, ↓j1, ↓j7, ↓j9, ↓j12, ↓j13, ↓j14, ↓j15, ↓j16, j17, j18, j20, ↓j25, ↓j29, ↓j30, j33, j35, j36, ↓j38, ↓j39, ↓j48, ↓j145, ↓j146, ↓j148, ↓j149, j171, j172, j174, ↓reduceIte, j211, ↓j235, j297]
  refine AWp.loopR (Z := Z) mixed hZ (by kernel_rfl) (fun n s => ∃ M i, MOk M ∧ i + n = 30 ∧ s = dlSt ops M i) (n0 := 30) (s0 := dlSt ops [] 0) ?_ ⟨[], 0, m0_ok, by omega, rfl⟩ ?_ rfl
  · exact Wk.sub (by simp -dsimp -implicitDefEqProofs only [↓j25, ↓j27, j179, reduceCtorEq, ↓reduceIte, Nat.reduceEqDiff, j182, j183, j184, j202, j203, j204, j205, j209, j223, dlT, dlH, lsV_nil, lsB_nil] <;> simp)
  rintro n s ⟨M, i, hM, hi, rfl⟩
  refine ⟨rfl, ?_⟩
  have hbl : (zb 64).length = 64 := hz
  have hM4 := hM.few
  by_cases hlt : i < ops.length ∧ i < 30
  · obtain ⟨h1, h2⟩ := hlt
    have e1 : decide ((i : Int) < (ops.length : Int)) = true := decide_eq_true (by omega)
    have e2 : decide ((i : Int) < 30) = true := decide_eq_true (by omega)
    obtain ⟨x, hx⟩ := list_get (xs := ops) (i := i) h1
    have hxo := hl x (List.mem_of_getElem? hx)
    have hsz := (unif_wos ops hl).sizeL_take (k := i) (by simp; omega)
    have hlt2 : (i : Int) < (ops.length : Int) := by omega
    have hw : IntKind.i64.wrap ((i : Int) + 1) = ((i + 1 : Nat) : Int) := by rw [wrap_i64 (by omega) (by omega)]; omega
    have hxb := hxo.base
    have hrd := read_spec M hM x.page hxo.page
    have hrl := readP_len hM x.page
    have hwr := write_spec M hM x.page hxo.page x.base hxb x.off hxo.off x.s hxo.s
    have hwo := write_ok hM hxo.page hxb x.off x.s
    have fR : readP M x.page = match aGet M x.page with
      | some e => (e.2, true)
      | none => (zb 64, false) := rfl
    have fW : writeP M x.page x.base x.off x.s = if x.off < 0 ∨ 64 < x.off ∨ 64 - x.off < (x.s.length : Int) then (1, M) else
      match aGet M x.page with
      | some e => (0, aPut M x.page (e.1, layB e.2 x.off.toNat x.s))
      | none => if M.length = 4 then (10, M) else (0, aPut M x.page (x.base, layB x.base x.off.toNat x.s)) := rfl
    have n1 : ((1 : Int) == 0) = false := rfl
    have n0 : ((0 : Int) == 0) = true := rfl
    have n10 : ((10 : Int) == 0) = false := rfl
    cases hM0 : M with
    | nil =>
      subst hM0
      by_cases c1 : x.off < 0 ∨ 64 < x.off ∨ 64 - x.off < (x.s.length : Int)
      · rw [if_pos c1] at fW
        rw [fW] at hwr hwo
        have hM1 := hM
        have hwr : ACall Try.prog 8 [.ptr 2 0 [], .int .u16 x.page, arrAV x.base, .int .i64 x.off, .str ⟨x.s.toArray⟩] (stH []) (.int .i64 1) (stH []) := hwr
        obtain ⟨⟨bd, was⟩, hrr⟩ : ∃ r, readP [] x.page = r := ⟨_, rfl⟩
        rw [hrr] at hrd hrl
        have hrl : bd.length = 64 := hrl
        have hrd : ACall Try.prog 10 [.ptr 2 0 [], .int .u16 x.page] (stH []) (.tuple [arrAV bd, .bool was]) (stH []) := hrd
        simp -dsimp -implicitDefEqProofs only [↓j0, ↓j1, ↓j2, ↓j7, ↓j9, ↓j12, ↓j13, ↓j14, ↓j15, j17, j18, j19, j20, j21, j22, j23, ↓j25, ↓j27, ↓j29, ↓j30, j32, j33, ↓j38, ↓j40, ↓j41, ↓j43, ↓j44, ↓j45, ↓j46, ↓j48, ↓j53, ↓j58, ↓j62, ↓j76, ↓j77, ↓j78, ↓j79, j83, ↓j89, ↓j92, j129, j130, j142, ↓j145, ↓j146, ↓j147, ↓j149, ↓j150, ↓j153, j159, AV.proj, AV.offOf, AV.upd, AV.size, AV.sizeL, AV.layable, j163, j164, j167, j170, j171, j175, j177, reduceCtorEq, ↓reduceIte, Nat.reduceAdd, Nat.reduceEqDiff, j182, j185, j191, j197, j206, j207, j208, j240, j264, j267, j279, j280, j282, j377, j422, hz, hx, hsz, hlt2, e2, hxb, dlSt, dlT, dlH, lsV_nil, lsB_nil]
        refine CallTo.gen (args := [.ptr 2 0 [], .int .u16 x.page]) (stH []) (stH []) 103 rfl fok10 (by simp -dsimp -implicitDefEqProofs only [↓j25, ↓j29, j173, j174, ↓reduceIte, Nat.reduceEqDiff]) (notup2 (fun vs h => by cases h) fun vs h => by cases h) hrd (SubH.of (by simp -dsimp -implicitDefEqProofs only [↓j27, ↓reduceIte, Nat.reduceEqDiff, j182, j204, j205])) ⟨by simp, put_st⟩ ?_
        simp -dsimp -implicitDefEqProofs only [↓j0, ↓j1, ↓j7, ↓j12, ↓j15, j17, j18, j19, j20, j21, j22, j23, ↓j25, ↓j27, ↓j29, ↓j38, ↓j39, ↓j41, ↓j43, ↓j44, ↓j45, ↓j53, ↓j57, ↓j76, ↓j78, ↓j79, j85, j129, j130, j132, ↓j145, ↓j146, ↓j153, AV.proj, AV.offOf, AV.upd, AV.size, AV.sizeL, AV.layable, j163, j164, j166, j167, j170, j171, j173, j174, ↓reduceIte, Nat.reduceAdd, Nat.reduceEqDiff, j182, j196, j197, j240, j250, j258, j267, j274, j275, j282, j285, j288, j291, j376, hz, hxb, hrl]
        refine CallTo.gen (args := [.ptr 2 0 [], .int .u16 x.page, arrAV x.base, .int .i64 x.off, .str ⟨x.s.toArray⟩]) (stH []) (stH []) 104 rfl fok8 (by simp -dsimp -implicitDefEqProofs only [↓j25, ↓j29, j173, j174, ↓reduceIte, Nat.reduceEqDiff]) (fun y hy => (args_write (M := []) y hy).2) hwr (SubH.of (by simp -dsimp -implicitDefEqProofs only [↓j27, ↓reduceIte, Nat.reduceEqDiff, j182, j204, j205])) ⟨by simp, put_st⟩ ?_
        simp -dsimp -implicitDefEqProofs only [↓j0, ↓j1, ↓j2, ↓j7, ↓j9, ↓j13, ↓j15, j17, j18, j20, j21, j22, j23, ↓j25, ↓j29, ↓j30, j32, j33, ↓j38, ↓j39, ↓j40, ↓j48, j82, ↓j89, ↓j145, ↓j146, ↓j148, ↓j149, ↓j150, j154, j157, j163, j164, j170, j171, j173, j174, j175, ↓reduceIte, Nat.reduceEqDiff, j185, n1]
        exact ⟨n - 1, dlSt ops [] (i + 1), by omega, ⟨[], i + 1, hM1, by omega, rfl⟩, Wk.trans (Wk.mk (s' := ⟨146, dlT ops [] (i + 1) 100 101, dlH [] 100 101, 104⟩) (SubT.spec (by simp -dsimp -implicitDefEqProofs only [↓j25, reduceCtorEq, ↓reduceIte, Nat.reduceEqDiff, j182, j202, j203, dlT, lsV_nil, hw] <;> simp)) (SubH.spec (by simp -dsimp -implicitDefEqProofs only [↓j27, ↓reduceIte, Nat.reduceEqDiff, j182, j204, j205, dlH, lsB_nil] <;> simp)) (Nat.le_refl _) rfl) dl_gc⟩
      rw [if_neg c1] at fW
      have fR : readP [] x.page = (zb 64, false) := rfl
      rw [fR] at hrd hrl
      obtain ⟨bd, hbd⟩ : ∃ bd, zb 64 = bd := ⟨_, rfl⟩
      have hrl : bd.length = 64 := hbd ▸ hz
      have hg : aGet ([] : List KV) x.page = none := rfl
      have fW : writeP [] x.page x.base x.off x.s = (0, aPut [] x.page (x.base, layB x.base x.off.toNat x.s)) := fW
      rw [fW] at hwr hwo
      rw [hbd] at hrd
      have hnew : aPut [] x.page (x.base, layB x.base x.off.toNat x.s) = [] ++ [(x.page, (x.base, layB x.base x.off.toNat x.s))] := aPut_new (aGet_none.1 hg)
      have q1 : ksAV ([] ++ [(x.page, (x.base, layB x.base x.off.toNat x.s))]) = ksAV [] ++ [kAV x.page] := by rw [ksAV, List.map_append]; rfl
      have q2 : bsAV ([] ++ [(x.page, (x.base, layB x.base x.off.toNat x.s))]) = bsAV [] ++ [arrAV x.base] := by rw [bsAV, List.map_append]; rfl
      have q3 : ([] ++ [(x.page, (x.base, layB x.base x.off.toNat x.s))]).length = ([] : List KV).length + 1 := by rw [List.length_append]; rfl
      rw [hnew] at hwr hwo
      obtain ⟨M1, hM1e⟩ : ∃ M1, [] ++ [(x.page, (x.base, layB x.base x.off.toNat x.s))] = M1 := ⟨_, rfl⟩
      rw [hM1e] at hwr hwo q1 q2 q3
      have hM1 : MOk M1 := hwo
      have hp1 : 0 < M1.length := by omega
      have hwr : ACall Try.prog 8 [.ptr 2 0 [], .int .u16 x.page, arrAV x.base, .int .i64 x.off, .str ⟨x.s.toArray⟩] (stH []) (.int .i64 0) (stH M1) := hwr
      have uk1 : Unif 1 [kAV x.page] := unif_ks [(x.page, (zb 64, zb 64))]
      have ub1 : Unif 64 [arrAV x.base] := fun y hy => by
        simp only [List.mem_singleton] at hy
        subst hy
        simp only [AV.size, sizeL_bytes, hxb]
      have uk := unif_ks []
      have ub := unif_bs hM
      have tk1 : List.take 1 (List.drop 0 [kAV x.page]) = [kAV x.page] := rfl
      have tk2 : List.take 1 (List.drop 0 [arrAV x.base]) = [arrAV x.base] := rfl
      have hrd : ACall Try.prog 10 [.ptr 2 0 [], .int .u16 x.page] (stH []) (.tuple [arrAV bd, .bool false]) (stH []) := hrd
      simp -dsimp -implicitDefEqProofs only [↓j0, ↓j1, ↓j2, ↓j7, ↓j9, ↓j12, ↓j13, ↓j14, ↓j15, j17, j18, j19, j20, j21, j22, j23, ↓j25, ↓j27, ↓j29, ↓j30, j32, j33, ↓j38, ↓j40, ↓j41, ↓j43, ↓j44, ↓j45, ↓j46, ↓j48, ↓j53, ↓j58, ↓j62, ↓j76, ↓j77, ↓j78, ↓j79, j83, ↓j89, ↓j92, j129, j130, j142, ↓j145, ↓j146, ↓j147, ↓j149, ↓j150, ↓j153, j159, AV.proj, AV.offOf, AV.upd, AV.size, AV.sizeL, AV.layable, j163, j164, j167, j170, j171, j175, j177, reduceCtorEq, ↓reduceIte, Nat.reduceAdd, Nat.reduceEqDiff, j182, j185, j191, j197, j206, j207, j208, j240, j264, j267, j279, j280, j282, j377, j422, hz, hx, hsz, hlt2, e2, hxb, dlSt, dlT, dlH, lsV_nil, lsB_nil]
      refine CallTo.gen (args := [.ptr 2 0 [], .int .u16 x.page]) (stH []) (stH []) 103 rfl fok10 (by simp -dsimp -implicitDefEqProofs only [↓j25, ↓j29, j173, j174, ↓reduceIte, Nat.reduceEqDiff]) (notup2 (fun vs h => by cases h) fun vs h => by cases h) hrd (SubH.of (by simp -dsimp -implicitDefEqProofs only [↓j27, ↓reduceIte, Nat.reduceEqDiff, j182, j204, j205])) ⟨by simp, put_st⟩ ?_
      simp -dsimp -implicitDefEqProofs only [↓j0, ↓j1, ↓j7, ↓j12, ↓j15, j17, j18, j19, j20, j21, j22, j23, ↓j25, ↓j27, ↓j29, ↓j38, ↓j39, ↓j41, ↓j43, ↓j44, ↓j45, ↓j53, ↓j57, ↓j76, ↓j78, ↓j79, j85, j129, j130, j132, ↓j145, ↓j146, ↓j153, AV.proj, AV.offOf, AV.upd, AV.size, AV.sizeL, AV.layable, j163, j164, j166, j167, j170, j171, j173, j174, ↓reduceIte, Nat.reduceAdd, Nat.reduceEqDiff, j182, j196, j197, j240, j250, j258, j267, j274, j275, j282, j285, j288, j291, j376, hz, hxb, hrl]
      refine CallTo.gen (args := [.ptr 2 0 [], .int .u16 x.page, arrAV x.base, .int .i64 x.off, .str ⟨x.s.toArray⟩]) (stH []) (stH M1) 104 rfl fok8 (by simp -dsimp -implicitDefEqProofs only [↓j25, ↓j29, j173, j174, ↓reduceIte, Nat.reduceEqDiff]) (fun y hy => (args_write (M := []) y hy).2) hwr (SubH.of (by simp -dsimp -implicitDefEqProofs only [↓j27, ↓reduceIte, Nat.reduceEqDiff, j182, j204, j205])) ⟨by simp, put_st⟩ ?_
      simp -dsimp -implicitDefEqProofs only [↓j0, ↓j1, ↓j2, ↓j7, ↓j12, ↓j13, ↓j15, j17, j18, j20, j21, j22, j23, ↓j25, ↓j27, ↓j29, ↓j30, j32, j33, ↓j38, ↓j40, ↓j43, ↓j45, ↓j48, ↓j51, ↓j55, ↓j74, ↓j76, ↓j79, j83, j84, ↓j89, j125, j126, j127, j128, j130, ↓j145, ↓j146, ↓j147, ↓j149, ↓j150, ↓j153, j157, partsAV, AV.proj, AV.offOf, AV.size, AV.sizeL, AV.layable, j163, j164, j167, j169, j170, j171, j173, j174, j175, j179, j180, ↓reduceIte, Nat.reduceAdd, Nat.reduceMul, Nat.reduceEqDiff, Nat.reduceLeDiff, j182, j183, j185, j194, j197, j213, j214, j215, j217, Nat.reducePow, List.replicate, j234, j267, j282, j399, n0]
      refine DoAppend_of rfl rfl at32 ?_
      simp -dsimp -implicitDefEqProofs only [↓j0, ↓j1, ↓j7, ↓j15, j17, j18, j20, ↓j25, ↓j27, ↓j29, ↓j38, ↓j39, ↓j43, ↓j45, ↓j51, ↓j74, ↓j76, ↓j79, ↓j100, ↓j106, j107, j125, j126, j127, j128, j129, ↓j145, ↓j146, ↓j148, ↓j153, partsAV, AV.proj, AV.offOf, AV.size, AV.sizeL, AV.layable, j163, j164, j166, j167, j169, j170, j171, j179, j180, ↓reduceIte, Nat.reduceAdd, Nat.reduceMul, Nat.reduceEqDiff, Nat.reduceLeDiff, j182, j183, j196, j197, j213, j214, j215, j217, j223, Nat.reducePow, j227, List.replicate, j228, j230, j231, Nat.reduceBEq, j234, j240, j274, j275, j285, j402, hz, hxb, uk1]
      refine DoAppend_of rfl rfl at34 ?_
      simp -dsimp -implicitDefEqProofs only [↓j0, ↓j1, ↓j7, ↓j15, j17, j18, j20, ↓j25, ↓j27, ↓j29, ↓j30, j33, ↓j38, ↓j39, ↓j48, ↓j89, ↓j100, ↓j106, j107, ↓j145, ↓j146, ↓j148, ↓j153, j154, AV.proj, AV.offOf, j166, j170, j171, ↓reduceIte, Nat.reduceAdd, Nat.reduceMul, Nat.reduceEqDiff, Nat.reduceLeDiff, j182, j185, j196, j197, j223, j227, j228, j230, j231, Nat.reduceBEq, j234, ub1]
      exact ⟨n - 1, dlSt ops M1 (i + 1), by omega, ⟨M1, i + 1, hM1, by omega, rfl⟩, Wk.trans (Wk.mk (s' := ⟨146, dlT ops M1 (i + 1) 105 107, dlH M1 105 107, 108⟩) (SubT.spec (by simp -dsimp -implicitDefEqProofs only [↓j25, reduceCtorEq, ↓reduceIte, Nat.reduceEqDiff, j182, j196, j202, j203, j231, dlT, lsV_ne hp1, hw, q3] <;> simp)) (SubH.spec (by simp -dsimp -implicitDefEqProofs only [↓j27, j171, j174, ↓reduceIte, Nat.reduceEqDiff, j182, j204, j205, dlH, lsB_ne hp1, q1, q2] <;> simp)) (Nat.le_refl _) rfl) dl_ren⟩
    | cons m0 m1 =>
      rw [← hM0]
      have hp : 0 < M.length := by rw [hM0]; simp
      clear hM0
      by_cases c1 : x.off < 0 ∨ 64 < x.off ∨ 64 - x.off < (x.s.length : Int)
      · rw [if_pos c1] at fW
        rw [fW] at hwr hwo
        have hM1 := hM
        have hwr : ACall Try.prog 8 [.ptr 2 0 [], .int .u16 x.page, arrAV x.base, .int .i64 x.off, .str ⟨x.s.toArray⟩] (stH M) (.int .i64 1) (stH M) := hwr
        obtain ⟨⟨bd, was⟩, hrr⟩ : ∃ r, readP M x.page = r := ⟨_, rfl⟩
        rw [hrr] at hrd hrl
        have hrl : bd.length = 64 := hrl
        have hp1 := hp
        have hrd : ACall Try.prog 10 [.ptr 2 0 [], .int .u16 x.page] (stH M) (.tuple [arrAV bd, .bool was]) (stH M) := hrd
        simp -dsimp -implicitDefEqProofs only [↓j0, ↓j1, ↓j2, ↓j7, ↓j9, ↓j12, ↓j13, ↓j14, ↓j15, j17, j18, j19, j20, j21, j22, j23, ↓j25, ↓j27, ↓j29, ↓j30, j32, j33, ↓j38, ↓j40, ↓j41, ↓j43, ↓j44, ↓j45, ↓j46, ↓j48, ↓j53, ↓j58, ↓j62, ↓j76, ↓j77, ↓j78, ↓j79, j83, ↓j89, ↓j92, j129, j130, j142, ↓j145, ↓j146, ↓j147, ↓j149, ↓j150, ↓j153, j159, AV.proj, AV.offOf, AV.upd, AV.size, AV.sizeL, AV.layable, j163, j164, j167, j170, j171, j175, j177, reduceCtorEq, ↓reduceIte, Nat.reduceAdd, Nat.reduceEqDiff, j182, j185, j191, j197, j206, j207, j208, j240, j264, j267, j279, j280, j282, j377, j422, hz, hx, hsz, hlt2, e2, hxb, dlSt, dlT, dlH, lsV_ne hp, lsB_ne hp]
        refine CallTo.gen (args := [.ptr 2 0 [], .int .u16 x.page]) (stH M) (stH M) 103 rfl fok10 (by simp -dsimp -implicitDefEqProofs only [↓j25, ↓j29, j173, j174, ↓reduceIte, Nat.reduceEqDiff]) (notup2 (fun vs h => by cases h) fun vs h => by cases h) hrd (SubH.of (by simp -dsimp -implicitDefEqProofs only [↓j27, ↓reduceIte, Nat.reduceEqDiff, j182, j204, j205])) ⟨by simp, put_st⟩ ?_
        simp -dsimp -implicitDefEqProofs only [↓j0, ↓j1, ↓j7, ↓j12, ↓j15, j17, j18, j19, j20, j21, j22, j23, ↓j25, ↓j27, ↓j29, ↓j38, ↓j39, ↓j41, ↓j43, ↓j44, ↓j45, ↓j53, ↓j57, ↓j76, ↓j78, ↓j79, j85, j129, j130, j132, ↓j145, ↓j146, ↓j153, AV.proj, AV.offOf, AV.upd, AV.size, AV.sizeL, AV.layable, j163, j164, j166, j167, j170, j171, j173, j174, ↓reduceIte, Nat.reduceAdd, Nat.reduceEqDiff, j182, j196, j197, j240, j250, j258, j267, j274, j275, j282, j285, j288, j291, j376, hz, hxb, hrl]
        refine CallTo.gen (args := [.ptr 2 0 [], .int .u16 x.page, arrAV x.base, .int .i64 x.off, .str ⟨x.s.toArray⟩]) (stH M) (stH M) 104 rfl fok8 (by simp -dsimp -implicitDefEqProofs only [↓j25, ↓j29, j173, j174, ↓reduceIte, Nat.reduceEqDiff]) (fun y hy => (args_write (M := []) y hy).2) hwr (SubH.of (by simp -dsimp -implicitDefEqProofs only [↓j27, ↓reduceIte, Nat.reduceEqDiff, j182, j204, j205])) ⟨by simp, put_st⟩ ?_
        simp -dsimp -implicitDefEqProofs only [↓j0, ↓j1, ↓j2, ↓j7, ↓j9, ↓j13, ↓j15, j17, j18, j20, j21, j22, j23, ↓j25, ↓j29, ↓j30, j32, j33, ↓j38, ↓j39, ↓j40, ↓j48, j82, ↓j89, ↓j145, ↓j146, ↓j148, ↓j149, ↓j150, j154, j157, j163, j164, j170, j171, j173, j174, j175, ↓reduceIte, Nat.reduceEqDiff, j185, n1]
        exact ⟨n - 1, dlSt ops M (i + 1), by omega, ⟨M, i + 1, hM1, by omega, rfl⟩, Wk.trans (Wk.mk (s' := ⟨146, dlT ops M (i + 1) 100 101, dlH M 100 101, 104⟩) (SubT.spec (by simp -dsimp -implicitDefEqProofs only [↓j25, reduceCtorEq, ↓reduceIte, Nat.reduceEqDiff, j182, j202, j203, dlT, lsV_ne hp1, hw] <;> simp)) (SubH.spec (by simp -dsimp -implicitDefEqProofs only [↓j27, ↓reduceIte, Nat.reduceEqDiff, j182, j204, j205, dlH, lsB_ne hp1] <;> simp)) (Nat.le_refl _) rfl) dl_gc⟩
      rw [if_neg c1] at fW
      cases hg : aGet M x.page with
      | some e =>
        rw [hg] at fR fW
        have fR : readP M x.page = (e.2, true) := fR
        have fW : writeP M x.page x.base x.off x.s = (0, aPut M x.page (e.1, layB e.2 x.off.toNat x.s)) := fW
        obtain ⟨q1, q2, q3⟩ := ks_put (v := (e.1, layB e.2 x.off.toNat x.s)) hg rfl
        rw [fR] at hrd hrl
        rw [fW] at hwr hwo
        obtain ⟨M1, hM1e⟩ : ∃ M1, aPut M x.page (e.1, layB e.2 x.off.toNat x.s) = M1 := ⟨_, rfl⟩
        rw [hM1e] at hwr hwo q1 q2 q3
        have hM1 : MOk M1 := hwo
        have hp1 : 0 < M1.length := by omega
        obtain ⟨bd, hbd⟩ : ∃ bd, e.2 = bd := ⟨_, rfl⟩
        rw [hbd] at hrd hrl
        have hrl : bd.length = 64 := hrl
        have hwr : ACall Try.prog 8 [.ptr 2 0 [], .int .u16 x.page, arrAV x.base, .int .i64 x.off, .str ⟨x.s.toArray⟩] (stH M) (.int .i64 0) (stH M1) := hwr
        have hrd : ACall Try.prog 10 [.ptr 2 0 [], .int .u16 x.page] (stH M) (.tuple [arrAV bd, .bool true]) (stH M) := hrd
        simp -dsimp -implicitDefEqProofs only [↓j0, ↓j1, ↓j2, ↓j7, ↓j9, ↓j12, ↓j13, ↓j14, ↓j15, j17, j18, j19, j20, j21, j22, j23, ↓j25, ↓j27, ↓j29, ↓j30, j32, j33, ↓j38, ↓j40, ↓j41, ↓j43, ↓j44, ↓j45, ↓j46, ↓j48, ↓j53, ↓j58, ↓j62, ↓j76, ↓j77, ↓j78, ↓j79, j83, ↓j89, ↓j92, j129, j130, j142, ↓j145, ↓j146, ↓j147, ↓j149, ↓j150, ↓j153, j159, AV.proj, AV.offOf, AV.upd, AV.size, AV.sizeL, AV.layable, j163, j164, j167, j170, j171, j175, j177, reduceCtorEq, ↓reduceIte, Nat.reduceAdd, Nat.reduceEqDiff, j182, j185, j191, j197, j206, j207, j208, j240, j264, j267, j279, j280, j282, j377, j422, hz, hx, hsz, hlt2, e2, hxb, dlSt, dlT, dlH, lsV_ne hp, lsB_ne hp]
        refine CallTo.gen (args := [.ptr 2 0 [], .int .u16 x.page]) (stH M) (stH M) 103 rfl fok10 (by simp -dsimp -implicitDefEqProofs only [↓j25, ↓j29, j173, j174, ↓reduceIte, Nat.reduceEqDiff]) (notup2 (fun vs h => by cases h) fun vs h => by cases h) hrd (SubH.of (by simp -dsimp -implicitDefEqProofs only [↓j27, ↓reduceIte, Nat.reduceEqDiff, j182, j204, j205])) ⟨by simp, put_st⟩ ?_
        simp -dsimp -implicitDefEqProofs only [↓j0, ↓j1, ↓j7, ↓j12, ↓j15, j17, j18, j19, j20, j21, j22, j23, ↓j25, ↓j27, ↓j29, ↓j38, ↓j39, ↓j41, ↓j43, ↓j44, ↓j45, ↓j53, ↓j57, ↓j76, ↓j78, ↓j79, j85, j129, j130, j132, ↓j145, ↓j146, ↓j153, AV.proj, AV.offOf, AV.upd, AV.size, AV.sizeL, AV.layable, j163, j164, j166, j167, j170, j171, j173, j174, ↓reduceIte, Nat.reduceAdd, Nat.reduceEqDiff, j182, j196, j197, j240, j250, j258, j267, j274, j275, j282, j285, j288, j291, j376, hz, hxb, hrl]
        refine CallTo.gen (args := [.ptr 2 0 [], .int .u16 x.page, arrAV x.base, .int .i64 x.off, .str ⟨x.s.toArray⟩]) (stH M) (stH M1) 104 rfl fok8 (by simp -dsimp -implicitDefEqProofs only [↓j25, ↓j29, j173, j174, ↓reduceIte, Nat.reduceEqDiff]) (fun y hy => (args_write (M := []) y hy).2) hwr (SubH.of (by simp -dsimp -implicitDefEqProofs only [↓j27, ↓reduceIte, Nat.reduceEqDiff, j182, j204, j205])) ⟨by simp, put_st⟩ ?_
        simp -dsimp -implicitDefEqProofs only [↓j0, ↓j1, ↓j2, ↓j7, ↓j9, ↓j13, ↓j15, j17, j18, j20, j21, j22, j23, ↓j25, ↓j29, ↓j30, j32, j33, ↓j38, ↓j39, ↓j40, ↓j48, ↓j55, j83, j84, ↓j89, ↓j145, ↓j146, ↓j147, ↓j148, ↓j149, ↓j150, j154, j157, j163, j164, j170, j171, j173, j174, j175, ↓reduceIte, Nat.reduceEqDiff, j185, j193, n0]
        exact ⟨n - 1, dlSt ops M1 (i + 1), by omega, ⟨M1, i + 1, hM1, by omega, rfl⟩, Wk.trans (Wk.mk (s' := ⟨146, dlT ops M1 (i + 1) 100 101, dlH M1 100 101, 104⟩) (SubT.spec (by simp -dsimp -implicitDefEqProofs only [↓j25, reduceCtorEq, ↓reduceIte, Nat.reduceEqDiff, j182, j202, j203, dlT, lsV_ne hp1, hw, q3] <;> simp)) (SubH.spec (by simp -dsimp -implicitDefEqProofs only [↓j27, ↓reduceIte, Nat.reduceEqDiff, j182, j204, j205, dlH, lsB_ne hp1, q1, q2] <;> simp)) (Nat.le_refl _) rfl) dl_gc⟩
      | none =>
        rw [hg] at fR fW
        have fR : readP M x.page = (zb 64, false) := fR
        have fW : writeP M x.page x.base x.off x.s = if M.length = 4 then (10, M) else (0, aPut M x.page (x.base, layB x.base x.off.toNat x.s)) := fW
        rw [fR] at hrd hrl
        obtain ⟨bd, hbd⟩ : ∃ bd, zb 64 = bd := ⟨_, rfl⟩
        have hrl : bd.length = 64 := hbd ▸ hz
        by_cases c4 : M.length = 4
        · rw [if_pos c4] at fW
          rw [fW] at hwr hwo
          rw [hbd] at hrd
          have hM1 := hM
          have hp1 := hp
          have hwr : ACall Try.prog 8 [.ptr 2 0 [], .int .u16 x.page, arrAV x.base, .int .i64 x.off, .str ⟨x.s.toArray⟩] (stH M) (.int .i64 10) (stH M) := hwr
          have hrd : ACall Try.prog 10 [.ptr 2 0 [], .int .u16 x.page] (stH M) (.tuple [arrAV bd, .bool false]) (stH M) := hrd
          simp -dsimp -implicitDefEqProofs only [↓j0, ↓j1, ↓j2, ↓j7, ↓j9, ↓j12, ↓j13, ↓j14, ↓j15, j17, j18, j19, j20, j21, j22, j23, ↓j25, ↓j27, ↓j29, ↓j30, j32, j33, ↓j38, ↓j40, ↓j41, ↓j43, ↓j44, ↓j45, ↓j46, ↓j48, ↓j53, ↓j58, ↓j62, ↓j76, ↓j77, ↓j78, ↓j79, j83, ↓j89, ↓j92, j129, j130, j142, ↓j145, ↓j146, ↓j147, ↓j149, ↓j150, ↓j153, j159, AV.proj, AV.offOf, AV.upd, AV.size, AV.sizeL, AV.layable, j163, j164, j167, j170, j171, j175, j177, reduceCtorEq, ↓reduceIte, Nat.reduceAdd, Nat.reduceEqDiff, j182, j185, j191, j197, j206, j207, j208, j240, j264, j267, j279, j280, j282, j377, j422, hz, hx, hsz, hlt2, e2, hxb, dlSt, dlT, dlH, lsV_ne hp, lsB_ne hp]
          refine CallTo.gen (args := [.ptr 2 0 [], .int .u16 x.page]) (stH M) (stH M) 103 rfl fok10 (by simp -dsimp -implicitDefEqProofs only [↓j25, ↓j29, j173, j174, ↓reduceIte, Nat.reduceEqDiff]) (notup2 (fun vs h => by cases h) fun vs h => by cases h) hrd (SubH.of (by simp -dsimp -implicitDefEqProofs only [↓j27, ↓reduceIte, Nat.reduceEqDiff, j182, j204, j205])) ⟨by simp, put_st⟩ ?_
          simp -dsimp -implicitDefEqProofs only [↓j0, ↓j1, ↓j7, ↓j12, ↓j15, j17, j18, j19, j20, j21, j22, j23, ↓j25, ↓j27, ↓j29, ↓j38, ↓j39, ↓j41, ↓j43, ↓j44, ↓j45, ↓j53, ↓j57, ↓j76, ↓j78, ↓j79, j85, j129, j130, j132, ↓j145, ↓j146, ↓j153, AV.proj, AV.offOf, AV.upd, AV.size, AV.sizeL, AV.layable, j163, j164, j166, j167, j170, j171, j173, j174, ↓reduceIte, Nat.reduceAdd, Nat.reduceEqDiff, j182, j196, j197, j240, j250, j258, j267, j274, j275, j282, j285, j288, j291, j376, hz, hxb, hrl]
          refine CallTo.gen (args := [.ptr 2 0 [], .int .u16 x.page, arrAV x.base, .int .i64 x.off, .str ⟨x.s.toArray⟩]) (stH M) (stH M) 104 rfl fok8 (by simp -dsimp -implicitDefEqProofs only [↓j25, ↓j29, j173, j174, ↓reduceIte, Nat.reduceEqDiff]) (fun y hy => (args_write (M := []) y hy).2) hwr (SubH.of (by simp -dsimp -implicitDefEqProofs only [↓j27, ↓reduceIte, Nat.reduceEqDiff, j182, j204, j205])) ⟨by simp, put_st⟩ ?_
          simp -dsimp -implicitDefEqProofs only [↓j0, ↓j1, ↓j2, ↓j7, ↓j9, ↓j13, ↓j15, j17, j18, j20, j21, j22, j23, ↓j25, ↓j29, ↓j30, j32, j33, ↓j38, ↓j39, ↓j40, ↓j48, j82, ↓j89, ↓j145, ↓j146, ↓j148, ↓j149, ↓j150, j154, j157, j163, j164, j170, j171, j173, j174, j175, ↓reduceIte, Nat.reduceEqDiff, j185, n10]
          exact ⟨n - 1, dlSt ops M (i + 1), by omega, ⟨M, i + 1, hM1, by omega, rfl⟩, Wk.trans (Wk.mk (s' := ⟨146, dlT ops M (i + 1) 100 101, dlH M 100 101, 104⟩) (SubT.spec (by simp -dsimp -implicitDefEqProofs only [↓j25, reduceCtorEq, ↓reduceIte, Nat.reduceEqDiff, j182, j202, j203, dlT, lsV_ne hp1, hw] <;> simp)) (SubH.spec (by simp -dsimp -implicitDefEqProofs only [↓j27, ↓reduceIte, Nat.reduceEqDiff, j182, j204, j205, dlH, lsB_ne hp1] <;> simp)) (Nat.le_refl _) rfl) dl_gc⟩
        rw [if_neg c4] at fW
        rw [fW] at hwr hwo
        rw [hbd] at hrd
        have hnew : aPut M x.page (x.base, layB x.base x.off.toNat x.s) = M ++ [(x.page, (x.base, layB x.base x.off.toNat x.s))] := aPut_new (aGet_none.1 hg)
        have q1 : ksAV (M ++ [(x.page, (x.base, layB x.base x.off.toNat x.s))]) = ksAV M ++ [kAV x.page] := by rw [ksAV, List.map_append]; rfl
        have q2 : bsAV (M ++ [(x.page, (x.base, layB x.base x.off.toNat x.s))]) = bsAV M ++ [arrAV x.base] := by rw [bsAV, List.map_append]; rfl
        have q3 : (M ++ [(x.page, (x.base, layB x.base x.off.toNat x.s))]).length = (M : List KV).length + 1 := by rw [List.length_append]; rfl
        rw [hnew] at hwr hwo
        obtain ⟨M1, hM1e⟩ : ∃ M1, M ++ [(x.page, (x.base, layB x.base x.off.toNat x.s))] = M1 := ⟨_, rfl⟩
        rw [hM1e] at hwr hwo q1 q2 q3
        have hM1 : MOk M1 := hwo
        have hp1 : 0 < M1.length := by omega
        have hwr : ACall Try.prog 8 [.ptr 2 0 [], .int .u16 x.page, arrAV x.base, .int .i64 x.off, .str ⟨x.s.toArray⟩] (stH M) (.int .i64 0) (stH M1) := hwr
        have uk1 : Unif 1 [kAV x.page] := unif_ks [(x.page, (zb 64, zb 64))]
        have ub1 : Unif 64 [arrAV x.base] := fun y hy => by
          simp only [List.mem_singleton] at hy
          subst hy
          simp only [AV.size, sizeL_bytes, hxb]
        have uk := unif_ks M
        have ub := unif_bs hM
        have tk1 : List.take 1 (List.drop 0 [kAV x.page]) = [kAV x.page] := rfl
        have tk2 : List.take 1 (List.drop 0 [arrAV x.base]) = [arrAV x.base] := rfl
        have hrd : ACall Try.prog 10 [.ptr 2 0 [], .int .u16 x.page] (stH M) (.tuple [arrAV bd, .bool false]) (stH M) := hrd
        simp -dsimp -implicitDefEqProofs only [↓j0, ↓j1, ↓j2, ↓j7, ↓j9, ↓j12, ↓j13, ↓j14, ↓j15, j17, j18, j19, j20, j21, j22, j23, ↓j25, ↓j27, ↓j29, ↓j30, j32, j33, ↓j38, ↓j40, ↓j41, ↓j43, ↓j44, ↓j45, ↓j46, ↓j48, ↓j53, ↓j58, ↓j62, ↓j76, ↓j77, ↓j78, ↓j79, j83, ↓j89, ↓j92, j129, j130, j142, ↓j145, ↓j146, ↓j147, ↓j149, ↓j150, ↓j153, j159, AV.proj, AV.offOf, AV.upd, AV.size, AV.sizeL, AV.layable, j163, j164, j167, j170, j171, j175, j177, reduceCtorEq, ↓reduceIte, Nat.reduceAdd, Nat.reduceEqDiff, j182, j185, j191, j197, j206, j207, j208, j240, j264, j267, j279, j280, j282, j377, j422, hz, hx, hsz, hlt2, e2, hxb, dlSt, dlT, dlH, lsV_ne hp, lsB_ne hp]
        refine CallTo.gen (args := [.ptr 2 0 [], .int .u16 x.page]) (stH M) (stH M) 103 rfl fok10 (by simp -dsimp -implicitDefEqProofs only [↓j25, ↓j29, j173, j174, ↓reduceIte, Nat.reduceEqDiff]) (notup2 (fun vs h => by cases h) fun vs h => by cases h) hrd (SubH.of (by simp -dsimp -implicitDefEqProofs only [↓j27, ↓reduceIte, Nat.reduceEqDiff, j182, j204, j205])) ⟨by simp, put_st⟩ ?_
        simp -dsimp -implicitDefEqProofs only [↓j0, ↓j1, ↓j7, ↓j12, ↓j15, j17, j18, j19, j20, j21, j22, j23, ↓j25, ↓j27, ↓j29, ↓j38, ↓j39, ↓j41, ↓j43, ↓j44, ↓j45, ↓j53, ↓j57, ↓j76, ↓j78, ↓j79, j85, j129, j130, j132, ↓j145, ↓j146, ↓j153, AV.proj, AV.offOf, AV.upd, AV.size, AV.sizeL, AV.layable, j163, j164, j166, j167, j170, j171, j173, j174, ↓reduceIte, Nat.reduceAdd, Nat.reduceEqDiff, j182, j196, j197, j240, j250, j258, j267, j274, j275, j282, j285, j288, j291, j376, hz, hxb, hrl]
        refine CallTo.gen (args := [.ptr 2 0 [], .int .u16 x.page, arrAV x.base, .int .i64 x.off, .str ⟨x.s.toArray⟩]) (stH M) (stH M1) 104 rfl fok8 (by simp -dsimp -implicitDefEqProofs only [↓j25, ↓j29, j173, j174, ↓reduceIte, Nat.reduceEqDiff]) (fun y hy => (args_write (M := []) y hy).2) hwr (SubH.of (by simp -dsimp -implicitDefEqProofs only [↓j27, ↓reduceIte, Nat.reduceEqDiff, j182, j204, j205])) ⟨by simp, put_st⟩ ?_
        simp -dsimp -implicitDefEqProofs only [↓j0, ↓j1, ↓j2, ↓j7, ↓j12, ↓j13, ↓j15, j17, j18, j20, j21, j22, j23, ↓j25, ↓j27, ↓j29, ↓j30, j32, j33, ↓j38, ↓j40, ↓j43, ↓j45, ↓j48, ↓j51, ↓j55, ↓j74, ↓j76, ↓j79, j83, j84, ↓j89, j125, j126, j127, j128, j130, ↓j145, ↓j146, ↓j147, ↓j149, ↓j150, ↓j153, j157, partsAV, AV.proj, AV.offOf, AV.size, AV.sizeL, AV.layable, j163, j164, j167, j169, j170, j171, j173, j174, j175, j179, j180, ↓reduceIte, Nat.reduceAdd, Nat.reduceMul, Nat.reduceEqDiff, Nat.reduceLeDiff, j182, j183, j185, j194, j197, j213, j214, j215, j217, Nat.reducePow, List.replicate, j234, j267, j282, j399, n0]
        refine DoAppend_of rfl rfl at32 ?_
        simp -dsimp -implicitDefEqProofs only [↓j27, ↓j101, ↓j102, ↓j106, j107, ↓j145, ↓j146, ↓j153, AV.proj, AV.offOf, j166, ↓reduceIte, Nat.reduceEqDiff, Nat.reduceLeDiff, j182, j184, j188, j189, j196, j197, j213, j214, j215, j222, j223, j227, j228, j230, j231, j234, uk1, uk]
        refine ⟨by omega, ?_⟩
        have t1 : List.take M.length (List.map (fun e => kAV e.1) M) = ksAV M := List.take_of_length_le (by simp)
        have t2 : List.take M.length (List.map (fun e => arrAV e.2.1) M) = bsAV M := List.take_of_length_le (by simp)
        simp -dsimp -implicitDefEqProofs only [↓j0, ↓j1, ↓j7, ↓j15, j17, j18, j20, j21, j22, j23, ↓j25, ↓j27, ↓j29, ↓j38, ↓j39, ↓j43, ↓j45, ↓j51, ↓j74, ↓j76, ↓j79, j125, j126, j127, j128, j129, ↓j145, ↓j146, ↓j153, partsAV, AV.proj, AV.offOf, AV.size, AV.sizeL, AV.layable, j163, j164, j166, j167, j169, j170, j171, j179, j180, ↓reduceIte, Nat.reduceAdd, Nat.reduceMul, Nat.reduceEqDiff, Nat.reduceLeDiff, j182, j183, j196, j197, j213, j214, j215, j217, Nat.reducePow, j227, List.replicate, j228, j230, j231, j234, j240, j274, j275, j285, j402, hz, hxb, t1]
        refine DoAppend_of rfl rfl at34 ?_
        simp -dsimp -implicitDefEqProofs only [↓j27, ↓j101, ↓j102, ↓j106, j107, ↓j145, ↓j146, ↓j153, AV.proj, AV.offOf, j166, ↓reduceIte, Nat.reduceEqDiff, Nat.reduceLeDiff, j182, j184, j188, j189, j196, j197, j213, j214, j215, j222, j223, j227, j228, j230, j231, j234, ub1, ub]
        refine ⟨by omega, ?_⟩
        simp -dsimp -implicitDefEqProofs only [↓j0, ↓j1, ↓j7, ↓j15, j17, j18, j20, j21, j22, j23, ↓j25, ↓j29, ↓j30, j33, ↓j38, ↓j39, ↓j48, ↓j89, ↓j145, ↓j146, j154, j166, j170, j171, ↓reduceIte, Nat.reduceAdd, Nat.reduceEqDiff, j185, j196, j227, j228, j230, j231, t2]
        exact ⟨n - 1, dlSt ops M1 (i + 1), by omega, ⟨M1, i + 1, hM1, by omega, rfl⟩, Wk.trans (Wk.mk (s' := ⟨146, dlT ops M1 (i + 1) 105 107, dlH M1 105 107, 108⟩) (SubT.spec (by simp -dsimp -implicitDefEqProofs only [↓j25, reduceCtorEq, ↓reduceIte, Nat.reduceEqDiff, j182, j202, j203, dlT, lsV_ne hp1, hw, q3] <;> simp)) (SubH.spec (by simp -dsimp -implicitDefEqProofs only [↓j27, ↓reduceIte, Nat.reduceEqDiff, j182, j204, j205, dlH, lsB_ne hp1, q1, q2] <;> simp)) (Nat.le_refl _) rfl) dl_ren⟩
  · by_cases h1 : i < ops.length
    · have h2 : ¬ i < 30 := fun h => hlt ⟨h1, h⟩
      have e1 : decide ((i : Int) < (ops.length : Int)) = true := decide_eq_true (by omega)
      have e2 : decide ((i : Int) < 30) = false := decide_eq_false (by omega)
      cases hM0 : M with
      | nil =>
        subst hM0
        have hpg := pages_spec [] hM
        have hk0 : keysIn ([] : List KV) = [] := List.length_eq_zero_iff.1 (by rw [keysIn_len]; rfl)
        rw [hk0] at hpg
        have hpg : ACall Try.prog 9 [.ptr 2 0 []] (stH []) (.vsl [] 0) (stH []) := hpg
        simp -dsimp -implicitDefEqProofs only [↓j0, ↓j1, ↓j2, ↓j7, ↓j11, ↓j12, ↓j13, ↓j15, j17, j18, j20, ↓j25, ↓j29, ↓j30, j32, j33, ↓j38, ↓j40, ↓j48, ↓j53, ↓j58, ↓j62, j83, ↓j89, j142, ↓j145, ↓j146, ↓j147, ↓j148, ↓j149, ↓j150, j159, j163, j164, j171, j175, reduceCtorEq, ↓reduceIte, Nat.reduceEqDiff, j185, j422, dlSt, dlT, dlH, lsV_nil, lsB_nil, e1, e2]
        refine CallTo.gen (args := [.ptr 2 0 []]) (stH []) (stH []) 102 rfl fok9 (by simp -dsimp -implicitDefEqProofs only [↓j25, ↓j29, j173, j174, ↓reduceIte]) (notup1 fun vs h => by cases h) hpg (SubH.of (by simp -dsimp -implicitDefEqProofs only [↓j27, ↓reduceIte, Nat.reduceEqDiff, j182, j204, j205])) ⟨by simp, put_st⟩ ?_
        simp -dsimp -implicitDefEqProofs only [↓j0, ↓j1, ↓j7, ↓j12, ↓j14, ↓j15, ↓j16, j17, j18, j20, j21, j22, j23, ↓j25, ↓j29, ↓j30, j33, ↓j38, ↓j39, ↓j58, ↓j62, j142, ↓j145, j171, j172, j173, j174, ↓reduceIte, Nat.reduceEqDiff, j429]
        refine AWp.loopR (Z := Z) mixed hZ (by kernel_rfl) (fun n s => s = ⟨146, [(72, .int .i64 0), (71, .int .i64 0), (70, .vsl [] 0), (10, .vsl [] 0), (5, .nilsl), (4, .nilsl), (3, .ptr 2 0 []), (2, .bool false)], [(2, stC), (1, mapB [])], 102⟩) (n0 := 0) (s0 := ⟨146, [(72, .int .i64 0), (71, .int .i64 0), (70, .vsl [] 0), (10, .vsl [] 0), (5, .nilsl), (4, .nilsl), (3, .ptr 2 0 []), (2, .bool false)], [(2, stC), (1, mapB [])], 102⟩) ?_ rfl ?_ rfl
        · exact Wk.sub (by simp -dsimp -implicitDefEqProofs only [↓j25, ↓j27, j179, reduceCtorEq, ↓reduceIte, Nat.reduceEqDiff, j182, j183, j184, j202, j203, j204, j205, j209, j223] <;> simp)
        rintro n s rfl
        refine ⟨rfl, ?_⟩
        have f1 : decide ((0 : Int) < 0) = false := rfl
        have f2 : (((0 : Nat) : Int) == 0) = true := rfl
        have f3 : decide (((0 : Nat) : Int) ≤ 4) = true := rfl
        have f4 : ((0 : Int) == 0) = true := rfl
        have f5 : decide ((0 : Int) ≤ 4) = true := rfl
        have f6 : (((0 : Nat) : Int) == ((0 : Nat) : Int)) = true := rfl
        simp -dsimp -implicitDefEqProofs only [↓j0, ↓j1, ↓j2, ↓j7, ↓j11, ↓j12, ↓j13, ↓j15, j17, j18, j20, ↓j25, ↓j29, ↓j30, j32, j33, ↓j38, ↓j40, ↓j48, ↓j53, ↓j58, ↓j60, ↓j62, j83, ↓j89, j142, j144, ↓j145, ↓j146, ↓j147, ↓j148, ↓j149, ↓j150, j157, j159, j160, j163, j164, j171, j175, ↓reduceIte, Nat.reduceEqDiff, Int.reduceLT, j185, j192, j429, j430, f3, f6]
        refine CallTo.pure (args := []) rfl fok11 (by simp -dsimp -implicitDefEqProofs only [j174]) nil0 awake_spec ?_
        simp -dsimp -implicitDefEqProofs only [↓j0, ↓j1, ↓j10, j17, j18, j20, ↓j25, ↓j29, ↓j30, j32, ↓j39, ↓j40, j83, ↓j145, j171, ↓reduceIte, Nat.reduceEqDiff]
        exact fin _ _ _ rfl
      | cons m0 m1 =>
        rw [← hM0]
        have hp : 0 < M.length := by rw [hM0]; simp
        clear hM0
        have hpg := pages_spec M hM
        have hkl := keysIn_len M
        have hkm : ∀ k, k ∈ keysIn M → k ∈ M.map (·.1) := fun k h => keysIn_mem.1 h
        have hlt0 : ∀ j q p, (keysIn M)[j]? = some q → (keysIn M)[j + 1]? = some p → q < p := fun j q p => keys_lt hM
        obtain ⟨ks, hks⟩ : ∃ ks, keysIn M = ks := ⟨_, rfl⟩
        rw [hks] at hpg hkl hkm hlt0
        simp -dsimp -implicitDefEqProofs only [↓j0, ↓j1, ↓j2, ↓j7, ↓j11, ↓j12, ↓j13, ↓j15, j17, j18, j20, ↓j25, ↓j29, ↓j30, j32, j33, ↓j38, ↓j40, ↓j48, ↓j53, ↓j58, ↓j62, j83, ↓j89, j142, ↓j145, ↓j146, ↓j147, ↓j148, ↓j149, ↓j150, j159, j163, j164, j171, j175, reduceCtorEq, ↓reduceIte, Nat.reduceEqDiff, j185, j422, dlSt, dlT, dlH, lsV_ne hp, lsB_ne hp, e1, e2]
        refine CallTo.gen (args := [.ptr 2 0 []]) (stH M) (stH M) 102 rfl fok9 (by simp -dsimp -implicitDefEqProofs only [↓j25, ↓j29, j173, j174, ↓reduceIte]) (notup1 fun vs h => by cases h) hpg (SubH.of (by simp -dsimp -implicitDefEqProofs only [↓j27, ↓reduceIte, Nat.reduceEqDiff, j182, j204, j205])) ⟨by simp, put_st⟩ ?_
        simp -dsimp -implicitDefEqProofs only [↓j0, ↓j1, ↓j7, ↓j12, ↓j14, ↓j15, ↓j16, j17, j18, j20, j21, j22, j23, ↓j25, ↓j29, ↓j30, j33, ↓j38, ↓j39, ↓j58, ↓j62, j142, ↓j145, j170, j171, j173, j174, ↓reduceIte, Nat.reduceEqDiff, j429]
        refine AWp.loopR (Z := Z) mixed hZ (by kernel_rfl) (fun n s => ∃ i, i + n = ks.length ∧ s = d2St ks M i) (n0 := ks.length) (s0 := d2St ks M 0) ?_ ⟨0, by omega, rfl⟩ ?_ rfl
        · exact Wk.sub (by simp -dsimp -implicitDefEqProofs only [↓j25, ↓j27, j179, reduceCtorEq, ↓reduceIte, Nat.reduceEqDiff, j182, j183, j184, j202, j203, j204, j205, j209, j223, d2T, d2H] <;> simp)
        rintro n s ⟨i, hi, rfl⟩
        refine ⟨rfl, ?_⟩
        rcases Nat.lt_or_ge i ks.length with hlt | hge
        · have e1 : decide ((i : Int) < (ks.length : Int)) = true := decide_eq_true (by omega)
          obtain ⟨p, hpi⟩ := list_get (xs := ks) (i := i) hlt
          have hsz := (unif_keys ks).sizeL_take (k := i) (by simp; omega)
          have hlt2 : (i : Int) < (ks.length : Int) := by omega
          have hw : IntKind.i64.wrap ((i : Int) + 1) = ((i + 1 : Nat) : Int) := by rw [wrap_i64 (by omega) (by omega)]; omega
          have hpm := hkm p (List.mem_of_getElem? hpi)
          obtain ⟨e, hge⟩ : ∃ e, aGet M p = some e := by
            cases h : aGet M p with
            | none => exact absurd hpm (aGet_none.1 h)
            | some e => exact ⟨e, rfl⟩
          have hke := hM.keys _ (aGet_mem hge)
          have hko : kOk p := hke.1
          have hrd := read_spec M hM p hko
          have fR : readP M p = (e.2, true) := by unfold readP; rw [hge]
          rw [fR] at hrd
          have hwg : wasL M p = e.1 := wasL_get hM.nodup hge
          have hdl := delta_spec M hM p hko
          have fD : deltaP M p = makeP e.1 e.2 := by unfold deltaP; rw [hge]; rfl
          rw [fD] at hdl
          have hap := dapply_spec e.1 (makeP e.1 e.2) hke.2.1 (Nat.le_trans (makeP_len hke.2.2) (by decide))
          rw [apply_make hke.2.1 hke.2.2] at hap
          have hl1 : e.1.length = 64 := hke.2.1
          have hl2 : e.2.length = 64 := hke.2.2
          obtain ⟨base, hbe⟩ : ∃ b, e.1 = b := ⟨_, rfl⟩
          obtain ⟨now, hne⟩ : ∃ b, e.2 = b := ⟨_, rfl⟩
          obtain ⟨D, hDe⟩ : ∃ D, makeP e.1 e.2 = D := ⟨_, rfl⟩
          rw [hDe] at hdl hap
          rw [hbe] at hwg hl1 hap
          rw [hne] at hrd hl2 hap
          have hrd : ACall Try.prog 10 [.ptr 2 0 [], .int .u16 p] (stH M) (.tuple [arrAV now, .bool true]) (stH M) := hrd
          have hap : ACall Try.prog 17 [arrAV base, .str ⟨D.toArray⟩] [] (.tuple [arrAV now, .int .i64 0]) [] := hap
          have uk := unif_ks M
          have ub := unif_bs hM
          simp -dsimp -implicitDefEqProofs only [↓j0, ↓j1, ↓j7, ↓j9, ↓j12, ↓j13, ↓j14, ↓j15, j17, j18, j20, ↓j25, ↓j29, ↓j38, ↓j39, ↓j43, ↓j46, ↓j48, ↓j53, ↓j77, ↓j89, ↓j92, j130, ↓j145, ↓j146, ↓j147, ↓j149, j159, AV.proj, AV.offOf, j171, j177, ↓reduceIte, Nat.reduceEqDiff, j182, j185, j191, j197, j206, j207, j208, j267, j303, d2St, d2T, d2H, hpi, hsz, hlt2]
          refine CallTo.gen (args := [.ptr 2 0 [], .int .u16 p]) (stH M) (stH M) 102 rfl fok10 (by simp -dsimp -implicitDefEqProofs only [↓j25, ↓j29, j173, j174, ↓reduceIte, Nat.reduceEqDiff]) (notup2 (fun vs h => by cases h) fun vs h => by cases h) hrd (SubH.of (by simp -dsimp -implicitDefEqProofs only [↓j27, ↓reduceIte, Nat.reduceEqDiff, j182, j204, j205])) ⟨by simp, put_st⟩ ?_
          simp -dsimp -implicitDefEqProofs only [↓j0, ↓j1, ↓j7, ↓j12, ↓j14, ↓j15, ↓j16, j17, j18, j19, j20, j21, j22, j23, ↓j25, ↓j27, ↓j29, ↓j30, j33, ↓j38, ↓j39, ↓j41, ↓j44, ↓j54, ↓j57, ↓j58, ↓j61, ↓j78, j85, ↓j124, j125, j127, j143, ↓j145, ↓j146, ↓j153, partsAV, AV.proj, AV.offOf, AV.upd, AV.size, AV.layable, j163, j164, j170, j171, j173, j174, ↓reduceIte, Nat.reduceAdd, Nat.reduceEqDiff, j182, j214, j218, j219, j240, j274, j376, j397, j429, hz, hl2]
          refine AWp.loopR (Z := Z) mixed hZ (by kernel_rfl) (fun n s => ∃ k, k + n = M.length ∧ s = d3St ks M i p now k) (n0 := M.length) (s0 := d3St ks M i p now 0) ?_ ⟨0, by omega, rfl⟩ ?_ rfl
          · exact Wk.sub (by simp -dsimp -implicitDefEqProofs only [↓j25, ↓j27, j167, j179, ↓reduceIte, Nat.reduceEqDiff, j182, j183, j184, j202, j203, j204, j205, j209, j223, d3T, d2T, d2H, wasL, List.foldl_nil] <;> simp)
          rintro m s ⟨k, hk, rfl⟩
          refine ⟨rfl, ?_⟩
          have hwl := wasL_len hM k p
          rcases Nat.lt_or_ge k M.length with hkt | hkg
          · have g1 : decide ((k : Int) < (M.length : Int)) = true := decide_eq_true (by omega)
            obtain ⟨u, hu⟩ := list_get (xs := M) (i := k) hkt
            have z1 := uk.sizeL_take (k := k) (by simp; omega)
            have z2 := ub.sizeL_take (k := k) (by simp; omega)
            have hkt2 : (k : Int) < (M.length : Int) := by omega
            have hw2 : IntKind.i64.wrap ((k : Int) + 1) = ((k + 1 : Nat) : Int) := by rw [wrap_i64 (by omega) (by omega)]; omega
            have hsn := wasL_snoc (p := p) hu
            have hul := (hM.keys u (List.mem_of_getElem? hu)).2.1
            obtain ⟨W, hWe⟩ : ∃ W, wasL (M.take k) p = W := ⟨_, rfl⟩
            rw [hWe] at hwl hsn
            by_cases hup : u.1 = p
            · have g2 : ((u.1 : Int) == (p : Int)) = true := by rw [beq_iff_eq]; omega
              rw [if_pos hup] at hsn
              simp -dsimp -implicitDefEqProofs only [↓j0, ↓j1, ↓j7, ↓j9, ↓j12, ↓j13, ↓j14, ↓j15, j17, j18, j19, j20, j21, j22, j23, ↓j25, ↓j27, ↓j29, ↓j30, j33, ↓j38, ↓j39, ↓j43, ↓j44, ↓j46, ↓j48, ↓j76, ↓j78, ↓j89, ↓j93, j129, j130, ↓j145, ↓j146, ↓j147, ↓j149, ↓j153, j154, j157, j159, AV.proj, AV.offOf, AV.upd, AV.size, AV.layable, j170, j171, j177, ↓reduceIte, Nat.reduceEqDiff, j182, j185, j191, j196, j197, j206, j207, j208, j240, j267, j274, j275, j303, j307, d3St, d3T, d2T, d2H, hWe, hu, z1, z2, hkt2, g2, hwl, hul]
              exact ⟨m - 1, d3St ks M i p now (k + 1), by omega, ⟨k + 1, by omega, rfl⟩, Wk.sub (by simp -dsimp -implicitDefEqProofs only [↓j25, ↓j27, ↓reduceIte, Nat.reduceEqDiff, j182, j202, j203, j204, j205, j223, d3T, d2T, d2H, hsn, hw2] <;> simp)⟩
            · have g2 : ((u.1 : Int) == (p : Int)) = false := by rw [beq_eq_false_iff_ne]; omega
              rw [if_neg hup] at hsn
              simp -dsimp -implicitDefEqProofs only [↓j0, ↓j1, ↓j7, ↓j9, ↓j12, ↓j13, ↓j14, ↓j15, j17, j18, j20, ↓j25, ↓j27, ↓j29, ↓j30, j33, ↓j38, ↓j39, ↓j43, ↓j46, ↓j48, ↓j76, ↓j89, ↓j93, j130, ↓j145, ↓j146, ↓j147, ↓j148, ↓j149, ↓j153, j154, j157, j159, AV.proj, AV.offOf, j171, j177, ↓reduceIte, Nat.reduceEqDiff, j182, j185, j191, j196, j197, j206, j207, j208, j267, j303, d3St, d3T, d2T, d2H, hWe, hu, z1, hkt2, g2]
              exact ⟨m - 1, d3St ks M i p now (k + 1), by omega, ⟨k + 1, by omega, rfl⟩, Wk.sub (by simp -dsimp -implicitDefEqProofs only [↓j25, ↓j27, ↓reduceIte, Nat.reduceEqDiff, j182, j202, j203, j204, j205, j223, d3T, d2T, d2H, hsn, hw2] <;> simp)⟩
          · have hk2 : k = M.length := by omega
            subst hk2
            have g1 : decide ((M.length : Int) < (M.length : Int)) = false := decide_eq_false (by omega)
            have htk : M.take M.length = M := List.take_of_length_le (Nat.le_refl _)
            have hce := cellsEq_bytes (l := now) (k := now) rfl
            have hkb := kinds_bytes hl2
            simp only [beq_self_eq_true] at hce
            have n00 : ((0 : Int) != 0) = false := rfl
            simp -dsimp -implicitDefEqProofs only [↓j0, ↓j1, ↓j4, ↓j7, ↓j8, ↓j11, ↓j12, ↓j13, ↓j15, j17, j18, j20, j24, ↓j25, ↓j27, ↓j29, ↓j38, ↓j43, ↓j48, ↓j53, ↓j76, ↓j89, j129, ↓j145, ↓j146, ↓j148, ↓j149, ↓j153, j159, AV.proj, AV.offOf, j170, j171, j172, j174, ↓reduceIte, Nat.reduceEqDiff, j182, j185, j240, j274, j275, d3St, d3T, d2T, d2H, htk, hwg, g1, hl1]
            refine CallTo.gen (args := [.ptr 2 0 [], .int .u16 p]) (stH M) (stH M) 104 rfl fok14 (by simp -dsimp -implicitDefEqProofs only [↓j25, ↓j29, j173, j174, ↓reduceIte, Nat.reduceEqDiff]) (notup2 (fun vs h => by cases h) fun vs h => by cases h) hdl (SubH.of (by simp -dsimp -implicitDefEqProofs only [↓j27, ↓reduceIte, Nat.reduceEqDiff, j182, j204, j205])) ⟨by simp, put_st⟩ ?_
            simp -dsimp -implicitDefEqProofs only [↓j4, j17, j18, j20, j21, j22, j23, j24, ↓j53, j170, j171, j173, j174, ↓reduceIte, Nat.reduceEqDiff]
            refine CallTo.pure (args := [arrAV base, .str ⟨D.toArray⟩]) rfl fok17 (by simp -dsimp -implicitDefEqProofs only [↓j25, ↓j29, j173, j174, ↓reduceIte, Nat.reduceEqDiff]) (fun x hx => (args_dapp x hx).2) hap ?_
            simp -dsimp -implicitDefEqProofs only [↓j3, ↓j4, j17, j18, j19, j20, j21, j22, j23, j24, ↓j25, ↓j27, ↓j29, ↓j38, ↓j39, ↓j41, ↓j44, ↓j57, ↓j78, j85, ↓j145, ↓j146, ↓j153, AV.proj, AV.offOf, AV.upd, AV.size, AV.layable, j163, j164, j170, j171, j172, j173, j174, ↓reduceIte, Nat.reduceAdd, Nat.reduceEqDiff, j182, j240, j243, j274, j376, hl2]
            refine ⟨by kernel_rfl, ?_⟩
            by_cases hi0 : i = 0
            · have g3 : decide ((0 : Int) < (i : Int)) = false := decide_eq_false (by omega)
              simp -dsimp -implicitDefEqProofs only [↓j1, ↓j2, ↓j7, ↓j12, ↓j15, j17, j18, j20, ↓j25, ↓j27, ↓j29, ↓j30, j32, j33, ↓j38, ↓j40, ↓j43, ↓j48, ↓j55, ↓j76, j83, j84, ↓j89, ↓j91, j129, ↓j145, ↓j146, ↓j148, ↓j151, ↓j153, j158, AV.proj, AV.offOf, j163, j164, j171, j175, ↓reduceIte, Nat.reduceEqDiff, j182, j184, j185, j193, j195, j212, j240, j241, j274, j275, j277, j278, hl2, n00, hce]
              refine ⟨hkb, ?_⟩
              simp -dsimp -implicitDefEqProofs only [↓j0, ↓j1, ↓j2, ↓j7, ↓j9, ↓j13, ↓j15, j17, j18, j20, ↓j25, ↓j29, ↓j30, j32, j33, ↓j38, ↓j40, ↓j48, j82, j83, ↓j89, ↓j145, ↓j146, ↓j148, ↓j149, ↓j150, ↓j151, j154, j161, j163, j164, j171, j175, ↓reduceIte, Nat.reduceEqDiff, j185, j193, j195, g3]
              exact ⟨n - 1, d2St ks M (i + 1), by omega, ⟨i + 1, by omega, rfl⟩, Wk.trans (Wk.mk (s' := ⟨146, d2T ks M (i + 1), d2H M, 105⟩) (SubT.spec (by simp -dsimp -implicitDefEqProofs only [↓j25, ↓reduceIte, Nat.reduceEqDiff, j182, j202, j203, d2T, hw] <;> simp)) (SubH.spec (by simp -dsimp -implicitDefEqProofs only [↓j27, ↓reduceIte, Nat.reduceEqDiff, j182, j204, j205, d2H] <;> simp)) (Nat.le_refl _) rfl) (Wk.gc (by decide) d2_onT.onT d2_onH.onH)⟩
            · have g3 : decide ((0 : Int) < (i : Int)) = true := decide_eq_true (by omega)
              obtain ⟨q, hq⟩ := list_get (xs := ks) (i := i - 1) (by omega)
              have hqp := hlt0 (i - 1) q p hq (by rw [← hpi]; congr 1; omega)
              have g4 : decide ((p : Int) ≤ (q : Int)) = false := decide_eq_false (by omega)
              have w3 : IntKind.i64.wrap ((i : Int) - 1) = ((i - 1 : Nat) : Int) := by rw [wrap_i64 (by omega) (by omega)]; omega
              have z3 := (unif_keys ks).sizeL_take (k := i - 1) (by simp; omega)
              have l3 : ((i - 1 : Nat) : Int) < (ks.length : Int) := by omega
              simp -dsimp -implicitDefEqProofs only [↓j1, ↓j2, ↓j7, ↓j12, ↓j15, j17, j18, j20, ↓j25, ↓j27, ↓j29, ↓j30, j32, j33, ↓j38, ↓j40, ↓j43, ↓j48, ↓j55, ↓j76, j83, j84, ↓j89, ↓j91, j129, ↓j145, ↓j146, ↓j148, ↓j151, ↓j153, j158, AV.proj, AV.offOf, j163, j164, j171, j175, ↓reduceIte, Nat.reduceEqDiff, j182, j184, j185, j193, j195, j212, j240, j241, j274, j275, j277, j278, hl2, n00, hce]
              refine ⟨hkb, ?_⟩
              simp -dsimp -implicitDefEqProofs only [↓j0, ↓j1, ↓j2, ↓j7, ↓j9, ↓j13, ↓j15, j17, j18, j20, ↓j25, ↓j29, ↓j30, j32, j33, ↓j38, ↓j40, ↓j43, ↓j46, ↓j48, ↓j77, j83, ↓j89, ↓j92, j130, ↓j145, ↓j146, ↓j147, ↓j148, ↓j149, ↓j150, ↓j151, j154, j155, j161, j162, AV.proj, AV.offOf, j163, j164, j171, j175, j177, ↓reduceIte, Nat.reduceEqDiff, j182, j185, j193, j195, j197, j206, j207, j208, j267, j303, g3, g4, w3, hq, z3, l3]
              exact ⟨n - 1, d2St ks M (i + 1), by omega, ⟨i + 1, by omega, rfl⟩, Wk.trans (Wk.mk (s' := ⟨146, d2T ks M (i + 1), d2H M, 105⟩) (SubT.spec (by simp -dsimp -implicitDefEqProofs only [↓j25, ↓reduceIte, Nat.reduceEqDiff, j182, j202, j203, d2T, hw] <;> simp)) (SubH.spec (by simp -dsimp -implicitDefEqProofs only [↓j27, ↓reduceIte, Nat.reduceEqDiff, j182, j204, j205, d2H] <;> simp)) (Nat.le_refl _) rfl) (Wk.gc (by decide) d2_onT.onT d2_onH.onH)⟩
        · have hi2 : i = ks.length := by omega
          subst hi2
          have f1 : decide ((ks.length : Int) < (ks.length : Int)) = false := decide_eq_false (by omega)
          have f2 : ((ks.length : Int) == (M.length : Int)) = true := by rw [beq_iff_eq]; omega
          have f3 : decide ((ks.length : Int) ≤ 4) = true := decide_eq_true (by omega)
          simp -dsimp -implicitDefEqProofs only [↓j0, ↓j1, ↓j2, ↓j7, ↓j11, ↓j12, ↓j13, ↓j15, j17, j18, j20, ↓j25, ↓j29, ↓j30, j32, j33, ↓j38, ↓j40, ↓j48, ↓j53, ↓j58, ↓j61, ↓j62, j83, ↓j89, j142, j143, ↓j145, ↓j146, ↓j147, ↓j148, ↓j149, ↓j150, j157, j159, j160, j163, j164, j171, j175, ↓reduceIte, Nat.reduceEqDiff, j185, j429, j430, d2St, d2T, d2H, f1, f2, f3]
          refine CallTo.pure (args := []) rfl fok11 (by simp -dsimp -implicitDefEqProofs only [j174]) nil0 awake_spec ?_
          simp -dsimp -implicitDefEqProofs only [↓j0, ↓j1, ↓j10, j17, j18, j20, ↓j25, ↓j29, ↓j30, j32, ↓j39, ↓j40, j83, ↓j145, j171, ↓reduceIte, Nat.reduceEqDiff]
          exact fin _ _ _ rfl
    · have e1 : decide ((i : Int) < (ops.length : Int)) = false := decide_eq_false (by omega)
      cases hM0 : M with
      | nil =>
        subst hM0
        have hpg := pages_spec [] hM
        have hk0 : keysIn ([] : List KV) = [] := List.length_eq_zero_iff.1 (by rw [keysIn_len]; rfl)
        rw [hk0] at hpg
        have hpg : ACall Try.prog 9 [.ptr 2 0 []] (stH []) (.vsl [] 0) (stH []) := hpg
        simp -dsimp -implicitDefEqProofs only [↓j0, ↓j1, ↓j2, ↓j7, ↓j11, ↓j12, ↓j13, ↓j15, j17, j18, j20, ↓j25, ↓j29, ↓j30, j32, ↓j38, ↓j40, ↓j48, ↓j53, ↓j58, ↓j62, j82, ↓j89, j142, ↓j145, ↓j146, ↓j148, ↓j149, ↓j150, j159, j163, j164, j171, j175, reduceCtorEq, ↓reduceIte, Nat.reduceEqDiff, j185, j422, dlSt, dlT, dlH, lsV_nil, lsB_nil, e1]
        refine CallTo.gen (args := [.ptr 2 0 []]) (stH []) (stH []) 102 rfl fok9 (by simp -dsimp -implicitDefEqProofs only [↓j25, ↓j29, j173, j174, ↓reduceIte]) (notup1 fun vs h => by cases h) hpg (SubH.of (by simp -dsimp -implicitDefEqProofs only [↓j27, ↓reduceIte, Nat.reduceEqDiff, j182, j204, j205])) ⟨by simp, put_st⟩ ?_
        simp -dsimp -implicitDefEqProofs only [↓j0, ↓j1, ↓j7, ↓j12, ↓j14, ↓j15, ↓j16, j17, j18, j20, j21, j22, j23, ↓j25, ↓j29, ↓j30, j33, ↓j38, ↓j39, ↓j58, ↓j62, j142, ↓j145, j171, j172, j173, j174, ↓reduceIte, Nat.reduceEqDiff, j429]
        refine AWp.loopR (Z := Z) mixed hZ (by kernel_rfl) (fun n s => s = ⟨146, [(72, .int .i64 0), (71, .int .i64 0), (70, .vsl [] 0), (10, .vsl [] 0), (5, .nilsl), (4, .nilsl), (3, .ptr 2 0 []), (2, .bool false)], [(2, stC), (1, mapB [])], 102⟩) (n0 := 0) (s0 := ⟨146, [(72, .int .i64 0), (71, .int .i64 0), (70, .vsl [] 0), (10, .vsl [] 0), (5, .nilsl), (4, .nilsl), (3, .ptr 2 0 []), (2, .bool false)], [(2, stC), (1, mapB [])], 102⟩) ?_ rfl ?_ rfl
        · exact Wk.sub (by simp -dsimp -implicitDefEqProofs only [↓j25, ↓j27, j179, reduceCtorEq, ↓reduceIte, Nat.reduceEqDiff, j182, j183, j184, j202, j203, j204, j205, j209, j223] <;> simp)
        rintro n s rfl
        refine ⟨rfl, ?_⟩
        have f1 : decide ((0 : Int) < 0) = false := rfl
        have f2 : (((0 : Nat) : Int) == 0) = true := rfl
        have f3 : decide (((0 : Nat) : Int) ≤ 4) = true := rfl
        have f4 : ((0 : Int) == 0) = true := rfl
        have f5 : decide ((0 : Int) ≤ 4) = true := rfl
        have f6 : (((0 : Nat) : Int) == ((0 : Nat) : Int)) = true := rfl
        simp -dsimp -implicitDefEqProofs only [↓j0, ↓j1, ↓j2, ↓j7, ↓j11, ↓j12, ↓j13, ↓j15, j17, j18, j20, ↓j25, ↓j29, ↓j30, j32, j33, ↓j38, ↓j40, ↓j48, ↓j53, ↓j58, ↓j60, ↓j62, j83, ↓j89, j142, j144, ↓j145, ↓j146, ↓j147, ↓j148, ↓j149, ↓j150, j157, j159, j160, j163, j164, j171, j175, ↓reduceIte, Nat.reduceEqDiff, Int.reduceLT, j185, j192, j429, j430, f3, f6]
        refine CallTo.pure (args := []) rfl fok11 (by simp -dsimp -implicitDefEqProofs only [j174]) nil0 awake_spec ?_
        simp -dsimp -implicitDefEqProofs only [↓j0, ↓j1, ↓j10, j17, j18, j20, ↓j25, ↓j29, ↓j30, j32, ↓j39, ↓j40, j83, ↓j145, j171, ↓reduceIte, Nat.reduceEqDiff]
        exact fin _ _ _ rfl
      | cons m0 m1 =>
        rw [← hM0]
        have hp : 0 < M.length := by rw [hM0]; simp
        clear hM0
        have hpg := pages_spec M hM
        have hkl := keysIn_len M
        have hkm : ∀ k, k ∈ keysIn M → k ∈ M.map (·.1) := fun k h => keysIn_mem.1 h
        have hlt0 : ∀ j q p, (keysIn M)[j]? = some q → (keysIn M)[j + 1]? = some p → q < p := fun j q p => keys_lt hM
        obtain ⟨ks, hks⟩ : ∃ ks, keysIn M = ks := ⟨_, rfl⟩
        rw [hks] at hpg hkl hkm hlt0
        simp -dsimp -implicitDefEqProofs only [↓j0, ↓j1, ↓j2, ↓j7, ↓j11, ↓j12, ↓j13, ↓j15, j17, j18, j20, ↓j25, ↓j29, ↓j30, j32, ↓j38, ↓j40, ↓j48, ↓j53, ↓j58, ↓j62, j82, ↓j89, j142, ↓j145, ↓j146, ↓j148, ↓j149, ↓j150, j159, j163, j164, j171, j175, reduceCtorEq, ↓reduceIte, Nat.reduceEqDiff, j185, j422, dlSt, dlT, dlH, lsV_ne hp, lsB_ne hp, e1]
        refine CallTo.gen (args := [.ptr 2 0 []]) (stH M) (stH M) 102 rfl fok9 (by simp -dsimp -implicitDefEqProofs only [↓j25, ↓j29, j173, j174, ↓reduceIte]) (notup1 fun vs h => by cases h) hpg (SubH.of (by simp -dsimp -implicitDefEqProofs only [↓j27, ↓reduceIte, Nat.reduceEqDiff, j182, j204, j205])) ⟨by simp, put_st⟩ ?_
        simp -dsimp -implicitDefEqProofs only [↓j0, ↓j1, ↓j7, ↓j12, ↓j14, ↓j15, ↓j16, j17, j18, j20, j21, j22, j23, ↓j25, ↓j29, ↓j30, j33, ↓j38, ↓j39, ↓j58, ↓j62, j142, ↓j145, j170, j171, j173, j174, ↓reduceIte, Nat.reduceEqDiff, j429]
        refine AWp.loopR (Z := Z) mixed hZ (by kernel_rfl) (fun n s => ∃ i, i + n = ks.length ∧ s = d2St ks M i) (n0 := ks.length) (s0 := d2St ks M 0) ?_ ⟨0, by omega, rfl⟩ ?_ rfl
        · exact Wk.sub (by simp -dsimp -implicitDefEqProofs only [↓j25, ↓j27, j179, reduceCtorEq, ↓reduceIte, Nat.reduceEqDiff, j182, j183, j184, j202, j203, j204, j205, j209, j223, d2T, d2H] <;> simp)
        rintro n s ⟨i, hi, rfl⟩
        refine ⟨rfl, ?_⟩
        rcases Nat.lt_or_ge i ks.length with hlt | hge
        · have e1 : decide ((i : Int) < (ks.length : Int)) = true := decide_eq_true (by omega)
          obtain ⟨p, hpi⟩ := list_get (xs := ks) (i := i) hlt
          have hsz := (unif_keys ks).sizeL_take (k := i) (by simp; omega)
          have hlt2 : (i : Int) < (ks.length : Int) := by omega
          have hw : IntKind.i64.wrap ((i : Int) + 1) = ((i + 1 : Nat) : Int) := by rw [wrap_i64 (by omega) (by omega)]; omega
          have hpm := hkm p (List.mem_of_getElem? hpi)
          obtain ⟨e, hge⟩ : ∃ e, aGet M p = some e := by
            cases h : aGet M p with
            | none => exact absurd hpm (aGet_none.1 h)
            | some e => exact ⟨e, rfl⟩
          have hke := hM.keys _ (aGet_mem hge)
          have hko : kOk p := hke.1
          have hrd := read_spec M hM p hko
          have fR : readP M p = (e.2, true) := by unfold readP; rw [hge]
          rw [fR] at hrd
          have hwg : wasL M p = e.1 := wasL_get hM.nodup hge
          have hdl := delta_spec M hM p hko
          have fD : deltaP M p = makeP e.1 e.2 := by unfold deltaP; rw [hge]; rfl
          rw [fD] at hdl
          have hap := dapply_spec e.1 (makeP e.1 e.2) hke.2.1 (Nat.le_trans (makeP_len hke.2.2) (by decide))
          rw [apply_make hke.2.1 hke.2.2] at hap
          have hl1 : e.1.length = 64 := hke.2.1
          have hl2 : e.2.length = 64 := hke.2.2
          obtain ⟨base, hbe⟩ : ∃ b, e.1 = b := ⟨_, rfl⟩
          obtain ⟨now, hne⟩ : ∃ b, e.2 = b := ⟨_, rfl⟩
          obtain ⟨D, hDe⟩ : ∃ D, makeP e.1 e.2 = D := ⟨_, rfl⟩
          rw [hDe] at hdl hap
          rw [hbe] at hwg hl1 hap
          rw [hne] at hrd hl2 hap
          have hrd : ACall Try.prog 10 [.ptr 2 0 [], .int .u16 p] (stH M) (.tuple [arrAV now, .bool true]) (stH M) := hrd
          have hap : ACall Try.prog 17 [arrAV base, .str ⟨D.toArray⟩] [] (.tuple [arrAV now, .int .i64 0]) [] := hap
          have uk := unif_ks M
          have ub := unif_bs hM
          simp -dsimp -implicitDefEqProofs only [↓j0, ↓j1, ↓j7, ↓j9, ↓j12, ↓j13, ↓j14, ↓j15, j17, j18, j20, ↓j25, ↓j29, ↓j38, ↓j39, ↓j43, ↓j46, ↓j48, ↓j53, ↓j77, ↓j89, ↓j92, j130, ↓j145, ↓j146, ↓j147, ↓j149, j159, AV.proj, AV.offOf, j171, j177, ↓reduceIte, Nat.reduceEqDiff, j182, j185, j191, j197, j206, j207, j208, j267, j303, d2St, d2T, d2H, hpi, hsz, hlt2]
          refine CallTo.gen (args := [.ptr 2 0 [], .int .u16 p]) (stH M) (stH M) 102 rfl fok10 (by simp -dsimp -implicitDefEqProofs only [↓j25, ↓j29, j173, j174, ↓reduceIte, Nat.reduceEqDiff]) (notup2 (fun vs h => by cases h) fun vs h => by cases h) hrd (SubH.of (by simp -dsimp -implicitDefEqProofs only [↓j27, ↓reduceIte, Nat.reduceEqDiff, j182, j204, j205])) ⟨by simp, put_st⟩ ?_
          simp -dsimp -implicitDefEqProofs only [↓j0, ↓j1, ↓j7, ↓j12, ↓j14, ↓j15, ↓j16, j17, j18, j19, j20, j21, j22, j23, ↓j25, ↓j27, ↓j29, ↓j30, j33, ↓j38, ↓j39, ↓j41, ↓j44, ↓j54, ↓j57, ↓j58, ↓j61, ↓j78, j85, ↓j124, j125, j127, j143, ↓j145, ↓j146, ↓j153, partsAV, AV.proj, AV.offOf, AV.upd, AV.size, AV.layable, j163, j164, j170, j171, j173, j174, ↓reduceIte, Nat.reduceAdd, Nat.reduceEqDiff, j182, j214, j218, j219, j240, j274, j376, j397, j429, hz, hl2]
          refine AWp.loopR (Z := Z) mixed hZ (by kernel_rfl) (fun n s => ∃ k, k + n = M.length ∧ s = d3St ks M i p now k) (n0 := M.length) (s0 := d3St ks M i p now 0) ?_ ⟨0, by omega, rfl⟩ ?_ rfl
          · exact Wk.sub (by simp -dsimp -implicitDefEqProofs only [↓j25, ↓j27, j167, j179, ↓reduceIte, Nat.reduceEqDiff, j182, j183, j184, j202, j203, j204, j205, j209, j223, d3T, d2T, d2H, wasL, List.foldl_nil] <;> simp)
          rintro m s ⟨k, hk, rfl⟩
          refine ⟨rfl, ?_⟩
          have hwl := wasL_len hM k p
          rcases Nat.lt_or_ge k M.length with hkt | hkg
          · have g1 : decide ((k : Int) < (M.length : Int)) = true := decide_eq_true (by omega)
            obtain ⟨u, hu⟩ := list_get (xs := M) (i := k) hkt
            have z1 := uk.sizeL_take (k := k) (by simp; omega)
            have z2 := ub.sizeL_take (k := k) (by simp; omega)
            have hkt2 : (k : Int) < (M.length : Int) := by omega
            have hw2 : IntKind.i64.wrap ((k : Int) + 1) = ((k + 1 : Nat) : Int) := by rw [wrap_i64 (by omega) (by omega)]; omega
            have hsn := wasL_snoc (p := p) hu
            have hul := (hM.keys u (List.mem_of_getElem? hu)).2.1
            obtain ⟨W, hWe⟩ : ∃ W, wasL (M.take k) p = W := ⟨_, rfl⟩
            rw [hWe] at hwl hsn
            by_cases hup : u.1 = p
            · have g2 : ((u.1 : Int) == (p : Int)) = true := by rw [beq_iff_eq]; omega
              rw [if_pos hup] at hsn
              simp -dsimp -implicitDefEqProofs only [↓j0, ↓j1, ↓j7, ↓j9, ↓j12, ↓j13, ↓j14, ↓j15, j17, j18, j19, j20, j21, j22, j23, ↓j25, ↓j27, ↓j29, ↓j30, j33, ↓j38, ↓j39, ↓j43, ↓j44, ↓j46, ↓j48, ↓j76, ↓j78, ↓j89, ↓j93, j129, j130, ↓j145, ↓j146, ↓j147, ↓j149, ↓j153, j154, j157, j159, AV.proj, AV.offOf, AV.upd, AV.size, AV.layable, j170, j171, j177, ↓reduceIte, Nat.reduceEqDiff, j182, j185, j191, j196, j197, j206, j207, j208, j240, j267, j274, j275, j303, j307, d3St, d3T, d2T, d2H, hWe, hu, z1, z2, hkt2, g2, hwl, hul]
              exact ⟨m - 1, d3St ks M i p now (k + 1), by omega, ⟨k + 1, by omega, rfl⟩, Wk.sub (by simp -dsimp -implicitDefEqProofs only [↓j25, ↓j27, ↓reduceIte, Nat.reduceEqDiff, j182, j202, j203, j204, j205, j223, d3T, d2T, d2H, hsn, hw2] <;> simp)⟩
            · have g2 : ((u.1 : Int) == (p : Int)) = false := by rw [beq_eq_false_iff_ne]; omega
              rw [if_neg hup] at hsn
              simp -dsimp -implicitDefEqProofs only [↓j0, ↓j1, ↓j7, ↓j9, ↓j12, ↓j13, ↓j14, ↓j15, j17, j18, j20, ↓j25, ↓j27, ↓j29, ↓j30, j33, ↓j38, ↓j39, ↓j43, ↓j46, ↓j48, ↓j76, ↓j89, ↓j93, j130, ↓j145, ↓j146, ↓j147, ↓j148, ↓j149, ↓j153, j154, j157, j159, AV.proj, AV.offOf, j171, j177, ↓reduceIte, Nat.reduceEqDiff, j182, j185, j191, j196, j197, j206, j207, j208, j267, j303, d3St, d3T, d2T, d2H, hWe, hu, z1, hkt2, g2]
              exact ⟨m - 1, d3St ks M i p now (k + 1), by omega, ⟨k + 1, by omega, rfl⟩, Wk.sub (by simp -dsimp -implicitDefEqProofs only [↓j25, ↓j27, ↓reduceIte, Nat.reduceEqDiff, j182, j202, j203, j204, j205, j223, d3T, d2T, d2H, hsn, hw2] <;> simp)⟩
          · have hk2 : k = M.length := by omega
            subst hk2
            have g1 : decide ((M.length : Int) < (M.length : Int)) = false := decide_eq_false (by omega)
            have htk : M.take M.length = M := List.take_of_length_le (Nat.le_refl _)
            have hce := cellsEq_bytes (l := now) (k := now) rfl
            have hkb := kinds_bytes hl2
            simp only [beq_self_eq_true] at hce
            have n00 : ((0 : Int) != 0) = false := rfl
            simp -dsimp -implicitDefEqProofs only [↓j0, ↓j1, ↓j4, ↓j7, ↓j8, ↓j11, ↓j12, ↓j13, ↓j15, j17, j18, j20, j24, ↓j25, ↓j27, ↓j29, ↓j38, ↓j43, ↓j48, ↓j53, ↓j76, ↓j89, j129, ↓j145, ↓j146, ↓j148, ↓j149, ↓j153, j159, AV.proj, AV.offOf, j170, j171, j172, j174, ↓reduceIte, Nat.reduceEqDiff, j182, j185, j240, j274, j275, d3St, d3T, d2T, d2H, htk, hwg, g1, hl1]
            refine CallTo.gen (args := [.ptr 2 0 [], .int .u16 p]) (stH M) (stH M) 104 rfl fok14 (by simp -dsimp -implicitDefEqProofs only [↓j25, ↓j29, j173, j174, ↓reduceIte, Nat.reduceEqDiff]) (notup2 (fun vs h => by cases h) fun vs h => by cases h) hdl (SubH.of (by simp -dsimp -implicitDefEqProofs only [↓j27, ↓reduceIte, Nat.reduceEqDiff, j182, j204, j205])) ⟨by simp, put_st⟩ ?_
            simp -dsimp -implicitDefEqProofs only [↓j4, j17, j18, j20, j21, j22, j23, j24, ↓j53, j170, j171, j173, j174, ↓reduceIte, Nat.reduceEqDiff]
            refine CallTo.pure (args := [arrAV base, .str ⟨D.toArray⟩]) rfl fok17 (by simp -dsimp -implicitDefEqProofs only [↓j25, ↓j29, j173, j174, ↓reduceIte, Nat.reduceEqDiff]) (fun x hx => (args_dapp x hx).2) hap ?_
            simp -dsimp -implicitDefEqProofs only [↓j3, ↓j4, j17, j18, j19, j20, j21, j22, j23, j24, ↓j25, ↓j27, ↓j29, ↓j38, ↓j39, ↓j41, ↓j44, ↓j57, ↓j78, j85, ↓j145, ↓j146, ↓j153, AV.proj, AV.offOf, AV.upd, AV.size, AV.layable, j163, j164, j170, j171, j172, j173, j174, ↓reduceIte, Nat.reduceAdd, Nat.reduceEqDiff, j182, j240, j243, j274, j376, hl2]
            refine ⟨by kernel_rfl, ?_⟩
            by_cases hi0 : i = 0
            · have g3 : decide ((0 : Int) < (i : Int)) = false := decide_eq_false (by omega)
              simp -dsimp -implicitDefEqProofs only [↓j1, ↓j2, ↓j7, ↓j12, ↓j15, j17, j18, j20, ↓j25, ↓j27, ↓j29, ↓j30, j32, j33, ↓j38, ↓j40, ↓j43, ↓j48, ↓j55, ↓j76, j83, j84, ↓j89, ↓j91, j129, ↓j145, ↓j146, ↓j148, ↓j151, ↓j153, j158, AV.proj, AV.offOf, j163, j164, j171, j175, ↓reduceIte, Nat.reduceEqDiff, j182, j184, j185, j193, j195, j212, j240, j241, j274, j275, j277, j278, hl2, n00, hce]
              refine ⟨hkb, ?_⟩
              simp -dsimp -implicitDefEqProofs only [↓j0, ↓j1, ↓j2, ↓j7, ↓j9, ↓j13, ↓j15, j17, j18, j20, ↓j25, ↓j29, ↓j30, j32, j33, ↓j38, ↓j40, ↓j48, j82, j83, ↓j89, ↓j145, ↓j146, ↓j148, ↓j149, ↓j150, ↓j151, j154, j161, j163, j164, j171, j175, ↓reduceIte, Nat.reduceEqDiff, j185, j193, j195, g3]
              exact ⟨n - 1, d2St ks M (i + 1), by omega, ⟨i + 1, by omega, rfl⟩, Wk.trans (Wk.mk (s' := ⟨146, d2T ks M (i + 1), d2H M, 105⟩) (SubT.spec (by simp -dsimp -implicitDefEqProofs only [↓j25, ↓reduceIte, Nat.reduceEqDiff, j182, j202, j203, d2T, hw] <;> simp)) (SubH.spec (by simp -dsimp -implicitDefEqProofs only [↓j27, ↓reduceIte, Nat.reduceEqDiff, j182, j204, j205, d2H] <;> simp)) (Nat.le_refl _) rfl) (Wk.gc (by decide) d2_onT.onT d2_onH.onH)⟩
            · have g3 : decide ((0 : Int) < (i : Int)) = true := decide_eq_true (by omega)
              obtain ⟨q, hq⟩ := list_get (xs := ks) (i := i - 1) (by omega)
              have hqp := hlt0 (i - 1) q p hq (by rw [← hpi]; congr 1; omega)
              have g4 : decide ((p : Int) ≤ (q : Int)) = false := decide_eq_false (by omega)
              have w3 : IntKind.i64.wrap ((i : Int) - 1) = ((i - 1 : Nat) : Int) := by rw [wrap_i64 (by omega) (by omega)]; omega
              have z3 := (unif_keys ks).sizeL_take (k := i - 1) (by simp; omega)
              have l3 : ((i - 1 : Nat) : Int) < (ks.length : Int) := by omega
              simp -dsimp -implicitDefEqProofs only [↓j1, ↓j2, ↓j7, ↓j12, ↓j15, j17, j18, j20, ↓j25, ↓j27, ↓j29, ↓j30, j32, j33, ↓j38, ↓j40, ↓j43, ↓j48, ↓j55, ↓j76, j83, j84, ↓j89, ↓j91, j129, ↓j145, ↓j146, ↓j148, ↓j151, ↓j153, j158, AV.proj, AV.offOf, j163, j164, j171, j175, ↓reduceIte, Nat.reduceEqDiff, j182, j184, j185, j193, j195, j212, j240, j241, j274, j275, j277, j278, hl2, n00, hce]
              refine ⟨hkb, ?_⟩
              simp -dsimp -implicitDefEqProofs only [↓j0, ↓j1, ↓j2, ↓j7, ↓j9, ↓j13, ↓j15, j17, j18, j20, ↓j25, ↓j29, ↓j30, j32, j33, ↓j38, ↓j40, ↓j43, ↓j46, ↓j48, ↓j77, j83, ↓j89, ↓j92, j130, ↓j145, ↓j146, ↓j147, ↓j148, ↓j149, ↓j150, ↓j151, j154, j155, j161, j162, AV.proj, AV.offOf, j163, j164, j171, j175, j177, ↓reduceIte, Nat.reduceEqDiff, j182, j185, j193, j195, j197, j206, j207, j208, j267, j303, g3, g4, w3, hq, z3, l3]
              exact ⟨n - 1, d2St ks M (i + 1), by omega, ⟨i + 1, by omega, rfl⟩, Wk.trans (Wk.mk (s' := ⟨146, d2T ks M (i + 1), d2H M, 105⟩) (SubT.spec (by simp -dsimp -implicitDefEqProofs only [↓j25, ↓reduceIte, Nat.reduceEqDiff, j182, j202, j203, d2T, hw] <;> simp)) (SubH.spec (by simp -dsimp -implicitDefEqProofs only [↓j27, ↓reduceIte, Nat.reduceEqDiff, j182, j204, j205, d2H] <;> simp)) (Nat.le_refl _) rfl) (Wk.gc (by decide) d2_onT.onT d2_onH.onH)⟩
        · have hi2 : i = ks.length := by omega
          subst hi2
          have f1 : decide ((ks.length : Int) < (ks.length : Int)) = false := decide_eq_false (by omega)
          have f2 : ((ks.length : Int) == (M.length : Int)) = true := by rw [beq_iff_eq]; omega
          have f3 : decide ((ks.length : Int) ≤ 4) = true := decide_eq_true (by omega)
          simp -dsimp -implicitDefEqProofs only [↓j0, ↓j1, ↓j2, ↓j7, ↓j11, ↓j12, ↓j13, ↓j15, j17, j18, j20, ↓j25, ↓j29, ↓j30, j32, j33, ↓j38, ↓j40, ↓j48, ↓j53, ↓j58, ↓j61, ↓j62, j83, ↓j89, j142, j143, ↓j145, ↓j146, ↓j147, ↓j148, ↓j149, ↓j150, j157, j159, j160, j163, j164, j171, j175, ↓reduceIte, Nat.reduceEqDiff, j185, j429, j430, d2St, d2T, d2H, f1, f2, f3]
          refine CallTo.pure (args := []) rfl fok11 (by simp -dsimp -implicitDefEqProofs only [j174]) nil0 awake_spec ?_
          simp -dsimp -implicitDefEqProofs only [↓j0, ↓j1, ↓j10, j17, j18, j20, ↓j25, ↓j29, ↓j30, j32, ↓j39, ↓j40, j83, ↓j145, j171, ↓reduceIte, Nat.reduceEqDiff]
          exact fin _ _ _ rfl
end Go.Proofs.Ytipbgaahpchhbaa
