/- The law WsetApart. -/
import Derived.Test.YtipbgaahpchhbaaW8
set_option maxRecDepth 8000
set_option linter.unusedVariables false
set_option linter.unusedSimpArgs false
namespace Go.Proofs.Ytipbgaahpchhbaa
open Go Go.RowKit

theorem write_other {M : List KV} {page p : Nat} (base : Bo) (off : Int) (s : Bo) (h : page ≠ p) : aGet (writeP M page base off s).2 p = aGet M p := by
  unfold writeP
  split
  · rfl
  · cases hg : aGet M page with
    | some e =>
      show aGet (aPut M page _) p = _
      rw [aGet_put, if_neg h]
    | none =>
      simp only
      split
      · rfl
      · show aGet (aPut M page _) p = _
        rw [aGet_put, if_neg h]
theorem write_no {M : List KV} {page : Nat} {base : Bo} {off : Int} {s : Bo} (h : (writeP M page base off s).1 ≠ 0) : (writeP M page base off s).2 = M := by
  unfold writeP at h ⊢
  split
  · rfl
  · rename_i hc
    rw [if_neg hc] at h
    cases hg : aGet M page with
    | some e => rw [hg] at h; exact absurd rfl h
    | none =>
      rw [hg] at h
      simp only at h ⊢
      split
      · rfl
      · rename_i h4; rw [if_neg h4] at h; exact absurd rfl h
theorem write_yes {M : List KV} {page : Nat} {base : Bo} {off : Int} {s : Bo} (h : (writeP M page base off s).1 = 0) : 0 ≤ off ∧ off ≤ 64 ∧ (s.length : Int) ≤ 64 - off ∧ readP (writeP M page base off s).2 page = (layB (if (readP M page).2 then (readP M page).1 else base) off.toNat s, true) := by
  unfold writeP at h ⊢
  by_cases hc : off < 0 ∨ 64 < off ∨ 64 - off < (s.length : Int)
  · rw [if_pos hc] at h; exact absurd h (by simp)
  · rw [if_neg hc] at h ⊢
    refine ⟨by omega, by omega, by omega, ?_⟩
    unfold readP
    cases hg : aGet M page with
    | some e =>
      show (match aGet (aPut M page _) page with | some e => (e.2, true) | none => (zb 64, false)) = _
      rw [aGet_put, if_pos rfl]; rfl
    | none =>
      rw [hg] at h
      simp only at h ⊢
      by_cases h4 : M.length = 4
      · rw [if_pos h4] at h; exact absurd h (by simp)
      · rw [if_neg h4]
        show (match aGet (aPut M page _) page with | some e => (e.2, true) | none => (zb 64, false)) = _
        rw [aGet_put, if_pos rfl]; rfl
def bwV (W : List Bo) (m : Nat) : AV := match W with
  | [] => .nilsl
  | _ :: r => .sl m 0 [] 0 (r.length + 1) (r.length + 1) 64
def bwB (W : List Bo) (m : Nat) : Heap := match W with
  | [] => []
  | k :: r => [(m, .cells (.agg ((k :: r).map arrAV)))]
theorem bwV_ne {W : List Bo} (h : 0 < W.length) (m : Nat) : bwV W m = .sl m 0 [] 0 W.length W.length 64 := by
  cases W with
  | nil => simp at h
  | cons t r => rfl
theorem bwB_ne {W : List Bo} (h : 0 < W.length) (m : Nat) : bwB W m = [(m, .cells (.agg (W.map arrAV)))] := by
  cases W with
  | nil => simp at h
  | cons t r => rfl
theorem bwV_nil (m : Nat) : bwV [] m = .nilsl := rfl
theorem bwB_nil (m : Nat) : bwB [] m = [] := rfl
theorem on_arrs (S : Nat → Prop) (W : List Bo) : AV.onL S (W.map arrAV) := by
  rw [AV.onL_iff]
  intro x hx
  obtain ⟨o, _, rfl⟩ := List.mem_map.1 hx; exact on_bytes _ _
theorem unif_arrs {W : List Bo} (h : ∀ b, b ∈ W → b.length = 64) : Unif 64 (W.map arrAV) := fun x hx => by
  obtain ⟨o, ho, rfl⟩ := List.mem_map.1 hx
  simp only [AV.size, sizeL_bytes, h o ho]
theorem on_bwV {S : Nat → Prop} {W : List Bo} {m : Nat} (h : S m) : AV.on S (bwV W m) := by
  cases W with
  | nil => trivial
  | cons x r => exact h
abbrev woC (o : Wo) : ABlk := .cells o.av
theorem on_wo (S : Nat → Prop) (o : Wo) : AV.on S o.av := ⟨trivial, on_bytes _ _, trivial, trivial, trivial⟩
def a1St (ops : List Wo) (o : Wo) (M : List KV) (i : Nat) : St := ⟨223, [(6, .int .i64 i), (5, .ptr 2 0 []), (3, .ptr 0 0 []), (0, wosAV ops), (4, .bool false)], [(0, woC o), (2, stC), (1, mapB M)], 101⟩
def a2T (ks : List Nat) (W : List Bo) (i m : Nat) : Env := [(63, .int .i64 i), (62, .int .i64 ks.length), (61, keysAV ks), (8, bwV W m), (7, keysAV ks), (5, .ptr 2 0 []), (3, .ptr 0 0 []), (4, .bool false)]
def a2H (o : Wo) (M : List KV) (W : List Bo) (m : Nat) : Heap := (0, woC o) :: (2, stC) :: (1, mapB M) :: bwB W m
def a2St (ks : List Nat) (o : Wo) (M : List KV) (W : List Bo) (i : Nat) : St := ⟨223, a2T ks W i 100, a2H o M W 100, 101⟩
theorem mapB_ren (σ : Nat → Nat) (M : List KV) : (mapE kAV vAV M).map (fun e => (AV.ren σ e.1, AV.ren σ e.2)) = mapE kAV vAV M := by
  simp only [mapE, List.map_map]
  refine List.map_congr_left fun e _ => ?_
  have h1 : AV.ren σ (vAV e.2) = vAV e.2 := AV.ren_fix (S := fun _ => False) (fun _ h => h.elim) ⟨on_bytes _ _, on_bytes _ _, trivial⟩
  show (AV.ren _ (kAV e.1), AV.ren _ (vAV e.2)) = _
  rw [h1]; rfl
theorem a2_ren {ks : List Nat} {o : Wo} {M : List KV} {W : List Bo} {i m : Nat} : Wk ⟨223, a2T ks W i 103, a2H o M W 103, m⟩ (a2St ks o M W i) := by
  have h := Wk.rens (n := 223) (nx := m) (K := 101) (t := a2T ks W i 103) (H := a2H o M W 103) [(103, 100)] (by decide) (by simp) (by simp)
    (onTL_cons trivial (onTL_cons trivial (onTL_cons (on_keys _ _) (onTL_cons (on_bwV (.inr (by simp))) (onTL_cons (on_keys _ _) (onTL_cons (show okN [(103, 100)] 101 2 from .inl ⟨by omega, by simp⟩) (onTL_cons (show okN [(103, 100)] 101 0 from .inl ⟨by omega, by simp⟩) (onTL_cons trivial onTL_nil))))))))
    (by
      refine onHL_cons (.inl ⟨by omega, by simp⟩) (on_wo _ _) (onHL_cons (.inl ⟨by omega, by simp⟩) ⟨.inl ⟨by omega, by simp⟩, trivial⟩ (onHL_cons (.inl ⟨by omega, by simp⟩) (mapB_on _ _) ?_))
      cases W with
      | nil => exact onHL_nil
      | cons x r => exact onHL_cons (.inr (by simp)) (on_arrs _ _) onHL_nil)
  have r1 : rnL [(103, 100)] 103 = 100 := rfl
  have r2 : rnL [(103, 100)] 2 = 2 := rfl
  have r3 : rnL [(103, 100)] 1 = 1 := rfl
  have r4 : rnL [(103, 100)] 0 = 0 := rfl
  have e1 : (a2T ks W i 103).ren (rnL [(103, 100)]) = a2T ks W i 100 := by
    have hk : AV.renL (rnL [(103, 100)]) (ks.map kAV) = ks.map kAV := AV.renL_fix (S := fun _ => False) (fun _ h => h.elim) (on_keys _ _)
    cases W <;> simp only [a2T, Env.ren, bwV, List.map_cons, List.map_nil, AV.ren, hk, r1, r2, r4]
  have e2 : (a2H o M W 103).ren (rnL [(103, 100)]) = a2H o M W 100 := by
    have hm := mapB_ren (rnL [(103, 100)]) M
    have hw : AV.ren (rnL [(103, 100)]) o.av = o.av := AV.ren_fix (S := fun _ => False) (fun _ h => h.elim) (on_wo _ _)
    have hs : AV.ren (rnL [(103, 100)]) (.agg [.mapv 1]) = .agg [.mapv 1] := rfl
    have hb : ∀ W : List Bo, AV.ren (rnL [(103, 100)]) (.agg (W.map arrAV)) = .agg (W.map arrAV) := fun W => AV.ren_fix (S := fun _ => False) (fun _ h => h.elim) (show AV.onL _ _ from on_arrs _ _)
    cases W with
    | nil => simp only [a2H, bwB_nil, Heap.ren, List.map_cons, List.map_nil, ABlk.ren, hm, hw, hs, r2, r3, r4]
    | cons t r =>
      have hp : 0 < (t :: r).length := by simp
      simp only [a2H, bwB_ne hp, Heap.ren, List.map_cons, List.map_nil, ABlk.ren, hm, hw, hs, r1, r2, r3, r4]
      have := hb (t :: r)
      simp only [List.map_cons] at this
      rw [this]
  rw [e1, e2] at h
  exact h
def a3T (ks : List Nat) (W : List Bo) (e : Nat) (had : Bool) (i : Nat) : Env := [(97, .int .i64 i), (96, .int .i64 ks.length), (95, keysAV ks), (15, .int .i64 e), (14, .bool had), (13, .ptr 101 0 []), (8, bwV W 100), (7, keysAV ks), (5, .ptr 2 0 []), (3, .ptr 0 0 []), (4, .bool false)]
def a3H (o : Wo) (M : List KV) (W : List Bo) (mine : Bo) : Heap := (101, .cells (arrAV mine)) :: a2H o M W 100
def a3St (ks : List Nat) (o : Wo) (M : List KV) (W : List Bo) (mine : Bo) (e : Nat) (had : Bool) (i : Nat) : St := ⟨223, a3T ks W e had i, a3H o M W mine, 102⟩
theorem a3_gc {ks : List Nat} {o : Wo} {M : List KV} {W : List Bo} {mine : Bo} {e : Nat} {had : Bool} {i m : Nat} : Wk ⟨223, a3T ks W e had i, a3H o M W mine, m⟩ (a3St ks o M W mine e had i) := by
  refine Wk.gc (by decide) (onTL.onT ?_) (onHL.onH ?_)
  · exact onTL_cons trivial (onTL_cons trivial (onTL_cons (on_keys _ _) (onTL_cons trivial (onTL_cons trivial (onTL_cons (show (101 : Nat) < 102 by decide) (onTL_cons (on_bwV (show (100 : Nat) < 102 by decide)) (onTL_cons (on_keys _ _) (onTL_cons (show (2 : Nat) < 102 by decide) (onTL_cons (show (0 : Nat) < 102 by decide) (onTL_cons trivial onTL_nil))))))))))
  · refine onHL_cons (show (101 : Nat) < 102 by decide) (on_bytes _ _) (onHL_cons (show (0 : Nat) < 102 by decide) (on_wo _ _) (onHL_cons (show (2 : Nat) < 102 by decide) ⟨show (1 : Nat) < 102 by decide, trivial⟩ (onHL_cons (show (1 : Nat) < 102 by decide) (mapB_on _ _) ?_)))
    cases W with
    | nil => exact onHL_nil
    | cons x r => exact onHL_cons (show (100 : Nat) < 102 by decide) (on_arrs _ _) onHL_nil
def a4St (o : Wo) (mine now : Bo) (had : Bool) (i : Nat) : St := ⟨223, [(22, .int .i64 i), (21, .bool true), (20, .ptr 102 0 []), (14, .bool had), (13, .ptr 101 0 []), (3, .ptr 0 0 []), (4, .bool false)], [(102, .cells (arrAV now)), (101, .cells (arrAV mine)), (0, woC o)], 103⟩
theorem args_apart {l : List Wo} {o : Wo} : ∀ x, x ∈ [wosAV l, o.av] → AV.on (fun _ => False) x ∧ ∀ vs, x ≠ .tuple vs := fun x hx => by
  simp only [List.mem_cons, List.not_mem_nil, or_false] at hx
  rcases hx with rfl | rfl
  · exact ⟨on_wos _ _, fun vs h => by cases h⟩
  · exact ⟨on_wo _ _, fun vs h => by cases h⟩
theorem put_st10 {M : List KV} {k : Nat} (hk : k ≤ 1) : ∀ n x, Heap.get (stH M) n = some x → n ∉ ([] : Heap).map (·.1) → k ≤ n ∧ n < 101 := fun n x h _ => by rcases get_st h with ⟨rfl, _⟩ | ⟨rfl, _⟩ <;> omega
set_option maxHeartbeats 6400000 in
theorem apart_spec (ops : List Wo) (hl : ∀ o, o ∈ ops → o.Ok) (hn : ops.length ≤ 9223372036854775807) (o : Wo) (hoo : o.Ok) : ACall Try.prog 3 [wosAV ops, o.av] [] (.bool true) [] := by
  refine ACall.run (Z := Z) (N := 223) mixed hZ Try.func3 rfl rfl (by kernel_rfl) (by simp) args_apart 0 ?_
  have fin : ∀ (t : Env) (H : Heap) (m : Nat), look t 4 = some (.bool true) → Final Try.prog Try.f3 (.bool true) [] .ret ⟨223, t, H, m⟩ := fun t H m h =>
    Final.one (.inr rfl) (r := .tmp 4) rfl ⟨h, fun vs h => by cases h⟩ (fun vs h => by cases h) (fun vs h => by cases h) (.same _ trivial)
  have hz := zb_len 64
  have hob := hoo.base
  simp -dsimp -implicitDefEqProofs only [↓j0, ↓j1, ↓j7, ↓j12, ↓j15, j17, j18, j20, ↓j25, ↓j29, ↓j30, j32, ↓j39, ↓j42, ↓j53, ↓j145, ↓j146, AV.layable, argEnv, j171, j172, reduceCtorEq, ↓reduceIte, j196]
  refine CallTo.gen (args := []) [] (stH []) 101 rfl fok7 (by simp -dsimp -implicitDefEqProofs only [j174]) nil0 new_spec (fun n b h => by simp [Heap.get] at h) ⟨by simp, put_st10 (k := 1) (by decide)⟩ ?_
  simp -dsimp -implicitDefEqProofs only [↓j0, ↓j1, ↓j7, ↓j9, ↓j12, ↓j13, ↓j14, ↓j15, ↓j16, j17, j18, j20, ↓j25, ↓j29, ↓j30, j33, j35, ↓j38, ↓j39, ↓j48, ↓j145, ↓j146, ↓j148, ↓j149, j170, j171, j174, ↓reduceIte, j211, ↓j235, j297]
  refine AWp.loopR (Z := Z) mixed hZ (by kernel_rfl) (fun n s => ∃ M i, MOk M ∧ i + n = 30 ∧ s = a1St ops o M i) (n0 := 30) (s0 := a1St ops o [] 0) ?_ ⟨[], 0, m0_ok, by omega, rfl⟩ ?_ rfl
  · exact Wk.sub (by simp -dsimp -implicitDefEqProofs only [↓j25, ↓j27, j179, reduceCtorEq, ↓reduceIte, Nat.reduceEqDiff, j182, j183, j184, j202, j203, j204, j205, j209, j223] <;> simp)
  rintro n s ⟨M, i, hM, hi, rfl⟩
  refine ⟨rfl, ?_⟩
  by_cases hlt : i < ops.length ∧ i < 30
  · obtain ⟨h1, h2⟩ := hlt
    have e1 : decide ((i : Int) < (ops.length : Int)) = true := decide_eq_true (by omega)
    have e2 : decide ((i : Int) < 30) = true := decide_eq_true (by omega)
    obtain ⟨x, hx⟩ := list_get (xs := ops) (i := i) h1
    have hxo := hl x (List.mem_of_getElem? hx)
    have hsz := (unif_wos ops hl).sizeL_take (k := i) (by simp; omega)
    have hlt2 : (i : Int) < (ops.length : Int) := by omega
    have hw : IntKind.i64.wrap ((i : Int) + 1) = ((i + 1 : Nat) : Int) := by rw [wrap_i64 (by omega) (by omega)]; omega
    have hxb := hxo.base
    have hwr := write_spec M hM x.page hxo.page x.base hxb x.off hxo.off x.s hxo.s
    have hwo := write_ok hM hxo.page hxb x.off x.s
    obtain ⟨⟨e, M1⟩, hWe⟩ : ∃ r, writeP M x.page x.base x.off x.s = r := ⟨_, rfl⟩
    rw [hWe] at hwr hwo
    have hwr : ACall Try.prog 8 [.ptr 2 0 [], .int .u16 x.page, arrAV x.base, .int .i64 x.off, .str ⟨x.s.toArray⟩] (stH M) (.int .i64 (e : Nat)) (stH M1) := hwr
    simp -dsimp -implicitDefEqProofs only [↓j0, ↓j1, ↓j2, ↓j4, ↓j7, ↓j8, ↓j9, ↓j12, ↓j13, ↓j14, ↓j15, j17, j18, j20, j24, ↓j25, ↓j29, ↓j30, j32, j33, ↓j38, ↓j40, ↓j43, ↓j45, ↓j46, ↓j48, ↓j53, ↓j58, ↓j62, ↓j77, ↓j80, j83, ↓j89, ↓j92, j129, j130, j132, j142, ↓j145, ↓j146, ↓j147, ↓j149, ↓j150, j159, AV.proj, AV.offOf, AV.size, AV.sizeL, j163, j164, j166, j167, j170, j171, j172, j174, j175, j177, reduceCtorEq, ↓reduceIte, Nat.reduceAdd, Nat.reduceEqDiff, j182, j185, j191, j197, j206, j207, j208, j240, j250, j258, j264, j267, j274, j275, j282, j285, j288, j291, j422, a1St, e2, hx, hsz, hlt2, hxb]
    refine CallTo.gen (args := [.ptr 2 0 [], .int .u16 x.page, arrAV x.base, .int .i64 x.off, .str ⟨x.s.toArray⟩]) (stH M) (stH M1) 101 rfl fok8 (by simp -dsimp -implicitDefEqProofs only [↓j25, ↓j29, j173, j174, ↓reduceIte, Nat.reduceEqDiff]) (fun y hy => (args_write (M := []) y hy).2) hwr (SubH.of (by simp -dsimp -implicitDefEqProofs only [↓j27, reduceCtorEq, ↓reduceIte, Nat.reduceEqDiff, j182, j204, j205])) ⟨by simp, put_st⟩ ?_
    simp -dsimp -implicitDefEqProofs only [↓j3, j17, j18, j20, j21, j22, j23, j24, j170, j171, j173, j174, reduceCtorEq, ↓reduceIte, Nat.reduceEqDiff]
    refine ⟨by kernel_rfl, ?_⟩
    simp -dsimp -implicitDefEqProofs only [↓j0, ↓j1, ↓j7, ↓j15, j17, j18, j20, ↓j25, ↓j29, ↓j30, j33, ↓j38, ↓j39, ↓j48, ↓j89, ↓j145, ↓j146, j154, j171, ↓reduceIte, Nat.reduceEqDiff, j185]
    exact ⟨n - 1, a1St ops o M1 (i + 1), by omega, ⟨M1, i + 1, hwo, by omega, rfl⟩, Wk.sub (by simp -dsimp -implicitDefEqProofs only [↓j25, ↓j27, reduceCtorEq, ↓reduceIte, Nat.reduceEqDiff, j182, j202, j203, j204, j205, j223, hw] <;> simp)⟩
  · by_cases h1 : i < ops.length
    · have h2 : ¬ i < 30 := fun h => hlt ⟨h1, h⟩
      have e1 : decide ((i : Int) < (ops.length : Int)) = true := decide_eq_true (by omega)
      have e2 : decide ((i : Int) < 30) = false := decide_eq_false (by omega)
      clear hlt
      have hpg := pages_spec M hM
      have hkl := keysIn_len M
      have hkm : ∀ k, k ∈ keysIn M → k ∈ M.map (·.1) := fun k h => keysIn_mem.1 h
      obtain ⟨ks, hks⟩ : ∃ ks, keysIn M = ks := ⟨_, rfl⟩
      rw [hks] at hpg hkl hkm
      have hM4 := hM.few
      simp -dsimp -implicitDefEqProofs only [↓j0, ↓j1, ↓j2, ↓j7, ↓j11, ↓j12, ↓j13, ↓j15, j17, j18, j20, ↓j25, ↓j29, ↓j30, j32, j33, ↓j38, ↓j40, ↓j48, ↓j53, ↓j58, ↓j62, j83, ↓j89, j142, ↓j145, ↓j146, ↓j147, ↓j148, ↓j149, ↓j150, j159, j163, j164, j171, j175, reduceCtorEq, ↓reduceIte, Nat.reduceEqDiff, j185, j422, a1St, e1, e2]
      refine CallTo.gen (args := [.ptr 2 0 []]) (stH M) (stH M) 101 rfl fok9 (by simp -dsimp -implicitDefEqProofs only [↓j25, ↓j29, j173, j174, ↓reduceIte]) (notup1 fun vs h => by cases h) hpg (SubH.of (by simp -dsimp -implicitDefEqProofs only [↓j27, reduceCtorEq, ↓reduceIte, Nat.reduceEqDiff, j182, j204, j205])) ⟨by simp, put_st⟩ ?_
      simp -dsimp -implicitDefEqProofs only [↓j0, ↓j1, ↓j7, ↓j12, ↓j14, ↓j15, ↓j16, j17, j18, j20, j21, j22, j23, ↓j25, ↓j29, ↓j30, j33, j36, ↓j38, ↓j39, ↓j58, ↓j62, j142, ↓j145, j170, j171, j173, j174, reduceCtorEq, ↓reduceIte, Nat.reduceEqDiff, j429]
      refine AWp.loopR (Z := Z) mixed hZ (by kernel_rfl) (fun n s => ∃ i W, i + n = ks.length ∧ W = (ks.take i).map (fun p => (readP M p).1) ∧ s = a2St ks o M W i) (n0 := ks.length) (s0 := a2St ks o M [] 0) ?_ ⟨0, [], by omega, rfl, rfl⟩ ?_ rfl
      · exact Wk.sub (by simp -dsimp -implicitDefEqProofs only [↓j25, ↓j27, j179, reduceCtorEq, ↓reduceIte, Nat.reduceEqDiff, j182, j183, j184, j202, j203, j204, j205, j209, j223, a2T, a2H, bwV_nil, bwB_nil] <;> simp)
      rintro n s ⟨i, W, hi, hWd, rfl⟩
      refine ⟨rfl, ?_⟩
      have hWlen : W.length = min i ks.length := by rw [hWd, List.length_map, List.length_take]
      have hWl : ∀ b, b ∈ W → b.length = 64 := fun b hb => by
        rw [hWd] at hb
        obtain ⟨p, _, rfl⟩ := List.mem_map.1 hb
        exact readP_len hM p
      rcases Nat.lt_or_ge i ks.length with hlt | hge
      · have e1 : decide ((i : Int) < (ks.length : Int)) = true := decide_eq_true (by omega)
        obtain ⟨p, hpi⟩ := list_get (xs := ks) (i := i) hlt
        have hsz := (unif_keys ks).sizeL_take (k := i) (by simp; omega)
        have hlt2 : (i : Int) < (ks.length : Int) := by omega
        have hw : IntKind.i64.wrap ((i : Int) + 1) = ((i + 1 : Nat) : Int) := by rw [wrap_i64 (by omega) (by omega)]; omega
        have hko : kOk p := by
          obtain ⟨w, hw1, hw2⟩ := List.mem_map.1 (hkm p (List.mem_of_getElem? hpi))
          exact hw2 ▸ (hM.keys w hw1).1
        have hrd := read_spec M hM p hko
        have hrl := readP_len hM p
        have hWn : W ++ [(readP M p).1] = (ks.take (i + 1)).map (fun p => (readP M p).1) := by rw [take_succ hpi, List.map_append, ← hWd]; rfl
        obtain ⟨⟨b, t⟩, hrr⟩ : ∃ r, readP M p = r := ⟨_, rfl⟩
        rw [hrr] at hrd hrl hWn
        have hrl : b.length = 64 := hrl
        have hWn : W ++ [b] = (ks.take (i + 1)).map (fun p => (readP M p).1) := hWn
        have hrd : ACall Try.prog 10 [.ptr 2 0 [], .int .u16 p] (stH M) (.tuple [arrAV b, .bool t]) (stH M) := hrd
        have ub1 : Unif 64 [arrAV b] := unif_arrs (W := [b]) (by simpa using hrl)
        have ub := unif_arrs hWl
        have tk2 : List.take 1 (List.drop 0 [arrAV b]) = [arrAV b] := rfl
        obtain ⟨W1, hW1⟩ : ∃ W1, W ++ [b] = W1 := ⟨_, rfl⟩
        have q1 : W.map arrAV ++ [arrAV b] = W1.map arrAV := by rw [← hW1, List.map_append]; rfl
        have q2 : W.length + 1 = W1.length := by rw [← hW1, List.length_append]; rfl
        have hp1 : 0 < W1.length := by omega
        rw [hW1] at hWn
        cases hW0 : W with
        | nil =>
          rw [hW0] at q1 q2
          have q1 : [arrAV b] = W1.map arrAV := q1
          have q2 : 1 = W1.length := q2
          simp -dsimp -implicitDefEqProofs only [↓j0, ↓j1, ↓j7, ↓j9, ↓j12, ↓j13, ↓j14, ↓j15, j17, j18, j20, ↓j25, ↓j29, ↓j38, ↓j39, ↓j43, ↓j46, ↓j48, ↓j53, ↓j77, ↓j89, ↓j92, j130, ↓j145, ↓j146, ↓j147, ↓j149, j159, AV.proj, AV.offOf, j171, j177, ↓reduceIte, Nat.reduceEqDiff, j182, j185, j191, j197, j206, j207, j208, j267, j303, a2St, a2T, a2H, bwV_nil, bwB_nil, hpi, hsz, hlt2]
          refine CallTo.gen (args := [.ptr 2 0 [], .int .u16 p]) (stH M) (stH M) 101 rfl fok10 (by simp -dsimp -implicitDefEqProofs only [↓j25, ↓j29, j173, j174, ↓reduceIte, Nat.reduceEqDiff]) (notup2 (fun vs h => by cases h) fun vs h => by cases h) hrd (SubH.of (by simp -dsimp -implicitDefEqProofs only [↓j27, reduceCtorEq, ↓reduceIte, Nat.reduceEqDiff, j182, j204, j205])) ⟨by simp, put_st⟩ ?_
          simp -dsimp -implicitDefEqProofs only [↓j0, ↓j1, ↓j7, ↓j15, j17, j18, j19, j20, j21, j22, j23, ↓j25, ↓j27, ↓j29, ↓j38, ↓j39, ↓j41, ↓j43, ↓j44, ↓j51, ↓j57, ↓j74, ↓j76, ↓j78, j85, j125, j126, j127, j128, j129, ↓j145, ↓j146, ↓j153, partsAV, AV.proj, AV.offOf, AV.upd, AV.size, AV.sizeL, AV.layable, j163, j164, j167, j169, j170, j171, j173, j174, j179, j180, reduceCtorEq, ↓reduceIte, Nat.reduceAdd, Nat.reduceMul, Nat.reduceEqDiff, Nat.reduceLeDiff, j182, j183, j213, j214, j215, j217, Nat.reducePow, List.replicate, j234, j240, j243, j274, j275, j376, j402, hrl]
          refine DoAppend_of rfl rfl at34 ?_
          simp -dsimp -implicitDefEqProofs only [↓j0, ↓j1, ↓j7, ↓j15, j17, j18, j20, ↓j25, ↓j27, ↓j29, ↓j30, j33, ↓j38, ↓j39, ↓j48, ↓j89, ↓j100, ↓j106, j107, ↓j145, ↓j146, ↓j148, ↓j153, j154, AV.proj, AV.offOf, j166, j170, j171, ↓reduceIte, Nat.reduceAdd, Nat.reduceMul, Nat.reduceEqDiff, Nat.reduceLeDiff, j182, j185, j196, j197, j223, j227, j228, j230, j231, Nat.reduceBEq, j234, ub1]
          exact ⟨n - 1, a2St ks o M W1 (i + 1), by omega, ⟨i + 1, W1, by omega, hWn, rfl⟩, Wk.trans (Wk.mk (s' := ⟨223, a2T ks W1 (i + 1) 103, a2H o M W1 103, 104⟩) (SubT.spec (by simp -dsimp -implicitDefEqProofs only [↓j25, ↓reduceIte, Nat.reduceEqDiff, j182, j202, j203, a2T, bwV_ne hp1, hw, ← q2] <;> simp)) (SubH.spec (by simp -dsimp -implicitDefEqProofs only [↓j27, reduceCtorEq, ↓reduceIte, Nat.reduceEqDiff, j182, j204, j205, a2H, bwB_ne hp1, ← q1] <;> simp)) (Nat.le_refl _) rfl) a2_ren⟩
        | cons w0 w1 =>
          rw [← hW0]
          have hpW : 0 < W.length := by rw [hW0]; simp
          clear hW0
          have t2 : List.take W.length (List.map arrAV W) = W.map arrAV := List.take_of_length_le (by simp)
          simp -dsimp -implicitDefEqProofs only [↓j0, ↓j1, ↓j7, ↓j9, ↓j12, ↓j13, ↓j14, ↓j15, j17, j18, j20, ↓j25, ↓j29, ↓j38, ↓j39, ↓j43, ↓j46, ↓j48, ↓j53, ↓j77, ↓j89, ↓j92, j130, ↓j145, ↓j146, ↓j147, ↓j149, j159, AV.proj, AV.offOf, j171, j177, ↓reduceIte, Nat.reduceEqDiff, j182, j185, j191, j197, j206, j207, j208, j267, j303, a2St, a2T, a2H, bwV_ne hpW, bwB_ne hpW, hpi, hsz, hlt2]
          refine CallTo.gen (args := [.ptr 2 0 [], .int .u16 p]) (stH M) (stH M) 101 rfl fok10 (by simp -dsimp -implicitDefEqProofs only [↓j25, ↓j29, j173, j174, ↓reduceIte, Nat.reduceEqDiff]) (notup2 (fun vs h => by cases h) fun vs h => by cases h) hrd (SubH.of (by simp -dsimp -implicitDefEqProofs only [↓j27, reduceCtorEq, ↓reduceIte, Nat.reduceEqDiff, j182, j204, j205])) ⟨by simp, put_st⟩ ?_
          simp -dsimp -implicitDefEqProofs only [↓j0, ↓j1, ↓j7, ↓j15, j17, j18, j19, j20, j21, j22, j23, ↓j25, ↓j27, ↓j29, ↓j38, ↓j39, ↓j41, ↓j43, ↓j44, ↓j51, ↓j57, ↓j74, ↓j76, ↓j78, j85, j125, j126, j127, j128, j129, ↓j145, ↓j146, ↓j153, partsAV, AV.proj, AV.offOf, AV.upd, AV.size, AV.sizeL, AV.layable, j163, j164, j167, j169, j170, j171, j173, j174, j179, j180, reduceCtorEq, ↓reduceIte, Nat.reduceAdd, Nat.reduceMul, Nat.reduceEqDiff, Nat.reduceLeDiff, j182, j183, j213, j214, j215, j217, Nat.reducePow, List.replicate, j234, j240, j243, j274, j275, j376, j402, hrl]
          refine DoAppend_of rfl rfl at34 ?_
          simp -dsimp -implicitDefEqProofs only [↓j27, ↓j101, ↓j102, ↓j106, j107, ↓j145, ↓j146, ↓j153, AV.proj, AV.offOf, j166, reduceCtorEq, ↓reduceIte, Nat.reduceEqDiff, Nat.reduceLeDiff, j182, j184, j188, j189, j196, j197, j213, j214, j215, j222, j223, j227, j228, j230, j231, j234, ub1, ub]
          refine ⟨by omega, ?_⟩
          simp -dsimp -implicitDefEqProofs only [↓j0, ↓j1, ↓j7, ↓j15, j17, j18, j20, j21, j22, j23, ↓j25, ↓j29, ↓j30, j33, ↓j38, ↓j39, ↓j48, ↓j89, ↓j145, ↓j146, j154, j166, j170, j171, reduceCtorEq, ↓reduceIte, Nat.reduceAdd, Nat.reduceEqDiff, j185, j196, j227, j228, j230, j231, t2, q1, q2]
          exact ⟨n - 1, a2St ks o M W1 (i + 1), by omega, ⟨i + 1, W1, by omega, hWn, rfl⟩, Wk.trans (Wk.mk (s' := ⟨223, a2T ks W1 (i + 1) 103, a2H o M W1 103, 104⟩) (SubT.spec (by simp -dsimp -implicitDefEqProofs only [↓j25, ↓reduceIte, Nat.reduceEqDiff, j182, j202, j203, a2T, bwV_ne hp1, hw] <;> simp)) (SubH.spec (by simp -dsimp -implicitDefEqProofs only [↓j27, reduceCtorEq, ↓reduceIte, Nat.reduceEqDiff, j182, j204, j205, a2H, bwB_ne hp1] <;> simp)) (Nat.le_refl _) rfl) a2_ren⟩
      have hi2 : i = ks.length := by omega
      rw [hi2]
      rw [hi2, List.take_of_length_le (Nat.le_refl _)] at hWd
      have hWlen2 : W.length = ks.length := by rw [hWd, List.length_map]
      have f1 : decide ((ks.length : Int) < (ks.length : Int)) = false := decide_eq_false (by omega)
      have hrd := read_spec M hM o.page hoo.page
      have hrl := readP_len hM o.page
      have hwr := write_spec M hM o.page hoo.page o.base hob o.off hoo.off o.s hoo.s
      have hM1 := write_ok hM hoo.page hob o.off o.s
      have hoth : ∀ p, o.page ≠ p → aGet (writeP M o.page o.base o.off o.s).2 p = aGet M p := fun p h => write_other o.base o.off o.s h
      obtain ⟨⟨mine, had⟩, hrr⟩ : ∃ r, readP M o.page = r := ⟨_, rfl⟩
      obtain ⟨⟨e, M1⟩, hWe⟩ : ∃ r, writeP M o.page o.base o.off o.s = r := ⟨_, rfl⟩
      rw [hrr] at hrd hrl
      have hself : (readP M o.page).2 = true → (readP M1 o.page).2 = true := fun h => by
        by_cases he : e = 0
        · have := (write_yes (M := M) (page := o.page) (base := o.base) (off := o.off) (s := o.s) (by rw [hWe]; exact he)).2.2.2
          rw [hWe] at this
          rw [this]
        · have := write_no (M := M) (page := o.page) (base := o.base) (off := o.off) (s := o.s) (by rw [hWe]; exact he)
          rw [hWe] at this
          have this : M1 = M := this
          rw [this]; exact h
      rw [hWe] at hwr hM1 hoth
      have hmine : mine.length = 64 := hrl
      have hM1 : MOk M1 := hM1
      have hoth : ∀ p, o.page ≠ p → aGet M1 p = aGet M p := hoth
      have hrd : ACall Try.prog 10 [.ptr 2 0 [], .int .u16 o.page] (stH M) (.tuple [arrAV mine, .bool had]) (stH M) := hrd
      have hwr : ACall Try.prog 8 [.ptr 2 0 [], .int .u16 o.page, arrAV o.base, .int .i64 o.off, .str ⟨o.s.toArray⟩] (stH M) (.int .i64 (e : Nat)) (stH M1) := hwr
      have hkey : ∀ j p, ks[j]? = some p → kOk p ∧ ∃ b : Bo, ((readP M1 p).2 = true ∧ (p ≠ o.page → readP M1 p = (b, true))) ∧ b.length = 64 ∧ W[j]? = some b := fun j p hj => by
        have hpm := hkm p (List.mem_of_getElem? hj)
        obtain ⟨w, hw1, hw2⟩ := List.mem_map.1 hpm
        have hr : (readP M p).2 = true := by
          unfold readP
          cases hg : aGet M p with
          | none => exact absurd hpm (aGet_none.1 hg)
          | some e => rfl
        have hne : p ≠ o.page → readP M1 p = ((readP M p).1, true) := fun h => by
          have h2 : readP M1 p = readP M p := by unfold readP; rw [hoth p (fun e => h e.symm)]
          rw [h2, ← hr]
        refine ⟨hw2 ▸ (hM.keys w hw1).1, (readP M p).1, ⟨?_, hne⟩, readP_len hM p, ?_⟩
        · by_cases h : p = o.page
          · subst h; exact hself hr
          · rw [hne h]
        · rw [hWd, List.getElem?_map, hj]; rfl
      cases hW0 : W with
      | nil =>
        have hks0 : ks = [] := List.length_eq_zero_iff.1 (by rw [← hWlen2, hW0]; rfl)
        simp -dsimp -implicitDefEqProofs only [↓j0, ↓j1, ↓j7, ↓j11, ↓j12, ↓j13, ↓j15, j17, j18, j20, ↓j25, ↓j27, ↓j29, ↓j38, ↓j43, ↓j45, ↓j48, ↓j53, ↓j76, ↓j79, ↓j89, j130, ↓j145, ↓j146, ↓j148, ↓j149, ↓j153, j159, AV.proj, AV.offOf, AV.sizeL, j163, j167, j171, ↓reduceIte, Nat.reduceEqDiff, j182, j185, j197, j267, j282, a2St, a2T, a2H, f1, bwV_nil, bwB_nil]
        refine CallTo.gen (args := [.ptr 2 0 [], .int .u16 o.page]) (stH M) (stH M) 101 rfl fok10 (by simp -dsimp -implicitDefEqProofs only [↓j25, ↓j29, j173, j174, ↓reduceIte, Nat.reduceEqDiff]) (notup2 (fun vs h => by cases h) fun vs h => by cases h) hrd (SubH.of (by simp -dsimp -implicitDefEqProofs only [↓j27, reduceCtorEq, ↓reduceIte, Nat.reduceEqDiff, j182, j204, j205])) ⟨by simp, put_st⟩ ?_
        simp -dsimp -implicitDefEqProofs only [↓j0, ↓j1, ↓j7, ↓j12, ↓j15, j17, j18, j19, j20, j21, j22, j23, ↓j25, ↓j27, ↓j29, ↓j38, ↓j39, ↓j41, ↓j43, ↓j44, ↓j45, ↓j53, ↓j57, ↓j76, ↓j78, ↓j79, j85, j129, j130, j132, ↓j145, ↓j146, ↓j153, AV.proj, AV.offOf, AV.upd, AV.size, AV.sizeL, AV.layable, j163, j164, j166, j167, j170, j171, j173, j174, reduceCtorEq, ↓reduceIte, Nat.reduceAdd, Nat.reduceEqDiff, j182, j196, j197, j240, j243, j250, j258, j267, j274, j275, j282, j285, j288, j291, j376, hmine, hob]
        refine CallTo.gen (args := [.ptr 2 0 [], .int .u16 o.page, arrAV o.base, .int .i64 o.off, .str ⟨o.s.toArray⟩]) (stH M) (stH M1) 102 rfl fok8 (by simp -dsimp -implicitDefEqProofs only [↓j25, ↓j29, j173, j174, ↓reduceIte, Nat.reduceEqDiff]) (fun y hy => (args_write (M := []) y hy).2) hwr (SubH.of (by simp -dsimp -implicitDefEqProofs only [↓j27, ↓reduceIte, Nat.reduceEqDiff, j182, j204, j205])) ⟨by simp, put_st⟩ ?_
        simp -dsimp -implicitDefEqProofs only [↓j0, ↓j1, ↓j7, ↓j12, ↓j14, ↓j15, ↓j16, j17, j18, j20, j21, j22, j23, ↓j25, ↓j29, ↓j30, j33, ↓j38, ↓j39, ↓j58, ↓j62, j142, ↓j145, j170, j171, j173, j174, reduceCtorEq, ↓reduceIte, Nat.reduceEqDiff, j429]
        refine AWp.loopR (Z := Z) mixed hZ (by kernel_rfl) (fun n s => ∃ i, i + n = ks.length ∧ s = a3St ks o M1 [] mine e had i) (n0 := ks.length) (s0 := a3St ks o M1 [] mine e had 0) ?_ ⟨0, by omega, rfl⟩ ?_ rfl
        · exact Wk.sub (by simp -dsimp -implicitDefEqProofs only [↓j25, ↓j27, j179, reduceCtorEq, ↓reduceIte, Nat.reduceEqDiff, j182, j183, j184, j202, j203, j204, j205, j209, j223, a3T, a3H, a2H, bwV_nil, bwB_nil] <;> simp)
        rintro n s ⟨i, hi, rfl⟩
        refine ⟨rfl, ?_⟩
        rcases Nat.lt_or_ge i ks.length with hlt | hge
        · rw [hks0] at hlt; exact absurd hlt (by simp)
        have hi2 : i = ks.length := by omega
        subst hi2
        have f1 : decide ((ks.length : Int) < (ks.length : Int)) = false := decide_eq_false (by omega)
        have hrn := read_spec M1 hM1 o.page hoo.page
        have hnl := readP_len hM1 o.page
        by_cases he0 : e = 0
        · subst he0
          obtain ⟨q1, q2, q3, q4⟩ := write_yes (M := M) (page := o.page) (base := o.base) (off := o.off) (s := o.s) (by rw [hWe])
          rw [hWe, hrr] at q4
          have q4 : readP M1 o.page = (layB (if had then mine else o.base) o.off.toNat o.s, true) := q4
          rw [q4] at hrn hnl
          obtain ⟨a, haa⟩ : ∃ a : Nat, o.off = (a : Int) := ⟨o.off.toNat, by omega⟩
          have hta : o.off.toNat = a := by omega
          have hpl : (if had then mine else o.base).length = 64 := by cases had; exact hob; exact hmine
          have hlay : ∀ i, (layB (if had then mine else o.base) a o.s)[i]? = if a ≤ i ∧ i < a + o.s.length then o.s[i - a]? else (if had then mine else o.base)[i]? := fun i => layB_get (by omega)
          rw [hta] at hrn hnl
          obtain ⟨now, hnow⟩ : ∃ now, layB (if had then mine else o.base) a o.s = now := ⟨_, rfl⟩
          rw [hnow] at hrn hnl
          simp only [hnow] at hlay
          have hlay : ∀ i, now[i]? = if a ≤ i ∧ i < a + o.s.length then o.s[i - a]? else if had = true then mine[i]? else o.base[i]? := fun i => by
            rw [hlay i]; cases had <;> rfl
          have hnl : now.length = 64 := hnl
          have hrn : ACall Try.prog 10 [.ptr 2 0 [], .int .u16 o.page] (stH M1) (.tuple [arrAV now, .bool true]) (stH M1) := hrn
          have o3 := haa
          simp -dsimp -implicitDefEqProofs only [↓j0, ↓j1, ↓j7, ↓j11, ↓j12, ↓j13, ↓j15, j17, j18, j20, ↓j25, ↓j27, ↓j29, ↓j38, ↓j43, ↓j45, ↓j48, ↓j53, ↓j76, ↓j79, ↓j89, j130, ↓j145, ↓j146, ↓j148, ↓j149, ↓j153, j159, AV.proj, AV.offOf, AV.sizeL, j163, j167, j171, reduceCtorEq, ↓reduceIte, Nat.reduceEqDiff, j182, j185, j197, j267, j282, a3St, a3T, a3H, a2H, bwV_nil, bwB_nil, f1]
          refine CallTo.gen (args := [.ptr 2 0 [], .int .u16 o.page]) (stH M1) (stH M1) 102 rfl fok10 (by simp -dsimp -implicitDefEqProofs only [↓j25, ↓j29, j173, j174, ↓reduceIte, Nat.reduceEqDiff]) (notup2 (fun vs h => by cases h) fun vs h => by cases h) hrn (SubH.of (by simp -dsimp -implicitDefEqProofs only [↓j27, reduceCtorEq, ↓reduceIte, Nat.reduceEqDiff, j182, j204, j205])) ⟨by simp, put_st⟩ ?_
          have g0 : (((0 : Nat) : Int) != 0) = false := rfl
          simp -dsimp -implicitDefEqProofs only [↓j0, ↓j1, ↓j7, ↓j9, ↓j12, ↓j13, ↓j14, ↓j15, ↓j16, j17, j18, j19, j20, j21, j22, j23, ↓j25, ↓j27, ↓j29, ↓j30, j33, ↓j38, ↓j39, ↓j41, ↓j44, ↓j48, ↓j57, ↓j78, j85, ↓j89, ↓j145, ↓j146, ↓j148, ↓j149, ↓j153, j158, AV.proj, AV.offOf, AV.upd, AV.size, AV.layable, j163, j164, j170, j171, j173, j174, reduceCtorEq, ↓reduceIte, Nat.reduceAdd, Nat.reduceEqDiff, j182, j185, j240, j243, j274, j376, g0, hnl]
          refine AWp.loopR (Z := Z) mixed hZ (by kernel_rfl) (fun n s => ∃ i, i + n = 64 ∧ s = a4St o mine now had i) (n0 := 64) (s0 := a4St o mine now had 0) ?_ ⟨0, by omega, rfl⟩ ?_ rfl
          · exact Wk.sub (by simp -dsimp -implicitDefEqProofs only [↓j25, ↓j27, j179, reduceCtorEq, ↓reduceIte, Nat.reduceEqDiff, j182, j183, j184, j202, j203, j204, j205, j209, j223] <;> simp)
          rintro n s ⟨i, hi, rfl⟩
          refine ⟨rfl, ?_⟩
          rcases Nat.lt_or_ge i 64 with hlt | hge
          · have e1 : decide ((i : Int) < 64) = true := decide_eq_true (by omega)
            obtain ⟨c, hc⟩ := list_get (xs := now) (i := i) (by omega)
            obtain ⟨cm, hcm⟩ := list_get (xs := mine) (i := i) (by omega)
            obtain ⟨cb, hcb⟩ := list_get (xs := o.base) (i := i) (by omega)
            have z1 : AV.sizeL ((now.map byteAV).take i) = i * 1 := (unif_bytes now).sizeL_take (by simp; omega)
            have z2 : AV.sizeL ((mine.map byteAV).take i) = i * 1 := (unif_bytes mine).sizeL_take (by simp; omega)
            have z3 : AV.sizeL ((o.base.map byteAV).take i) = i * 1 := (unif_bytes o.base).sizeL_take (by simp; omega)
            have l1 : (i : Int) < ((64 : Nat) : Int) := by omega
            have hw : IntKind.i64.wrap ((i : Int) + 1) = ((i + 1 : Nat) : Int) := by rw [wrap_i64 (by omega) (by omega)]; omega
            have hg := hlay i
            rw [hc] at hg
            have nn : ∀ x : UInt8, (((x.toNat : Nat) : Int) != ((x.toNat : Nat) : Int)) = false := fun x => by simp
            have nxt : ∀ (t : Env) (H : Heap) (m : Nat), SubT [(22, .int .i64 (i + 1 : Nat)), (21, .bool true), (20, .ptr 102 0 []), (14, .bool had), (13, .ptr 101 0 []), (3, .ptr 0 0 []), (4, .bool false)] t → SubH [(102, .cells (arrAV now)), (101, .cells (arrAV mine)), (0, woC o)] H → m ≤ 103 → ∃ m' s'', m' < n ∧ (∃ i, i + m' = 64 ∧ s'' = a4St o mine now had i) ∧ Wk ⟨223, t, H, m⟩ s'' := fun t H m ht hH hm =>
              ⟨n - 1, a4St o mine now had (i + 1), by omega, ⟨i + 1, by omega, rfl⟩, Wk.mk ht.spec hH.spec hm rfl⟩
            have fitT : True := trivial
            by_cases ha : i < a
            · have g1 : decide ((a : Int) ≤ (i : Int)) = false := decide_eq_false (by omega)
              rw [if_neg (by omega)] at hg
              cases had
              · skip
                have hcv : c = cb := by
                  rw [if_neg Bool.false_ne_true, hcb] at hg
                  exact Option.some.inj hg
                subst hcv
                simp -dsimp -implicitDefEqProofs only [↓j0, ↓j1, ↓j2, ↓j3, ↓j4, ↓j5, ↓j7, ↓j8, ↓j9, ↓j12, ↓j13, ↓j14, ↓j15, j17, j18, j20, j24, ↓j25, ↓j27, ↓j29, ↓j30, j32, j33, ↓j38, ↓j39, ↓j40, ↓j43, ↓j45, ↓j46, ↓j48, ↓j55, ↓j76, ↓j79, j82, j83, j84, ↓j89, ↓j94, j130, ↓j145, ↓j146, ↓j147, ↓j148, ↓j149, ↓j150, ↓j151, ↓j153, j158, j159, j162, AV.proj, AV.offOf, AV.size, AV.sizeL, j163, j164, j166, j167, j170, j171, j172, j174, j175, j177, reduceCtorEq, ↓reduceIte, Nat.reduceAdd, Nat.reduceEqDiff, j182, j185, j194, j195, j196, j197, j206, j207, j208, j240, j250, j255, j276, j285, j288, a4St, e1, o3, g1, hob, hc, hcb, z1, z3, l1, nn, byteAV]
                refine ⟨by kernel_rfl, ?_⟩
                simp -dsimp -implicitDefEqProofs only [↓j0, ↓j1, ↓j7, ↓j9, ↓j13, ↓j15, j17, j18, j20, ↓j25, ↓j29, ↓j30, j33, ↓j38, ↓j39, ↓j48, ↓j89, ↓j145, ↓j146, ↓j148, ↓j149, j154, j171, ↓reduceIte, Nat.reduceEqDiff, j185]
                exact nxt _ _ _ (by simp -dsimp -implicitDefEqProofs only [↓j25, ↓reduceIte, Nat.reduceEqDiff, j182, j202, j203, hw] <;> simp) (by simp -dsimp -implicitDefEqProofs only [↓j27, reduceCtorEq, ↓reduceIte, Nat.reduceEqDiff, j182, j204, j205] <;> simp) (by simp)
              · skip
                have hcv : c = cm := by
                  rw [if_pos rfl, hcm] at hg
                  exact Option.some.inj hg
                subst hcv
                simp -dsimp -implicitDefEqProofs only [↓j0, ↓j1, ↓j2, ↓j3, ↓j4, ↓j5, ↓j7, ↓j8, ↓j9, ↓j12, ↓j13, ↓j14, ↓j15, j17, j18, j20, j24, ↓j25, ↓j27, ↓j29, ↓j30, j32, j33, ↓j38, ↓j39, ↓j40, ↓j43, ↓j45, ↓j46, ↓j48, ↓j55, ↓j76, ↓j79, j82, j83, j84, ↓j89, ↓j94, j130, ↓j145, ↓j146, ↓j147, ↓j148, ↓j149, ↓j150, ↓j151, ↓j153, j158, j159, j162, AV.proj, AV.offOf, AV.size, AV.sizeL, j163, j164, j166, j167, j170, j171, j172, j174, j175, j177, reduceCtorEq, ↓reduceIte, Nat.reduceAdd, Nat.reduceEqDiff, j182, j185, j193, j194, j195, j196, j197, j206, j207, j208, j240, j250, j255, j276, j288, a4St, e1, o3, g1, hob, hc, hcm, z1, z2, l1, nn, byteAV]
                refine ⟨by kernel_rfl, ?_⟩
                simp -dsimp -implicitDefEqProofs only [↓j0, ↓j1, ↓j7, ↓j9, ↓j13, ↓j15, j17, j18, j20, ↓j25, ↓j29, ↓j30, j33, ↓j38, ↓j39, ↓j48, ↓j89, ↓j145, ↓j146, ↓j148, ↓j149, j154, j171, ↓reduceIte, Nat.reduceEqDiff, j185]
                exact nxt _ _ _ (by simp -dsimp -implicitDefEqProofs only [↓j25, ↓reduceIte, Nat.reduceEqDiff, j182, j202, j203, hw] <;> simp) (by simp -dsimp -implicitDefEqProofs only [↓j27, reduceCtorEq, ↓reduceIte, Nat.reduceEqDiff, j182, j204, j205] <;> simp) (by simp)
            have g1 : decide ((a : Int) ≤ (i : Int)) = true := decide_eq_true (by omega)
            have w1 : IntKind.i64.wrap ((i : Int) - (a : Int)) = ((i - a : Nat) : Int) := by rw [wrap_i64 (by omega) (by omega)]; omega
            by_cases hs : i - a < o.s.length
            · have g2 : decide (((i - a : Nat) : Int) < (o.s.length : Int)) = true := decide_eq_true (by omega)
              rw [if_pos (by omega)] at hg
              have hby : byteAt ⟨o.s.toArray⟩ ((i - a : Nat) : Int) = (c.toNat : Int) := byte_at hg.symm
              have l2 : ((i - a : Nat) : Int) < (o.s.length : Int) := by omega
              simp -dsimp -implicitDefEqProofs only [↓j0, ↓j1, ↓j2, ↓j3, ↓j4, ↓j5, ↓j7, ↓j8, ↓j9, ↓j12, ↓j13, ↓j14, ↓j15, j17, j18, j20, j24, ↓j25, ↓j27, ↓j29, ↓j30, j32, j33, ↓j38, ↓j39, ↓j40, ↓j43, ↓j45, ↓j46, ↓j47, ↓j48, ↓j55, ↓j58, ↓j59, ↓j76, ↓j79, j82, j83, j84, ↓j89, ↓j94, ↓j95, j130, j132, j141, ↓j145, ↓j146, ↓j147, ↓j148, ↓j149, ↓j150, ↓j151, ↓j153, j155, j158, j159, j162, AV.proj, AV.offOf, AV.size, AV.sizeL, j163, j164, j166, j167, j170, j171, j172, j174, j175, j177, reduceCtorEq, ↓reduceIte, Nat.reduceAdd, Nat.reduceEqDiff, j182, j185, j191, j193, j195, j196, j197, j206, j207, j208, j240, j250, j255, j258, j259, j276, j288, j291, a4St, e1, o3, g1, w1, str_bytes, hby, l2, hob, hc, z1, l1, nn, byteAV]
              refine ⟨by kernel_rfl, ?_⟩
              simp -dsimp -implicitDefEqProofs only [↓j0, ↓j1, ↓j7, ↓j9, ↓j13, ↓j15, j17, j18, j20, ↓j25, ↓j29, ↓j30, j33, ↓j38, ↓j39, ↓j48, ↓j89, ↓j145, ↓j146, ↓j148, ↓j149, j154, j171, ↓reduceIte, Nat.reduceEqDiff, j185]
              exact nxt _ _ _ (by simp -dsimp -implicitDefEqProofs only [↓j25, ↓reduceIte, Nat.reduceEqDiff, j182, j202, j203, hw] <;> simp) (by simp -dsimp -implicitDefEqProofs only [↓j27, reduceCtorEq, ↓reduceIte, Nat.reduceEqDiff, j182, j204, j205] <;> simp) (by simp)
            have g2 : decide (((i - a : Nat) : Int) < (o.s.length : Int)) = false := decide_eq_false (by omega)
            rw [if_neg (by omega)] at hg
            cases had
            · skip
              have hcv : c = cb := by
                rw [if_neg Bool.false_ne_true, hcb] at hg
                exact Option.some.inj hg
              subst hcv
              simp -dsimp -implicitDefEqProofs only [↓j0, ↓j1, ↓j2, ↓j3, ↓j4, ↓j5, ↓j7, ↓j8, ↓j9, ↓j12, ↓j13, ↓j14, ↓j15, j17, j18, j20, j24, ↓j25, ↓j27, ↓j29, ↓j30, j32, j33, ↓j38, ↓j39, ↓j40, ↓j43, ↓j45, ↓j46, ↓j48, ↓j55, ↓j58, ↓j59, ↓j76, ↓j79, j82, j83, j84, ↓j89, ↓j94, j130, j132, j141, ↓j145, ↓j146, ↓j147, ↓j148, ↓j149, ↓j150, ↓j151, ↓j153, j155, j158, j159, j162, AV.proj, AV.offOf, AV.size, AV.sizeL, j163, j164, j166, j167, j170, j171, j172, j174, j175, j177, reduceCtorEq, ↓reduceIte, Nat.reduceAdd, Nat.reduceEqDiff, j182, j185, j194, j195, j196, j197, j206, j207, j208, j240, j250, j255, j258, j259, j276, j285, j288, j291, a4St, e1, o3, g1, w1, g2, str_bytes, hob, hc, hcb, z1, z3, l1, nn, byteAV]
              refine ⟨by kernel_rfl, ?_⟩
              simp -dsimp -implicitDefEqProofs only [↓j0, ↓j1, ↓j7, ↓j9, ↓j13, ↓j15, j17, j18, j20, ↓j25, ↓j29, ↓j30, j33, ↓j38, ↓j39, ↓j48, ↓j89, ↓j145, ↓j146, ↓j148, ↓j149, j154, j171, ↓reduceIte, Nat.reduceEqDiff, j185]
              exact nxt _ _ _ (by simp -dsimp -implicitDefEqProofs only [↓j25, ↓reduceIte, Nat.reduceEqDiff, j182, j202, j203, hw] <;> simp) (by simp -dsimp -implicitDefEqProofs only [↓j27, reduceCtorEq, ↓reduceIte, Nat.reduceEqDiff, j182, j204, j205] <;> simp) (by simp)
            · skip
              have hcv : c = cm := by
                rw [if_pos rfl, hcm] at hg
                exact Option.some.inj hg
              subst hcv
              simp -dsimp -implicitDefEqProofs only [↓j0, ↓j1, ↓j2, ↓j3, ↓j4, ↓j5, ↓j7, ↓j8, ↓j9, ↓j12, ↓j13, ↓j14, ↓j15, j17, j18, j20, j24, ↓j25, ↓j27, ↓j29, ↓j30, j32, j33, ↓j38, ↓j39, ↓j40, ↓j43, ↓j45, ↓j46, ↓j48, ↓j55, ↓j58, ↓j59, ↓j76, ↓j79, j82, j83, j84, ↓j89, ↓j94, j130, j132, j141, ↓j145, ↓j146, ↓j147, ↓j148, ↓j149, ↓j150, ↓j151, ↓j153, j155, j158, j159, j162, AV.proj, AV.offOf, AV.size, AV.sizeL, j163, j164, j166, j167, j170, j171, j172, j174, j175, j177, reduceCtorEq, ↓reduceIte, Nat.reduceAdd, Nat.reduceEqDiff, j182, j185, j193, j194, j195, j196, j197, j206, j207, j208, j240, j250, j255, j258, j259, j276, j288, j291, a4St, e1, o3, g1, w1, g2, str_bytes, hob, hc, hcm, z1, z2, l1, nn, byteAV]
              refine ⟨by kernel_rfl, ?_⟩
              simp -dsimp -implicitDefEqProofs only [↓j0, ↓j1, ↓j7, ↓j9, ↓j13, ↓j15, j17, j18, j20, ↓j25, ↓j29, ↓j30, j33, ↓j38, ↓j39, ↓j48, ↓j89, ↓j145, ↓j146, ↓j148, ↓j149, j154, j171, ↓reduceIte, Nat.reduceEqDiff, j185]
              exact nxt _ _ _ (by simp -dsimp -implicitDefEqProofs only [↓j25, ↓reduceIte, Nat.reduceEqDiff, j182, j202, j203, hw] <;> simp) (by simp -dsimp -implicitDefEqProofs only [↓j27, reduceCtorEq, ↓reduceIte, Nat.reduceEqDiff, j182, j204, j205] <;> simp) (by simp)
          · have hi2 : i = 64 := by omega
            subst hi2
            have e1 : decide (((64 : Nat) : Int) < 64) = false := rfl
            simp -dsimp -implicitDefEqProofs only [↓j0, ↓j1, ↓j2, ↓j7, ↓j11, ↓j12, ↓j13, ↓j15, j17, j18, j20, ↓j25, ↓j29, ↓j30, j33, ↓j38, ↓j48, ↓j53, ↓j89, ↓j145, ↓j146, ↓j147, ↓j148, ↓j149, ↓j150, j159, j163, j164, j171, j175, ↓reduceIte, Nat.reduceEqDiff, j185, a4St, e1]
            refine CallTo.pure (args := []) rfl fok11 (by simp -dsimp -implicitDefEqProofs only [j174]) nil0 awake_spec ?_
            simp -dsimp -implicitDefEqProofs only [↓j0, ↓j1, ↓j10, j17, j18, j20, ↓j25, ↓j29, ↓j30, j32, ↓j39, ↓j40, j83, ↓j145, j171, ↓reduceIte, Nat.reduceEqDiff]
            exact fin _ _ _ rfl
        · have hMM : M1 = M := by
            have := write_no (M := M) (page := o.page) (base := o.base) (off := o.off) (s := o.s) (by rw [hWe]; exact he0)
            rw [hWe] at this; exact this
          subst hMM
          rw [hrr] at hrn hnl
          have hrn : ACall Try.prog 10 [.ptr 2 0 [], .int .u16 o.page] (stH M1) (.tuple [arrAV mine, .bool had]) (stH M1) := hrn
          have g0 : ((e : Int) != 0) = true := by simp; omega
          have hce := cellsEq_bytes (l := mine) (k := mine) rfl
          have hkb := kinds_bytes hmine
          simp only [beq_self_eq_true] at hce
          have hbb : (had == had) = true := by cases had <;> rfl
          have hll : ((ks.length : Int) == (ks.length : Int)) = true := by rw [beq_iff_eq]
          simp -dsimp -implicitDefEqProofs only [↓j0, ↓j1, ↓j7, ↓j11, ↓j12, ↓j13, ↓j15, j17, j18, j20, ↓j25, ↓j27, ↓j29, ↓j38, ↓j43, ↓j45, ↓j48, ↓j53, ↓j76, ↓j79, ↓j89, j130, ↓j145, ↓j146, ↓j148, ↓j149, ↓j153, j159, AV.proj, AV.offOf, AV.sizeL, j163, j167, j171, reduceCtorEq, ↓reduceIte, Nat.reduceEqDiff, j182, j185, j197, j267, j282, a3St, a3T, a3H, a2H, bwV_nil, bwB_nil, f1]
          refine CallTo.gen (args := [.ptr 2 0 [], .int .u16 o.page]) (stH M1) (stH M1) 102 rfl fok10 (by simp -dsimp -implicitDefEqProofs only [↓j25, ↓j29, j173, j174, ↓reduceIte, Nat.reduceEqDiff]) (notup2 (fun vs h => by cases h) fun vs h => by cases h) hrn (SubH.of (by simp -dsimp -implicitDefEqProofs only [↓j27, reduceCtorEq, ↓reduceIte, Nat.reduceEqDiff, j182, j204, j205])) ⟨by simp, put_st⟩ ?_
          simp -dsimp -implicitDefEqProofs only [↓j0, ↓j1, ↓j7, ↓j12, ↓j13, ↓j15, j17, j18, j19, j20, j21, j22, j23, ↓j25, ↓j27, ↓j29, ↓j30, j33, ↓j38, ↓j39, ↓j41, ↓j43, ↓j44, ↓j48, ↓j57, ↓j76, ↓j78, j85, ↓j89, ↓j91, j129, ↓j145, ↓j146, ↓j147, ↓j149, ↓j153, j158, AV.proj, AV.offOf, AV.upd, AV.size, AV.layable, j163, j164, j170, j171, j173, j174, reduceCtorEq, ↓reduceIte, Nat.reduceAdd, Nat.reduceEqDiff, j182, j184, j185, j211, j240, j241, j243, j274, j275, j277, j278, j376, hmine, g0, hce]
          refine ⟨hkb, ?_⟩
          simp -dsimp -implicitDefEqProofs only [↓j1, ↓j2, j17, j18, j20, ↓j25, ↓j29, ↓j30, j32, ↓j38, ↓j40, ↓j48, ↓j53, j83, ↓j90, ↓j145, ↓j146, ↓j147, ↓j150, j163, j164, j171, j175, ↓reduceIte, Nat.reduceEqDiff, j195, j211, j418, hbb]
          refine CallTo.gen (args := [.ptr 2 0 []]) (stH M1) (stH M1) 103 rfl fok9 (by simp -dsimp -implicitDefEqProofs only [↓j25, ↓j29, j173, j174, ↓reduceIte]) (notup1 fun vs h => by cases h) hpg (SubH.of (by simp -dsimp -implicitDefEqProofs only [↓j27, ↓reduceIte, Nat.reduceEqDiff, j182, j204, j205])) ⟨by simp, put_st⟩ ?_
          simp -dsimp -implicitDefEqProofs only [↓j1, ↓j2, j17, j18, j20, j21, j22, j23, ↓j25, ↓j29, ↓j30, j32, ↓j38, ↓j40, ↓j48, ↓j53, ↓j58, ↓j62, j83, ↓j89, j142, ↓j145, ↓j146, ↓j147, ↓j150, j157, j163, j164, j170, j171, j173, j174, j175, reduceCtorEq, ↓reduceIte, Nat.reduceEqDiff, j185, j429, hll]
          refine CallTo.pure (args := []) rfl fok11 (by simp -dsimp -implicitDefEqProofs only [j174]) nil0 awake_spec ?_
          simp -dsimp -implicitDefEqProofs only [↓j0, ↓j1, ↓j10, j17, j18, j20, ↓j25, ↓j29, ↓j30, j32, ↓j39, ↓j40, j83, ↓j145, j171, ↓reduceIte, Nat.reduceEqDiff]
          exact fin _ _ _ rfl
      | cons w0 w1 =>
        rw [← hW0]
        have hpW : 0 < W.length := by rw [hW0]; simp
        clear hW0
        simp -dsimp -implicitDefEqProofs only [↓j0, ↓j1, ↓j7, ↓j11, ↓j12, ↓j13, ↓j15, j17, j18, j20, ↓j25, ↓j27, ↓j29, ↓j38, ↓j43, ↓j45, ↓j48, ↓j53, ↓j76, ↓j79, ↓j89, j130, ↓j145, ↓j146, ↓j148, ↓j149, ↓j153, j159, AV.proj, AV.offOf, AV.sizeL, j163, j167, j171, ↓reduceIte, Nat.reduceEqDiff, j182, j185, j197, j267, j282, a2St, a2T, a2H, f1, bwV_ne hpW, bwB_ne hpW]
        refine CallTo.gen (args := [.ptr 2 0 [], .int .u16 o.page]) (stH M) (stH M) 101 rfl fok10 (by simp -dsimp -implicitDefEqProofs only [↓j25, ↓j29, j173, j174, ↓reduceIte, Nat.reduceEqDiff]) (notup2 (fun vs h => by cases h) fun vs h => by cases h) hrd (SubH.of (by simp -dsimp -implicitDefEqProofs only [↓j27, reduceCtorEq, ↓reduceIte, Nat.reduceEqDiff, j182, j204, j205])) ⟨by simp, put_st⟩ ?_
        simp -dsimp -implicitDefEqProofs only [↓j0, ↓j1, ↓j7, ↓j12, ↓j15, j17, j18, j19, j20, j21, j22, j23, ↓j25, ↓j27, ↓j29, ↓j38, ↓j39, ↓j41, ↓j43, ↓j44, ↓j45, ↓j53, ↓j57, ↓j76, ↓j78, ↓j79, j85, j129, j130, j132, ↓j145, ↓j146, ↓j153, AV.proj, AV.offOf, AV.upd, AV.size, AV.sizeL, AV.layable, j163, j164, j166, j167, j170, j171, j173, j174, reduceCtorEq, ↓reduceIte, Nat.reduceAdd, Nat.reduceEqDiff, j182, j196, j197, j240, j243, j250, j258, j267, j274, j275, j282, j285, j288, j291, j376, hmine, hob]
        refine CallTo.gen (args := [.ptr 2 0 [], .int .u16 o.page, arrAV o.base, .int .i64 o.off, .str ⟨o.s.toArray⟩]) (stH M) (stH M1) 102 rfl fok8 (by simp -dsimp -implicitDefEqProofs only [↓j25, ↓j29, j173, j174, ↓reduceIte, Nat.reduceEqDiff]) (fun y hy => (args_write (M := []) y hy).2) hwr (SubH.of (by simp -dsimp -implicitDefEqProofs only [↓j27, ↓reduceIte, Nat.reduceEqDiff, j182, j204, j205])) ⟨by simp, put_st⟩ ?_
        simp -dsimp -implicitDefEqProofs only [↓j0, ↓j1, ↓j7, ↓j12, ↓j14, ↓j15, ↓j16, j17, j18, j20, j21, j22, j23, ↓j25, ↓j29, ↓j30, j33, ↓j38, ↓j39, ↓j58, ↓j62, j142, ↓j145, j170, j171, j173, j174, reduceCtorEq, ↓reduceIte, Nat.reduceEqDiff, j429]
        refine AWp.loopR (Z := Z) mixed hZ (by kernel_rfl) (fun n s => ∃ i, i + n = ks.length ∧ s = a3St ks o M1 W mine e had i) (n0 := ks.length) (s0 := a3St ks o M1 W mine e had 0) ?_ ⟨0, by omega, rfl⟩ ?_ rfl
        · exact Wk.sub (by simp -dsimp -implicitDefEqProofs only [↓j25, ↓j27, j179, reduceCtorEq, ↓reduceIte, Nat.reduceEqDiff, j182, j183, j184, j202, j203, j204, j205, j209, j223, a3T, a3H, a2H, bwV_ne hpW, bwB_ne hpW] <;> simp)
        rintro n s ⟨i, hi, rfl⟩
        refine ⟨rfl, ?_⟩
        rcases Nat.lt_or_ge i ks.length with hlt | hge
        · have e1 : decide ((i : Int) < (ks.length : Int)) = true := decide_eq_true (by omega)
          obtain ⟨p, hpi⟩ := list_get (xs := ks) (i := i) hlt
          have hsz := (unif_keys ks).sizeL_take (k := i) (by simp; omega)
          have hlt2 : (i : Int) < (ks.length : Int) := by omega
          have hw : IntKind.i64.wrap ((i : Int) + 1) = ((i + 1 : Nat) : Int) := by rw [wrap_i64 (by omega) (by omega)]; omega
          obtain ⟨hko, b, hb1, hbl, hWi⟩ := hkey i p hpi
          have hrd2 := read_spec M1 hM1 p hko
          by_cases hpp : p = o.page
          · have g1 : ((p : Int) != (o.page : Int)) = false := by simp; omega
            have hr2l := readP_len hM1 p
            have hr2t : (readP M1 p).2 = true := hb1.1
            obtain ⟨⟨b2, t2⟩, hr2⟩ : ∃ r, readP M1 p = r := ⟨_, rfl⟩
            rw [hr2] at hrd2 hr2l hr2t
            have hr2t : t2 = true := hr2t
            subst hr2t
            have hr2l : b2.length = 64 := hr2l
            have hrd2 : ACall Try.prog 10 [.ptr 2 0 [], .int .u16 p] (stH M1) (.tuple [arrAV b2, .bool true]) (stH M1) := hrd2
            simp -dsimp -implicitDefEqProofs only [↓j0, ↓j1, ↓j7, ↓j9, ↓j12, ↓j13, ↓j14, ↓j15, j17, j18, j20, ↓j25, ↓j29, ↓j38, ↓j39, ↓j43, ↓j46, ↓j48, ↓j53, ↓j77, ↓j89, ↓j92, j130, ↓j145, ↓j146, ↓j147, ↓j149, j159, AV.proj, AV.offOf, j171, j177, ↓reduceIte, Nat.reduceEqDiff, j182, j185, j191, j197, j206, j207, j208, j267, j303, a3St, a3T, a3H, a2H, bwV_ne hpW, bwB_ne hpW, hpi, hsz, hlt2]
            refine CallTo.gen (args := [.ptr 2 0 [], .int .u16 p]) (stH M1) (stH M1) 102 rfl fok10 (by simp -dsimp -implicitDefEqProofs only [↓j25, ↓j29, j173, j174, ↓reduceIte, Nat.reduceEqDiff]) (notup2 (fun vs h => by cases h) fun vs h => by cases h) hrd2 (SubH.of (by simp -dsimp -implicitDefEqProofs only [↓j27, reduceCtorEq, ↓reduceIte, Nat.reduceEqDiff, j182, j204, j205])) ⟨by simp, put_st⟩ ?_
            simp -dsimp -implicitDefEqProofs only [↓j0, ↓j1, ↓j3, ↓j4, ↓j5, ↓j8, ↓j12, ↓j15, j17, j18, j19, j20, j21, j22, j23, j24, ↓j25, ↓j27, ↓j29, ↓j30, j32, ↓j38, ↓j39, ↓j40, ↓j41, ↓j43, ↓j44, ↓j45, ↓j48, ↓j55, ↓j57, ↓j76, ↓j78, ↓j79, j82, j83, j84, j85, ↓j89, j130, ↓j145, ↓j146, ↓j148, ↓j150, ↓j151, ↓j153, j158, AV.proj, AV.offOf, AV.upd, AV.size, AV.sizeL, AV.layable, j163, j164, j167, j170, j171, j172, j173, j174, j175, reduceCtorEq, ↓reduceIte, Nat.reduceAdd, Nat.reduceEqDiff, j182, j185, j193, j195, j197, j240, j243, j267, j274, j282, j376, hr2l, g1]
            refine ⟨by kernel_rfl, ?_⟩
            simp -dsimp -implicitDefEqProofs only [↓j0, ↓j1, ↓j7, ↓j9, ↓j13, ↓j15, j17, j18, j20, ↓j25, ↓j29, ↓j30, j33, ↓j38, ↓j48, ↓j89, ↓j145, ↓j146, ↓j148, ↓j149, j154, j171, ↓reduceIte, Nat.reduceEqDiff, j185]
            exact ⟨n - 1, a3St ks o M1 W mine e had (i + 1), by omega, ⟨i + 1, by omega, by simp only [a3St, a3T, a3H, a2H, bwV_ne hpW, bwB_ne hpW]⟩, Wk.trans (Wk.mk (s' := ⟨223, a3T ks W e had (i + 1), a3H o M1 W mine, 103⟩) (SubT.spec (by simp -dsimp -implicitDefEqProofs only [↓j25, ↓reduceIte, Nat.reduceEqDiff, j182, j202, j203, a3T, bwV_ne hpW, hw] <;> simp)) (SubH.spec (by simp -dsimp -implicitDefEqProofs only [↓j27, reduceCtorEq, ↓reduceIte, Nat.reduceEqDiff, j182, j204, j205, a3H, a2H, bwB_ne hpW] <;> simp)) (Nat.le_refl _) rfl) a3_gc⟩
          · have g1 : ((p : Int) != (o.page : Int)) = true := by simp; omega
            rw [hb1.2 hpp] at hrd2
            have hrd2 : ACall Try.prog 10 [.ptr 2 0 [], .int .u16 p] (stH M1) (.tuple [arrAV b, .bool true]) (stH M1) := hrd2
            have hce := cellsEq_bytes (l := b) (k := b) rfl
            have hkb := kinds_bytes hbl
            simp only [beq_self_eq_true] at hce
            have z3 := (unif_arrs hWl).sizeL_take (k := i) (by simp; omega)
            have l3 : (i : Int) < (W.length : Int) := by omega
            simp -dsimp -implicitDefEqProofs only [↓j0, ↓j1, ↓j7, ↓j9, ↓j12, ↓j13, ↓j14, ↓j15, j17, j18, j20, ↓j25, ↓j29, ↓j38, ↓j39, ↓j43, ↓j46, ↓j48, ↓j53, ↓j77, ↓j89, ↓j92, j130, ↓j145, ↓j146, ↓j147, ↓j149, j159, AV.proj, AV.offOf, j171, j177, ↓reduceIte, Nat.reduceEqDiff, j182, j185, j191, j197, j206, j207, j208, j267, j303, a3St, a3T, a3H, a2H, bwV_ne hpW, bwB_ne hpW, hpi, hsz, hlt2]
            refine CallTo.gen (args := [.ptr 2 0 [], .int .u16 p]) (stH M1) (stH M1) 102 rfl fok10 (by simp -dsimp -implicitDefEqProofs only [↓j25, ↓j29, j173, j174, ↓reduceIte, Nat.reduceEqDiff]) (notup2 (fun vs h => by cases h) fun vs h => by cases h) hrd2 (SubH.of (by simp -dsimp -implicitDefEqProofs only [↓j27, reduceCtorEq, ↓reduceIte, Nat.reduceEqDiff, j182, j204, j205])) ⟨by simp, put_st⟩ ?_
            simp -dsimp -implicitDefEqProofs only [↓j0, ↓j1, ↓j4, ↓j5, ↓j8, ↓j12, ↓j15, j17, j18, j19, j20, j21, j22, j23, j24, ↓j25, ↓j27, ↓j29, ↓j38, ↓j39, ↓j41, ↓j43, ↓j44, ↓j45, ↓j46, ↓j48, ↓j55, ↓j57, ↓j76, ↓j78, ↓j79, j84, j85, ↓j89, ↓j91, ↓j93, j129, j130, ↓j145, ↓j146, ↓j147, ↓j148, ↓j150, ↓j151, ↓j153, j158, AV.proj, AV.offOf, AV.upd, AV.size, AV.sizeL, AV.layable, j163, j164, j167, j170, j171, j172, j173, j174, j175, j177, reduceCtorEq, ↓reduceIte, Nat.reduceAdd, Nat.reduceEqDiff, j182, j184, j185, j193, j196, j197, j206, j207, j208, j212, j240, j241, j243, j267, j274, j275, j277, j278, j282, j307, j376, hbl, g1, hWi, z3, l3, hce]
            refine ⟨hkb, ?_⟩
            simp -dsimp -implicitDefEqProofs only [↓j3, ↓j4, ↓j5, j17, j18, j20, j24, ↓j25, ↓j29, ↓j30, j32, ↓j40, j83, ↓j145, ↓j148, ↓j151, j163, j164, j170, j171, j172, j174, j175, ↓reduceIte, Nat.reduceEqDiff, j193, j195]
            refine ⟨by kernel_rfl, ?_⟩
            simp -dsimp -implicitDefEqProofs only [↓j0, ↓j1, ↓j7, ↓j9, ↓j13, ↓j15, j17, j18, j20, ↓j25, ↓j29, ↓j30, j33, ↓j38, ↓j48, ↓j89, ↓j145, ↓j146, ↓j148, ↓j149, j154, j171, ↓reduceIte, Nat.reduceEqDiff, j185]
            exact ⟨n - 1, a3St ks o M1 W mine e had (i + 1), by omega, ⟨i + 1, by omega, by simp only [a3St, a3T, a3H, a2H, bwV_ne hpW, bwB_ne hpW]⟩, Wk.trans (Wk.mk (s' := ⟨223, a3T ks W e had (i + 1), a3H o M1 W mine, 103⟩) (SubT.spec (by simp -dsimp -implicitDefEqProofs only [↓j25, ↓reduceIte, Nat.reduceEqDiff, j182, j202, j203, a3T, bwV_ne hpW, hw] <;> simp)) (SubH.spec (by simp -dsimp -implicitDefEqProofs only [↓j27, reduceCtorEq, ↓reduceIte, Nat.reduceEqDiff, j182, j204, j205, a3H, a2H, bwB_ne hpW] <;> simp)) (Nat.le_refl _) rfl) a3_gc⟩
        have hi2 : i = ks.length := by omega
        subst hi2
        have f1 : decide ((ks.length : Int) < (ks.length : Int)) = false := decide_eq_false (by omega)
        have hrn := read_spec M1 hM1 o.page hoo.page
        have hnl := readP_len hM1 o.page
        by_cases he0 : e = 0
        · subst he0
          obtain ⟨q1, q2, q3, q4⟩ := write_yes (M := M) (page := o.page) (base := o.base) (off := o.off) (s := o.s) (by rw [hWe])
          rw [hWe, hrr] at q4
          have q4 : readP M1 o.page = (layB (if had then mine else o.base) o.off.toNat o.s, true) := q4
          rw [q4] at hrn hnl
          obtain ⟨a, haa⟩ : ∃ a : Nat, o.off = (a : Int) := ⟨o.off.toNat, by omega⟩
          have hta : o.off.toNat = a := by omega
          have hpl : (if had then mine else o.base).length = 64 := by cases had; exact hob; exact hmine
          have hlay : ∀ i, (layB (if had then mine else o.base) a o.s)[i]? = if a ≤ i ∧ i < a + o.s.length then o.s[i - a]? else (if had then mine else o.base)[i]? := fun i => layB_get (by omega)
          rw [hta] at hrn hnl
          obtain ⟨now, hnow⟩ : ∃ now, layB (if had then mine else o.base) a o.s = now := ⟨_, rfl⟩
          rw [hnow] at hrn hnl
          simp only [hnow] at hlay
          have hlay : ∀ i, now[i]? = if a ≤ i ∧ i < a + o.s.length then o.s[i - a]? else if had = true then mine[i]? else o.base[i]? := fun i => by
            rw [hlay i]; cases had <;> rfl
          have hnl : now.length = 64 := hnl
          have hrn : ACall Try.prog 10 [.ptr 2 0 [], .int .u16 o.page] (stH M1) (.tuple [arrAV now, .bool true]) (stH M1) := hrn
          have o3 := haa
          simp -dsimp -implicitDefEqProofs only [↓j0, ↓j1, ↓j7, ↓j11, ↓j12, ↓j13, ↓j15, j17, j18, j20, ↓j25, ↓j27, ↓j29, ↓j38, ↓j43, ↓j45, ↓j48, ↓j53, ↓j76, ↓j79, ↓j89, j130, ↓j145, ↓j146, ↓j148, ↓j149, ↓j153, j159, AV.proj, AV.offOf, AV.sizeL, j163, j167, j171, reduceCtorEq, ↓reduceIte, Nat.reduceEqDiff, j182, j185, j197, j267, j282, a3St, a3T, a3H, a2H, bwV_ne hpW, bwB_ne hpW, f1]
          refine CallTo.gen (args := [.ptr 2 0 [], .int .u16 o.page]) (stH M1) (stH M1) 102 rfl fok10 (by simp -dsimp -implicitDefEqProofs only [↓j25, ↓j29, j173, j174, ↓reduceIte, Nat.reduceEqDiff]) (notup2 (fun vs h => by cases h) fun vs h => by cases h) hrn (SubH.of (by simp -dsimp -implicitDefEqProofs only [↓j27, reduceCtorEq, ↓reduceIte, Nat.reduceEqDiff, j182, j204, j205])) ⟨by simp, put_st⟩ ?_
          have g0 : (((0 : Nat) : Int) != 0) = false := rfl
          simp -dsimp -implicitDefEqProofs only [↓j0, ↓j1, ↓j7, ↓j9, ↓j12, ↓j13, ↓j14, ↓j15, ↓j16, j17, j18, j19, j20, j21, j22, j23, ↓j25, ↓j27, ↓j29, ↓j30, j33, ↓j38, ↓j39, ↓j41, ↓j44, ↓j48, ↓j57, ↓j78, j85, ↓j89, ↓j145, ↓j146, ↓j148, ↓j149, ↓j153, j158, AV.proj, AV.offOf, AV.upd, AV.size, AV.layable, j163, j164, j170, j171, j173, j174, reduceCtorEq, ↓reduceIte, Nat.reduceAdd, Nat.reduceEqDiff, j182, j185, j240, j243, j274, j376, g0, hnl]
          refine AWp.loopR (Z := Z) mixed hZ (by kernel_rfl) (fun n s => ∃ i, i + n = 64 ∧ s = a4St o mine now had i) (n0 := 64) (s0 := a4St o mine now had 0) ?_ ⟨0, by omega, rfl⟩ ?_ rfl
          · exact Wk.sub (by simp -dsimp -implicitDefEqProofs only [↓j25, ↓j27, j179, reduceCtorEq, ↓reduceIte, Nat.reduceEqDiff, j182, j183, j184, j202, j203, j204, j205, j209, j223] <;> simp)
          rintro n s ⟨i, hi, rfl⟩
          refine ⟨rfl, ?_⟩
          rcases Nat.lt_or_ge i 64 with hlt | hge
          · have e1 : decide ((i : Int) < 64) = true := decide_eq_true (by omega)
            obtain ⟨c, hc⟩ := list_get (xs := now) (i := i) (by omega)
            obtain ⟨cm, hcm⟩ := list_get (xs := mine) (i := i) (by omega)
            obtain ⟨cb, hcb⟩ := list_get (xs := o.base) (i := i) (by omega)
            have z1 : AV.sizeL ((now.map byteAV).take i) = i * 1 := (unif_bytes now).sizeL_take (by simp; omega)
            have z2 : AV.sizeL ((mine.map byteAV).take i) = i * 1 := (unif_bytes mine).sizeL_take (by simp; omega)
            have z3 : AV.sizeL ((o.base.map byteAV).take i) = i * 1 := (unif_bytes o.base).sizeL_take (by simp; omega)
            have l1 : (i : Int) < ((64 : Nat) : Int) := by omega
            have hw : IntKind.i64.wrap ((i : Int) + 1) = ((i + 1 : Nat) : Int) := by rw [wrap_i64 (by omega) (by omega)]; omega
            have hg := hlay i
            rw [hc] at hg
            have nn : ∀ x : UInt8, (((x.toNat : Nat) : Int) != ((x.toNat : Nat) : Int)) = false := fun x => by simp
            have nxt : ∀ (t : Env) (H : Heap) (m : Nat), SubT [(22, .int .i64 (i + 1 : Nat)), (21, .bool true), (20, .ptr 102 0 []), (14, .bool had), (13, .ptr 101 0 []), (3, .ptr 0 0 []), (4, .bool false)] t → SubH [(102, .cells (arrAV now)), (101, .cells (arrAV mine)), (0, woC o)] H → m ≤ 103 → ∃ m' s'', m' < n ∧ (∃ i, i + m' = 64 ∧ s'' = a4St o mine now had i) ∧ Wk ⟨223, t, H, m⟩ s'' := fun t H m ht hH hm =>
              ⟨n - 1, a4St o mine now had (i + 1), by omega, ⟨i + 1, by omega, rfl⟩, Wk.mk ht.spec hH.spec hm rfl⟩
            have fitT : True := trivial
            by_cases ha : i < a
            · have g1 : decide ((a : Int) ≤ (i : Int)) = false := decide_eq_false (by omega)
              rw [if_neg (by omega)] at hg
              cases had
              · skip
                have hcv : c = cb := by
                  rw [if_neg Bool.false_ne_true, hcb] at hg
                  exact Option.some.inj hg
                subst hcv
                simp -dsimp -implicitDefEqProofs only [↓j0, ↓j1, ↓j2, ↓j3, ↓j4, ↓j5, ↓j7, ↓j8, ↓j9, ↓j12, ↓j13, ↓j14, ↓j15, j17, j18, j20, j24, ↓j25, ↓j27, ↓j29, ↓j30, j32, j33, ↓j38, ↓j39, ↓j40, ↓j43, ↓j45, ↓j46, ↓j48, ↓j55, ↓j76, ↓j79, j82, j83, j84, ↓j89, ↓j94, j130, ↓j145, ↓j146, ↓j147, ↓j148, ↓j149, ↓j150, ↓j151, ↓j153, j158, j159, j162, AV.proj, AV.offOf, AV.size, AV.sizeL, j163, j164, j166, j167, j170, j171, j172, j174, j175, j177, reduceCtorEq, ↓reduceIte, Nat.reduceAdd, Nat.reduceEqDiff, j182, j185, j194, j195, j196, j197, j206, j207, j208, j240, j250, j255, j276, j285, j288, a4St, e1, o3, g1, hob, hc, hcb, z1, z3, l1, nn, byteAV]
                refine ⟨by kernel_rfl, ?_⟩
                simp -dsimp -implicitDefEqProofs only [↓j0, ↓j1, ↓j7, ↓j9, ↓j13, ↓j15, j17, j18, j20, ↓j25, ↓j29, ↓j30, j33, ↓j38, ↓j39, ↓j48, ↓j89, ↓j145, ↓j146, ↓j148, ↓j149, j154, j171, ↓reduceIte, Nat.reduceEqDiff, j185]
                exact nxt _ _ _ (by simp -dsimp -implicitDefEqProofs only [↓j25, ↓reduceIte, Nat.reduceEqDiff, j182, j202, j203, hw] <;> simp) (by simp -dsimp -implicitDefEqProofs only [↓j27, reduceCtorEq, ↓reduceIte, Nat.reduceEqDiff, j182, j204, j205] <;> simp) (by simp)
              · skip
                have hcv : c = cm := by
                  rw [if_pos rfl, hcm] at hg
                  exact Option.some.inj hg
                subst hcv
                simp -dsimp -implicitDefEqProofs only [↓j0, ↓j1, ↓j2, ↓j3, ↓j4, ↓j5, ↓j7, ↓j8, ↓j9, ↓j12, ↓j13, ↓j14, ↓j15, j17, j18, j20, j24, ↓j25, ↓j27, ↓j29, ↓j30, j32, j33, ↓j38, ↓j39, ↓j40, ↓j43, ↓j45, ↓j46, ↓j48, ↓j55, ↓j76, ↓j79, j82, j83, j84, ↓j89, ↓j94, j130, ↓j145, ↓j146, ↓j147, ↓j148, ↓j149, ↓j150, ↓j151, ↓j153, j158, j159, j162, AV.proj, AV.offOf, AV.size, AV.sizeL, j163, j164, j166, j167, j170, j171, j172, j174, j175, j177, reduceCtorEq, ↓reduceIte, Nat.reduceAdd, Nat.reduceEqDiff, j182, j185, j193, j194, j195, j196, j197, j206, j207, j208, j240, j250, j255, j276, j288, a4St, e1, o3, g1, hob, hc, hcm, z1, z2, l1, nn, byteAV]
                refine ⟨by kernel_rfl, ?_⟩
                simp -dsimp -implicitDefEqProofs only [↓j0, ↓j1, ↓j7, ↓j9, ↓j13, ↓j15, j17, j18, j20, ↓j25, ↓j29, ↓j30, j33, ↓j38, ↓j39, ↓j48, ↓j89, ↓j145, ↓j146, ↓j148, ↓j149, j154, j171, ↓reduceIte, Nat.reduceEqDiff, j185]
                exact nxt _ _ _ (by simp -dsimp -implicitDefEqProofs only [↓j25, ↓reduceIte, Nat.reduceEqDiff, j182, j202, j203, hw] <;> simp) (by simp -dsimp -implicitDefEqProofs only [↓j27, reduceCtorEq, ↓reduceIte, Nat.reduceEqDiff, j182, j204, j205] <;> simp) (by simp)
            have g1 : decide ((a : Int) ≤ (i : Int)) = true := decide_eq_true (by omega)
            have w1 : IntKind.i64.wrap ((i : Int) - (a : Int)) = ((i - a : Nat) : Int) := by rw [wrap_i64 (by omega) (by omega)]; omega
            by_cases hs : i - a < o.s.length
            · have g2 : decide (((i - a : Nat) : Int) < (o.s.length : Int)) = true := decide_eq_true (by omega)
              rw [if_pos (by omega)] at hg
              have hby : byteAt ⟨o.s.toArray⟩ ((i - a : Nat) : Int) = (c.toNat : Int) := byte_at hg.symm
              have l2 : ((i - a : Nat) : Int) < (o.s.length : Int) := by omega
              simp -dsimp -implicitDefEqProofs only [↓j0, ↓j1, ↓j2, ↓j3, ↓j4, ↓j5, ↓j7, ↓j8, ↓j9, ↓j12, ↓j13, ↓j14, ↓j15, j17, j18, j20, j24, ↓j25, ↓j27, ↓j29, ↓j30, j32, j33, ↓j38, ↓j39, ↓j40, ↓j43, ↓j45, ↓j46, ↓j47, ↓j48, ↓j55, ↓j58, ↓j59, ↓j76, ↓j79, j82, j83, j84, ↓j89, ↓j94, ↓j95, j130, j132, j141, ↓j145, ↓j146, ↓j147, ↓j148, ↓j149, ↓j150, ↓j151, ↓j153, j155, j158, j159, j162, AV.proj, AV.offOf, AV.size, AV.sizeL, j163, j164, j166, j167, j170, j171, j172, j174, j175, j177, reduceCtorEq, ↓reduceIte, Nat.reduceAdd, Nat.reduceEqDiff, j182, j185, j191, j193, j195, j196, j197, j206, j207, j208, j240, j250, j255, j258, j259, j276, j288, j291, a4St, e1, o3, g1, w1, str_bytes, hby, l2, hob, hc, z1, l1, nn, byteAV]
              refine ⟨by kernel_rfl, ?_⟩
              simp -dsimp -implicitDefEqProofs only [↓j0, ↓j1, ↓j7, ↓j9, ↓j13, ↓j15, j17, j18, j20, ↓j25, ↓j29, ↓j30, j33, ↓j38, ↓j39, ↓j48, ↓j89, ↓j145, ↓j146, ↓j148, ↓j149, j154, j171, ↓reduceIte, Nat.reduceEqDiff, j185]
              exact nxt _ _ _ (by simp -dsimp -implicitDefEqProofs only [↓j25, ↓reduceIte, Nat.reduceEqDiff, j182, j202, j203, hw] <;> simp) (by simp -dsimp -implicitDefEqProofs only [↓j27, reduceCtorEq, ↓reduceIte, Nat.reduceEqDiff, j182, j204, j205] <;> simp) (by simp)
            have g2 : decide (((i - a : Nat) : Int) < (o.s.length : Int)) = false := decide_eq_false (by omega)
            rw [if_neg (by omega)] at hg
            cases had
            · skip
              have hcv : c = cb := by
                rw [if_neg Bool.false_ne_true, hcb] at hg
                exact Option.some.inj hg
              subst hcv
              simp -dsimp -implicitDefEqProofs only [↓j0, ↓j1, ↓j2, ↓j3, ↓j4, ↓j5, ↓j7, ↓j8, ↓j9, ↓j12, ↓j13, ↓j14, ↓j15, j17, j18, j20, j24, ↓j25, ↓j27, ↓j29, ↓j30, j32, j33, ↓j38, ↓j39, ↓j40, ↓j43, ↓j45, ↓j46, ↓j48, ↓j55, ↓j58, ↓j59, ↓j76, ↓j79, j82, j83, j84, ↓j89, ↓j94, j130, j132, j141, ↓j145, ↓j146, ↓j147, ↓j148, ↓j149, ↓j150, ↓j151, ↓j153, j155, j158, j159, j162, AV.proj, AV.offOf, AV.size, AV.sizeL, j163, j164, j166, j167, j170, j171, j172, j174, j175, j177, reduceCtorEq, ↓reduceIte, Nat.reduceAdd, Nat.reduceEqDiff, j182, j185, j194, j195, j196, j197, j206, j207, j208, j240, j250, j255, j258, j259, j276, j285, j288, j291, a4St, e1, o3, g1, w1, g2, str_bytes, hob, hc, hcb, z1, z3, l1, nn, byteAV]
              refine ⟨by kernel_rfl, ?_⟩
              simp -dsimp -implicitDefEqProofs only [↓j0, ↓j1, ↓j7, ↓j9, ↓j13, ↓j15, j17, j18, j20, ↓j25, ↓j29, ↓j30, j33, ↓j38, ↓j39, ↓j48, ↓j89, ↓j145, ↓j146, ↓j148, ↓j149, j154, j171, ↓reduceIte, Nat.reduceEqDiff, j185]
              exact nxt _ _ _ (by simp -dsimp -implicitDefEqProofs only [↓j25, ↓reduceIte, Nat.reduceEqDiff, j182, j202, j203, hw] <;> simp) (by simp -dsimp -implicitDefEqProofs only [↓j27, reduceCtorEq, ↓reduceIte, Nat.reduceEqDiff, j182, j204, j205] <;> simp) (by simp)
            · skip
              have hcv : c = cm := by
                rw [if_pos rfl, hcm] at hg
                exact Option.some.inj hg
              subst hcv
              simp -dsimp -implicitDefEqProofs only [↓j0, ↓j1, ↓j2, ↓j3, ↓j4, ↓j5, ↓j7, ↓j8, ↓j9, ↓j12, ↓j13, ↓j14, ↓j15, j17, j18, j20, j24, ↓j25, ↓j27, ↓j29, ↓j30, j32, j33, ↓j38, ↓j39, ↓j40, ↓j43, ↓j45, ↓j46, ↓j48, ↓j55, ↓j58, ↓j59, ↓j76, ↓j79, j82, j83, j84, ↓j89, ↓j94, j130, j132, j141, ↓j145, ↓j146, ↓j147, ↓j148, ↓j149, ↓j150, ↓j151, ↓j153, j155, j158, j159, j162, AV.proj, AV.offOf, AV.size, AV.sizeL, j163, j164, j166, j167, j170, j171, j172, j174, j175, j177, reduceCtorEq, ↓reduceIte, Nat.reduceAdd, Nat.reduceEqDiff, j182, j185, j193, j194, j195, j196, j197, j206, j207, j208, j240, j250, j255, j258, j259, j276, j288, j291, a4St, e1, o3, g1, w1, g2, str_bytes, hob, hc, hcm, z1, z2, l1, nn, byteAV]
              refine ⟨by kernel_rfl, ?_⟩
              simp -dsimp -implicitDefEqProofs only [↓j0, ↓j1, ↓j7, ↓j9, ↓j13, ↓j15, j17, j18, j20, ↓j25, ↓j29, ↓j30, j33, ↓j38, ↓j39, ↓j48, ↓j89, ↓j145, ↓j146, ↓j148, ↓j149, j154, j171, ↓reduceIte, Nat.reduceEqDiff, j185]
              exact nxt _ _ _ (by simp -dsimp -implicitDefEqProofs only [↓j25, ↓reduceIte, Nat.reduceEqDiff, j182, j202, j203, hw] <;> simp) (by simp -dsimp -implicitDefEqProofs only [↓j27, reduceCtorEq, ↓reduceIte, Nat.reduceEqDiff, j182, j204, j205] <;> simp) (by simp)
          · have hi2 : i = 64 := by omega
            subst hi2
            have e1 : decide (((64 : Nat) : Int) < 64) = false := rfl
            simp -dsimp -implicitDefEqProofs only [↓j0, ↓j1, ↓j2, ↓j7, ↓j11, ↓j12, ↓j13, ↓j15, j17, j18, j20, ↓j25, ↓j29, ↓j30, j33, ↓j38, ↓j48, ↓j53, ↓j89, ↓j145, ↓j146, ↓j147, ↓j148, ↓j149, ↓j150, j159, j163, j164, j171, j175, ↓reduceIte, Nat.reduceEqDiff, j185, a4St, e1]
            refine CallTo.pure (args := []) rfl fok11 (by simp -dsimp -implicitDefEqProofs only [j174]) nil0 awake_spec ?_
            simp -dsimp -implicitDefEqProofs only [↓j0, ↓j1, ↓j10, j17, j18, j20, ↓j25, ↓j29, ↓j30, j32, ↓j39, ↓j40, j83, ↓j145, j171, ↓reduceIte, Nat.reduceEqDiff]
            exact fin _ _ _ rfl
        · have hMM : M1 = M := by
            have := write_no (M := M) (page := o.page) (base := o.base) (off := o.off) (s := o.s) (by rw [hWe]; exact he0)
            rw [hWe] at this; exact this
          subst hMM
          rw [hrr] at hrn hnl
          have hrn : ACall Try.prog 10 [.ptr 2 0 [], .int .u16 o.page] (stH M1) (.tuple [arrAV mine, .bool had]) (stH M1) := hrn
          have g0 : ((e : Int) != 0) = true := by simp; omega
          have hce := cellsEq_bytes (l := mine) (k := mine) rfl
          have hkb := kinds_bytes hmine
          simp only [beq_self_eq_true] at hce
          have hbb : (had == had) = true := by cases had <;> rfl
          have hll : ((ks.length : Int) == (ks.length : Int)) = true := by rw [beq_iff_eq]
          simp -dsimp -implicitDefEqProofs only [↓j0, ↓j1, ↓j7, ↓j11, ↓j12, ↓j13, ↓j15, j17, j18, j20, ↓j25, ↓j27, ↓j29, ↓j38, ↓j43, ↓j45, ↓j48, ↓j53, ↓j76, ↓j79, ↓j89, j130, ↓j145, ↓j146, ↓j148, ↓j149, ↓j153, j159, AV.proj, AV.offOf, AV.sizeL, j163, j167, j171, reduceCtorEq, ↓reduceIte, Nat.reduceEqDiff, j182, j185, j197, j267, j282, a3St, a3T, a3H, a2H, bwV_ne hpW, bwB_ne hpW, f1]
          refine CallTo.gen (args := [.ptr 2 0 [], .int .u16 o.page]) (stH M1) (stH M1) 102 rfl fok10 (by simp -dsimp -implicitDefEqProofs only [↓j25, ↓j29, j173, j174, ↓reduceIte, Nat.reduceEqDiff]) (notup2 (fun vs h => by cases h) fun vs h => by cases h) hrn (SubH.of (by simp -dsimp -implicitDefEqProofs only [↓j27, reduceCtorEq, ↓reduceIte, Nat.reduceEqDiff, j182, j204, j205])) ⟨by simp, put_st⟩ ?_
          simp -dsimp -implicitDefEqProofs only [↓j0, ↓j1, ↓j7, ↓j12, ↓j13, ↓j15, j17, j18, j19, j20, j21, j22, j23, ↓j25, ↓j27, ↓j29, ↓j30, j33, ↓j38, ↓j39, ↓j41, ↓j43, ↓j44, ↓j48, ↓j57, ↓j76, ↓j78, j85, ↓j89, ↓j91, j129, ↓j145, ↓j146, ↓j147, ↓j149, ↓j153, j158, AV.proj, AV.offOf, AV.upd, AV.size, AV.layable, j163, j164, j170, j171, j173, j174, reduceCtorEq, ↓reduceIte, Nat.reduceAdd, Nat.reduceEqDiff, j182, j184, j185, j211, j240, j241, j243, j274, j275, j277, j278, j376, hmine, g0, hce]
          refine ⟨hkb, ?_⟩
          simp -dsimp -implicitDefEqProofs only [↓j1, ↓j2, j17, j18, j20, ↓j25, ↓j29, ↓j30, j32, ↓j38, ↓j40, ↓j48, ↓j53, j83, ↓j90, ↓j145, ↓j146, ↓j147, ↓j150, j163, j164, j171, j175, ↓reduceIte, Nat.reduceEqDiff, j195, j211, j418, hbb]
          refine CallTo.gen (args := [.ptr 2 0 []]) (stH M1) (stH M1) 103 rfl fok9 (by simp -dsimp -implicitDefEqProofs only [↓j25, ↓j29, j173, j174, ↓reduceIte]) (notup1 fun vs h => by cases h) hpg (SubH.of (by simp -dsimp -implicitDefEqProofs only [↓j27, ↓reduceIte, Nat.reduceEqDiff, j182, j204, j205])) ⟨by simp, put_st⟩ ?_
          simp -dsimp -implicitDefEqProofs only [↓j1, ↓j2, j17, j18, j20, j21, j22, j23, ↓j25, ↓j29, ↓j30, j32, ↓j38, ↓j40, ↓j48, ↓j53, ↓j58, ↓j62, j83, ↓j89, j142, ↓j145, ↓j146, ↓j147, ↓j150, j157, j163, j164, j170, j171, j173, j174, j175, reduceCtorEq, ↓reduceIte, Nat.reduceEqDiff, j185, j429, hll]
          refine CallTo.pure (args := []) rfl fok11 (by simp -dsimp -implicitDefEqProofs only [j174]) nil0 awake_spec ?_
          simp -dsimp -implicitDefEqProofs only [↓j0, ↓j1, ↓j10, j17, j18, j20, ↓j25, ↓j29, ↓j30, j32, ↓j39, ↓j40, j83, ↓j145, j171, ↓reduceIte, Nat.reduceEqDiff]
          exact fin _ _ _ rfl
    · have e1 : decide ((i : Int) < (ops.length : Int)) = false := decide_eq_false (by omega)
      clear hlt
      have hpg := pages_spec M hM
      have hkl := keysIn_len M
      have hkm : ∀ k, k ∈ keysIn M → k ∈ M.map (·.1) := fun k h => keysIn_mem.1 h
      obtain ⟨ks, hks⟩ : ∃ ks, keysIn M = ks := ⟨_, rfl⟩
      rw [hks] at hpg hkl hkm
      have hM4 := hM.few
      simp -dsimp -implicitDefEqProofs only [↓j0, ↓j1, ↓j2, ↓j7, ↓j11, ↓j12, ↓j13, ↓j15, j17, j18, j20, ↓j25, ↓j29, ↓j30, j32, ↓j38, ↓j40, ↓j48, ↓j53, ↓j58, ↓j62, j82, ↓j89, j142, ↓j145, ↓j146, ↓j148, ↓j149, ↓j150, j159, j163, j164, j171, j175, reduceCtorEq, ↓reduceIte, Nat.reduceEqDiff, j185, j422, a1St, e1]
      refine CallTo.gen (args := [.ptr 2 0 []]) (stH M) (stH M) 101 rfl fok9 (by simp -dsimp -implicitDefEqProofs only [↓j25, ↓j29, j173, j174, ↓reduceIte]) (notup1 fun vs h => by cases h) hpg (SubH.of (by simp -dsimp -implicitDefEqProofs only [↓j27, reduceCtorEq, ↓reduceIte, Nat.reduceEqDiff, j182, j204, j205])) ⟨by simp, put_st⟩ ?_
      simp -dsimp -implicitDefEqProofs only [↓j0, ↓j1, ↓j7, ↓j12, ↓j14, ↓j15, ↓j16, j17, j18, j20, j21, j22, j23, ↓j25, ↓j29, ↓j30, j33, j36, ↓j38, ↓j39, ↓j58, ↓j62, j142, ↓j145, j170, j171, j173, j174, reduceCtorEq, ↓reduceIte, Nat.reduceEqDiff, j429]
      refine AWp.loopR (Z := Z) mixed hZ (by kernel_rfl) (fun n s => ∃ i W, i + n = ks.length ∧ W = (ks.take i).map (fun p => (readP M p).1) ∧ s = a2St ks o M W i) (n0 := ks.length) (s0 := a2St ks o M [] 0) ?_ ⟨0, [], by omega, rfl, rfl⟩ ?_ rfl
      · exact Wk.sub (by simp -dsimp -implicitDefEqProofs only [↓j25, ↓j27, j179, reduceCtorEq, ↓reduceIte, Nat.reduceEqDiff, j182, j183, j184, j202, j203, j204, j205, j209, j223, a2T, a2H, bwV_nil, bwB_nil] <;> simp)
      rintro n s ⟨i, W, hi, hWd, rfl⟩
      refine ⟨rfl, ?_⟩
      have hWlen : W.length = min i ks.length := by rw [hWd, List.length_map, List.length_take]
      have hWl : ∀ b, b ∈ W → b.length = 64 := fun b hb => by
        rw [hWd] at hb
        obtain ⟨p, _, rfl⟩ := List.mem_map.1 hb
        exact readP_len hM p
      rcases Nat.lt_or_ge i ks.length with hlt | hge
      · have e1 : decide ((i : Int) < (ks.length : Int)) = true := decide_eq_true (by omega)
        obtain ⟨p, hpi⟩ := list_get (xs := ks) (i := i) hlt
        have hsz := (unif_keys ks).sizeL_take (k := i) (by simp; omega)
        have hlt2 : (i : Int) < (ks.length : Int) := by omega
        have hw : IntKind.i64.wrap ((i : Int) + 1) = ((i + 1 : Nat) : Int) := by rw [wrap_i64 (by omega) (by omega)]; omega
        have hko : kOk p := by
          obtain ⟨w, hw1, hw2⟩ := List.mem_map.1 (hkm p (List.mem_of_getElem? hpi))
          exact hw2 ▸ (hM.keys w hw1).1
        have hrd := read_spec M hM p hko
        have hrl := readP_len hM p
        have hWn : W ++ [(readP M p).1] = (ks.take (i + 1)).map (fun p => (readP M p).1) := by rw [take_succ hpi, List.map_append, ← hWd]; rfl
        obtain ⟨⟨b, t⟩, hrr⟩ : ∃ r, readP M p = r := ⟨_, rfl⟩
        rw [hrr] at hrd hrl hWn
        have hrl : b.length = 64 := hrl
        have hWn : W ++ [b] = (ks.take (i + 1)).map (fun p => (readP M p).1) := hWn
        have hrd : ACall Try.prog 10 [.ptr 2 0 [], .int .u16 p] (stH M) (.tuple [arrAV b, .bool t]) (stH M) := hrd
        have ub1 : Unif 64 [arrAV b] := unif_arrs (W := [b]) (by simpa using hrl)
        have ub := unif_arrs hWl
        have tk2 : List.take 1 (List.drop 0 [arrAV b]) = [arrAV b] := rfl
        obtain ⟨W1, hW1⟩ : ∃ W1, W ++ [b] = W1 := ⟨_, rfl⟩
        have q1 : W.map arrAV ++ [arrAV b] = W1.map arrAV := by rw [← hW1, List.map_append]; rfl
        have q2 : W.length + 1 = W1.length := by rw [← hW1, List.length_append]; rfl
        have hp1 : 0 < W1.length := by omega
        rw [hW1] at hWn
        cases hW0 : W with
        | nil =>
          rw [hW0] at q1 q2
          have q1 : [arrAV b] = W1.map arrAV := q1
          have q2 : 1 = W1.length := q2
          simp -dsimp -implicitDefEqProofs only [↓j0, ↓j1, ↓j7, ↓j9, ↓j12, ↓j13, ↓j14, ↓j15, j17, j18, j20, ↓j25, ↓j29, ↓j38, ↓j39, ↓j43, ↓j46, ↓j48, ↓j53, ↓j77, ↓j89, ↓j92, j130, ↓j145, ↓j146, ↓j147, ↓j149, j159, AV.proj, AV.offOf, j171, j177, ↓reduceIte, Nat.reduceEqDiff, j182, j185, j191, j197, j206, j207, j208, j267, j303, a2St, a2T, a2H, bwV_nil, bwB_nil, hpi, hsz, hlt2]
          refine CallTo.gen (args := [.ptr 2 0 [], .int .u16 p]) (stH M) (stH M) 101 rfl fok10 (by simp -dsimp -implicitDefEqProofs only [↓j25, ↓j29, j173, j174, ↓reduceIte, Nat.reduceEqDiff]) (notup2 (fun vs h => by cases h) fun vs h => by cases h) hrd (SubH.of (by simp -dsimp -implicitDefEqProofs only [↓j27, reduceCtorEq, ↓reduceIte, Nat.reduceEqDiff, j182, j204, j205])) ⟨by simp, put_st⟩ ?_
          simp -dsimp -implicitDefEqProofs only [↓j0, ↓j1, ↓j7, ↓j15, j17, j18, j19, j20, j21, j22, j23, ↓j25, ↓j27, ↓j29, ↓j38, ↓j39, ↓j41, ↓j43, ↓j44, ↓j51, ↓j57, ↓j74, ↓j76, ↓j78, j85, j125, j126, j127, j128, j129, ↓j145, ↓j146, ↓j153, partsAV, AV.proj, AV.offOf, AV.upd, AV.size, AV.sizeL, AV.layable, j163, j164, j167, j169, j170, j171, j173, j174, j179, j180, reduceCtorEq, ↓reduceIte, Nat.reduceAdd, Nat.reduceMul, Nat.reduceEqDiff, Nat.reduceLeDiff, j182, j183, j213, j214, j215, j217, Nat.reducePow, List.replicate, j234, j240, j243, j274, j275, j376, j402, hrl]
          refine DoAppend_of rfl rfl at34 ?_
          simp -dsimp -implicitDefEqProofs only [↓j0, ↓j1, ↓j7, ↓j15, j17, j18, j20, ↓j25, ↓j27, ↓j29, ↓j30, j33, ↓j38, ↓j39, ↓j48, ↓j89, ↓j100, ↓j106, j107, ↓j145, ↓j146, ↓j148, ↓j153, j154, AV.proj, AV.offOf, j166, j170, j171, ↓reduceIte, Nat.reduceAdd, Nat.reduceMul, Nat.reduceEqDiff, Nat.reduceLeDiff, j182, j185, j196, j197, j223, j227, j228, j230, j231, Nat.reduceBEq, j234, ub1]
          exact ⟨n - 1, a2St ks o M W1 (i + 1), by omega, ⟨i + 1, W1, by omega, hWn, rfl⟩, Wk.trans (Wk.mk (s' := ⟨223, a2T ks W1 (i + 1) 103, a2H o M W1 103, 104⟩) (SubT.spec (by simp -dsimp -implicitDefEqProofs only [↓j25, ↓reduceIte, Nat.reduceEqDiff, j182, j202, j203, a2T, bwV_ne hp1, hw, ← q2] <;> simp)) (SubH.spec (by simp -dsimp -implicitDefEqProofs only [↓j27, reduceCtorEq, ↓reduceIte, Nat.reduceEqDiff, j182, j204, j205, a2H, bwB_ne hp1, ← q1] <;> simp)) (Nat.le_refl _) rfl) a2_ren⟩
        | cons w0 w1 =>
          rw [← hW0]
          have hpW : 0 < W.length := by rw [hW0]; simp
          clear hW0
          have t2 : List.take W.length (List.map arrAV W) = W.map arrAV := List.take_of_length_le (by simp)
          simp -dsimp -implicitDefEqProofs only [↓j0, ↓j1, ↓j7, ↓j9, ↓j12, ↓j13, ↓j14, ↓j15, j17, j18, j20, ↓j25, ↓j29, ↓j38, ↓j39, ↓j43, ↓j46, ↓j48, ↓j53, ↓j77, ↓j89, ↓j92, j130, ↓j145, ↓j146, ↓j147, ↓j149, j159, AV.proj, AV.offOf, j171, j177, ↓reduceIte, Nat.reduceEqDiff, j182, j185, j191, j197, j206, j207, j208, j267, j303, a2St, a2T, a2H, bwV_ne hpW, bwB_ne hpW, hpi, hsz, hlt2]
          refine CallTo.gen (args := [.ptr 2 0 [], .int .u16 p]) (stH M) (stH M) 101 rfl fok10 (by simp -dsimp -implicitDefEqProofs only [↓j25, ↓j29, j173, j174, ↓reduceIte, Nat.reduceEqDiff]) (notup2 (fun vs h => by cases h) fun vs h => by cases h) hrd (SubH.of (by simp -dsimp -implicitDefEqProofs only [↓j27, reduceCtorEq, ↓reduceIte, Nat.reduceEqDiff, j182, j204, j205])) ⟨by simp, put_st⟩ ?_
          simp -dsimp -implicitDefEqProofs only [↓j0, ↓j1, ↓j7, ↓j15, j17, j18, j19, j20, j21, j22, j23, ↓j25, ↓j27, ↓j29, ↓j38, ↓j39, ↓j41, ↓j43, ↓j44, ↓j51, ↓j57, ↓j74, ↓j76, ↓j78, j85, j125, j126, j127, j128, j129, ↓j145, ↓j146, ↓j153, partsAV, AV.proj, AV.offOf, AV.upd, AV.size, AV.sizeL, AV.layable, j163, j164, j167, j169, j170, j171, j173, j174, j179, j180, reduceCtorEq, ↓reduceIte, Nat.reduceAdd, Nat.reduceMul, Nat.reduceEqDiff, Nat.reduceLeDiff, j182, j183, j213, j214, j215, j217, Nat.reducePow, List.replicate, j234, j240, j243, j274, j275, j376, j402, hrl]
          refine DoAppend_of rfl rfl at34 ?_
          simp -dsimp -implicitDefEqProofs only [↓j27, ↓j101, ↓j102, ↓j106, j107, ↓j145, ↓j146, ↓j153, AV.proj, AV.offOf, j166, reduceCtorEq, ↓reduceIte, Nat.reduceEqDiff, Nat.reduceLeDiff, j182, j184, j188, j189, j196, j197, j213, j214, j215, j222, j223, j227, j228, j230, j231, j234, ub1, ub]
          refine ⟨by omega, ?_⟩
          simp -dsimp -implicitDefEqProofs only [↓j0, ↓j1, ↓j7, ↓j15, j17, j18, j20, j21, j22, j23, ↓j25, ↓j29, ↓j30, j33, ↓j38, ↓j39, ↓j48, ↓j89, ↓j145, ↓j146, j154, j166, j170, j171, reduceCtorEq, ↓reduceIte, Nat.reduceAdd, Nat.reduceEqDiff, j185, j196, j227, j228, j230, j231, t2, q1, q2]
          exact ⟨n - 1, a2St ks o M W1 (i + 1), by omega, ⟨i + 1, W1, by omega, hWn, rfl⟩, Wk.trans (Wk.mk (s' := ⟨223, a2T ks W1 (i + 1) 103, a2H o M W1 103, 104⟩) (SubT.spec (by simp -dsimp -implicitDefEqProofs only [↓j25, ↓reduceIte, Nat.reduceEqDiff, j182, j202, j203, a2T, bwV_ne hp1, hw] <;> simp)) (SubH.spec (by simp -dsimp -implicitDefEqProofs only [↓j27, reduceCtorEq, ↓reduceIte, Nat.reduceEqDiff, j182, j204, j205, a2H, bwB_ne hp1] <;> simp)) (Nat.le_refl _) rfl) a2_ren⟩
      have hi2 : i = ks.length := by omega
      rw [hi2]
      rw [hi2, List.take_of_length_le (Nat.le_refl _)] at hWd
      have hWlen2 : W.length = ks.length := by rw [hWd, List.length_map]
      have f1 : decide ((ks.length : Int) < (ks.length : Int)) = false := decide_eq_false (by omega)
      have hrd := read_spec M hM o.page hoo.page
      have hrl := readP_len hM o.page
      have hwr := write_spec M hM o.page hoo.page o.base hob o.off hoo.off o.s hoo.s
      have hM1 := write_ok hM hoo.page hob o.off o.s
      have hoth : ∀ p, o.page ≠ p → aGet (writeP M o.page o.base o.off o.s).2 p = aGet M p := fun p h => write_other o.base o.off o.s h
      obtain ⟨⟨mine, had⟩, hrr⟩ : ∃ r, readP M o.page = r := ⟨_, rfl⟩
      obtain ⟨⟨e, M1⟩, hWe⟩ : ∃ r, writeP M o.page o.base o.off o.s = r := ⟨_, rfl⟩
      rw [hrr] at hrd hrl
      have hself : (readP M o.page).2 = true → (readP M1 o.page).2 = true := fun h => by
        by_cases he : e = 0
        · have := (write_yes (M := M) (page := o.page) (base := o.base) (off := o.off) (s := o.s) (by rw [hWe]; exact he)).2.2.2
          rw [hWe] at this
          rw [this]
        · have := write_no (M := M) (page := o.page) (base := o.base) (off := o.off) (s := o.s) (by rw [hWe]; exact he)
          rw [hWe] at this
          have this : M1 = M := this
          rw [this]; exact h
      rw [hWe] at hwr hM1 hoth
      have hmine : mine.length = 64 := hrl
      have hM1 : MOk M1 := hM1
      have hoth : ∀ p, o.page ≠ p → aGet M1 p = aGet M p := hoth
      have hrd : ACall Try.prog 10 [.ptr 2 0 [], .int .u16 o.page] (stH M) (.tuple [arrAV mine, .bool had]) (stH M) := hrd
      have hwr : ACall Try.prog 8 [.ptr 2 0 [], .int .u16 o.page, arrAV o.base, .int .i64 o.off, .str ⟨o.s.toArray⟩] (stH M) (.int .i64 (e : Nat)) (stH M1) := hwr
      have hkey : ∀ j p, ks[j]? = some p → kOk p ∧ ∃ b : Bo, ((readP M1 p).2 = true ∧ (p ≠ o.page → readP M1 p = (b, true))) ∧ b.length = 64 ∧ W[j]? = some b := fun j p hj => by
        have hpm := hkm p (List.mem_of_getElem? hj)
        obtain ⟨w, hw1, hw2⟩ := List.mem_map.1 hpm
        have hr : (readP M p).2 = true := by
          unfold readP
          cases hg : aGet M p with
          | none => exact absurd hpm (aGet_none.1 hg)
          | some e => rfl
        have hne : p ≠ o.page → readP M1 p = ((readP M p).1, true) := fun h => by
          have h2 : readP M1 p = readP M p := by unfold readP; rw [hoth p (fun e => h e.symm)]
          rw [h2, ← hr]
        refine ⟨hw2 ▸ (hM.keys w hw1).1, (readP M p).1, ⟨?_, hne⟩, readP_len hM p, ?_⟩
        · by_cases h : p = o.page
          · subst h; exact hself hr
          · rw [hne h]
        · rw [hWd, List.getElem?_map, hj]; rfl
      cases hW0 : W with
      | nil =>
        have hks0 : ks = [] := List.length_eq_zero_iff.1 (by rw [← hWlen2, hW0]; rfl)
        simp -dsimp -implicitDefEqProofs only [↓j0, ↓j1, ↓j7, ↓j11, ↓j12, ↓j13, ↓j15, j17, j18, j20, ↓j25, ↓j27, ↓j29, ↓j38, ↓j43, ↓j45, ↓j48, ↓j53, ↓j76, ↓j79, ↓j89, j130, ↓j145, ↓j146, ↓j148, ↓j149, ↓j153, j159, AV.proj, AV.offOf, AV.sizeL, j163, j167, j171, ↓reduceIte, Nat.reduceEqDiff, j182, j185, j197, j267, j282, a2St, a2T, a2H, f1, bwV_nil, bwB_nil]
        refine CallTo.gen (args := [.ptr 2 0 [], .int .u16 o.page]) (stH M) (stH M) 101 rfl fok10 (by simp -dsimp -implicitDefEqProofs only [↓j25, ↓j29, j173, j174, ↓reduceIte, Nat.reduceEqDiff]) (notup2 (fun vs h => by cases h) fun vs h => by cases h) hrd (SubH.of (by simp -dsimp -implicitDefEqProofs only [↓j27, reduceCtorEq, ↓reduceIte, Nat.reduceEqDiff, j182, j204, j205])) ⟨by simp, put_st⟩ ?_
        simp -dsimp -implicitDefEqProofs only [↓j0, ↓j1, ↓j7, ↓j12, ↓j15, j17, j18, j19, j20, j21, j22, j23, ↓j25, ↓j27, ↓j29, ↓j38, ↓j39, ↓j41, ↓j43, ↓j44, ↓j45, ↓j53, ↓j57, ↓j76, ↓j78, ↓j79, j85, j129, j130, j132, ↓j145, ↓j146, ↓j153, AV.proj, AV.offOf, AV.upd, AV.size, AV.sizeL, AV.layable, j163, j164, j166, j167, j170, j171, j173, j174, reduceCtorEq, ↓reduceIte, Nat.reduceAdd, Nat.reduceEqDiff, j182, j196, j197, j240, j243, j250, j258, j267, j274, j275, j282, j285, j288, j291, j376, hmine, hob]
        refine CallTo.gen (args := [.ptr 2 0 [], .int .u16 o.page, arrAV o.base, .int .i64 o.off, .str ⟨o.s.toArray⟩]) (stH M) (stH M1) 102 rfl fok8 (by simp -dsimp -implicitDefEqProofs only [↓j25, ↓j29, j173, j174, ↓reduceIte, Nat.reduceEqDiff]) (fun y hy => (args_write (M := []) y hy).2) hwr (SubH.of (by simp -dsimp -implicitDefEqProofs only [↓j27, ↓reduceIte, Nat.reduceEqDiff, j182, j204, j205])) ⟨by simp, put_st⟩ ?_
        simp -dsimp -implicitDefEqProofs only [↓j0, ↓j1, ↓j7, ↓j12, ↓j14, ↓j15, ↓j16, j17, j18, j20, j21, j22, j23, ↓j25, ↓j29, ↓j30, j33, ↓j38, ↓j39, ↓j58, ↓j62, j142, ↓j145, j170, j171, j173, j174, reduceCtorEq, ↓reduceIte, Nat.reduceEqDiff, j429]
        refine AWp.loopR (Z := Z) mixed hZ (by kernel_rfl) (fun n s => ∃ i, i + n = ks.length ∧ s = a3St ks o M1 [] mine e had i) (n0 := ks.length) (s0 := a3St ks o M1 [] mine e had 0) ?_ ⟨0, by omega, rfl⟩ ?_ rfl
        · exact Wk.sub (by simp -dsimp -implicitDefEqProofs only [↓j25, ↓j27, j179, reduceCtorEq, ↓reduceIte, Nat.reduceEqDiff, j182, j183, j184, j202, j203, j204, j205, j209, j223, a3T, a3H, a2H, bwV_nil, bwB_nil] <;> simp)
        rintro n s ⟨i, hi, rfl⟩
        refine ⟨rfl, ?_⟩
        rcases Nat.lt_or_ge i ks.length with hlt | hge
        · rw [hks0] at hlt; exact absurd hlt (by simp)
        have hi2 : i = ks.length := by omega
        subst hi2
        have f1 : decide ((ks.length : Int) < (ks.length : Int)) = false := decide_eq_false (by omega)
        have hrn := read_spec M1 hM1 o.page hoo.page
        have hnl := readP_len hM1 o.page
        by_cases he0 : e = 0
        · subst he0
          obtain ⟨q1, q2, q3, q4⟩ := write_yes (M := M) (page := o.page) (base := o.base) (off := o.off) (s := o.s) (by rw [hWe])
          rw [hWe, hrr] at q4
          have q4 : readP M1 o.page = (layB (if had then mine else o.base) o.off.toNat o.s, true) := q4
          rw [q4] at hrn hnl
          obtain ⟨a, haa⟩ : ∃ a : Nat, o.off = (a : Int) := ⟨o.off.toNat, by omega⟩
          have hta : o.off.toNat = a := by omega
          have hpl : (if had then mine else o.base).length = 64 := by cases had; exact hob; exact hmine
          have hlay : ∀ i, (layB (if had then mine else o.base) a o.s)[i]? = if a ≤ i ∧ i < a + o.s.length then o.s[i - a]? else (if had then mine else o.base)[i]? := fun i => layB_get (by omega)
          rw [hta] at hrn hnl
          obtain ⟨now, hnow⟩ : ∃ now, layB (if had then mine else o.base) a o.s = now := ⟨_, rfl⟩
          rw [hnow] at hrn hnl
          simp only [hnow] at hlay
          have hlay : ∀ i, now[i]? = if a ≤ i ∧ i < a + o.s.length then o.s[i - a]? else if had = true then mine[i]? else o.base[i]? := fun i => by
            rw [hlay i]; cases had <;> rfl
          have hnl : now.length = 64 := hnl
          have hrn : ACall Try.prog 10 [.ptr 2 0 [], .int .u16 o.page] (stH M1) (.tuple [arrAV now, .bool true]) (stH M1) := hrn
          have o3 := haa
          simp -dsimp -implicitDefEqProofs only [↓j0, ↓j1, ↓j7, ↓j11, ↓j12, ↓j13, ↓j15, j17, j18, j20, ↓j25, ↓j27, ↓j29, ↓j38, ↓j43, ↓j45, ↓j48, ↓j53, ↓j76, ↓j79, ↓j89, j130, ↓j145, ↓j146, ↓j148, ↓j149, ↓j153, j159, AV.proj, AV.offOf, AV.sizeL, j163, j167, j171, reduceCtorEq, ↓reduceIte, Nat.reduceEqDiff, j182, j185, j197, j267, j282, a3St, a3T, a3H, a2H, bwV_nil, bwB_nil, f1]
          refine CallTo.gen (args := [.ptr 2 0 [], .int .u16 o.page]) (stH M1) (stH M1) 102 rfl fok10 (by simp -dsimp -implicitDefEqProofs only [↓j25, ↓j29, j173, j174, ↓reduceIte, Nat.reduceEqDiff]) (notup2 (fun vs h => by cases h) fun vs h => by cases h) hrn (SubH.of (by simp -dsimp -implicitDefEqProofs only [↓j27, reduceCtorEq, ↓reduceIte, Nat.reduceEqDiff, j182, j204, j205])) ⟨by simp, put_st⟩ ?_
          have g0 : (((0 : Nat) : Int) != 0) = false := rfl
          simp -dsimp -implicitDefEqProofs only [↓j0, ↓j1, ↓j7, ↓j9, ↓j12, ↓j13, ↓j14, ↓j15, ↓j16, j17, j18, j19, j20, j21, j22, j23, ↓j25, ↓j27, ↓j29, ↓j30, j33, ↓j38, ↓j39, ↓j41, ↓j44, ↓j48, ↓j57, ↓j78, j85, ↓j89, ↓j145, ↓j146, ↓j148, ↓j149, ↓j153, j158, AV.proj, AV.offOf, AV.upd, AV.size, AV.layable, j163, j164, j170, j171, j173, j174, reduceCtorEq, ↓reduceIte, Nat.reduceAdd, Nat.reduceEqDiff, j182, j185, j240, j243, j274, j376, g0, hnl]
          refine AWp.loopR (Z := Z) mixed hZ (by kernel_rfl) (fun n s => ∃ i, i + n = 64 ∧ s = a4St o mine now had i) (n0 := 64) (s0 := a4St o mine now had 0) ?_ ⟨0, by omega, rfl⟩ ?_ rfl
          · exact Wk.sub (by simp -dsimp -implicitDefEqProofs only [↓j25, ↓j27, j179, reduceCtorEq, ↓reduceIte, Nat.reduceEqDiff, j182, j183, j184, j202, j203, j204, j205, j209, j223] <;> simp)
          rintro n s ⟨i, hi, rfl⟩
          refine ⟨rfl, ?_⟩
          rcases Nat.lt_or_ge i 64 with hlt | hge
          · have e1 : decide ((i : Int) < 64) = true := decide_eq_true (by omega)
            obtain ⟨c, hc⟩ := list_get (xs := now) (i := i) (by omega)
            obtain ⟨cm, hcm⟩ := list_get (xs := mine) (i := i) (by omega)
            obtain ⟨cb, hcb⟩ := list_get (xs := o.base) (i := i) (by omega)
            have z1 : AV.sizeL ((now.map byteAV).take i) = i * 1 := (unif_bytes now).sizeL_take (by simp; omega)
            have z2 : AV.sizeL ((mine.map byteAV).take i) = i * 1 := (unif_bytes mine).sizeL_take (by simp; omega)
            have z3 : AV.sizeL ((o.base.map byteAV).take i) = i * 1 := (unif_bytes o.base).sizeL_take (by simp; omega)
            have l1 : (i : Int) < ((64 : Nat) : Int) := by omega
            have hw : IntKind.i64.wrap ((i : Int) + 1) = ((i + 1 : Nat) : Int) := by rw [wrap_i64 (by omega) (by omega)]; omega
            have hg := hlay i
            rw [hc] at hg
            have nn : ∀ x : UInt8, (((x.toNat : Nat) : Int) != ((x.toNat : Nat) : Int)) = false := fun x => by simp
            have nxt : ∀ (t : Env) (H : Heap) (m : Nat), SubT [(22, .int .i64 (i + 1 : Nat)), (21, .bool true), (20, .ptr 102 0 []), (14, .bool had), (13, .ptr 101 0 []), (3, .ptr 0 0 []), (4, .bool false)] t → SubH [(102, .cells (arrAV now)), (101, .cells (arrAV mine)), (0, woC o)] H → m ≤ 103 → ∃ m' s'', m' < n ∧ (∃ i, i + m' = 64 ∧ s'' = a4St o mine now had i) ∧ Wk ⟨223, t, H, m⟩ s'' := fun t H m ht hH hm =>
              ⟨n - 1, a4St o mine now had (i + 1), by omega, ⟨i + 1, by omega, rfl⟩, Wk.mk ht.spec hH.spec hm rfl⟩
            have fitT : True := trivial
            by_cases ha : i < a
            · have g1 : decide ((a : Int) ≤ (i : Int)) = false := decide_eq_false (by omega)
              rw [if_neg (by omega)] at hg
              cases had
              · skip
                have hcv : c = cb := by
                  rw [if_neg Bool.false_ne_true, hcb] at hg
                  exact Option.some.inj hg
                subst hcv
                simp -dsimp -implicitDefEqProofs only [↓j0, ↓j1, ↓j2, ↓j3, ↓j4, ↓j5, ↓j7, ↓j8, ↓j9, ↓j12, ↓j13, ↓j14, ↓j15, j17, j18, j20, j24, ↓j25, ↓j27, ↓j29, ↓j30, j32, j33, ↓j38, ↓j39, ↓j40, ↓j43, ↓j45, ↓j46, ↓j48, ↓j55, ↓j76, ↓j79, j82, j83, j84, ↓j89, ↓j94, j130, ↓j145, ↓j146, ↓j147, ↓j148, ↓j149, ↓j150, ↓j151, ↓j153, j158, j159, j162, AV.proj, AV.offOf, AV.size, AV.sizeL, j163, j164, j166, j167, j170, j171, j172, j174, j175, j177, reduceCtorEq, ↓reduceIte, Nat.reduceAdd, Nat.reduceEqDiff, j182, j185, j194, j195, j196, j197, j206, j207, j208, j240, j250, j255, j276, j285, j288, a4St, e1, o3, g1, hob, hc, hcb, z1, z3, l1, nn, byteAV]
                refine ⟨by kernel_rfl, ?_⟩
                simp -dsimp -implicitDefEqProofs only [↓j0, ↓j1, ↓j7, ↓j9, ↓j13, ↓j15, j17, j18, j20, ↓j25, ↓j29, ↓j30, j33, ↓j38, ↓j39, ↓j48, ↓j89, ↓j145, ↓j146, ↓j148, ↓j149, j154, j171, ↓reduceIte, Nat.reduceEqDiff, j185]
                exact nxt _ _ _ (by simp -dsimp -implicitDefEqProofs only [↓j25, ↓reduceIte, Nat.reduceEqDiff, j182, j202, j203, hw] <;> simp) (by simp -dsimp -implicitDefEqProofs only [↓j27, reduceCtorEq, ↓reduceIte, Nat.reduceEqDiff, j182, j204, j205] <;> simp) (by simp)
              · skip
                have hcv : c = cm := by
                  rw [if_pos rfl, hcm] at hg
                  exact Option.some.inj hg
                subst hcv
                simp -dsimp -implicitDefEqProofs only [↓j0, ↓j1, ↓j2, ↓j3, ↓j4, ↓j5, ↓j7, ↓j8, ↓j9, ↓j12, ↓j13, ↓j14, ↓j15, j17, j18, j20, j24, ↓j25, ↓j27, ↓j29, ↓j30, j32, j33, ↓j38, ↓j39, ↓j40, ↓j43, ↓j45, ↓j46, ↓j48, ↓j55, ↓j76, ↓j79, j82, j83, j84, ↓j89, ↓j94, j130, ↓j145, ↓j146, ↓j147, ↓j148, ↓j149, ↓j150, ↓j151, ↓j153, j158, j159, j162, AV.proj, AV.offOf, AV.size, AV.sizeL, j163, j164, j166, j167, j170, j171, j172, j174, j175, j177, reduceCtorEq, ↓reduceIte, Nat.reduceAdd, Nat.reduceEqDiff, j182, j185, j193, j194, j195, j196, j197, j206, j207, j208, j240, j250, j255, j276, j288, a4St, e1, o3, g1, hob, hc, hcm, z1, z2, l1, nn, byteAV]
                refine ⟨by kernel_rfl, ?_⟩
                simp -dsimp -implicitDefEqProofs only [↓j0, ↓j1, ↓j7, ↓j9, ↓j13, ↓j15, j17, j18, j20, ↓j25, ↓j29, ↓j30, j33, ↓j38, ↓j39, ↓j48, ↓j89, ↓j145, ↓j146, ↓j148, ↓j149, j154, j171, ↓reduceIte, Nat.reduceEqDiff, j185]
                exact nxt _ _ _ (by simp -dsimp -implicitDefEqProofs only [↓j25, ↓reduceIte, Nat.reduceEqDiff, j182, j202, j203, hw] <;> simp) (by simp -dsimp -implicitDefEqProofs only [↓j27, reduceCtorEq, ↓reduceIte, Nat.reduceEqDiff, j182, j204, j205] <;> simp) (by simp)
            have g1 : decide ((a : Int) ≤ (i : Int)) = true := decide_eq_true (by omega)
            have w1 : IntKind.i64.wrap ((i : Int) - (a : Int)) = ((i - a : Nat) : Int) := by rw [wrap_i64 (by omega) (by omega)]; omega
            by_cases hs : i - a < o.s.length
            · have g2 : decide (((i - a : Nat) : Int) < (o.s.length : Int)) = true := decide_eq_true (by omega)
              rw [if_pos (by omega)] at hg
              have hby : byteAt ⟨o.s.toArray⟩ ((i - a : Nat) : Int) = (c.toNat : Int) := byte_at hg.symm
              have l2 : ((i - a : Nat) : Int) < (o.s.length : Int) := by omega
              simp -dsimp -implicitDefEqProofs only [↓j0, ↓j1, ↓j2, ↓j3, ↓j4, ↓j5, ↓j7, ↓j8, ↓j9, ↓j12, ↓j13, ↓j14, ↓j15, j17, j18, j20, j24, ↓j25, ↓j27, ↓j29, ↓j30, j32, j33, ↓j38, ↓j39, ↓j40, ↓j43, ↓j45, ↓j46, ↓j47, ↓j48, ↓j55, ↓j58, ↓j59, ↓j76, ↓j79, j82, j83, j84, ↓j89, ↓j94, ↓j95, j130, j132, j141, ↓j145, ↓j146, ↓j147, ↓j148, ↓j149, ↓j150, ↓j151, ↓j153, j155, j158, j159, j162, AV.proj, AV.offOf, AV.size, AV.sizeL, j163, j164, j166, j167, j170, j171, j172, j174, j175, j177, reduceCtorEq, ↓reduceIte, Nat.reduceAdd, Nat.reduceEqDiff, j182, j185, j191, j193, j195, j196, j197, j206, j207, j208, j240, j250, j255, j258, j259, j276, j288, j291, a4St, e1, o3, g1, w1, str_bytes, hby, l2, hob, hc, z1, l1, nn, byteAV]
              refine ⟨by kernel_rfl, ?_⟩
              simp -dsimp -implicitDefEqProofs only [↓j0, ↓j1, ↓j7, ↓j9, ↓j13, ↓j15, j17, j18, j20, ↓j25, ↓j29, ↓j30, j33, ↓j38, ↓j39, ↓j48, ↓j89, ↓j145, ↓j146, ↓j148, ↓j149, j154, j171, ↓reduceIte, Nat.reduceEqDiff, j185]
              exact nxt _ _ _ (by simp -dsimp -implicitDefEqProofs only [↓j25, ↓reduceIte, Nat.reduceEqDiff, j182, j202, j203, hw] <;> simp) (by simp -dsimp -implicitDefEqProofs only [↓j27, reduceCtorEq, ↓reduceIte, Nat.reduceEqDiff, j182, j204, j205] <;> simp) (by simp)
            have g2 : decide (((i - a : Nat) : Int) < (o.s.length : Int)) = false := decide_eq_false (by omega)
            rw [if_neg (by omega)] at hg
            cases had
            · skip
              have hcv : c = cb := by
                rw [if_neg Bool.false_ne_true, hcb] at hg
                exact Option.some.inj hg
              subst hcv
              simp -dsimp -implicitDefEqProofs only [↓j0, ↓j1, ↓j2, ↓j3, ↓j4, ↓j5, ↓j7, ↓j8, ↓j9, ↓j12, ↓j13, ↓j14, ↓j15, j17, j18, j20, j24, ↓j25, ↓j27, ↓j29, ↓j30, j32, j33, ↓j38, ↓j39, ↓j40, ↓j43, ↓j45, ↓j46, ↓j48, ↓j55, ↓j58, ↓j59, ↓j76, ↓j79, j82, j83, j84, ↓j89, ↓j94, j130, j132, j141, ↓j145, ↓j146, ↓j147, ↓j148, ↓j149, ↓j150, ↓j151, ↓j153, j155, j158, j159, j162, AV.proj, AV.offOf, AV.size, AV.sizeL, j163, j164, j166, j167, j170, j171, j172, j174, j175, j177, reduceCtorEq, ↓reduceIte, Nat.reduceAdd, Nat.reduceEqDiff, j182, j185, j194, j195, j196, j197, j206, j207, j208, j240, j250, j255, j258, j259, j276, j285, j288, j291, a4St, e1, o3, g1, w1, g2, str_bytes, hob, hc, hcb, z1, z3, l1, nn, byteAV]
              refine ⟨by kernel_rfl, ?_⟩
              simp -dsimp -implicitDefEqProofs only [↓j0, ↓j1, ↓j7, ↓j9, ↓j13, ↓j15, j17, j18, j20, ↓j25, ↓j29, ↓j30, j33, ↓j38, ↓j39, ↓j48, ↓j89, ↓j145, ↓j146, ↓j148, ↓j149, j154, j171, ↓reduceIte, Nat.reduceEqDiff, j185]
              exact nxt _ _ _ (by simp -dsimp -implicitDefEqProofs only [↓j25, ↓reduceIte, Nat.reduceEqDiff, j182, j202, j203, hw] <;> simp) (by simp -dsimp -implicitDefEqProofs only [↓j27, reduceCtorEq, ↓reduceIte, Nat.reduceEqDiff, j182, j204, j205] <;> simp) (by simp)
            · skip
              have hcv : c = cm := by
                rw [if_pos rfl, hcm] at hg
                exact Option.some.inj hg
              subst hcv
              simp -dsimp -implicitDefEqProofs only [↓j0, ↓j1, ↓j2, ↓j3, ↓j4, ↓j5, ↓j7, ↓j8, ↓j9, ↓j12, ↓j13, ↓j14, ↓j15, j17, j18, j20, j24, ↓j25, ↓j27, ↓j29, ↓j30, j32, j33, ↓j38, ↓j39, ↓j40, ↓j43, ↓j45, ↓j46, ↓j48, ↓j55, ↓j58, ↓j59, ↓j76, ↓j79, j82, j83, j84, ↓j89, ↓j94, j130, j132, j141, ↓j145, ↓j146, ↓j147, ↓j148, ↓j149, ↓j150, ↓j151, ↓j153, j155, j158, j159, j162, AV.proj, AV.offOf, AV.size, AV.sizeL, j163, j164, j166, j167, j170, j171, j172, j174, j175, j177, reduceCtorEq, ↓reduceIte, Nat.reduceAdd, Nat.reduceEqDiff, j182, j185, j193, j194, j195, j196, j197, j206, j207, j208, j240, j250, j255, j258, j259, j276, j288, j291, a4St, e1, o3, g1, w1, g2, str_bytes, hob, hc, hcm, z1, z2, l1, nn, byteAV]
              refine ⟨by kernel_rfl, ?_⟩
              simp -dsimp -implicitDefEqProofs only [↓j0, ↓j1, ↓j7, ↓j9, ↓j13, ↓j15, j17, j18, j20, ↓j25, ↓j29, ↓j30, j33, ↓j38, ↓j39, ↓j48, ↓j89, ↓j145, ↓j146, ↓j148, ↓j149, j154, j171, ↓reduceIte, Nat.reduceEqDiff, j185]
              exact nxt _ _ _ (by simp -dsimp -implicitDefEqProofs only [↓j25, ↓reduceIte, Nat.reduceEqDiff, j182, j202, j203, hw] <;> simp) (by simp -dsimp -implicitDefEqProofs only [↓j27, reduceCtorEq, ↓reduceIte, Nat.reduceEqDiff, j182, j204, j205] <;> simp) (by simp)
          · have hi2 : i = 64 := by omega
            subst hi2
            have e1 : decide (((64 : Nat) : Int) < 64) = false := rfl
            simp -dsimp -implicitDefEqProofs only [↓j0, ↓j1, ↓j2, ↓j7, ↓j11, ↓j12, ↓j13, ↓j15, j17, j18, j20, ↓j25, ↓j29, ↓j30, j33, ↓j38, ↓j48, ↓j53, ↓j89, ↓j145, ↓j146, ↓j147, ↓j148, ↓j149, ↓j150, j159, j163, j164, j171, j175, ↓reduceIte, Nat.reduceEqDiff, j185, a4St, e1]
            refine CallTo.pure (args := []) rfl fok11 (by simp -dsimp -implicitDefEqProofs only [j174]) nil0 awake_spec ?_
            simp -dsimp -implicitDefEqProofs only [↓j0, ↓j1, ↓j10, j17, j18, j20, ↓j25, ↓j29, ↓j30, j32, ↓j39, ↓j40, j83, ↓j145, j171, ↓reduceIte, Nat.reduceEqDiff]
            exact fin _ _ _ rfl
        · have hMM : M1 = M := by
            have := write_no (M := M) (page := o.page) (base := o.base) (off := o.off) (s := o.s) (by rw [hWe]; exact he0)
            rw [hWe] at this; exact this
          subst hMM
          rw [hrr] at hrn hnl
          have hrn : ACall Try.prog 10 [.ptr 2 0 [], .int .u16 o.page] (stH M1) (.tuple [arrAV mine, .bool had]) (stH M1) := hrn
          have g0 : ((e : Int) != 0) = true := by simp; omega
          have hce := cellsEq_bytes (l := mine) (k := mine) rfl
          have hkb := kinds_bytes hmine
          simp only [beq_self_eq_true] at hce
          have hbb : (had == had) = true := by cases had <;> rfl
          have hll : ((ks.length : Int) == (ks.length : Int)) = true := by rw [beq_iff_eq]
          simp -dsimp -implicitDefEqProofs only [↓j0, ↓j1, ↓j7, ↓j11, ↓j12, ↓j13, ↓j15, j17, j18, j20, ↓j25, ↓j27, ↓j29, ↓j38, ↓j43, ↓j45, ↓j48, ↓j53, ↓j76, ↓j79, ↓j89, j130, ↓j145, ↓j146, ↓j148, ↓j149, ↓j153, j159, AV.proj, AV.offOf, AV.sizeL, j163, j167, j171, reduceCtorEq, ↓reduceIte, Nat.reduceEqDiff, j182, j185, j197, j267, j282, a3St, a3T, a3H, a2H, bwV_nil, bwB_nil, f1]
          refine CallTo.gen (args := [.ptr 2 0 [], .int .u16 o.page]) (stH M1) (stH M1) 102 rfl fok10 (by simp -dsimp -implicitDefEqProofs only [↓j25, ↓j29, j173, j174, ↓reduceIte, Nat.reduceEqDiff]) (notup2 (fun vs h => by cases h) fun vs h => by cases h) hrn (SubH.of (by simp -dsimp -implicitDefEqProofs only [↓j27, reduceCtorEq, ↓reduceIte, Nat.reduceEqDiff, j182, j204, j205])) ⟨by simp, put_st⟩ ?_
          simp -dsimp -implicitDefEqProofs only [↓j0, ↓j1, ↓j7, ↓j12, ↓j13, ↓j15, j17, j18, j19, j20, j21, j22, j23, ↓j25, ↓j27, ↓j29, ↓j30, j33, ↓j38, ↓j39, ↓j41, ↓j43, ↓j44, ↓j48, ↓j57, ↓j76, ↓j78, j85, ↓j89, ↓j91, j129, ↓j145, ↓j146, ↓j147, ↓j149, ↓j153, j158, AV.proj, AV.offOf, AV.upd, AV.size, AV.layable, j163, j164, j170, j171, j173, j174, reduceCtorEq, ↓reduceIte, Nat.reduceAdd, Nat.reduceEqDiff, j182, j184, j185, j211, j240, j241, j243, j274, j275, j277, j278, j376, hmine, g0, hce]
          refine ⟨hkb, ?_⟩
          simp -dsimp -implicitDefEqProofs only [↓j1, ↓j2, j17, j18, j20, ↓j25, ↓j29, ↓j30, j32, ↓j38, ↓j40, ↓j48, ↓j53, j83, ↓j90, ↓j145, ↓j146, ↓j147, ↓j150, j163, j164, j171, j175, ↓reduceIte, Nat.reduceEqDiff, j195, j211, j418, hbb]
          refine CallTo.gen (args := [.ptr 2 0 []]) (stH M1) (stH M1) 103 rfl fok9 (by simp -dsimp -implicitDefEqProofs only [↓j25, ↓j29, j173, j174, ↓reduceIte]) (notup1 fun vs h => by cases h) hpg (SubH.of (by simp -dsimp -implicitDefEqProofs only [↓j27, ↓reduceIte, Nat.reduceEqDiff, j182, j204, j205])) ⟨by simp, put_st⟩ ?_
          simp -dsimp -implicitDefEqProofs only [↓j1, ↓j2, j17, j18, j20, j21, j22, j23, ↓j25, ↓j29, ↓j30, j32, ↓j38, ↓j40, ↓j48, ↓j53, ↓j58, ↓j62, j83, ↓j89, j142, ↓j145, ↓j146, ↓j147, ↓j150, j157, j163, j164, j170, j171, j173, j174, j175, reduceCtorEq, ↓reduceIte, Nat.reduceEqDiff, j185, j429, hll]
          refine CallTo.pure (args := []) rfl fok11 (by simp -dsimp -implicitDefEqProofs only [j174]) nil0 awake_spec ?_
          simp -dsimp -implicitDefEqProofs only [↓j0, ↓j1, ↓j10, j17, j18, j20, ↓j25, ↓j29, ↓j30, j32, ↓j39, ↓j40, j83, ↓j145, j171, ↓reduceIte, Nat.reduceEqDiff]
          exact fin _ _ _ rfl
      | cons w0 w1 =>
        rw [← hW0]
        have hpW : 0 < W.length := by rw [hW0]; simp
        clear hW0
        simp -dsimp -implicitDefEqProofs only [↓j0, ↓j1, ↓j7, ↓j11, ↓j12, ↓j13, ↓j15, j17, j18, j20, ↓j25, ↓j27, ↓j29, ↓j38, ↓j43, ↓j45, ↓j48, ↓j53, ↓j76, ↓j79, ↓j89, j130, ↓j145, ↓j146, ↓j148, ↓j149, ↓j153, j159, AV.proj, AV.offOf, AV.sizeL, j163, j167, j171, ↓reduceIte, Nat.reduceEqDiff, j182, j185, j197, j267, j282, a2St, a2T, a2H, f1, bwV_ne hpW, bwB_ne hpW]
        refine CallTo.gen (args := [.ptr 2 0 [], .int .u16 o.page]) (stH M) (stH M) 101 rfl fok10 (by simp -dsimp -implicitDefEqProofs only [↓j25, ↓j29, j173, j174, ↓reduceIte, Nat.reduceEqDiff]) (notup2 (fun vs h => by cases h) fun vs h => by cases h) hrd (SubH.of (by simp -dsimp -implicitDefEqProofs only [↓j27, reduceCtorEq, ↓reduceIte, Nat.reduceEqDiff, j182, j204, j205])) ⟨by simp, put_st⟩ ?_
        simp -dsimp -implicitDefEqProofs only [↓j0, ↓j1, ↓j7, ↓j12, ↓j15, j17, j18, j19, j20, j21, j22, j23, ↓j25, ↓j27, ↓j29, ↓j38, ↓j39, ↓j41, ↓j43, ↓j44, ↓j45, ↓j53, ↓j57, ↓j76, ↓j78, ↓j79, j85, j129, j130, j132, ↓j145, ↓j146, ↓j153, AV.proj, AV.offOf, AV.upd, AV.size, AV.sizeL, AV.layable, j163, j164, j166, j167, j170, j171, j173, j174, reduceCtorEq, ↓reduceIte, Nat.reduceAdd, Nat.reduceEqDiff, j182, j196, j197, j240, j243, j250, j258, j267, j274, j275, j282, j285, j288, j291, j376, hmine, hob]
        refine CallTo.gen (args := [.ptr 2 0 [], .int .u16 o.page, arrAV o.base, .int .i64 o.off, .str ⟨o.s.toArray⟩]) (stH M) (stH M1) 102 rfl fok8 (by simp -dsimp -implicitDefEqProofs only [↓j25, ↓j29, j173, j174, ↓reduceIte, Nat.reduceEqDiff]) (fun y hy => (args_write (M := []) y hy).2) hwr (SubH.of (by simp -dsimp -implicitDefEqProofs only [↓j27, ↓reduceIte, Nat.reduceEqDiff, j182, j204, j205])) ⟨by simp, put_st⟩ ?_
        simp -dsimp -implicitDefEqProofs only [↓j0, ↓j1, ↓j7, ↓j12, ↓j14, ↓j15, ↓j16, j17, j18, j20, j21, j22, j23, ↓j25, ↓j29, ↓j30, j33, ↓j38, ↓j39, ↓j58, ↓j62, j142, ↓j145, j170, j171, j173, j174, reduceCtorEq, ↓reduceIte, Nat.reduceEqDiff, j429]
        refine AWp.loopR (Z := Z) mixed hZ (by kernel_rfl) (fun n s => ∃ i, i + n = ks.length ∧ s = a3St ks o M1 W mine e had i) (n0 := ks.length) (s0 := a3St ks o M1 W mine e had 0) ?_ ⟨0, by omega, rfl⟩ ?_ rfl
        · exact Wk.sub (by simp -dsimp -implicitDefEqProofs only [↓j25, ↓j27, j179, reduceCtorEq, ↓reduceIte, Nat.reduceEqDiff, j182, j183, j184, j202, j203, j204, j205, j209, j223, a3T, a3H, a2H, bwV_ne hpW, bwB_ne hpW] <;> simp)
        rintro n s ⟨i, hi, rfl⟩
        refine ⟨rfl, ?_⟩
        rcases Nat.lt_or_ge i ks.length with hlt | hge
        · have e1 : decide ((i : Int) < (ks.length : Int)) = true := decide_eq_true (by omega)
          obtain ⟨p, hpi⟩ := list_get (xs := ks) (i := i) hlt
          have hsz := (unif_keys ks).sizeL_take (k := i) (by simp; omega)
          have hlt2 : (i : Int) < (ks.length : Int) := by omega
          have hw : IntKind.i64.wrap ((i : Int) + 1) = ((i + 1 : Nat) : Int) := by rw [wrap_i64 (by omega) (by omega)]; omega
          obtain ⟨hko, b, hb1, hbl, hWi⟩ := hkey i p hpi
          have hrd2 := read_spec M1 hM1 p hko
          by_cases hpp : p = o.page
          · have g1 : ((p : Int) != (o.page : Int)) = false := by simp; omega
            have hr2l := readP_len hM1 p
            have hr2t : (readP M1 p).2 = true := hb1.1
            obtain ⟨⟨b2, t2⟩, hr2⟩ : ∃ r, readP M1 p = r := ⟨_, rfl⟩
            rw [hr2] at hrd2 hr2l hr2t
            have hr2t : t2 = true := hr2t
            subst hr2t
            have hr2l : b2.length = 64 := hr2l
            have hrd2 : ACall Try.prog 10 [.ptr 2 0 [], .int .u16 p] (stH M1) (.tuple [arrAV b2, .bool true]) (stH M1) := hrd2
            simp -dsimp -implicitDefEqProofs only [↓j0, ↓j1, ↓j7, ↓j9, ↓j12, ↓j13, ↓j14, ↓j15, j17, j18, j20, ↓j25, ↓j29, ↓j38, ↓j39, ↓j43, ↓j46, ↓j48, ↓j53, ↓j77, ↓j89, ↓j92, j130, ↓j145, ↓j146, ↓j147, ↓j149, j159, AV.proj, AV.offOf, j171, j177, ↓reduceIte, Nat.reduceEqDiff, j182, j185, j191, j197, j206, j207, j208, j267, j303, a3St, a3T, a3H, a2H, bwV_ne hpW, bwB_ne hpW, hpi, hsz, hlt2]
            refine CallTo.gen (args := [.ptr 2 0 [], .int .u16 p]) (stH M1) (stH M1) 102 rfl fok10 (by simp -dsimp -implicitDefEqProofs only [↓j25, ↓j29, j173, j174, ↓reduceIte, Nat.reduceEqDiff]) (notup2 (fun vs h => by cases h) fun vs h => by cases h) hrd2 (SubH.of (by simp -dsimp -implicitDefEqProofs only [↓j27, reduceCtorEq, ↓reduceIte, Nat.reduceEqDiff, j182, j204, j205])) ⟨by simp, put_st⟩ ?_
            simp -dsimp -implicitDefEqProofs only [↓j0, ↓j1, ↓j3, ↓j4, ↓j5, ↓j8, ↓j12, ↓j15, j17, j18, j19, j20, j21, j22, j23, j24, ↓j25, ↓j27, ↓j29, ↓j30, j32, ↓j38, ↓j39, ↓j40, ↓j41, ↓j43, ↓j44, ↓j45, ↓j48, ↓j55, ↓j57, ↓j76, ↓j78, ↓j79, j82, j83, j84, j85, ↓j89, j130, ↓j145, ↓j146, ↓j148, ↓j150, ↓j151, ↓j153, j158, AV.proj, AV.offOf, AV.upd, AV.size, AV.sizeL, AV.layable, j163, j164, j167, j170, j171, j172, j173, j174, j175, reduceCtorEq, ↓reduceIte, Nat.reduceAdd, Nat.reduceEqDiff, j182, j185, j193, j195, j197, j240, j243, j267, j274, j282, j376, hr2l, g1]
            refine ⟨by kernel_rfl, ?_⟩
            simp -dsimp -implicitDefEqProofs only [↓j0, ↓j1, ↓j7, ↓j9, ↓j13, ↓j15, j17, j18, j20, ↓j25, ↓j29, ↓j30, j33, ↓j38, ↓j48, ↓j89, ↓j145, ↓j146, ↓j148, ↓j149, j154, j171, ↓reduceIte, Nat.reduceEqDiff, j185]
            exact ⟨n - 1, a3St ks o M1 W mine e had (i + 1), by omega, ⟨i + 1, by omega, by simp only [a3St, a3T, a3H, a2H, bwV_ne hpW, bwB_ne hpW]⟩, Wk.trans (Wk.mk (s' := ⟨223, a3T ks W e had (i + 1), a3H o M1 W mine, 103⟩) (SubT.spec (by simp -dsimp -implicitDefEqProofs only [↓j25, ↓reduceIte, Nat.reduceEqDiff, j182, j202, j203, a3T, bwV_ne hpW, hw] <;> simp)) (SubH.spec (by simp -dsimp -implicitDefEqProofs only [↓j27, reduceCtorEq, ↓reduceIte, Nat.reduceEqDiff, j182, j204, j205, a3H, a2H, bwB_ne hpW] <;> simp)) (Nat.le_refl _) rfl) a3_gc⟩
          · have g1 : ((p : Int) != (o.page : Int)) = true := by simp; omega
            rw [hb1.2 hpp] at hrd2
            have hrd2 : ACall Try.prog 10 [.ptr 2 0 [], .int .u16 p] (stH M1) (.tuple [arrAV b, .bool true]) (stH M1) := hrd2
            have hce := cellsEq_bytes (l := b) (k := b) rfl
            have hkb := kinds_bytes hbl
            simp only [beq_self_eq_true] at hce
            have z3 := (unif_arrs hWl).sizeL_take (k := i) (by simp; omega)
            have l3 : (i : Int) < (W.length : Int) := by omega
            simp -dsimp -implicitDefEqProofs only [↓j0, ↓j1, ↓j7, ↓j9, ↓j12, ↓j13, ↓j14, ↓j15, j17, j18, j20, ↓j25, ↓j29, ↓j38, ↓j39, ↓j43, ↓j46, ↓j48, ↓j53, ↓j77, ↓j89, ↓j92, j130, ↓j145, ↓j146, ↓j147, ↓j149, j159, AV.proj, AV.offOf, j171, j177, ↓reduceIte, Nat.reduceEqDiff, j182, j185, j191, j197, j206, j207, j208, j267, j303, a3St, a3T, a3H, a2H, bwV_ne hpW, bwB_ne hpW, hpi, hsz, hlt2]
            refine CallTo.gen (args := [.ptr 2 0 [], .int .u16 p]) (stH M1) (stH M1) 102 rfl fok10 (by simp -dsimp -implicitDefEqProofs only [↓j25, ↓j29, j173, j174, ↓reduceIte, Nat.reduceEqDiff]) (notup2 (fun vs h => by cases h) fun vs h => by cases h) hrd2 (SubH.of (by simp -dsimp -implicitDefEqProofs only [↓j27, reduceCtorEq, ↓reduceIte, Nat.reduceEqDiff, j182, j204, j205])) ⟨by simp, put_st⟩ ?_
            simp -dsimp -implicitDefEqProofs only [↓j0, ↓j1, ↓j4, ↓j5, ↓j8, ↓j12, ↓j15, j17, j18, j19, j20, j21, j22, j23, j24, ↓j25, ↓j27, ↓j29, ↓j38, ↓j39, ↓j41, ↓j43, ↓j44, ↓j45, ↓j46, ↓j48, ↓j55, ↓j57, ↓j76, ↓j78, ↓j79, j84, j85, ↓j89, ↓j91, ↓j93, j129, j130, ↓j145, ↓j146, ↓j147, ↓j148, ↓j150, ↓j151, ↓j153, j158, AV.proj, AV.offOf, AV.upd, AV.size, AV.sizeL, AV.layable, j163, j164, j167, j170, j171, j172, j173, j174, j175, j177, reduceCtorEq, ↓reduceIte, Nat.reduceAdd, Nat.reduceEqDiff, j182, j184, j185, j193, j196, j197, j206, j207, j208, j212, j240, j241, j243, j267, j274, j275, j277, j278, j282, j307, j376, hbl, g1, hWi, z3, l3, hce]
            refine ⟨hkb, ?_⟩
            simp -dsimp -implicitDefEqProofs only [↓j3, ↓j4, ↓j5, j17, j18, j20, j24, ↓j25, ↓j29, ↓j30, j32, ↓j40, j83, ↓j145, ↓j148, ↓j151, j163, j164, j170, j171, j172, j174, j175, ↓reduceIte, Nat.reduceEqDiff, j193, j195]
            refine ⟨by kernel_rfl, ?_⟩
            simp -dsimp -implicitDefEqProofs only [↓j0, ↓j1, ↓j7, ↓j9, ↓j13, ↓j15, j17, j18, j20, ↓j25, ↓j29, ↓j30, j33, ↓j38, ↓j48, ↓j89, ↓j145, ↓j146, ↓j148, ↓j149, j154, j171, ↓reduceIte, Nat.reduceEqDiff, j185]
            exact ⟨n - 1, a3St ks o M1 W mine e had (i + 1), by omega, ⟨i + 1, by omega, by simp only [a3St, a3T, a3H, a2H, bwV_ne hpW, bwB_ne hpW]⟩, Wk.trans (Wk.mk (s' := ⟨223, a3T ks W e had (i + 1), a3H o M1 W mine, 103⟩) (SubT.spec (by simp -dsimp -implicitDefEqProofs only [↓j25, ↓reduceIte, Nat.reduceEqDiff, j182, j202, j203, a3T, bwV_ne hpW, hw] <;> simp)) (SubH.spec (by simp -dsimp -implicitDefEqProofs only [↓j27, reduceCtorEq, ↓reduceIte, Nat.reduceEqDiff, j182, j204, j205, a3H, a2H, bwB_ne hpW] <;> simp)) (Nat.le_refl _) rfl) a3_gc⟩
        have hi2 : i = ks.length := by omega
        subst hi2
        have f1 : decide ((ks.length : Int) < (ks.length : Int)) = false := decide_eq_false (by omega)
        have hrn := read_spec M1 hM1 o.page hoo.page
        have hnl := readP_len hM1 o.page
        by_cases he0 : e = 0
        · subst he0
          obtain ⟨q1, q2, q3, q4⟩ := write_yes (M := M) (page := o.page) (base := o.base) (off := o.off) (s := o.s) (by rw [hWe])
          rw [hWe, hrr] at q4
          have q4 : readP M1 o.page = (layB (if had then mine else o.base) o.off.toNat o.s, true) := q4
          rw [q4] at hrn hnl
          obtain ⟨a, haa⟩ : ∃ a : Nat, o.off = (a : Int) := ⟨o.off.toNat, by omega⟩
          have hta : o.off.toNat = a := by omega
          have hpl : (if had then mine else o.base).length = 64 := by cases had; exact hob; exact hmine
          have hlay : ∀ i, (layB (if had then mine else o.base) a o.s)[i]? = if a ≤ i ∧ i < a + o.s.length then o.s[i - a]? else (if had then mine else o.base)[i]? := fun i => layB_get (by omega)
          rw [hta] at hrn hnl
          obtain ⟨now, hnow⟩ : ∃ now, layB (if had then mine else o.base) a o.s = now := ⟨_, rfl⟩
          rw [hnow] at hrn hnl
          simp only [hnow] at hlay
          have hlay : ∀ i, now[i]? = if a ≤ i ∧ i < a + o.s.length then o.s[i - a]? else if had = true then mine[i]? else o.base[i]? := fun i => by
            rw [hlay i]; cases had <;> rfl
          have hnl : now.length = 64 := hnl
          have hrn : ACall Try.prog 10 [.ptr 2 0 [], .int .u16 o.page] (stH M1) (.tuple [arrAV now, .bool true]) (stH M1) := hrn
          have o3 := haa
          simp -dsimp -implicitDefEqProofs only [↓j0, ↓j1, ↓j7, ↓j11, ↓j12, ↓j13, ↓j15, j17, j18, j20, ↓j25, ↓j27, ↓j29, ↓j38, ↓j43, ↓j45, ↓j48, ↓j53, ↓j76, ↓j79, ↓j89, j130, ↓j145, ↓j146, ↓j148, ↓j149, ↓j153, j159, AV.proj, AV.offOf, AV.sizeL, j163, j167, j171, reduceCtorEq, ↓reduceIte, Nat.reduceEqDiff, j182, j185, j197, j267, j282, a3St, a3T, a3H, a2H, bwV_ne hpW, bwB_ne hpW, f1]
          refine CallTo.gen (args := [.ptr 2 0 [], .int .u16 o.page]) (stH M1) (stH M1) 102 rfl fok10 (by simp -dsimp -implicitDefEqProofs only [↓j25, ↓j29, j173, j174, ↓reduceIte, Nat.reduceEqDiff]) (notup2 (fun vs h => by cases h) fun vs h => by cases h) hrn (SubH.of (by simp -dsimp -implicitDefEqProofs only [↓j27, reduceCtorEq, ↓reduceIte, Nat.reduceEqDiff, j182, j204, j205])) ⟨by simp, put_st⟩ ?_
          have g0 : (((0 : Nat) : Int) != 0) = false := rfl
          simp -dsimp -implicitDefEqProofs only [↓j0, ↓j1, ↓j7, ↓j9, ↓j12, ↓j13, ↓j14, ↓j15, ↓j16, j17, j18, j19, j20, j21, j22, j23, ↓j25, ↓j27, ↓j29, ↓j30, j33, ↓j38, ↓j39, ↓j41, ↓j44, ↓j48, ↓j57, ↓j78, j85, ↓j89, ↓j145, ↓j146, ↓j148, ↓j149, ↓j153, j158, AV.proj, AV.offOf, AV.upd, AV.size, AV.layable, j163, j164, j170, j171, j173, j174, reduceCtorEq, ↓reduceIte, Nat.reduceAdd, Nat.reduceEqDiff, j182, j185, j240, j243, j274, j376, g0, hnl]
          refine AWp.loopR (Z := Z) mixed hZ (by kernel_rfl) (fun n s => ∃ i, i + n = 64 ∧ s = a4St o mine now had i) (n0 := 64) (s0 := a4St o mine now had 0) ?_ ⟨0, by omega, rfl⟩ ?_ rfl
          · exact Wk.sub (by simp -dsimp -implicitDefEqProofs only [↓j25, ↓j27, j179, reduceCtorEq, ↓reduceIte, Nat.reduceEqDiff, j182, j183, j184, j202, j203, j204, j205, j209, j223] <;> simp)
          rintro n s ⟨i, hi, rfl⟩
          refine ⟨rfl, ?_⟩
          rcases Nat.lt_or_ge i 64 with hlt | hge
          · have e1 : decide ((i : Int) < 64) = true := decide_eq_true (by omega)
            obtain ⟨c, hc⟩ := list_get (xs := now) (i := i) (by omega)
            obtain ⟨cm, hcm⟩ := list_get (xs := mine) (i := i) (by omega)
            obtain ⟨cb, hcb⟩ := list_get (xs := o.base) (i := i) (by omega)
            have z1 : AV.sizeL ((now.map byteAV).take i) = i * 1 := (unif_bytes now).sizeL_take (by simp; omega)
            have z2 : AV.sizeL ((mine.map byteAV).take i) = i * 1 := (unif_bytes mine).sizeL_take (by simp; omega)
            have z3 : AV.sizeL ((o.base.map byteAV).take i) = i * 1 := (unif_bytes o.base).sizeL_take (by simp; omega)
            have l1 : (i : Int) < ((64 : Nat) : Int) := by omega
            have hw : IntKind.i64.wrap ((i : Int) + 1) = ((i + 1 : Nat) : Int) := by rw [wrap_i64 (by omega) (by omega)]; omega
            have hg := hlay i
            rw [hc] at hg
            have nn : ∀ x : UInt8, (((x.toNat : Nat) : Int) != ((x.toNat : Nat) : Int)) = false := fun x => by simp
            have nxt : ∀ (t : Env) (H : Heap) (m : Nat), SubT [(22, .int .i64 (i + 1 : Nat)), (21, .bool true), (20, .ptr 102 0 []), (14, .bool had), (13, .ptr 101 0 []), (3, .ptr 0 0 []), (4, .bool false)] t → SubH [(102, .cells (arrAV now)), (101, .cells (arrAV mine)), (0, woC o)] H → m ≤ 103 → ∃ m' s'', m' < n ∧ (∃ i, i + m' = 64 ∧ s'' = a4St o mine now had i) ∧ Wk ⟨223, t, H, m⟩ s'' := fun t H m ht hH hm =>
              ⟨n - 1, a4St o mine now had (i + 1), by omega, ⟨i + 1, by omega, rfl⟩, Wk.mk ht.spec hH.spec hm rfl⟩
            have fitT : True := trivial
            by_cases ha : i < a
            · have g1 : decide ((a : Int) ≤ (i : Int)) = false := decide_eq_false (by omega)
              rw [if_neg (by omega)] at hg
              cases had
              · skip
                have hcv : c = cb := by
                  rw [if_neg Bool.false_ne_true, hcb] at hg
                  exact Option.some.inj hg
                subst hcv
                simp -dsimp -implicitDefEqProofs only [↓j0, ↓j1, ↓j2, ↓j3, ↓j4, ↓j5, ↓j7, ↓j8, ↓j9, ↓j12, ↓j13, ↓j14, ↓j15, j17, j18, j20, j24, ↓j25, ↓j27, ↓j29, ↓j30, j32, j33, ↓j38, ↓j39, ↓j40, ↓j43, ↓j45, ↓j46, ↓j48, ↓j55, ↓j76, ↓j79, j82, j83, j84, ↓j89, ↓j94, j130, ↓j145, ↓j146, ↓j147, ↓j148, ↓j149, ↓j150, ↓j151, ↓j153, j158, j159, j162, AV.proj, AV.offOf, AV.size, AV.sizeL, j163, j164, j166, j167, j170, j171, j172, j174, j175, j177, reduceCtorEq, ↓reduceIte, Nat.reduceAdd, Nat.reduceEqDiff, j182, j185, j194, j195, j196, j197, j206, j207, j208, j240, j250, j255, j276, j285, j288, a4St, e1, o3, g1, hob, hc, hcb, z1, z3, l1, nn, byteAV]
                refine ⟨by kernel_rfl, ?_⟩
                simp -dsimp -implicitDefEqProofs only [↓j0, ↓j1, ↓j7, ↓j9, ↓j13, ↓j15, j17, j18, j20, ↓j25, ↓j29, ↓j30, j33, ↓j38, ↓j39, ↓j48, ↓j89, ↓j145, ↓j146, ↓j148, ↓j149, j154, j171, ↓reduceIte, Nat.reduceEqDiff, j185]
                exact nxt _ _ _ (by simp -dsimp -implicitDefEqProofs only [↓j25, ↓reduceIte, Nat.reduceEqDiff, j182, j202, j203, hw] <;> simp) (by simp -dsimp -implicitDefEqProofs only [↓j27, reduceCtorEq, ↓reduceIte, Nat.reduceEqDiff, j182, j204, j205] <;> simp) (by simp)
              · skip
                have hcv : c = cm := by
                  rw [if_pos rfl, hcm] at hg
                  exact Option.some.inj hg
                subst hcv
                simp -dsimp -implicitDefEqProofs only [↓j0, ↓j1, ↓j2, ↓j3, ↓j4, ↓j5, ↓j7, ↓j8, ↓j9, ↓j12, ↓j13, ↓j14, ↓j15, j17, j18, j20, j24, ↓j25, ↓j27, ↓j29, ↓j30, j32, j33, ↓j38, ↓j39, ↓j40, ↓j43, ↓j45, ↓j46, ↓j48, ↓j55, ↓j76, ↓j79, j82, j83, j84, ↓j89, ↓j94, j130, ↓j145, ↓j146, ↓j147, ↓j148, ↓j149, ↓j150, ↓j151, ↓j153, j158, j159, j162, AV.proj, AV.offOf, AV.size, AV.sizeL, j163, j164, j166, j167, j170, j171, j172, j174, j175, j177, reduceCtorEq, ↓reduceIte, Nat.reduceAdd, Nat.reduceEqDiff, j182, j185, j193, j194, j195, j196, j197, j206, j207, j208, j240, j250, j255, j276, j288, a4St, e1, o3, g1, hob, hc, hcm, z1, z2, l1, nn, byteAV]
                refine ⟨by kernel_rfl, ?_⟩
                simp -dsimp -implicitDefEqProofs only [↓j0, ↓j1, ↓j7, ↓j9, ↓j13, ↓j15, j17, j18, j20, ↓j25, ↓j29, ↓j30, j33, ↓j38, ↓j39, ↓j48, ↓j89, ↓j145, ↓j146, ↓j148, ↓j149, j154, j171, ↓reduceIte, Nat.reduceEqDiff, j185]
                exact nxt _ _ _ (by simp -dsimp -implicitDefEqProofs only [↓j25, ↓reduceIte, Nat.reduceEqDiff, j182, j202, j203, hw] <;> simp) (by simp -dsimp -implicitDefEqProofs only [↓j27, reduceCtorEq, ↓reduceIte, Nat.reduceEqDiff, j182, j204, j205] <;> simp) (by simp)
            have g1 : decide ((a : Int) ≤ (i : Int)) = true := decide_eq_true (by omega)
            have w1 : IntKind.i64.wrap ((i : Int) - (a : Int)) = ((i - a : Nat) : Int) := by rw [wrap_i64 (by omega) (by omega)]; omega
            by_cases hs : i - a < o.s.length
            · have g2 : decide (((i - a : Nat) : Int) < (o.s.length : Int)) = true := decide_eq_true (by omega)
              rw [if_pos (by omega)] at hg
              have hby : byteAt ⟨o.s.toArray⟩ ((i - a : Nat) : Int) = (c.toNat : Int) := byte_at hg.symm
              have l2 : ((i - a : Nat) : Int) < (o.s.length : Int) := by omega
              simp -dsimp -implicitDefEqProofs only [↓j0, ↓j1, ↓j2, ↓j3, ↓j4, ↓j5, ↓j7, ↓j8, ↓j9, ↓j12, ↓j13, ↓j14, ↓j15, j17, j18, j20, j24, ↓j25, ↓j27, ↓j29, ↓j30, j32, j33, ↓j38, ↓j39, ↓j40, ↓j43, ↓j45, ↓j46, ↓j47, ↓j48, ↓j55, ↓j58, ↓j59, ↓j76, ↓j79, j82, j83, j84, ↓j89, ↓j94, ↓j95, j130, j132, j141, ↓j145, ↓j146, ↓j147, ↓j148, ↓j149, ↓j150, ↓j151, ↓j153, j155, j158, j159, j162, AV.proj, AV.offOf, AV.size, AV.sizeL, j163, j164, j166, j167, j170, j171, j172, j174, j175, j177, reduceCtorEq, ↓reduceIte, Nat.reduceAdd, Nat.reduceEqDiff, j182, j185, j191, j193, j195, j196, j197, j206, j207, j208, j240, j250, j255, j258, j259, j276, j288, j291, a4St, e1, o3, g1, w1, str_bytes, hby, l2, hob, hc, z1, l1, nn, byteAV]
              refine ⟨by kernel_rfl, ?_⟩
              simp -dsimp -implicitDefEqProofs only [↓j0, ↓j1, ↓j7, ↓j9, ↓j13, ↓j15, j17, j18, j20, ↓j25, ↓j29, ↓j30, j33, ↓j38, ↓j39, ↓j48, ↓j89, ↓j145, ↓j146, ↓j148, ↓j149, j154, j171, ↓reduceIte, Nat.reduceEqDiff, j185]
              exact nxt _ _ _ (by simp -dsimp -implicitDefEqProofs only [↓j25, ↓reduceIte, Nat.reduceEqDiff, j182, j202, j203, hw] <;> simp) (by simp -dsimp -implicitDefEqProofs only [↓j27, reduceCtorEq, ↓reduceIte, Nat.reduceEqDiff, j182, j204, j205] <;> simp) (by simp)
            have g2 : decide (((i - a : Nat) : Int) < (o.s.length : Int)) = false := decide_eq_false (by omega)
            rw [if_neg (by omega)] at hg
            cases had
            · skip
              have hcv : c = cb := by
                rw [if_neg Bool.false_ne_true, hcb] at hg
                exact Option.some.inj hg
              subst hcv
              simp -dsimp -implicitDefEqProofs only [↓j0, ↓j1, ↓j2, ↓j3, ↓j4, ↓j5, ↓j7, ↓j8, ↓j9, ↓j12, ↓j13, ↓j14, ↓j15, j17, j18, j20, j24, ↓j25, ↓j27, ↓j29, ↓j30, j32, j33, ↓j38, ↓j39, ↓j40, ↓j43, ↓j45, ↓j46, ↓j48, ↓j55, ↓j58, ↓j59, ↓j76, ↓j79, j82, j83, j84, ↓j89, ↓j94, j130, j132, j141, ↓j145, ↓j146, ↓j147, ↓j148, ↓j149, ↓j150, ↓j151, ↓j153, j155, j158, j159, j162, AV.proj, AV.offOf, AV.size, AV.sizeL, j163, j164, j166, j167, j170, j171, j172, j174, j175, j177, reduceCtorEq, ↓reduceIte, Nat.reduceAdd, Nat.reduceEqDiff, j182, j185, j194, j195, j196, j197, j206, j207, j208, j240, j250, j255, j258, j259, j276, j285, j288, j291, a4St, e1, o3, g1, w1, g2, str_bytes, hob, hc, hcb, z1, z3, l1, nn, byteAV]
              refine ⟨by kernel_rfl, ?_⟩
              simp -dsimp -implicitDefEqProofs only [↓j0, ↓j1, ↓j7, ↓j9, ↓j13, ↓j15, j17, j18, j20, ↓j25, ↓j29, ↓j30, j33, ↓j38, ↓j39, ↓j48, ↓j89, ↓j145, ↓j146, ↓j148, ↓j149, j154, j171, ↓reduceIte, Nat.reduceEqDiff, j185]
              exact nxt _ _ _ (by simp -dsimp -implicitDefEqProofs only [↓j25, ↓reduceIte, Nat.reduceEqDiff, j182, j202, j203, hw] <;> simp) (by simp -dsimp -implicitDefEqProofs only [↓j27, reduceCtorEq, ↓reduceIte, Nat.reduceEqDiff, j182, j204, j205] <;> simp) (by simp)
            · skip
              have hcv : c = cm := by
                rw [if_pos rfl, hcm] at hg
                exact Option.some.inj hg
              subst hcv
              simp -dsimp -implicitDefEqProofs only [↓j0, ↓j1, ↓j2, ↓j3, ↓j4, ↓j5, ↓j7, ↓j8, ↓j9, ↓j12, ↓j13, ↓j14, ↓j15, j17, j18, j20, j24, ↓j25, ↓j27, ↓j29, ↓j30, j32, j33, ↓j38, ↓j39, ↓j40, ↓j43, ↓j45, ↓j46, ↓j48, ↓j55, ↓j58, ↓j59, ↓j76, ↓j79, j82, j83, j84, ↓j89, ↓j94, j130, j132, j141, ↓j145, ↓j146, ↓j147, ↓j148, ↓j149, ↓j150, ↓j151, ↓j153, j155, j158, j159, j162, AV.proj, AV.offOf, AV.size, AV.sizeL, j163, j164, j166, j167, j170, j171, j172, j174, j175, j177, reduceCtorEq, ↓reduceIte, Nat.reduceAdd, Nat.reduceEqDiff, j182, j185, j193, j194, j195, j196, j197, j206, j207, j208, j240, j250, j255, j258, j259, j276, j288, j291, a4St, e1, o3, g1, w1, g2, str_bytes, hob, hc, hcm, z1, z2, l1, nn, byteAV]
              refine ⟨by kernel_rfl, ?_⟩
              simp -dsimp -implicitDefEqProofs only [↓j0, ↓j1, ↓j7, ↓j9, ↓j13, ↓j15, j17, j18, j20, ↓j25, ↓j29, ↓j30, j33, ↓j38, ↓j39, ↓j48, ↓j89, ↓j145, ↓j146, ↓j148, ↓j149, j154, j171, ↓reduceIte, Nat.reduceEqDiff, j185]
              exact nxt _ _ _ (by simp -dsimp -implicitDefEqProofs only [↓j25, ↓reduceIte, Nat.reduceEqDiff, j182, j202, j203, hw] <;> simp) (by simp -dsimp -implicitDefEqProofs only [↓j27, reduceCtorEq, ↓reduceIte, Nat.reduceEqDiff, j182, j204, j205] <;> simp) (by simp)
          · have hi2 : i = 64 := by omega
            subst hi2
            have e1 : decide (((64 : Nat) : Int) < 64) = false := rfl
            simp -dsimp -implicitDefEqProofs only [↓j0, ↓j1, ↓j2, ↓j7, ↓j11, ↓j12, ↓j13, ↓j15, j17, j18, j20, ↓j25, ↓j29, ↓j30, j33, ↓j38, ↓j48, ↓j53, ↓j89, ↓j145, ↓j146, ↓j147, ↓j148, ↓j149, ↓j150, j159, j163, j164, j171, j175, ↓reduceIte, Nat.reduceEqDiff, j185, a4St, e1]
            refine CallTo.pure (args := []) rfl fok11 (by simp -dsimp -implicitDefEqProofs only [j174]) nil0 awake_spec ?_
            simp -dsimp -implicitDefEqProofs only [↓j0, ↓j1, ↓j10, j17, j18, j20, ↓j25, ↓j29, ↓j30, j32, ↓j39, ↓j40, j83, ↓j145, j171, ↓reduceIte, Nat.reduceEqDiff]
            exact fin _ _ _ rfl
        · have hMM : M1 = M := by
            have := write_no (M := M) (page := o.page) (base := o.base) (off := o.off) (s := o.s) (by rw [hWe]; exact he0)
            rw [hWe] at this; exact this
          subst hMM
          rw [hrr] at hrn hnl
          have hrn : ACall Try.prog 10 [.ptr 2 0 [], .int .u16 o.page] (stH M1) (.tuple [arrAV mine, .bool had]) (stH M1) := hrn
          have g0 : ((e : Int) != 0) = true := by simp; omega
          have hce := cellsEq_bytes (l := mine) (k := mine) rfl
          have hkb := kinds_bytes hmine
          simp only [beq_self_eq_true] at hce
          have hbb : (had == had) = true := by cases had <;> rfl
          have hll : ((ks.length : Int) == (ks.length : Int)) = true := by rw [beq_iff_eq]
          simp -dsimp -implicitDefEqProofs only [↓j0, ↓j1, ↓j7, ↓j11, ↓j12, ↓j13, ↓j15, j17, j18, j20, ↓j25, ↓j27, ↓j29, ↓j38, ↓j43, ↓j45, ↓j48, ↓j53, ↓j76, ↓j79, ↓j89, j130, ↓j145, ↓j146, ↓j148, ↓j149, ↓j153, j159, AV.proj, AV.offOf, AV.sizeL, j163, j167, j171, reduceCtorEq, ↓reduceIte, Nat.reduceEqDiff, j182, j185, j197, j267, j282, a3St, a3T, a3H, a2H, bwV_ne hpW, bwB_ne hpW, f1]
          refine CallTo.gen (args := [.ptr 2 0 [], .int .u16 o.page]) (stH M1) (stH M1) 102 rfl fok10 (by simp -dsimp -implicitDefEqProofs only [↓j25, ↓j29, j173, j174, ↓reduceIte, Nat.reduceEqDiff]) (notup2 (fun vs h => by cases h) fun vs h => by cases h) hrn (SubH.of (by simp -dsimp -implicitDefEqProofs only [↓j27, reduceCtorEq, ↓reduceIte, Nat.reduceEqDiff, j182, j204, j205])) ⟨by simp, put_st⟩ ?_
          simp -dsimp -implicitDefEqProofs only [↓j0, ↓j1, ↓j7, ↓j12, ↓j13, ↓j15, j17, j18, j19, j20, j21, j22, j23, ↓j25, ↓j27, ↓j29, ↓j30, j33, ↓j38, ↓j39, ↓j41, ↓j43, ↓j44, ↓j48, ↓j57, ↓j76, ↓j78, j85, ↓j89, ↓j91, j129, ↓j145, ↓j146, ↓j147, ↓j149, ↓j153, j158, AV.proj, AV.offOf, AV.upd, AV.size, AV.layable, j163, j164, j170, j171, j173, j174, reduceCtorEq, ↓reduceIte, Nat.reduceAdd, Nat.reduceEqDiff, j182, j184, j185, j211, j240, j241, j243, j274, j275, j277, j278, j376, hmine, g0, hce]
          refine ⟨hkb, ?_⟩
          simp -dsimp -implicitDefEqProofs only [↓j1, ↓j2, j17, j18, j20, ↓j25, ↓j29, ↓j30, j32, ↓j38, ↓j40, ↓j48, ↓j53, j83, ↓j90, ↓j145, ↓j146, ↓j147, ↓j150, j163, j164, j171, j175, ↓reduceIte, Nat.reduceEqDiff, j195, j211, j418, hbb]
          refine CallTo.gen (args := [.ptr 2 0 []]) (stH M1) (stH M1) 103 rfl fok9 (by simp -dsimp -implicitDefEqProofs only [↓j25, ↓j29, j173, j174, ↓reduceIte]) (notup1 fun vs h => by cases h) hpg (SubH.of (by simp -dsimp -implicitDefEqProofs only [↓j27, ↓reduceIte, Nat.reduceEqDiff, j182, j204, j205])) ⟨by simp, put_st⟩ ?_
          simp -dsimp -implicitDefEqProofs only [↓j1, ↓j2, j17, j18, j20, j21, j22, j23, ↓j25, ↓j29, ↓j30, j32, ↓j38, ↓j40, ↓j48, ↓j53, ↓j58, ↓j62, j83, ↓j89, j142, ↓j145, ↓j146, ↓j147, ↓j150, j157, j163, j164, j170, j171, j173, j174, j175, reduceCtorEq, ↓reduceIte, Nat.reduceEqDiff, j185, j429, hll]
          refine CallTo.pure (args := []) rfl fok11 (by simp -dsimp -implicitDefEqProofs only [j174]) nil0 awake_spec ?_
          simp -dsimp -implicitDefEqProofs only [↓j0, ↓j1, ↓j10, j17, j18, j20, ↓j25, ↓j29, ↓j30, j32, ↓j39, ↓j40, j83, ↓j145, j171, ↓reduceIte, Nat.reduceEqDiff]
          exact fin _ _ _ rfl
end Go.Proofs.Ytipbgaahpchhbaa
