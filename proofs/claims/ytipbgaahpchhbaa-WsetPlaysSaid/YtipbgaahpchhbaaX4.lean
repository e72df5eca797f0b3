/- The document's set: Read. -/
import Derived.Test.YtipbgaahpchhbaaX3
set_option maxRecDepth 8000
set_option linter.unusedVariables false
set_option linter.unusedSimpArgs false
namespace Go.Proofs.Ytipbgaahpchhbaa
open Go Go.RowKit

theorem layG {T : Type} {out x : List T} {a n : Nat} (hn : x.length = n) (h : a + n ≤ out.length) (i : Nat) : (out.take a ++ x ++ out.drop (a + n))[i]? = if i < a then out[i]? else if i < a + n then x[i - a]? else out[i]? := by
  subst hn
  have lo : (out.take a).length = a := by rw [List.length_take]; omega
  by_cases h1 : i < a
  · rw [if_pos h1, List.append_assoc, List.getElem?_append_left (by omega), List.getElem?_take, if_pos h1]
  · rw [if_neg h1]
    by_cases h2 : i < a + x.length
    · rw [if_pos h2, List.append_assoc, List.getElem?_append_right (by omega), lo, List.getElem?_append_left (by omega)]
    · rw [if_neg h2, List.getElem?_append_right (by rw [List.length_append]; omega), List.getElem?_drop, List.length_append, lo]
      congr 1; omega
theorem setG {T : Type} {out x : List T} {a j : Nat} {c : T} (h : a + x.length ≤ out.length) (hx : x[j]? = some c) : (out.take a ++ x.take j ++ out.drop (a + j)).set (a + j) c = out.take a ++ x.take (j + 1) ++ out.drop (a + (j + 1)) := by
  have hj : j < x.length := by
    rcases Nat.lt_or_ge j x.length with h | h
    · exact h
    · rw [List.getElem?_eq_none h] at hx; cases hx
  have l1 : (x.take j).length = j := by rw [List.length_take]; omega
  have l2 : (x.take (j + 1)).length = j + 1 := by rw [List.length_take]; omega
  have lw : (out.take a ++ x.take j ++ out.drop (a + j)).length = out.length := by
    simp only [List.length_append, List.length_drop, List.length_take]; omega
  apply List.ext_getElem?
  intro i
  rw [List.getElem?_set, lw, layG l1 (by omega), layG l2 (by omega)]
  by_cases h2 : a + j = i
  · rw [if_pos h2, if_pos (by omega), if_neg (by omega), if_pos (by omega), List.getElem?_take, if_pos (by omega), show i - a = j by omega, hx]
  · rw [if_neg h2]
    by_cases h1 : i < a
    · rw [if_pos h1, if_pos h1]
    · rw [if_neg h1, if_neg h1]
      by_cases h3 : i < a + j
      · rw [if_pos h3, if_pos (by omega), List.getElem?_take, List.getElem?_take, if_pos (by omega), if_pos (by omega)]
      · rw [if_neg h3, if_neg (by omega)]
theorem layB_step {out x : List UInt8} {a j : Nat} {c : UInt8} (h : a + x.length ≤ out.length) (hx : x[j]? = some c) : (layB out a (x.take j)).set (a + j) c = layB out a (x.take (j + 1)) := by
  have hj : j < x.length := by
    rcases Nat.lt_or_ge j x.length with h | h
    · exact h
    · rw [List.getElem?_eq_none h] at hx; cases hx
  have l1 : (x.take j).length = j := by rw [List.length_take]; omega
  have l2 : (x.take (j + 1)).length = j + 1 := by rw [List.length_take]; omega
  have := setG h hx
  simp only [layB, l1, l2]
  exact this
structure Wo.In (w : Wo) : Prop where
  ok : w.Ok
  lo : 0 ≤ w.off
  hi : w.off ≤ 64
  fit : (w.s.length : Int) ≤ 64 - w.off
abbrev RS := Bo × Bo × Bool
def rstep (p : Nat) (r : RS) (w : Wo) : RS :=
  if w.page ≠ p then r else if r.2.2 then (r.1, layB r.2.1 w.off.toNat w.s, true) else (w.base, layB w.base w.off.toNat w.s, true)
def rreadP (l : List Wo) (p : Nat) : RS := l.foldl (rstep p) (zb 64, zb 64, false)
theorem rread_snoc {l : List Wo} {k p : Nat} {w : Wo} (h : l[k]? = some w) : rreadP (l.take (k + 1)) p = rstep p (rreadP (l.take k) p) w := by
  rw [take_succ h, rreadP, List.foldl_append]; rfl
theorem rstep_len {p : Nat} {r : RS} {w : Wo} (hw : w.In) (h1 : r.1.length = 64) (h2 : r.2.1.length = 64) : (rstep p r w).1.length = 64 ∧ (rstep p r w).2.1.length = 64 := by
  have := hw.ok.base
  have h3 := hw.lo
  have h4 := hw.hi
  have h5 := hw.fit
  unfold rstep
  split
  · exact ⟨h1, h2⟩
  split
  · exact ⟨h1, by show (layB r.2.1 w.off.toNat w.s).length = 64; rw [layB_len (by omega)]; exact h2⟩
  · exact ⟨this, by show (layB w.base w.off.toNat w.s).length = 64; rw [layB_len (by omega)]; exact this⟩
theorem rread_len {l : List Wo} (hl : ∀ w, w ∈ l → w.In) (p k : Nat) : (rreadP (l.take k) p).1.length = 64 ∧ (rreadP (l.take k) p).2.1.length = 64 := by
  induction k with
  | zero => exact ⟨zb_len 64, zb_len 64⟩
  | succ k ih =>
    rcases Nat.lt_or_ge k l.length with h | h
    · obtain ⟨w, hw⟩ := list_get (xs := l) (i := k) h
      rw [rread_snoc hw]
      exact rstep_len (hl w (List.mem_of_getElem? hw)) ih.1 ih.2
    · rw [List.take_of_length_le (by omega)]
      rw [List.take_of_length_le (by omega)] at ih
      exact ih
def rdT (l : List Wo) (p i : Nat) (f : Bool) : Env := [(18, .int .i64 i), (17, .int .i64 l.length), (16, .sl 4 0 [] 0 l.length l.length 67), (9, .bool f), (8, .ptr 103 0 []), (7, .ptr 102 0 []), (5, .ptr 101 0 []), (4, .ptr 100 0 []), (1, .int .u16 p), (6, .bool false)]
def rdH (l : List Wo) (a b : Bo) : Heap := (102, .cells (arrAV a)) :: (103, .cells (arrAV b)) :: (100, .cells (arrAV (zb 64))) :: (101, .cells (arrAV (zb 64))) :: slH l 4
def rdSt (l : List Wo) (p : Nat) (r : RS) (i : Nat) : St := ⟨52, rdT l p i r.2.2, rdH l r.1 r.2.1, 104⟩
theorem rd_gc {l : List Wo} {p i m : Nat} {r : RS} : Wk ⟨52, rdT l p i r.2.2, rdH l r.1 r.2.1, m⟩ (rdSt l p r i) := by
  refine Wk.gc (by decide) (onTL.onT ?_) (onHL.onH ?_)
  · exact onTL_cons trivial (onTL_cons trivial (onTL_cons (show (4 : Nat) < 104 by decide) (onTL_cons trivial (onTL_cons (show (103 : Nat) < 104 by decide) (onTL_cons (show (102 : Nat) < 104 by decide) (onTL_cons (show (101 : Nat) < 104 by decide) (onTL_cons (show (100 : Nat) < 104 by decide) (onTL_cons trivial (onTL_cons trivial onTL_nil)))))))))
  · exact onHL_cons (show (102 : Nat) < 104 by decide) (on_bytes _ _) (onHL_cons (show (103 : Nat) < 104 by decide) (on_bytes _ _) (onHL_cons (show (100 : Nat) < 104 by decide) (on_bytes _ _) (onHL_cons (show (101 : Nat) < 104 by decide) (on_bytes _ _) (slH_onHL (show (99 : Nat) < 104 by decide) (show (4 : Nat) < 104 by decide)))))
def riSt (l : List Wo) (p i : Nat) (w : Wo) (a b : Bo) (k : Nat) : St := ⟨52, (12, .int .i64 k) :: (11, .ptr 104 0 []) :: rdT l p i true, (104, woC' w) :: rdH l a (layB b w.off.toNat (w.s.take k)), 105⟩
abbrev rsAV (r : RS) : AV := .tuple [arrAV r.1, arrAV r.2.1, .bool r.2.2]
set_option maxHeartbeats 6400000 in
theorem rread_spec (l : List Wo) (hl : ∀ o, o ∈ l → o.In) (hn : l.length ≤ 1000) (p : Nat) : ACall Try.prog 13 [.ptr 99 0 [], .int .u16 p] (rsH l 4) (rsAV (rreadP l p)) (rsH l 4) := by
  refine ACall.runH (Z := Z) (N := 52) mixed hZ Try.func13 rfl rfl (by kernel_rfl) (by simp) (rs_args arg_int) rs_on' 100 (rs_lt (by omega)) ?_
  have hz := zb_len 64
  have hlo : ∀ o, o ∈ l → o.Ok := fun o ho => (hl o ho).ok
  cases hl0 : l with
  | nil =>
    rw [rsH_nil]
    simp -dsimp -implicitDefEqProofs only [↓j0, ↓j1, ↓j7, ↓j12, ↓j14, ↓j15, ↓j16, j17, j18, j20, ↓j25, ↓j27, ↓j29, ↓j30, j32, j33, ↓j38, ↓j39, ↓j41, ↓j43, ↓j45, ↓j56, ↓j58, ↓j60, ↓j76, ↓j79, j134, j144, ↓j145, ↓j146, ↓j153, AV.proj, AV.offOf, AV.sizeL, argEnv, j163, j167, j170, j171, reduceCtorEq, ↓reduceIte, Nat.reduceAdd, Nat.reduceEqDiff, j182, j196, j197, j313, j319, j375, j432]
    refine AWp.loopR (Z := Z) mixed hZ (by kernel_rfl) (fun n s => s = ⟨52, [(18, .int .i64 0), (17, .int .i64 0), (16, .nilsl), (9, .bool false), (8, .ptr 103 0 []), (7, .ptr 102 0 []), (5, .ptr 101 0 []), (4, .ptr 100 0 []), (1, .int .u16 p), (6, .bool false)], [(102, .cells (arrAV (zb 64))), (103, .cells (arrAV (zb 64))), (100, .cells (arrAV (zb 64))), (101, .cells (arrAV (zb 64))), (99, .cells (.agg [.nilsl]))], 104⟩) (n0 := 0) (s0 := ⟨52, [(18, .int .i64 0), (17, .int .i64 0), (16, .nilsl), (9, .bool false), (8, .ptr 103 0 []), (7, .ptr 102 0 []), (5, .ptr 101 0 []), (4, .ptr 100 0 []), (1, .int .u16 p), (6, .bool false)], [(102, .cells (arrAV (zb 64))), (103, .cells (arrAV (zb 64))), (100, .cells (arrAV (zb 64))), (101, .cells (arrAV (zb 64))), (99, .cells (.agg [.nilsl]))], 104⟩) ?_ rfl ?_ rfl
    · exact Wk.sub (by simp -dsimp -implicitDefEqProofs only [↓j25, ↓j27, j179, reduceCtorEq, ↓reduceIte, Nat.reduceEqDiff, j182, j183, j184, j202, j203, j204, j205, j209, j223] <;> simp)
    rintro n s rfl
    refine ⟨rfl, ?_⟩
    have e1 : decide ((0 : Int) < 0) = false := rfl
    simp -dsimp -implicitDefEqProofs only [↓j0, ↓j1, ↓j3, ↓j4, ↓j7, ↓j8, ↓j11, ↓j12, ↓j13, ↓j15, j17, j18, j19, j20, j21, j22, j23, j24, ↓j25, ↓j27, ↓j29, ↓j38, ↓j39, ↓j43, ↓j44, ↓j48, ↓j76, ↓j78, ↓j89, j129, ↓j145, ↓j146, ↓j148, ↓j149, ↓j153, j159, AV.proj, AV.offOf, AV.upd, AV.size, AV.layable, j170, j171, j172, j173, j174, ↓reduceIte, Nat.reduceEqDiff, Int.reduceLT, j182, j185, j192, j240, j269, j270, hz]
    refine ⟨by kernel_rfl, ?_⟩
    simp -dsimp -implicitDefEqProofs only [↓j10]
    exact Final.manyH (.inr rfl) (rs := [.cell 4 24, .cell 5 24, .tmp 6]) (us := [arrAV (zb 64), arrAV (zb 64), .bool false]) rfl ⟨⟨100, 0, [], _, rfl, rfl, rfl, rfl, by simp -dsimp -implicitDefEqProofs only [j129, j182, j240, j269, j270, hz]⟩, ⟨101, 0, [], _, rfl, rfl, rfl, rfl, by simp -dsimp -implicitDefEqProofs only [j129, j182, j240, j269, j270, hz]⟩, ⟨rfl, fun vs h => by cases h⟩, trivial⟩ (by simp) ⟨.same _ (on_bytes _ _), .same _ (on_bytes _ _), .same _ trivial, trivial⟩ (rs_keep (l := []) (m := 4) rfl (fun h => by simp at h))
  | cons t0 r0 =>
    rw [← hl0]
    have hp : 0 < l.length := by rw [hl0]; simp
    clear hl0
    rw [rs_sl hp]
    simp -dsimp -implicitDefEqProofs only [↓j0, ↓j1, ↓j7, ↓j12, ↓j14, ↓j15, ↓j16, j17, j18, j20, ↓j25, ↓j27, ↓j29, ↓j30, j32, j33, ↓j38, ↓j39, ↓j41, ↓j43, ↓j45, ↓j56, ↓j58, ↓j61, ↓j76, ↓j79, j135, j143, ↓j145, ↓j146, ↓j153, AV.proj, AV.offOf, AV.sizeL, argEnv, j163, j167, j170, j171, reduceCtorEq, ↓reduceIte, Nat.reduceAdd, Nat.reduceEqDiff, j182, j196, j197, j313, j319, j375, j432, slH]
    refine AWp.loopR (Z := Z) mixed hZ (by kernel_rfl) (fun n s => ∃ i, i + n = l.length ∧ s = rdSt l p (rreadP (l.take i) p) i) (n0 := l.length) (s0 := rdSt l p (zb 64, zb 64, false) 0) ?_ ⟨0, by omega, rfl⟩ ?_ rfl
    · exact Wk.sub (by simp -dsimp -implicitDefEqProofs only [↓j25, ↓j27, j179, reduceCtorEq, ↓reduceIte, Nat.reduceEqDiff, j182, j183, j184, j202, j203, j204, j205, j209, j223, rdT, rdH, slH] <;> simp)
    rintro n s ⟨i, hi, rfl⟩
    refine ⟨rfl, ?_⟩
    obtain ⟨hr1, hr2⟩ := rread_len hl p i
    rcases Nat.lt_or_ge i l.length with hlt | hge
    · have e1 : decide ((i : Int) < (l.length : Int)) = true := decide_eq_true (by omega)
      obtain ⟨w, ht⟩ := list_get (xs := l) (i := i) hlt
      have hwi := hl w (List.mem_of_getElem? ht)
      have htb := hwi.ok.base
      have hsz := (unif_wos l hlo).sizeL_take (k := i) (by simp; omega)
      have hlt2 : (i : Int) < (l.length : Int) := by omega
      have hw : IntKind.i64.wrap ((i : Int) + 1) = ((i + 1 : Nat) : Int) := by rw [wrap_i64 (by omega) (by omega)]; omega
      have hsn := rread_snoc (p := p) ht
      obtain ⟨⟨A, B, f⟩, hre⟩ : ∃ r, rreadP (l.take i) p = r := ⟨_, rfl⟩
      rw [hre] at hr1 hr2 hsn
      have hr1 : A.length = 64 := hr1
      have hr2 : B.length = 64 := hr2
      by_cases hn : w.page = p
      case neg =>
        have e2 : ((w.page : Int) != (p : Int)) = true := by simp; omega
        have hsn : rreadP (l.take (i + 1)) p = (A, B, f) := by rw [hsn, rstep, if_pos hn]
        simp -dsimp -implicitDefEqProofs only [↓j0, ↓j1, ↓j7, ↓j9, ↓j11, ↓j12, ↓j13, ↓j14, ↓j15, j17, j18, j19, j20, j21, j22, j23, ↓j25, ↓j27, ↓j29, ↓j30, j33, ↓j38, ↓j41, ↓j43, ↓j44, ↓j45, ↓j46, ↓j48, ↓j76, ↓j78, ↓j79, ↓j89, ↓j93, j129, j130, ↓j145, ↓j146, ↓j147, ↓j149, ↓j153, j154, j158, j159, AV.proj, AV.offOf, AV.upd, AV.size, AV.sizeL, AV.layable, j163, j167, j170, j171, j177, ↓reduceIte, Nat.reduceAdd, Nat.reduceEqDiff, j182, j185, j191, j196, j197, j206, j207, j208, j240, j243, j267, j314, j321, j322, j324, j385, rdSt, rdT, rdH, slH, hre, ht, hsz, hlt2, htb, e2]
        exact ⟨n - 1, rdSt l p (A, B, f) (i + 1), by omega, ⟨i + 1, by omega, by simp only [hsn, rdSt, rdT, rdH, slH]⟩, Wk.trans (Wk.mk (s' := ⟨52, rdT l p (i + 1) f, rdH l A B, 105⟩) (SubT.spec (by simp -dsimp -implicitDefEqProofs only [↓j25, ↓reduceIte, Nat.reduceEqDiff, j182, j202, j203, rdT, hw] <;> simp)) (SubH.spec (by simp -dsimp -implicitDefEqProofs only [↓j27, ↓reduceIte, Nat.reduceEqDiff, j182, j204, j205, rdH, slH] <;> simp)) (Nat.le_refl _) rfl) (rd_gc (r := (A, B, f)))⟩
      have e2 : ((w.page : Int) != (p : Int)) = false := by simp; omega
      have hlo0 := hwi.lo
      have hhi := hwi.hi
      have hfi := hwi.fit
      obtain ⟨a, haa⟩ : ∃ a : Nat, w.off = (a : Int) := ⟨w.off.toNat, by omega⟩
      have hta : w.off.toNat = a := by omega
      have hss := hwi.ok.s
      cases f
      · skip
        have hsn : rreadP (l.take (i + 1)) p = (w.base, layB w.base a w.s, true) := by rw [hsn, rstep, if_neg (fun h => h hn), if_neg Bool.false_ne_true, hta]
        have nt : (!true) = false := rfl
        have nf : (!false) = true := rfl
        simp -dsimp -implicitDefEqProofs only [↓j0, ↓j1, ↓j3, ↓j4, ↓j7, ↓j8, ↓j9, ↓j12, ↓j13, ↓j14, ↓j15, j17, j18, j19, j20, j21, j22, j23, j24, ↓j25, ↓j27, ↓j29, ↓j30, j32, ↓j38, ↓j39, ↓j41, ↓j43, ↓j44, ↓j45, ↓j46, ↓j48, ↓j55, ↓j76, ↓j78, ↓j79, j84, ↓j89, ↓j93, j129, j130, ↓j145, ↓j146, ↓j147, ↓j148, ↓j149, ↓j153, j158, j159, AV.proj, AV.offOf, AV.upd, AV.size, AV.sizeL, AV.layable, j163, j164, j166, j167, j170, j171, j172, j173, j174, j177, ↓reduceIte, Nat.reduceAdd, Nat.reduceEqDiff, j182, j185, j191, j196, j197, j206, j207, j208, j240, j243, j267, j269, j270, j314, j321, j322, j324, j327, j385, rdSt, rdT, rdH, slH, hre, ht, hsz, hlt2, htb, e2, nf, hr1, hr2]
        refine ⟨by kernel_rfl, ?_⟩
        simp -dsimp -implicitDefEqProofs only [↓j0, ↓j1, ↓j7, ↓j12, ↓j14, ↓j15, ↓j16, j17, j18, j20, ↓j30, j33, ↓j39, ↓j145, j171]
        refine AWp.loopR (Z := Z) mixed hZ (by kernel_rfl) (fun n s => ∃ k, k + n = w.s.length ∧ s = riSt l p i w w.base w.base k) (n0 := w.s.length) (s0 := riSt l p i w w.base w.base 0) ?_ ⟨0, by omega, rfl⟩ ?_ rfl
        · exact Wk.sub (by simp -dsimp -implicitDefEqProofs only [↓j25, ↓j27, j167, j172, j179, ↓reduceIte, Nat.reduceEqDiff, j182, j183, j184, j197, j202, j203, j204, j205, j209, j223, j231, rdT, rdH, slH, layB, List.take_append_drop] <;> simp)
        rintro m s ⟨k, hk, rfl⟩
        refine ⟨rfl, ?_⟩
        rcases Nat.lt_or_ge k w.s.length with hkt | hkg
        · have g1 : decide ((k : Int) < (w.s.length : Int)) = true := decide_eq_true (by omega)
          obtain ⟨x, hx⟩ := list_get (xs := w.s) (i := k) hkt
          have hby : byteAt ⟨w.s.toArray⟩ (k : Int) = (x.toNat : Int) := byte_at hx
          have l2 : (k : Int) < (w.s.length : Int) := by omega
          have l3 : ((a + k : Nat) : Int) < ((64 : Nat) : Int) := by omega
          have w1 : IntKind.i64.wrap ((a : Int) + (k : Int)) = ((a + k : Nat) : Int) := by rw [wrap_i64 (by omega) (by omega)]; omega
          have w2 : IntKind.i64.wrap ((k : Int) + 1) = ((k + 1 : Nat) : Int) := by rw [wrap_i64 (by omega) (by omega)]; omega
          have s1 := layB_step (out := w.base) (x := w.s) (a := a) (j := k) (c := x) (by omega) hx
          have ll : (layB w.base a (w.s.take k)).length = 64 := by rw [layB_len (by rw [List.length_take]; omega)]; exact htb
          obtain ⟨C, hC⟩ : ∃ C, layB w.base a (w.s.take k) = C := ⟨_, rfl⟩
          rw [hC] at s1 ll
          obtain ⟨y, hy⟩ := list_get (xs := C) (i := a + k) (by omega)
          have z1 : AV.sizeL ((C.map byteAV).take (a + k)) = (a + k) * 1 := (unif_bytes C).sizeL_take (by simp; omega)
          have q1 : (C.map byteAV).set (a + k) (AV.int .u8 (x.toNat : Int)) = (layB w.base a (w.s.take (k + 1))).map byteAV := by
            rw [← s1, List.map_set]; rfl
          simp -dsimp -implicitDefEqProofs only [↓j0, ↓j1, ↓j3, ↓j4, ↓j7, ↓j8, ↓j9, ↓j12, ↓j13, ↓j14, ↓j15, j17, j18, j19, j20, j21, j22, j23, j24, ↓j25, ↓j27, ↓j29, ↓j38, ↓j43, ↓j44, ↓j45, ↓j46, ↓j47, ↓j48, ↓j58, ↓j59, ↓j76, ↓j78, ↓j79, ↓j89, ↓j94, ↓j95, j130, j132, j141, ↓j145, ↓j146, ↓j147, ↓j149, ↓j153, j154, j159, AV.proj, AV.offOf, AV.upd, AV.size, AV.sizeL, AV.layable, j163, j164, j166, j167, j170, j171, j172, j173, j174, j177, ↓reduceIte, Nat.reduceAdd, Nat.reduceEqDiff, j182, j185, j191, j196, j197, j206, j207, j208, j240, j250, j254, j258, j259, j271, j330, j333, riSt, rdT, rdH, slH, haa, hC, str_bytes, hby, l2, l3, w1, hy, z1, htb, htb, byteAV]
          refine ⟨by kernel_rfl, ?_⟩
          simp -dsimp -implicitDefEqProofs only [↓j0, ↓j1, ↓j7, ↓j15, j17, j18, j20, ↓j25, ↓j29, ↓j30, j33, ↓j38, ↓j39, ↓j48, ↓j89, ↓j145, ↓j146, j154, j171, ↓reduceIte, Nat.reduceEqDiff, j185]
          exact ⟨m - 1, riSt l p i w w.base w.base (k + 1), by omega, ⟨k + 1, by omega, by simp only [riSt, rdT, rdH, slH, hta]⟩, Wk.sub (by simp -dsimp -implicitDefEqProofs only [↓j25, ↓j27, ↓reduceIte, Nat.reduceEqDiff, j182, j202, j203, j204, j205, j223, rdT, rdH, slH, hta, q1, w2] <;> simp)⟩
        · have hk2 : k = w.s.length := by omega
          subst hk2
          have g1 : decide ((w.s.length : Int) < (w.s.length : Int)) = false := decide_eq_false (by omega)
          have htk : w.s.take w.s.length = w.s := List.take_of_length_le (Nat.le_refl _)
          simp -dsimp -implicitDefEqProofs only [↓j0, ↓j1, ↓j7, ↓j11, ↓j12, ↓j13, ↓j15, j17, j18, j20, ↓j25, ↓j27, ↓j29, ↓j30, j33, ↓j38, ↓j43, ↓j45, ↓j48, ↓j58, ↓j59, ↓j76, ↓j79, ↓j89, j132, j141, ↓j145, ↓j146, ↓j148, ↓j149, ↓j153, j154, j159, AV.proj, AV.offOf, AV.size, AV.sizeL, j163, j164, j166, j167, j171, ↓reduceIte, Nat.reduceAdd, Nat.reduceEqDiff, j182, j185, j196, j197, j240, j258, j259, j333, riSt, rdT, rdH, slH, hta, htk, g1, str_bytes, htb]
          exact ⟨n - 1, rdSt l p (w.base, layB w.base a w.s, true) (i + 1), by omega, ⟨i + 1, by omega, by simp only [hsn, rdSt, rdT, rdH, slH]⟩, Wk.trans (Wk.mk (s' := ⟨52, rdT l p (i + 1) true, rdH l w.base (layB w.base a w.s), 105⟩) (SubT.spec (by simp -dsimp -implicitDefEqProofs only [↓j25, ↓reduceIte, Nat.reduceEqDiff, j182, j202, j203, rdT, hw] <;> simp)) (SubH.spec (by simp -dsimp -implicitDefEqProofs only [↓j27, ↓reduceIte, Nat.reduceEqDiff, j182, j204, j205, rdH, slH] <;> simp)) (Nat.le_refl _) rfl) (rd_gc (r := (w.base, layB w.base a w.s, true)))⟩
      · skip
        have hsn : rreadP (l.take (i + 1)) p = (A, layB B a w.s, true) := by rw [hsn, rstep, if_neg (fun h => h hn), if_pos rfl, hta]
        have nt : (!true) = false := rfl
        have nf : (!false) = true := rfl
        simp -dsimp -implicitDefEqProofs only [↓j0, ↓j1, ↓j7, ↓j9, ↓j12, ↓j13, ↓j14, ↓j15, ↓j16, j17, j18, j19, j20, j21, j22, j23, ↓j25, ↓j27, ↓j29, ↓j30, j33, ↓j38, ↓j39, ↓j41, ↓j43, ↓j44, ↓j45, ↓j46, ↓j48, ↓j55, ↓j76, ↓j78, ↓j79, j84, ↓j89, ↓j93, j129, j130, ↓j145, ↓j146, ↓j147, ↓j148, ↓j149, ↓j153, j158, j159, AV.proj, AV.offOf, AV.upd, AV.size, AV.sizeL, AV.layable, j163, j167, j170, j171, j177, ↓reduceIte, Nat.reduceAdd, Nat.reduceEqDiff, j182, j185, j191, j196, j197, j206, j207, j208, j240, j243, j267, j314, j321, j322, j324, j385, rdSt, rdT, rdH, slH, hre, ht, hsz, hlt2, htb, e2, nt]
        refine AWp.loopR (Z := Z) mixed hZ (by kernel_rfl) (fun n s => ∃ k, k + n = w.s.length ∧ s = riSt l p i w A B k) (n0 := w.s.length) (s0 := riSt l p i w A B 0) ?_ ⟨0, by omega, rfl⟩ ?_ rfl
        · exact Wk.sub (by simp -dsimp -implicitDefEqProofs only [↓j25, ↓j27, j167, j172, j179, ↓reduceIte, Nat.reduceEqDiff, j182, j183, j184, j197, j202, j203, j204, j205, j209, j223, j231, rdT, rdH, slH, layB, List.take_append_drop] <;> simp)
        rintro m s ⟨k, hk, rfl⟩
        refine ⟨rfl, ?_⟩
        rcases Nat.lt_or_ge k w.s.length with hkt | hkg
        · have g1 : decide ((k : Int) < (w.s.length : Int)) = true := decide_eq_true (by omega)
          obtain ⟨x, hx⟩ := list_get (xs := w.s) (i := k) hkt
          have hby : byteAt ⟨w.s.toArray⟩ (k : Int) = (x.toNat : Int) := byte_at hx
          have l2 : (k : Int) < (w.s.length : Int) := by omega
          have l3 : ((a + k : Nat) : Int) < ((64 : Nat) : Int) := by omega
          have w1 : IntKind.i64.wrap ((a : Int) + (k : Int)) = ((a + k : Nat) : Int) := by rw [wrap_i64 (by omega) (by omega)]; omega
          have w2 : IntKind.i64.wrap ((k : Int) + 1) = ((k + 1 : Nat) : Int) := by rw [wrap_i64 (by omega) (by omega)]; omega
          have s1 := layB_step (out := B) (x := w.s) (a := a) (j := k) (c := x) (by omega) hx
          have ll : (layB B a (w.s.take k)).length = 64 := by rw [layB_len (by rw [List.length_take]; omega)]; exact hr2
          obtain ⟨C, hC⟩ : ∃ C, layB B a (w.s.take k) = C := ⟨_, rfl⟩
          rw [hC] at s1 ll
          obtain ⟨y, hy⟩ := list_get (xs := C) (i := a + k) (by omega)
          have z1 : AV.sizeL ((C.map byteAV).take (a + k)) = (a + k) * 1 := (unif_bytes C).sizeL_take (by simp; omega)
          have q1 : (C.map byteAV).set (a + k) (AV.int .u8 (x.toNat : Int)) = (layB B a (w.s.take (k + 1))).map byteAV := by
            rw [← s1, List.map_set]; rfl
          simp -dsimp -implicitDefEqProofs only [↓j0, ↓j1, ↓j3, ↓j4, ↓j7, ↓j8, ↓j9, ↓j12, ↓j13, ↓j14, ↓j15, j17, j18, j19, j20, j21, j22, j23, j24, ↓j25, ↓j27, ↓j29, ↓j38, ↓j43, ↓j44, ↓j45, ↓j46, ↓j47, ↓j48, ↓j58, ↓j59, ↓j76, ↓j78, ↓j79, ↓j89, ↓j94, ↓j95, j130, j132, j141, ↓j145, ↓j146, ↓j147, ↓j149, ↓j153, j154, j159, AV.proj, AV.offOf, AV.upd, AV.size, AV.sizeL, AV.layable, j163, j164, j166, j167, j170, j171, j172, j173, j174, j177, ↓reduceIte, Nat.reduceAdd, Nat.reduceEqDiff, j182, j185, j191, j196, j197, j206, j207, j208, j240, j250, j254, j258, j259, j271, j330, j333, riSt, rdT, rdH, slH, haa, hC, str_bytes, hby, l2, l3, w1, hy, z1, htb, byteAV]
          refine ⟨by kernel_rfl, ?_⟩
          simp -dsimp -implicitDefEqProofs only [↓j0, ↓j1, ↓j7, ↓j15, j17, j18, j20, ↓j25, ↓j29, ↓j30, j33, ↓j38, ↓j39, ↓j48, ↓j89, ↓j145, ↓j146, j154, j171, ↓reduceIte, Nat.reduceEqDiff, j185]
          exact ⟨m - 1, riSt l p i w A B (k + 1), by omega, ⟨k + 1, by omega, by simp only [riSt, rdT, rdH, slH, hta]⟩, Wk.sub (by simp -dsimp -implicitDefEqProofs only [↓j25, ↓j27, ↓reduceIte, Nat.reduceEqDiff, j182, j202, j203, j204, j205, j223, rdT, rdH, slH, hta, q1, w2] <;> simp)⟩
        · have hk2 : k = w.s.length := by omega
          subst hk2
          have g1 : decide ((w.s.length : Int) < (w.s.length : Int)) = false := decide_eq_false (by omega)
          have htk : w.s.take w.s.length = w.s := List.take_of_length_le (Nat.le_refl _)
          simp -dsimp -implicitDefEqProofs only [↓j0, ↓j1, ↓j7, ↓j11, ↓j12, ↓j13, ↓j15, j17, j18, j20, ↓j25, ↓j27, ↓j29, ↓j30, j33, ↓j38, ↓j43, ↓j45, ↓j48, ↓j58, ↓j59, ↓j76, ↓j79, ↓j89, j132, j141, ↓j145, ↓j146, ↓j148, ↓j149, ↓j153, j154, j159, AV.proj, AV.offOf, AV.size, AV.sizeL, j163, j164, j166, j167, j171, ↓reduceIte, Nat.reduceAdd, Nat.reduceEqDiff, j182, j185, j196, j197, j240, j258, j259, j333, riSt, rdT, rdH, slH, hta, htk, g1, str_bytes, htb]
          exact ⟨n - 1, rdSt l p (A, layB B a w.s, true) (i + 1), by omega, ⟨i + 1, by omega, by simp only [hsn, rdSt, rdT, rdH, slH]⟩, Wk.trans (Wk.mk (s' := ⟨52, rdT l p (i + 1) true, rdH l A (layB B a w.s), 105⟩) (SubT.spec (by simp -dsimp -implicitDefEqProofs only [↓j25, ↓reduceIte, Nat.reduceEqDiff, j182, j202, j203, rdT, hw] <;> simp)) (SubH.spec (by simp -dsimp -implicitDefEqProofs only [↓j27, ↓reduceIte, Nat.reduceEqDiff, j182, j204, j205, rdH, slH] <;> simp)) (Nat.le_refl _) rfl) (rd_gc (r := (A, layB B a w.s, true)))⟩
    · have hi2 : i = l.length := by omega
      subst hi2
      have e1 : decide ((l.length : Int) < (l.length : Int)) = false := decide_eq_false (by omega)
      have htk : l.take l.length = l := List.take_of_length_le (Nat.le_refl _)
      rw [htk] at hr1 hr2 ⊢
      obtain ⟨⟨A, B, f⟩, hre⟩ : ∃ r, rreadP l p = r := ⟨_, rfl⟩
      rw [hre] at hr1 hr2 ⊢
      have hr1 : A.length = 64 := hr1
      have hr2 : B.length = 64 := hr2
      simp -dsimp -implicitDefEqProofs only [↓j0, ↓j1, ↓j3, ↓j4, ↓j7, ↓j8, ↓j11, ↓j12, ↓j13, ↓j15, j17, j18, j19, j20, j21, j22, j23, j24, ↓j25, ↓j27, ↓j29, ↓j38, ↓j39, ↓j43, ↓j44, ↓j48, ↓j76, ↓j78, ↓j89, j129, ↓j145, ↓j146, ↓j148, ↓j149, ↓j153, j159, AV.proj, AV.offOf, AV.upd, AV.size, AV.layable, j170, j171, j172, j173, j174, ↓reduceIte, Nat.reduceEqDiff, j182, j185, j240, j269, j270, rdSt, rdT, rdH, slH, e1, hz, hr1, hr2]
      refine ⟨by kernel_rfl, ?_⟩
      simp -dsimp -implicitDefEqProofs only [↓j10]
      exact Final.manyH (.inr rfl) (rs := [.cell 4 24, .cell 5 24, .tmp 6]) (us := [arrAV A, arrAV B, .bool f]) rfl ⟨⟨100, 0, [], _, rfl, rfl, rfl, rfl, by simp -dsimp -implicitDefEqProofs only [j129, j182, j240, j269, j270, hr1]⟩, ⟨101, 0, [], _, rfl, rfl, rfl, rfl, by simp -dsimp -implicitDefEqProofs only [j129, j182, j240, j269, j270, hr2]⟩, ⟨rfl, fun vs h => by cases h⟩, trivial⟩ (by simp) ⟨.same _ (on_bytes _ _), .same _ (on_bytes _ _), .same _ trivial, trivial⟩ (sl_keep hp rfl rfl)
end Go.Proofs.Ytipbgaahpchhbaa
