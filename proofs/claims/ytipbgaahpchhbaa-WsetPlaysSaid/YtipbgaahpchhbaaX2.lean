/- The document's set: Has, Write. -/
import Derived.Test.YtipbgaahpchhbaaX1
set_option maxRecDepth 8000
set_option linter.unusedVariables false
set_option linter.unusedSimpArgs false
namespace Go.Proofs.Ytipbgaahpchhbaa
open Go Go.RowKit

def slH (l : List Wo) (m : Nat) : Heap := [(99, .cells (.agg [.sl m 0 [] 0 l.length l.length 67])), (m, .cells (.agg (l.map Wo.av)))]
theorem slH_onHL {S : Nat → Prop} {l : List Wo} {m : Nat} (h9 : S 99) (hm : S m) : onHL S (slH l m) :=
  onHL_cons h9 ⟨hm, trivial⟩ (onHL_cons hm (on_wos _ _) onHL_nil)
theorem rs_sl {l : List Wo} {m : Nat} (h : 0 < l.length) : rsH l m = slH l m := by
  rw [rsH, slH, rsC, (wlV_ne h m).1, (wlV_ne h m).2]
theorem sl_keep {l : List Wo} {m : Nat} {H : Heap} (hp : 0 < l.length) (h2 : Heap.get H 99 = some (.cells (.agg [.sl m 0 [] 0 l.length l.length 67]))) (h3 : Heap.get H m = some (.cells (.agg (l.map Wo.av)))) : ∀ n b, Heap.get (slH l m) n = some b → ∃ b0, Heap.get H n = some b0 ∧ BFrz (fun n => Heap.get (slH l m) n ≠ none) H b0 b := by
  rw [← rs_sl hp]
  refine rs_keep ?_ fun _ => h3
  rw [rsC, (wlV_ne hp m).1]; exact h2
theorem wlV_nil (m : Nat) : wlV [] m = .nilsl := rfl
theorem wlB_nil (m : Nat) : wlB [] m = [] := rfl
theorem rsC_nil (m : Nat) : rsC [] m = .cells (.agg [.nilsl]) := rfl
theorem rsH_nil (m : Nat) : rsH [] m = [(99, .cells (.agg [.nilsl]))] := rfl
/-- Was a page written? -/
def hasP (l : List Wo) (p : Nat) : Bool := l.any fun w => w.page == p
def hsT (l : List Wo) (p m i : Nat) : Env := [(12, .int .i64 i), (11, .int .i64 l.length), (10, .sl m 0 [] 0 l.length l.length 67), (0, .ptr 99 0 []), (1, .int .u16 p), (4, .bool false)]
def hsSt (l : List Wo) (p m i : Nat) : St := ⟨21, hsT l p m i, slH l m, 100⟩
theorem hs_gc {l : List Wo} {p i m : Nat} : Wk ⟨21, hsT l p 4 i, slH l 4, m⟩ (hsSt l p 4 i) :=
  Wk.gc (by decide) (onTL.onT (onTL_cons trivial (onTL_cons trivial (onTL_cons (show (4 : Nat) < 100 by decide) (onTL_cons (show (99 : Nat) < 100 by decide) (onTL_cons trivial (onTL_cons trivial onTL_nil))))))) (slH_onHL (S := fun m => m < 100) (by decide) (by decide)).onH
set_option maxHeartbeats 3200000 in
theorem has_spec (l : List Wo) (hl : ∀ o, o ∈ l → o.Ok) (hn : l.length ≤ 1000) (p : Nat) : ACall Try.prog 19 [.ptr 99 0 [], .int .u16 p] (rsH l 4) (.bool (hasP l p)) (rsH l 4) := by
  refine ACall.runH (Z := Z) (N := 21) mixed hZ Try.func19 rfl rfl (by kernel_rfl) (by simp) (rs_args arg_int) rs_on' 100 (rs_lt (by omega)) ?_
  cases hl0 : l with
  | nil =>
    rw [rsH_nil]
    simp -dsimp -implicitDefEqProofs only [↓j0, ↓j1, ↓j7, ↓j12, ↓j14, ↓j15, ↓j16, j17, j18, j20, ↓j25, ↓j27, ↓j29, ↓j30, j32, j33, ↓j38, ↓j39, ↓j43, ↓j45, ↓j56, ↓j58, ↓j60, ↓j76, ↓j79, j134, j144, ↓j145, ↓j146, ↓j153, AV.proj, AV.offOf, AV.sizeL, argEnv, j163, j167, j171, reduceCtorEq, ↓reduceIte, j182, j196, j197, j313, j319, j432]
    refine AWp.loopR (Z := Z) mixed hZ (by kernel_rfl) (fun n s => s = ⟨21, [(12, .int .i64 0), (11, .int .i64 0), (10, .nilsl), (0, .ptr 99 0 []), (1, .int .u16 p), (4, .bool false)], [(99, .cells (.agg [.nilsl]))], 100⟩) (n0 := 0) (s0 := ⟨21, [(12, .int .i64 0), (11, .int .i64 0), (10, .nilsl), (0, .ptr 99 0 []), (1, .int .u16 p), (4, .bool false)], [(99, .cells (.agg [.nilsl]))], 100⟩) ?_ rfl ?_ rfl
    · exact Wk.sub (by simp -dsimp -implicitDefEqProofs only [↓j25, ↓j27, j179, reduceCtorEq, ↓reduceIte, Nat.reduceEqDiff, j182, j183, j184, j202, j203, j204, j205, j209, j223] <;> simp)
    rintro n s rfl
    refine ⟨rfl, ?_⟩
    have e1 : decide ((0 : Int) < 0) = false := rfl
    simp -dsimp -implicitDefEqProofs only [↓j0, ↓j1, ↓j7, ↓j10, ↓j11, ↓j12, ↓j13, ↓j15, j17, j18, j20, ↓j25, ↓j29, ↓j30, j32, ↓j39, ↓j48, ↓j89, ↓j145, ↓j146, ↓j148, ↓j149, j159, j171, ↓reduceIte, Nat.reduceEqDiff, Int.reduceLT, j185, j192]
    exact Final.oneH (.inr rfl) (r := .tmp 4) rfl ⟨rfl, fun vs h => by cases h⟩ (fun vs h => by cases h) (fun vs h => by cases h) (.same _ trivial) (rs_keep (l := []) (m := 4) rfl (fun h => by simp at h))
  | cons t0 r0 =>
    rw [← hl0]
    have hp : 0 < l.length := by rw [hl0]; simp
    clear hl0
    rw [rs_sl hp]
    simp -dsimp -implicitDefEqProofs only [↓j0, ↓j1, ↓j7, ↓j12, ↓j14, ↓j15, ↓j16, j17, j18, j20, ↓j25, ↓j27, ↓j29, ↓j30, j32, j33, ↓j38, ↓j39, ↓j43, ↓j45, ↓j56, ↓j58, ↓j61, ↓j76, ↓j79, j135, j143, ↓j145, ↓j146, ↓j153, AV.proj, AV.offOf, AV.sizeL, argEnv, j163, j167, j171, reduceCtorEq, ↓reduceIte, j182, j196, j197, j313, j319, j432, slH]
    refine AWp.loopR (Z := Z) mixed hZ (by kernel_rfl) (fun n s => ∃ i, i + n = l.length ∧ hasP (l.drop i) p = hasP l p ∧ s = hsSt l p 4 i) (n0 := l.length) (s0 := hsSt l p 4 0) ?_ ⟨0, by omega, rfl, rfl⟩ ?_ rfl
    · exact Wk.sub (by simp -dsimp -implicitDefEqProofs only [↓j25, ↓j27, j179, reduceCtorEq, ↓reduceIte, Nat.reduceEqDiff, j182, j183, j184, j202, j203, j204, j205, j209, j223, hsT, slH] <;> simp)
    rintro n s ⟨i, hi, hA, rfl⟩
    refine ⟨rfl, ?_⟩
    rcases Nat.lt_or_ge i l.length with hlt | hge
    · have e1 : decide ((i : Int) < (l.length : Int)) = true := decide_eq_true (by omega)
      obtain ⟨t, ht⟩ := list_get (xs := l) (i := i) hlt
      have htb := (hl t (List.mem_of_getElem? ht)).base
      have hsz := (unif_wos l hl).sizeL_take (k := i) (by simp; omega)
      have hlt2 : (i : Int) < (l.length : Int) := by omega
      have hw : IntKind.i64.wrap ((i : Int) + 1) = ((i + 1 : Nat) : Int) := by rw [wrap_i64 (by omega) (by omega)]; omega
      have hdr : l.drop i = t :: l.drop (i + 1) := by
        rw [List.drop_eq_getElem_cons hlt]
        congr 1
        rw [List.getElem?_eq_getElem hlt] at ht
        exact Option.some.inj ht
      rw [hdr] at hA
      by_cases hn : t.page = p
      · have e2 : ((t.page : Int) == (p : Int)) = true := by rw [beq_iff_eq]; omega
        have hA : true = hasP l p := by rw [← hA]; simp [hasP, hn]
        simp -dsimp -implicitDefEqProofs only [↓j0, ↓j1, ↓j7, ↓j9, ↓j10, ↓j12, ↓j13, ↓j14, ↓j15, j17, j18, j19, j20, j21, j22, j23, ↓j25, ↓j27, ↓j29, ↓j30, j32, ↓j38, ↓j39, ↓j41, ↓j43, ↓j44, ↓j45, ↓j46, ↓j48, ↓j76, ↓j78, ↓j79, ↓j89, ↓j93, j129, j130, ↓j145, ↓j146, ↓j147, ↓j149, ↓j153, j157, j159, AV.proj, AV.offOf, AV.upd, AV.size, AV.sizeL, AV.layable, j163, j167, j170, j171, j177, reduceCtorEq, ↓reduceIte, Nat.reduceAdd, Nat.reduceEqDiff, j182, j185, j191, j196, j197, j206, j207, j208, j240, j243, j267, j314, j321, j322, j324, j385, hsSt, hsT, slH, ht, hsz, hlt2, htb, e2]
        rw [← hA]
        exact Final.oneH (.inr rfl) (r := .tmp 4) rfl ⟨rfl, fun vs h => by cases h⟩ (fun vs h => by cases h) (fun vs h => by cases h) (.same _ trivial) (sl_keep hp rfl rfl)
      · have e2 : ((t.page : Int) == (p : Int)) = false := by rw [beq_eq_false_iff_ne]; omega
        have hA : hasP (l.drop (i + 1)) p = hasP l p := by rw [← hA]; simp [hasP, hn]
        simp -dsimp -implicitDefEqProofs only [↓j0, ↓j1, ↓j7, ↓j9, ↓j12, ↓j13, ↓j14, ↓j15, j17, j18, j19, j20, j21, j22, j23, ↓j25, ↓j27, ↓j29, ↓j30, j33, ↓j38, ↓j41, ↓j43, ↓j44, ↓j45, ↓j46, ↓j48, ↓j76, ↓j78, ↓j79, ↓j89, ↓j93, j129, j130, ↓j145, ↓j146, ↓j147, ↓j148, ↓j149, ↓j153, j154, j157, j159, AV.proj, AV.offOf, AV.upd, AV.size, AV.sizeL, AV.layable, j163, j167, j170, j171, j177, reduceCtorEq, ↓reduceIte, Nat.reduceAdd, Nat.reduceEqDiff, j182, j185, j191, j196, j197, j206, j207, j208, j240, j243, j267, j314, j321, j322, j324, j385, hsSt, hsT, slH, ht, hsz, hlt2, htb, e2]
        exact ⟨n - 1, hsSt l p 4 (i + 1), by omega, ⟨i + 1, by omega, hA, rfl⟩, Wk.trans (Wk.mk (s' := ⟨21, hsT l p 4 (i + 1), slH l 4, 101⟩) (SubT.spec (by simp -dsimp -implicitDefEqProofs only [↓j25, reduceCtorEq, ↓reduceIte, Nat.reduceEqDiff, j182, j202, j203, hsT, hw] <;> simp)) (SubH.spec (by simp -dsimp -implicitDefEqProofs only [↓j27, ↓reduceIte, Nat.reduceEqDiff, j182, j204, j205, slH] <;> simp)) (Nat.le_refl _) rfl) hs_gc⟩
    · have hi2 : i = l.length := by omega
      subst hi2
      have e1 : decide ((l.length : Int) < (l.length : Int)) = false := decide_eq_false (by omega)
      rw [List.drop_of_length_le (Nat.le_refl _)] at hA
      have hA : false = hasP l p := hA
      simp -dsimp -implicitDefEqProofs only [↓j0, ↓j1, ↓j7, ↓j10, ↓j11, ↓j12, ↓j13, ↓j15, j17, j18, j20, ↓j25, ↓j29, ↓j30, j32, ↓j39, ↓j48, ↓j89, ↓j145, ↓j146, ↓j148, ↓j149, j159, j171, ↓reduceIte, Nat.reduceEqDiff, j185, hsSt, hsT, slH, e1]
      rw [← hA]
      exact Final.oneH (.inr rfl) (r := .tmp 4) rfl ⟨rfl, fun vs h => by cases h⟩ (fun vs h => by cases h) (fun vs h => by cases h) (.same _ trivial) (sl_keep hp rfl rfl)
end Go.Proofs.Ytipbgaahpchhbaa
