import Derived.Test.YtimdepgenefkmaaB13
set_option maxRecDepth 8000
set_option linter.unusedVariables false
set_option linter.unusedSimpArgs false
namespace Go.Proofs.Ytimdepgenefkmaa.Slot
open Go Go.RowKit

def Old.cut (o : Old) : Old := { o with rpage := 0, rslot := 0 }
def cutP (lsn : Int) (xs : List Old) (k : Int) : Int × List Old × Int :=
  if (getP xs k).2 = false ∨ may xs = false then (0, [], 1) else (lsn, xs.set k.toNat (getP xs k).1.cut, 0)

theorem cut_spec (lsn k : Int) (xs : List Old) (h0 : 0 ≤ k) (h1 : k ≤ 255) (hl : xs.length ≤ 9223372036854775807) : ACall Try.prog 38 [undoAV lsn xs, .int .u8 k] [] (freeAV (cutP lsn xs k)) [] := by
  refine ACall.run (Z := Z) (N := 31) mixed hZ Try.func38 rfl rfl (by kernel_rfl) (by simp) args5 0 ?_
  have fin0 : ∀ (t : Env) (H : Heap) (m : Nat), look t 4 = some (.ptr 1 0 []) → look t 5 = some (.int .i64 1) → Heap.get H 1 = some (.cells zeroU) → (0, [], 1) = cutP lsn xs k →
      Final Try.prog Try.f38 (freeAV (cutP lsn xs k)) [] .ret ⟨31, t, H, m⟩ := by
    intro t H m h1 h2 h3 h4
    rw [← h4]
    exact Final.many (.inr rfl) (rs := [.cell 4 71, .tmp 5]) (us := [zeroU, .int .i64 1]) rfl ⟨⟨1, 0, [], _, h1, h3, rfl, rfl, by simp -dsimp -implicitDefEqProofs only [j129, AV.size, AV.sizeL, Nat.reduceAdd, j182, j197, j391, j392]⟩, ⟨h2, fun vs h => by cases h⟩, trivial⟩ (by simp) ⟨frz0, .same _ trivial, trivial⟩
  simp -dsimp -implicitDefEqProofs only [↓j0, ↓j1, ↓j7, ↓j12, ↓j15, j17, j18, j20, ↓j25, ↓j27, ↓j29, ↓j30, j33, ↓j38, ↓j39, ↓j41, ↓j42, ↓j43, ↓j53, ↓j76, j129, ↓j145, ↓j146, ↓j153, AV.proj, AV.offOf, AV.size, AV.sizeL, AV.layable, argEnv, j170, j171, j172, reduceCtorEq, ↓reduceIte, Nat.reduceAdd, Nat.reduceEqDiff, j182, j196, j197, j391, j392, j433]
  refine CallTo.pure (args := [undoAV lsn xs, .int .u8 k]) rfl fok56 (by simp -dsimp -implicitDefEqProofs only [↓j25, ↓j29, j173, j174, ↓reduceIte, Nat.reduceEqDiff]) (fun x hx => (args5 x hx).2) (get_spec lsn k xs h0 h1) ?_
  cases hg : (getP xs k).2
  · simp -dsimp -implicitDefEqProofs only [↓j0, ↓j1, ↓j2, ↓j7, ↓j10, ↓j12, ↓j13, ↓j15, j17, j18, j19, j20, j21, j22, j23, ↓j25, ↓j27, ↓j29, ↓j30, j32, j33, ↓j38, ↓j39, ↓j40, ↓j41, ↓j44, ↓j54, ↓j55, ↓j57, ↓j78, j81, j84, j85, ↓j124, j125, j127, ↓j145, ↓j146, ↓j147, ↓j149, ↓j151, ↓j153, partsAV, AV.proj, AV.offOf, AV.upd, AV.size, AV.sizeL, AV.layable, j163, j164, j170, j171, j175, reduceCtorEq, ↓reduceIte, Nat.reduceAdd, Nat.reduceEqDiff, j182, j194, j197, j214, j218, j219, j294, j391, j423, j453]
    refine fin0 _ _ _ ?_ ?_ ?_ ?_
    · rfl
    · rfl
    · rfl
    · rw [cutP, if_pos (.inl hg)]
  simp -dsimp -implicitDefEqProofs only [↓j0, ↓j1, ↓j2, ↓j7, ↓j12, ↓j15, j17, j18, j19, j20, j21, j22, j23, ↓j25, ↓j27, ↓j29, ↓j38, ↓j39, ↓j41, ↓j43, ↓j44, ↓j53, ↓j55, ↓j57, ↓j76, ↓j78, j84, j85, j129, ↓j145, ↓j146, ↓j148, ↓j151, ↓j153, AV.proj, AV.offOf, AV.upd, AV.size, AV.sizeL, AV.layable, j163, j164, j170, j171, j175, reduceCtorEq, ↓reduceIte, Nat.reduceAdd, Nat.reduceEqDiff, j182, j193, j197, j294, j391, j392, j423]
  refine CallTo.pure (args := [undoAV lsn xs]) rfl fok53 (by simp -dsimp -implicitDefEqProofs only [↓j25, ↓j29, j173, j174, ↓reduceIte]) (fun x hx => (args1 x hx).2) (may_spec lsn xs hl) ?_
  cases hm : may xs
  · simp -dsimp -implicitDefEqProofs only [↓j0, ↓j1, ↓j2, ↓j7, ↓j10, ↓j12, ↓j13, ↓j15, j17, j18, j19, j20, j21, j22, j23, ↓j25, ↓j27, ↓j29, ↓j30, j32, j33, ↓j39, ↓j40, ↓j44, ↓j54, ↓j55, ↓j78, j83, j84, ↓j124, j125, j127, ↓j145, ↓j146, ↓j147, ↓j148, ↓j149, ↓j151, ↓j153, partsAV, AV.proj, AV.offOf, AV.upd, AV.size, AV.sizeL, AV.layable, j163, j164, j170, j171, j175, reduceCtorEq, ↓reduceIte, Nat.reduceAdd, Nat.reduceEqDiff, j182, j194, j195, j197, j214, j218, j219, j391, j453]
    refine fin0 _ _ _ ?_ ?_ ?_ ?_
    · rfl
    · rfl
    · rfl
    · rw [cutP, if_pos (.inr hm)]
  have hlen := may_len hm
  obtain ⟨x0, hx0⟩ : ∃ x0, xs[k.toNat]? = some x0 := by
    cases hx : xs[k.toNat]? with
    | none => simp [getP, hx] at hg
    | some x0 => exact ⟨x0, rfl⟩
  have hkl : k.toNat < xs.length := by
    rcases Nat.lt_or_ge k.toNat xs.length with h | h
    · exact h
    · rw [List.getElem?_eq_none h] at hx0; cases hx0
  have hx : xs ≠ [] := fun h => by subst h; simp at hkl
  have hgx : (getP xs k).1 = x0 := by
    simp only [getP, hx0] at hg ⊢
    cases hl : x0.live
    · rw [hl] at hg; simp at hg
    · simp
  have hf : cutP lsn xs k = (lsn, xs.set k.toNat x0.cut, 0) := by
    rw [cutP, if_neg (by simp [hg, hm]), hgx]
  have hsz := sizeL_olds xs k.toNat (by omega)
  have hlt : k < (xs.length : Int) := by omega
  simp -dsimp -implicitDefEqProofs only [↓j0, ↓j1, ↓j2, ↓j7, ↓j9, ↓j12, ↓j13, ↓j15, j17, j18, j20, ↓j25, ↓j27, ↓j29, ↓j30, j32, ↓j40, ↓j43, ↓j53, ↓j55, ↓j76, j83, j84, j129, ↓j145, ↓j146, ↓j148, ↓j149, ↓j151, ↓j153, AV.proj, AV.offOf, AV.size, AV.sizeL, j163, j164, j171, j175, reduceCtorEq, ↓reduceIte, Nat.reduceAdd, Nat.reduceEqDiff, j182, j193, j195, j197, j391, j392]
  refine CallTo.newAt 5 (args := [undoAV lsn xs]) rfl fok55 (by simp -dsimp -implicitDefEqProofs only [↓j25, ↓j29, j173, j174, ↓reduceIte]) (fun x hx => (args1 x hx).2) (show (3 : Nat) ≤ 5 by decide) (own_cons 3 lsn xs hx (by omega)) ?_
  have hset : (xs.map Old.av).set k.toNat (AV.agg [AV.bool x0.live, AV.int IntKind.u16 x0.page, AV.int IntKind.u32 x0.ts, AV.agg [AV.int IntKind.u16 0, AV.int IntKind.u8 0], AV.str x0.delta]) = (xs.set k.toNat x0.cut).map Old.av := by rw [List.map_set]; rfl
  have hyl : (xs.set k.toNat x0.cut).length = xs.length := List.length_set
  obtain ⟨ys, hys⟩ : ∃ ys, xs.set k.toNat x0.cut = ys := ⟨_, rfl⟩
  rw [hys] at hset hyl hf
  simp -dsimp -implicitDefEqProofs only [↓j0, ↓j1, ↓j7, ↓j10, ↓j12, ↓j15, j17, j18, j19, j20, j21, j22, j23, ↓j25, ↓j27, ↓j29, ↓j30, j33, ↓j38, ↓j39, ↓j43, ↓j44, ↓j45, ↓j46, ↓j54, ↓j76, ↓j78, ↓j79, ↓j93, ↓j124, j125, j127, j129, j135, ↓j145, ↓j146, ↓j153, partsAV, AV.proj, AV.offOf, AV.upd, AV.size, AV.sizeL, AV.layable, j163, j164, j166, j167, j168, j169, j170, j171, j177, reduceCtorEq, ↓reduceIte, Nat.reduceAdd, Nat.reduceEqDiff, j182, j196, j197, j206, j214, j218, j219, j284, j306, j388, j389, j391, j392, j397, j440, h0, hlt, hx0, hsz, hset]
  rw [hf]
  have hfz : ∀ H : Heap, Heap.get H 5 = some (.cells (.agg (ys.map Old.av))) → Frz (fun _ => False) H (.agg [.int .u64 lsn, .sl 5 0 [] 0 xs.length xs.length 6]) (undoAV lsn ys) := fun H h => by
    rw [← hyl]; exact frz_row h
  exact Final.many (.inr rfl) (rs := [.cell 4 71, .tmp 5]) (us := [.agg [.int .u64 lsn, .sl 5 0 [] 0 xs.length xs.length 6], .int .i64 0]) rfl ⟨⟨1, 0, [], _, rfl, rfl, rfl, rfl, by simp -dsimp -implicitDefEqProofs only [j129, AV.size, AV.sizeL, Nat.reduceAdd, j182, j197, j391, j392]⟩, ⟨rfl, fun vs h => by cases h⟩, trivial⟩ (by simp) ⟨hfz _ rfl, .same _ trivial, trivial⟩

end Go.Proofs.Ytimdepgenefkmaa.Slot
