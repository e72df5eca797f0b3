/- Whether a page has room, by the document. -/
import Derived.Test.YtlagoaggllhggaaB13
set_option linter.unusedVariables false
set_option linter.unusedSimpArgs false
namespace Go.Proofs.Ytlagoaggllhggaa
open Go Go.RowKit

theorem may_app {xs : List Old} {o : Old} (hm : may xs = true) (hl : o.live = true) (hs : o.delta.size ≤ 66) : may (xs ++ [o]) = true ↔ ¬ (xs.length = 15 ∨ 224 < sizeOf' xs + 11 + o.delta.size) := by
  have h := may_iff.1 hm
  have hko : okOld o = true := by simp [okOld, hl, hs]
  have hco : o.cost = 10 + o.delta.size := by simp [Old.cost, hl]
  have hsz : sizeOf' (xs ++ [o]) = sizeOf' xs + 11 + o.delta.size := by
    simp only [sizeOf', List.map_append, List.sum_append, List.map_cons, List.map_nil, List.sum_cons, List.sum_nil, hco]; omega
  have h1 := h.1
  rw [may_iff, hsz]
  constructor
  · rintro ⟨a, _, _, d⟩
    rw [List.length_append, List.length_singleton] at a
    omega
  · intro a
    exact ⟨by rw [List.length_append, List.length_singleton]; omega, by simp [lastOk, hl], by rw [List.all_append, h.2.2.1]; simp [hko], by omega⟩
theorem lastOk_set {xs : List Old} {i : Nat} {o : Old} (h : lastOk xs = true) (hl : o.live = true) : lastOk (xs.set i o) = true := by
  unfold lastOk at h ⊢
  rw [List.length_set, List.getElem?_set]
  by_cases hi : i = xs.length - 1
  · rw [if_pos hi]
    by_cases hk : i < xs.length
    · simp [hk, hl]
    · simp [hk]
  · rw [if_neg hi]; exact h
theorem may_set {xs : List Old} {o : Old} {i : Nat} (hm : may xs = true) (hd : deadAt xs = some i) (hl : o.live = true) (hs : o.delta.size ≤ 66) : may (xs.set i o) = true ↔ ¬ (224 < sizeOf' xs + 10 + o.delta.size) := by
  have h := may_iff.1 hm
  have hko : okOld o = true := by simp [okOld, hl, hs]
  have hco : o.cost = 10 + o.delta.size := by simp [Old.cost, hl]
  obtain ⟨d, hg, hdl⟩ := deadAt_get hd
  have hdc : d.cost = 0 := by simp [Old.cost, hdl]
  have hsz := sizeOf_set o hg
  have h1 := h.1
  rw [may_iff]
  constructor
  · rintro ⟨_, _, _, d⟩
    omega
  · intro a
    refine ⟨by rw [List.length_set]; exact h1, lastOk_set h.2.1 hl, ?_, by omega⟩
    rw [List.all_eq_true]
    intro x hx
    rcases List.mem_or_eq_of_mem_set hx with hx | rfl
    · exact List.all_eq_true.1 h.2.2.1 x hx
    · exact hko
/-- The document's Add answers OK just if the page has room. -/
theorem fitsR (lsn : Int) (xs : List Old) (o : Old) (hl : o.live = true) (hs : o.delta.size ≤ 66) : ((addR lsn xs o).2.2.2 == 0) = fits xs (o.delta.size : Int) := by
  rw [Bool.eq_iff_iff, beq_iff_eq, fits, decide_eq_true_eq]
  cases hm : may xs
  · rw [addR, if_pos (.inl hm), place, if_pos (.inr (.inr hm))]
    simp
  have hnot : ¬ (may xs = false ∨ o.live = false ∨ 66 < o.delta.size) := by simp only [hm, hl, Bool.true_eq_false, false_or]; omega
  have hnot2 : ¬ ((o.delta.size : Int) < 0 ∨ 66 < (o.delta.size : Int) ∨ may xs = false) := by simp only [hm, Bool.true_eq_false, or_false]; omega
  have hlen := may_len hm
  rw [addR, if_neg hnot, place, if_neg hnot2]
  cases hd : deadAt xs with
  | none =>
    have hfd : firstDead xs = xs.length := by rw [firstDead, hd]; rfl
    have hi := may_app hm hl hs
    simp only [hfd, if_true]
    by_cases hx : xs.length = 15 ∨ 224 < sizeOf' xs + 11 + o.delta.size
    · have hf : may (xs ++ [o]) = false := by
        cases hh : may (xs ++ [o])
        · rfl
        · exact absurd hx (hi.1 hh)
      have hx2 : xs.length = 15 ∨ 224 < (sizeOf' xs : Int) + 11 + (o.delta.size : Int) := by omega
      rw [if_pos hf, if_pos hx2]
      simp
    · have ht := hi.2 hx
      have hx2 : ¬ (xs.length = 15 ∨ 224 < (sizeOf' xs : Int) + 11 + (o.delta.size : Int)) := by omega
      rw [if_neg (by rw [ht]; simp), if_neg hx2]
      simp
  | some i =>
    have hfd : firstDead xs = i := by rw [firstDead, hd]; rfl
    have hlt := deadAt_lt hd
    have hne : ¬ (i = xs.length) := by omega
    have hi := may_set hm hd hl hs
    simp only [hfd, if_neg hne]
    by_cases hx : 224 < sizeOf' xs + 10 + o.delta.size
    · have hf : may (xs.set i o) = false := by
        cases hh : may (xs.set i o)
        · rfl
        · exact absurd hx (hi.1 hh)
      have hx2 : 224 < (sizeOf' xs : Int) + 10 + (o.delta.size : Int) := by omega
      rw [if_pos hf, if_pos hx2]
      simp
    · have ht := hi.2 hx
      have hx2 : ¬ (224 < (sizeOf' xs : Int) + 10 + (o.delta.size : Int)) := by omega
      rw [if_neg (by rw [ht]; simp), if_neg hx2]
      simp
theorem fok27 : fnOk Try.prog 27 = true := by kernel_rfl
theorem bytesOf_zeros (n : Nat) : bytesOf (List.replicate n (.int .u8 0)) = some (List.replicate n 0) := by
  induction n with
  | zero => rfl
  | succ n ih => simp [List.replicate_succ, bytesOf, ih]
def zOld (n : Nat) : Old := ⟨true, 0, 0, 0, 0, ⟨(List.replicate n (0 : UInt8)).toArray⟩⟩
theorem zOld_size (n : Nat) : (zOld n).delta.size = n := by simp [zOld, ByteArray.size]
theorem rfits_spec (lsn : Int) (xs : List Old) (n : Int) (hl : xs.length ≤ 9223372036854775807) : ACall Try.prog 23 [undoAV lsn xs, .int .i64 n] [] (.bool (fits xs n)) [] := by
  refine ACall.run (Z := Z) (N := 26) mixed hZ Try.func23 rfl rfl (by kernel_rfl) (by simp) args2 0 ?_
  have ret : ∀ (b : Bool) (t : Env) (H : Heap) (m : Nat), look t 4 = some (.bool b) → b = fits xs n → Final Try.prog Try.f23 (.bool (fits xs n)) [] .ret ⟨26, t, H, m⟩ := by
    intro b t H m h hb
    subst hb
    exact Final.one (.inr rfl) (r := .tmp 4) rfl ⟨h, fun vs h => by cases h⟩ (fun vs h => by cases h) (fun vs h => by cases h) (.same _ trivial)
  by_cases h0 : n < 0
  · have e0 : decide (n < 0) = true := decide_eq_true h0
    simp -dsimp -implicitDefEqProofs only [↓j0, ↓j1, ↓j2, ↓j7, ↓j10, ↓j12, ↓j13, ↓j15, j17, j18, j20, ↓j25, ↓j29, ↓j30, j32, j33, ↓j38, ↓j39, ↓j40, ↓j42, ↓j48, j81, ↓j89, ↓j145, ↓j146, ↓j147, ↓j149, ↓j151, j159, AV.layable, argEnv, j163, j164, j171, j172, j175, reduceCtorEq, ↓reduceIte, Nat.reduceEqDiff, j185, j196, e0]
    refine ret false _ _ _ ?_ ?_
    · rfl
    · rw [fits, place, if_pos (.inl h0)]; rfl
  by_cases h66 : 66 < n
  · have e0 : decide (n < 0) = false := decide_eq_false h0
    have e1 : decide (66 < n) = true := decide_eq_true h66
    simp -dsimp -implicitDefEqProofs only [↓j0, ↓j1, ↓j2, ↓j7, ↓j10, ↓j12, ↓j13, ↓j15, j17, j18, j20, ↓j25, ↓j29, ↓j30, j32, j33, ↓j38, ↓j39, ↓j40, ↓j42, ↓j48, j83, ↓j89, ↓j145, ↓j146, ↓j147, ↓j148, ↓j149, ↓j151, j159, j161, AV.layable, argEnv, j163, j164, j171, j172, j175, reduceCtorEq, ↓reduceIte, Nat.reduceEqDiff, j185, j195, j196, e0, e1]
    refine ret false _ _ _ ?_ ?_
    · rfl
    · rw [fits, place, if_pos (.inr (.inl h66))]; rfl
  obtain ⟨m, rfl⟩ : ∃ m : Nat, n = (m : Int) := ⟨n.toNat, by omega⟩
  have e0 : decide ((m : Int) < 0) = false := decide_eq_false (by omega)
  have e1 : decide (66 < (m : Int)) = false := decide_eq_false (by omega)
  have hu : Unif 1 (List.replicate m (AV.int .u8 0)) := fun x hx => by rw [List.eq_of_mem_replicate hx]; rfl
  have hbz : bytesOf (List.take m (List.replicate m (AV.int .u8 0))) = some (List.replicate m 0) := by rw [List.take_of_length_le (by simp), bytesOf_zeros]
  have hz : AV.agg [AV.bool true, AV.int .u16 0, AV.int .u32 0, AV.agg [AV.int .u16 0, AV.int .u8 0], AV.str ⟨(List.replicate m (0 : UInt8)).toArray⟩] = (zOld m).av := rfl
  have hadd := radd_spec lsn xs (zOld m) hl
  have hfr := fitsR lsn xs (zOld m) rfl (by rw [zOld_size]; omega)
  rw [zOld_size] at hfr
  obtain ⟨⟨a, b, c, d⟩, hr⟩ : ∃ r, addR lsn xs (zOld m) = r := ⟨_, rfl⟩
  rw [hr] at hadd hfr
  simp -dsimp -implicitDefEqProofs only [↓j0, ↓j1, ↓j2, ↓j4, ↓j7, ↓j8, ↓j9, ↓j12, ↓j13, ↓j15, j17, j18, j20, j24, ↓j25, ↓j27, ↓j29, ↓j30, j32, j33, ↓j38, ↓j39, ↓j40, ↓j42, ↓j43, ↓j48, ↓j75, ↓j76, j83, j88, ↓j89, j129, ↓j145, ↓j146, ↓j148, ↓j149, ↓j151, ↓j153, j159, j161, AV.proj, AV.offOf, AV.size, AV.sizeL, AV.layable, argEnv, j163, j164, j170, j171, j172, j174, j175, reduceCtorEq, ↓reduceIte, Nat.reduceAdd, Nat.reduceEqDiff, j182, j184, j185, j195, j196, j197, j208, j232, j289, j290, j402, e0, e1]
  refine ⟨⟨by omega, by omega⟩, ?_⟩
  simp -dsimp -implicitDefEqProofs only [↓j4, j17, j18, j20, j24, ↓j25, ↓j27, ↓j29, ↓j30, j32, ↓j50, ↓j53, ↓j54, ↓j106, j107, ↓j121, ↓j124, j125, j126, j127, j128, ↓j145, ↓j146, ↓j153, partsAV, AV.proj, AV.offOf, AV.size, AV.sizeL, AV.layable, j163, j164, j166, j167, j168, j169, j170, j171, j172, j173, j174, j179, j180, ↓reduceIte, Nat.reduceAdd, j182, j183, j196, j197, j207, j213, j214, j215, j216, j217, j223, j227, j234, j259, j332, j344, j351, j400, hu, hbz, List.length_replicate, hz]
  refine CallTo.pure (args := [undoAV lsn xs, (zOld m).av]) rfl fok27 (by simp -dsimp -implicitDefEqProofs only [↓j25, ↓j29, j173, j174, ↓reduceIte, Nat.reduceEqDiff]) (fun x hx => (argsO x hx).2) hadd ?_
  simp -dsimp -implicitDefEqProofs only [↓j3, ↓j4, j17, j18, j19, j20, j21, j22, j23, j24, ↓j25, ↓j27, ↓j29, ↓j38, ↓j39, ↓j41, ↓j44, ↓j57, ↓j78, j85, ↓j145, ↓j146, ↓j153, AV.proj, AV.offOf, AV.upd, AV.size, AV.sizeL, AV.layable, j163, j164, j170, j171, j172, j173, j174, reduceCtorEq, ↓reduceIte, Nat.reduceAdd, Nat.reduceEqDiff, j182, j197, j289, j374]
  refine ⟨by kernel_rfl, ?_⟩
  simp -dsimp -implicitDefEqProofs only [↓j0, ↓j1, ↓j7, ↓j10, ↓j12, ↓j15, j17, j18, j20, ↓j25, ↓j29, ↓j30, j33, ↓j38, ↓j39, ↓j48, ↓j89, ↓j145, ↓j146, j157, j171, ↓reduceIte, j185]
  refine ret (d == 0) _ _ _ ?_ hfr
  rfl
end Go.Proofs.Ytlagoaggllhggaa
