/- A slot is freed. -/
import Derived.Test.YtlagoaggllhggaaA10
set_option linter.unusedVariables false
set_option linter.unusedSimpArgs false
namespace Go.Proofs.Ytlagoaggllhggaa
open Go Go.RowKit

theorem fok19 : fnOk Try.prog 19 = true := by kernel_rfl
def trimTo (xs : List Old) : Nat → Nat
  | 0 => 0
  | n + 1 => match xs[n]? with
    | some o => if o.live then n + 1 else trimTo xs n
    | none => 0
theorem trimTo_le (xs : List Old) : ∀ n, trimTo xs n ≤ n
  | 0 => Nat.le_refl _
  | n + 1 => by
    simp only [trimTo]
    have := trimTo_le xs n
    split
    · split <;> omega
    · omega
def freeP (lsn : Int) (xs : List Old) (k : Int) : Int × List Old × Int :=
  if (getP xs k).2 = false ∨ may xs = false then (0, [], 1) else
  let ys := xs.set k.toNat .zero
  (lsn, ys.take (trimTo ys ys.length), 0)
abbrev freeAV (r : Int × List Old × Int) : AV := .tuple [undoAV r.1 r.2.1, .int .i64 r.2.2]

theorem frz_take {H : Heap} {n c : Nat} {lsn : Int} {xs : List Old} {L : Nat} (hL : L ≤ xs.length) (h : Heap.get H n = some (.cells (.agg (xs.map Old.av)))) : Frz (fun _ => False) H (.agg [.int .u64 lsn, .sl n 0 [] 0 L c 6]) (undoAV lsn (xs.take L)) := by
  refine .agg _ _ rfl fun k hk => ?_
  match k, hk with
  | 0, _ => exact .same _ trivial
  | 1, _ =>
    have := Frz.sl (K := fun _ => False) (H := H) n 0 [] 0 L c 6 _ (xs.map Old.av) h (fun h => h) rfl rfl (by simp; omega) (unif_olds xs) (fun x hx => by
      obtain ⟨o, _, rfl⟩ := List.mem_map.1 (List.mem_of_mem_drop (List.mem_of_mem_take hx))
      simp [AV.on, AV.onL])
    rw [List.drop_zero, ← List.map_take] at this
    have e : (xs.take L).length = L := by rw [List.length_take]; omega
    show Frz _ H (.sl n 0 [] 0 L c 6) (.vsl ((xs.take L).map Old.av) (xs.take L).length)
    rw [e]
    exact this

def freeSt (lsn : Int) (ys : List Old) (L c : Nat) : St := ⟨54, [(2, .ptr 0 0 []), (4, .ptr 1 0 [])], [(0, .cells (.agg [.int .u64 lsn, .sl 5 0 [] 0 L c 6])), (1, .cells (undoAV 0 [])), (5, .cells (.agg (ys.map Old.av)))], 6⟩

theorem free_spec (lsn k : Int) (xs : List Old) (h0 : 0 ≤ k) (h1 : k ≤ 255) (hl : xs.length ≤ 9223372036854775807) : ACall Try.prog 20 [undoAV lsn xs, .int .u8 k] [] (freeAV (freeP lsn xs k)) [] := by
  refine ACall.run (Z := Z) (N := 54) mixed hZ Try.func20 rfl rfl (by kernel_rfl) (by simp) args5 0 ?_
  have fin0 : ∀ (t : Env) (H : Heap) (m : Nat), look t 4 = some (.ptr 1 0 []) → look t 5 = some (.int .i64 1) → Heap.get H 1 = some (.cells (undoAV 0 [])) → (0, [], 1) = freeP lsn xs k →
      Final Try.prog Try.f20 (freeAV (freeP lsn xs k)) [] .ret ⟨54, t, H, m⟩ := by
    intro t H m h1 h2 h3 h4
    rw [← h4]
    exact Final.many (.inr rfl) (rs := [.cell 4 33, .tmp 5]) (us := [undoAV 0 [], .int .i64 1]) rfl ⟨⟨1, 0, [], _, h1, h3, rfl, rfl, by simp -dsimp -implicitDefEqProofs only [j129, AV.size, AV.sizeL, Nat.reduceAdd, j182, j197, j289, j290]⟩, ⟨h2, fun vs h => by cases h⟩, trivial⟩ (by simp) ⟨.same _ (on_undo _ _ _), .same _ trivial, trivial⟩
  simp -dsimp -implicitDefEqProofs only [↓j0, ↓j1, ↓j7, ↓j12, ↓j15, j17, j18, j20, ↓j25, ↓j27, ↓j29, ↓j30, j33, ↓j38, ↓j39, ↓j41, ↓j42, ↓j43, ↓j53, ↓j76, j129, ↓j145, ↓j146, ↓j153, AV.proj, AV.offOf, AV.size, AV.sizeL, AV.layable, argEnv, j170, j171, j172, reduceCtorEq, ↓reduceIte, Nat.reduceAdd, Nat.reduceEqDiff, j182, j196, j197, j289, j290, j374]
  refine CallTo.pure (args := [undoAV lsn xs, .int .u8 k]) rfl fok19 (by simp -dsimp -implicitDefEqProofs only [↓j25, ↓j29, j173, j174, ↓reduceIte, Nat.reduceEqDiff]) (fun x hx => (args5 x hx).2) (get_spec lsn k xs h0 h1) ?_
  cases hg : (getP xs k).2
  · simp -dsimp -implicitDefEqProofs only [↓j0, ↓j1, ↓j2, ↓j7, ↓j10, ↓j12, ↓j13, ↓j15, j17, j18, j19, j20, j21, j22, j23, ↓j25, ↓j27, ↓j29, ↓j30, j32, j33, ↓j38, ↓j39, ↓j40, ↓j41, ↓j44, ↓j54, ↓j55, ↓j57, ↓j78, j81, j84, j85, ↓j124, j125, j127, ↓j145, ↓j146, ↓j147, ↓j149, ↓j151, ↓j153, partsAV, AV.proj, AV.offOf, AV.upd, AV.size, AV.sizeL, AV.layable, j163, j164, j170, j171, j175, reduceCtorEq, ↓reduceIte, Nat.reduceAdd, Nat.reduceEqDiff, j182, j194, j197, j214, j218, j219, j289, j328, j380, j394]
    refine fin0 _ _ _ ?_ ?_ ?_ ?_
    · rfl
    · rfl
    · rfl
    · rw [freeP, if_pos (.inl hg)]
  simp -dsimp -implicitDefEqProofs only [↓j0, ↓j1, ↓j2, ↓j7, ↓j12, ↓j15, j17, j18, j19, j20, j21, j22, j23, ↓j25, ↓j27, ↓j29, ↓j38, ↓j39, ↓j41, ↓j43, ↓j44, ↓j53, ↓j55, ↓j57, ↓j76, ↓j78, j84, j85, j129, ↓j145, ↓j146, ↓j148, ↓j151, ↓j153, AV.proj, AV.offOf, AV.upd, AV.size, AV.sizeL, AV.layable, j163, j164, j170, j171, j175, reduceCtorEq, ↓reduceIte, Nat.reduceAdd, Nat.reduceEqDiff, j182, j193, j197, j289, j290, j328, j380]
  refine CallTo.pure (args := [undoAV lsn xs]) rfl fok25 (by simp -dsimp -implicitDefEqProofs only [↓j25, ↓j29, j173, j174, ↓reduceIte]) (fun x hx => (args1 x hx).2) (may_spec lsn xs hl) ?_
  cases hm : may xs
  · simp -dsimp -implicitDefEqProofs only [↓j0, ↓j1, ↓j2, ↓j7, ↓j10, ↓j12, ↓j13, ↓j15, j17, j18, j19, j20, j21, j22, j23, ↓j25, ↓j27, ↓j29, ↓j30, j32, j33, ↓j39, ↓j40, ↓j44, ↓j54, ↓j55, ↓j78, j83, j84, ↓j124, j125, j127, ↓j145, ↓j146, ↓j147, ↓j148, ↓j149, ↓j151, ↓j153, partsAV, AV.proj, AV.offOf, AV.upd, AV.size, AV.sizeL, AV.layable, j163, j164, j170, j171, j175, reduceCtorEq, ↓reduceIte, Nat.reduceAdd, Nat.reduceEqDiff, j182, j194, j195, j197, j214, j218, j219, j289, j394]
    refine fin0 _ _ _ ?_ ?_ ?_ ?_
    · rfl
    · rfl
    · rfl
    · rw [freeP, if_pos (.inr hm)]
  have hlen := may_len hm
  obtain ⟨x0, hx0⟩ : ∃ x0, xs[k.toNat]? = some x0 := by
    cases hx : xs[k.toNat]? with
    | none => simp [getP, hx] at hg
    | some x0 => exact ⟨x0, rfl⟩
  have hkl : k.toNat < xs.length := by
    rcases Nat.lt_or_ge k.toNat xs.length with h | h
    · exact h
    · rw [List.getElem?_eq_none h] at hx0; cases hx0
  have hx : xs ≠ [] := fun h => by subst h; simp at hkl
  have hf : freeP lsn xs k = (lsn, (xs.set k.toNat .zero).take (trimTo (xs.set k.toNat .zero) xs.length), 0) := by
    rw [freeP, if_neg (by simp [hg, hm])]
    simp
  have hsz := sizeL_olds xs k.toNat (by omega)
  have hlt : k < (xs.length : Int) := by omega
  simp -dsimp -implicitDefEqProofs only [↓j0, ↓j1, ↓j2, ↓j7, ↓j9, ↓j12, ↓j13, ↓j15, j17, j18, j20, ↓j25, ↓j27, ↓j29, ↓j30, j32, ↓j40, ↓j43, ↓j53, ↓j55, ↓j76, j83, j84, j129, ↓j145, ↓j146, ↓j148, ↓j149, ↓j151, ↓j153, AV.proj, AV.offOf, AV.size, AV.sizeL, j163, j164, j171, j175, reduceCtorEq, ↓reduceIte, Nat.reduceAdd, Nat.reduceEqDiff, j182, j193, j195, j197, j289, j290]
  refine CallTo.newAt 5 (args := [undoAV lsn xs]) rfl fok26 (by simp -dsimp -implicitDefEqProofs only [↓j25, ↓j29, j173, j174, ↓reduceIte]) (fun x hx => (args1 x hx).2) (show (3 : Nat) ≤ 5 by decide) (own_cons 3 lsn xs hx (by omega)) ?_
  have hset : (xs.map Old.av).set k.toNat Old.zero.av = (xs.set k.toNat .zero).map Old.av := by rw [List.map_set]
  have hset' : (xs.map Old.av).set k.toNat (AV.agg [AV.bool false, AV.int IntKind.u16 0, AV.int IntKind.u32 0, AV.agg [AV.int IntKind.u16 0, AV.int IntKind.u8 0], AV.str { data := #[] }]) = (xs.set k.toNat .zero).map Old.av := hset
  have hyl : (xs.set k.toNat .zero).length = xs.length := List.length_set
  obtain ⟨ys, hys⟩ : ∃ ys, xs.set k.toNat .zero = ys := ⟨_, rfl⟩
  rw [hys] at hset' hyl hf
  simp -dsimp -implicitDefEqProofs only [↓j0, ↓j1, ↓j7, ↓j12, ↓j14, ↓j15, ↓j16, j17, j18, j19, j20, j21, j22, j23, ↓j25, ↓j27, ↓j29, ↓j38, ↓j43, ↓j44, ↓j45, ↓j46, ↓j54, ↓j76, ↓j78, ↓j79, ↓j93, ↓j124, j125, j127, j135, ↓j145, ↓j146, ↓j153, partsAV, AV.proj, AV.offOf, AV.upd, AV.size, AV.sizeL, AV.layable, j163, j164, j166, j167, j170, j171, j177, reduceCtorEq, ↓reduceIte, Nat.reduceAdd, Nat.reduceEqDiff, j182, j196, j197, j206, j214, j218, j219, j286, j287, j289, j295, j328, j400, h0, hlt, hx0, hsz, hset']
  refine AWp.loopR (Z := Z) mixed hZ (by kernel_rfl) (fun n s => n ≤ xs.length ∧ trimTo ys n = trimTo ys xs.length ∧ s = freeSt lsn ys n xs.length) (n0 := xs.length) (s0 := freeSt lsn ys xs.length xs.length) ?_ ⟨Nat.le_refl _, rfl, rfl⟩ ?_ rfl
  · exact Wk.sub (by simp -dsimp -implicitDefEqProofs only [↓j25, ↓j27, j179, reduceCtorEq, ↓reduceIte, Nat.reduceEqDiff, j182, j183, j184, j202, j203, j204, j205, j223] <;> simp)
  · rintro n s ⟨hn, ht, rfl⟩
    refine ⟨rfl, ?_⟩
    have fin1 : ∀ (t : Env) (H : Heap) (nx : Nat), look t 4 = some (.ptr 1 0 []) → look t 5 = some (.int .i64 0) → Heap.get H 1 = some (.cells (.agg [.int .u64 lsn, .sl 5 0 [] 0 n xs.length 6])) → Heap.get H 5 = some (.cells (.agg (ys.map Old.av))) → trimTo ys n = n →
        Final Try.prog Try.f20 (freeAV (freeP lsn xs k)) [] .ret ⟨54, t, H, nx⟩ := by
      intro t H nx h1 h2 h3 h5 h4
      rw [hf, ← ht, h4]
      exact Final.many (.inr rfl) (rs := [.cell 4 33, .tmp 5]) (us := [.agg [.int .u64 lsn, .sl 5 0 [] 0 n xs.length 6], .int .i64 0]) rfl ⟨⟨1, 0, [], _, h1, h3, rfl, rfl, by simp -dsimp -implicitDefEqProofs only [j129, AV.size, AV.sizeL, Nat.reduceAdd, j182, j197, j289, j290]⟩, ⟨h2, fun vs h => by cases h⟩, trivial⟩ (by simp) ⟨frz_take (by omega) h5, .same _ trivial, trivial⟩
    cases n with
    | zero =>
      have hd : decide ((0 : Int) < ((0 : Nat) : Int)) = false := rfl
      simp -dsimp -implicitDefEqProofs only [freeSt, ↓j0, ↓j1, ↓j2, ↓j7, ↓j10, ↓j11, ↓j12, ↓j13, ↓j15, j17, j18, j19, j20, j21, j22, j23, ↓j25, ↓j27, ↓j29, ↓j30, j32, j33, ↓j38, ↓j39, ↓j40, ↓j43, ↓j44, ↓j45, ↓j48, ↓j58, ↓j61, ↓j76, ↓j78, ↓j79, j82, ↓j89, j129, j135, j143, ↓j145, ↓j146, ↓j148, ↓j149, ↓j150, ↓j153, j161, AV.proj, AV.offOf, AV.upd, AV.size, AV.sizeL, AV.layable, j163, j164, j166, j167, j170, j171, j175, reduceCtorEq, ↓reduceIte, Nat.reduceAdd, Nat.reduceEqDiff, j182, j185, j196, j197, j286, j289, j290, j295, j416, hd]
      refine fin1 _ _ _ ?_ ?_ ?_ ?_ ?_
      · rfl
      · rfl
      · rfl
      · rfl
      · rfl
    | succ n =>
      have hd : decide ((0 : Int) < ((n + 1 : Nat) : Int)) = true := decide_eq_true (by omega)
      obtain ⟨o, ho⟩ := list_get (xs := ys) (i := n) (by omega)
      have hw : IntKind.i64.wrap (((n + 1 : Nat) : Int) - 1) = (n : Int) := by rw [wrap_i64 (by omega) (by omega)]; omega
      have hnlt : (n : Int) < ((n + 1 : Nat) : Int) := by omega
      have hsz2 := sizeL_olds ys n (by omega)
      have hle : n ≤ n + 1 := Nat.le_succ n
      have hle2 : n ≤ xs.length := by omega
      have h0n : (0 : Int) ≤ (n : Int) := by omega
      have hnle : (n : Int) ≤ ((n + 1 : Nat) : Int) := by omega
      have hnle2 : (n : Int) ≤ (xs.length : Int) := by omega
      simp -dsimp -implicitDefEqProofs only [freeSt, ↓j0, ↓j1, ↓j2, ↓j7, ↓j12, ↓j13, ↓j15, j17, j18, j20, ↓j25, ↓j27, ↓j29, ↓j30, j32, j33, ↓j38, ↓j40, ↓j43, ↓j45, ↓j46, ↓j48, ↓j55, ↓j58, ↓j61, ↓j76, ↓j79, j83, j84, ↓j89, ↓j93, j131, j135, j143, ↓j145, ↓j146, ↓j147, ↓j149, ↓j150, ↓j153, j155, j161, AV.proj, AV.offOf, AV.size, AV.sizeL, j163, j164, j166, j167, j170, j171, j175, j177, reduceCtorEq, ↓reduceIte, Nat.reduceEqDiff, j182, j185, j196, j197, j206, j207, j208, j253, j286, j287, j295, j331, j416, hd, hw, ho, hnlt, hsz2]
      refine ⟨fun hl => ?_, fun hl => ?_⟩
      · have hl' : o.live = false := by simpa using hl
        simp -dsimp -implicitDefEqProofs only [↓j0, ↓j1, ↓j7, ↓j9, ↓j14, ↓j15, j17, j18, j19, j20, j21, j22, j23, ↓j25, ↓j27, ↓j29, ↓j30, j33, ↓j43, ↓j44, ↓j45, ↓j48, ↓j49, ↓j58, ↓j61, ↓j76, ↓j78, ↓j79, ↓j89, ↓j99, j135, j143, ↓j145, ↓j146, ↓j153, j155, AV.proj, AV.offOf, AV.upd, AV.size, AV.sizeL, AV.layable, j163, j164, j166, j167, j168, j169, j170, j171, reduceCtorEq, ↓reduceIte, Nat.reduceEqDiff, Int.reduceToNat, j182, j185, j194, j196, j197, j207, bndAV, j232, j233, j234, j285, j286, j287, j295, j416, hl', hw, h0n, hnle2]
        refine ⟨n, freeSt lsn ys n xs.length, by omega, ⟨hle2, ?_, rfl⟩, Wk.sub (by simp -dsimp -implicitDefEqProofs only [↓j25, ↓j27, reduceCtorEq, ↓reduceIte, Nat.reduceEqDiff, j182, j202, j203, j204, j205, j223] <;> simp)⟩
        rw [← ht, trimTo]
        simp [ho, hl']
      · have hl' : o.live = true := by simpa using hl
        simp -dsimp -implicitDefEqProofs only [↓j0, ↓j1, ↓j7, ↓j10, ↓j11, ↓j12, ↓j15, j17, j18, j19, j20, j21, j22, j23, ↓j25, ↓j27, ↓j29, ↓j30, j33, ↓j39, ↓j43, ↓j44, ↓j76, ↓j78, j129, ↓j145, ↓j146, ↓j153, AV.proj, AV.offOf, AV.upd, AV.size, AV.sizeL, AV.layable, j170, j171, reduceCtorEq, ↓reduceIte, Nat.reduceAdd, Nat.reduceEqDiff, j182, j193, j197, j289, j290, hl']
        refine fin1 _ _ _ ?_ ?_ ?_ ?_ ?_
        · rfl
        · rfl
        · rfl
        · rfl
        · simp [trimTo, ho, hl']
end Go.Proofs.Ytlagoaggllhggaa
