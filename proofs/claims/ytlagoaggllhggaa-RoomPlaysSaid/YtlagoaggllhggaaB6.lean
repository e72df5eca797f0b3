/- Note, Page and Refs of a room. -/
import Derived.Test.YtlagoaggllhggaaB4
set_option linter.unusedVariables false
set_option linter.unusedSimpArgs false
namespace Go.Proofs.Ytlagoaggllhggaa
open Go Go.RowKit

theorem frz_rowK {K : Nat → Prop} {H : Heap} {n : Nat} {lsn : Int} {xs : List Old} (hk : ¬ K n) (h : Heap.get H n = some (.cells (.agg (xs.map Old.av)))) : Frz K H (.agg [.int .u64 lsn, .sl n 0 [] 0 xs.length xs.length 6]) (undoAV lsn xs) := by
  refine .agg _ _ rfl fun k hk' => ?_
  match k, hk' with
  | 0, _ => exact .same _ trivial
  | 1, _ =>
    have := Frz.sl (K := K) (H := H) n 0 [] 0 xs.length xs.length 6 _ (xs.map Old.av) h hk rfl rfl (by simp) (unif_olds xs) (fun x hx => by
      obtain ⟨o, _, rfl⟩ := List.mem_map.1 (List.mem_of_mem_drop (List.mem_of_mem_take hx))
      simp [AV.on, AV.onL])
    rw [List.drop_zero, take_olds] at this
    exact this
theorem frz_set {K : Nat → Prop} {H : Heap} {L : List Pg} {i : Nat} {x : AV} {p : Pg} (h : Frz K H x p.av) : Frz K H (.agg ((L.map Pg.av).set i x)) (.agg ((L.set i p).map Pg.av)) := by
  refine .agg _ _ (by simp) fun k hk => ?_
  rw [List.map_set, List.getD_eq_getElem?_getD, List.getD_eq_getElem?_getD, List.getElem?_set, List.getElem?_set]
  by_cases hik : i = k
  · subst hik
    simp only [List.length_set, List.length_map] at hk
    simp only [if_true, List.length_map, hk, Option.getD_some]
    exact h
  · rw [if_neg hik, if_neg hik]
    simp only [List.length_set, List.length_map] at hk
    simp only [List.getElem?_map, List.getElem?_eq_getElem hk, Option.map_some, Option.getD_some]
    exact .same _ (on_undo _ _ _)
theorem room_put {L L' : List Pg} {last : Nat} {H : Heap} {es : List AV} (h1 : Heap.get H 1 = some (roomB 0 L last)) (hl : L'.length = L.length) (h0 : Heap.get H 0 = some (.cells (.agg es)))
    (hf : Frz (fun n => Heap.get (roomH L' last) n ≠ none) H (.agg es) (.agg (L'.map Pg.av))) :
    ∀ n b, Heap.get (roomH L' last) n = some b → ∃ b0, Heap.get H n = some b0 ∧ BFrz (fun n => Heap.get (roomH L' last) n ≠ none) H b0 b := by
  intro n b h
  rcases get_room h with ⟨rfl, rfl⟩ | ⟨rfl, rfl⟩
  · exact ⟨_, h1, by rw [roomB, roomB, hl]; exact .same _ ⟨show Heap.get (roomH L' last) 0 ≠ none by simp [Heap.get], trivial, trivial⟩⟩
  · exact ⟨_, h0, hf⟩

def noteP (L : List Pg) (no : Int) (p : Pg) : List Pg := if hasP L no then L.set no.toNat p else L
theorem hasP_iff {L : List Pg} {no : Int} : hasP L no = true ↔ 0 ≤ no ∧ no < L.length := by simp [hasP]
theorem note_spec (L : List Pg) (last : Nat) (no lsn : Int) (xs : List Old) (hx : xs.length ≤ 100) : ACall Try.prog 8 [.ptr 1 0 [], .int .i64 no, undoAV lsn xs] (roomH L last) (.tuple []) (roomH (noteP L no (lsn, xs)) last) := by
  refine ACall.runH (Z := Z) (N := 21) mixed hZ Try.func8 rfl rfl (by kernel_rfl) (by simp) (room_args argsN) (room_on _ (by simp)) 2 room_lt ?_
  simp -dsimp -implicitDefEqProofs only [↓j0, ↓j1, ↓j7, ↓j12, ↓j15, j17, j18, j20, ↓j25, ↓j29, ↓j38, ↓j42, ↓j53, ↓j145, ↓j146, AV.layable, argEnv, j170, j171, reduceCtorEq, ↓reduceIte, Nat.reduceAdd, Nat.reduceEqDiff, j196]
  refine CallTo.gen (args := [.ptr 1 0 [], .int .i64 no]) (roomH L last) (roomH L last) 3 rfl fok22 (by simp -dsimp -implicitDefEqProofs only [↓j25, ↓j29, j173, j174, ↓reduceIte, Nat.reduceEqDiff]) (notup (fun vs h => by cases h) fun vs h => by cases h) (has_spec L last no) (SubH.of ⟨rfl, rfl, trivial⟩) ⟨by simp, put_same⟩ ?_
  cases hh : hasP L no
  · simp -dsimp -implicitDefEqProofs only [↓j0, ↓j9, ↓j13, j17, j18, j20, j21, j22, j23, ↓j25, ↓j29, ↓j145, ↓j148, ↓j149, j170, j171, j173, j174, reduceCtorEq, ↓reduceIte, Nat.reduceEqDiff]
    have e : noteP L no (lsn, xs) = L := by rw [noteP, hh]; rfl
    rw [e]
    exact Final.manyH (.inl rfl) (rs := []) (us := []) rfl trivial (by simp) trivial (room_keep rfl rfl)
  · have hr := hasP_iff.1 hh
    have e : noteP L no (lsn, xs) = L.set no.toNat (lsn, xs) := by rw [noteP, hh]; rfl
    rw [e]
    obtain ⟨q, hq⟩ := list_get (xs := L) (i := no.toNat) (by omega)
    have hsz := sizeL_pg L no.toNat (by omega)
    have hr1 := hr.1
    have hr2 := hr.2
    have hu := unif_olds xs
    have hb : xs.length * 32 ≤ 140737488355328 := by omega
    have hl : xs.length ≤ 9223372036854775807 := by omega
    simp -dsimp -implicitDefEqProofs only [↓j0, ↓j4, ↓j8, ↓j13, ↓j15, j17, j18, j20, j21, j22, j23, j24, ↓j25, ↓j27, ↓j29, ↓j30, j36, ↓j38, ↓j43, ↓j45, ↓j51, ↓j56, ↓j76, ↓j79, j130, j133, j135, ↓j145, ↓j146, ↓j147, ↓j149, ↓j153, AV.proj, AV.offOf, AV.size, AV.sizeL, j163, j164, j166, j167, j170, j171, j172, j173, j174, reduceCtorEq, ↓reduceIte, Nat.reduceEqDiff, j182, j196, j197, j271, j283, j286, j292, j295, j358]
    refine DoAppend_of rfl rfl at31 ?_
    simp -dsimp -implicitDefEqProofs only [↓j100, ↓j104, ↓j146, j182, j222, j223, hu, take_olds, hb, hl]
    refine ⟨fun hz => ?_, fun hz => ?_⟩
    · have hx0 : xs = [] := by simpa using hz
      subst hx0
      simp -dsimp -implicitDefEqProofs only [↓j3, ↓j4, j17, j18, j19, j20, j21, j22, j23, j24, ↓j25, ↓j27, ↓j29, ↓j44, ↓j46, ↓j54, ↓j78, ↓j93, ↓j124, j125, j126, j127, j128, ↓j145, ↓j146, ↓j153, partsAV, AV.proj, AV.offOf, AV.upd, AV.size, AV.sizeL, AV.layable, j163, j164, j166, j167, j168, j169, j170, j171, j172, j173, j174, j177, j179, j180, reduceCtorEq, ↓reduceIte, Nat.reduceAdd, Nat.reduceEqDiff, j182, j183, j196, j197, j206, j213, j214, j215, j216, j217, j272, j289, j293, j296, j394, hr1, hr2, hq, hsz]
      refine ⟨by kernel_rfl, ?_⟩
      refine Final.manyH (.inl rfl) (rs := []) (us := []) rfl trivial (by simp) trivial (room_put rfl (by simp) rfl (frz_set (.agg _ _ rfl fun k hk => ?_)))
      match k, hk with
      | 0, _ => exact .same _ trivial
      | 1, _ => exact .nil
    · simp -dsimp -implicitDefEqProofs only [↓j3, ↓j4, j17, j18, j19, j20, j21, j22, j23, j24, ↓j25, ↓j27, ↓j29, ↓j44, ↓j46, ↓j54, ↓j78, ↓j93, ↓j124, j125, j126, j127, j128, ↓j145, ↓j146, ↓j153, partsAV, AV.proj, AV.offOf, AV.upd, AV.size, AV.sizeL, AV.layable, j163, j164, j166, j167, j168, j169, j170, j171, j172, j173, j174, j177, j179, j180, reduceCtorEq, ↓reduceIte, Nat.reduceAdd, Nat.reduceEqDiff, j182, j183, j196, j197, j206, j213, j214, j215, j216, j217, j222, j272, j289, j293, j296, j394, hr1, hr2, hq, hsz, take_olds]
      refine ⟨by kernel_rfl, ?_⟩
      refine Final.manyH (.inl rfl) (rs := []) (us := []) rfl trivial (by simp) trivial (room_put rfl (by simp) rfl (frz_set (frz_rowK (n := 3) ?_ ?_)))
      · simp [Heap.get]
      · rfl

def pageP (L : List Pg) (no : Int) : Pg := if hasP L no then (L[no.toNat]?).getD (0, []) else (0, [])
theorem page_spec (L : List Pg) (last : Nat) (no : Int) (hs : Small L) : ACall Try.prog 14 [.ptr 1 0 [], .int .i64 no] (roomH L last) (undoAV (pageP L no).1 (pageP L no).2) (roomH L last) := by
  refine ACall.runH (Z := Z) (N := 28) mixed hZ Try.func14 rfl rfl (by kernel_rfl) (by simp) (room_args int_arg) (room_on _ (by simp)) 2 room_lt ?_
  simp -dsimp -implicitDefEqProofs only [↓j0, ↓j1, ↓j7, ↓j12, ↓j15, j17, j18, j20, ↓j25, ↓j29, ↓j38, ↓j41, ↓j53, ↓j145, argEnv, j170, j171, reduceCtorEq, ↓reduceIte, Nat.reduceAdd, Nat.reduceEqDiff, j196, j374]
  refine CallTo.gen (args := [.ptr 1 0 [], .int .i64 no]) (roomH L last) (roomH L last) 3 rfl fok22 (by simp -dsimp -implicitDefEqProofs only [↓j25, ↓j29, j173, j174, ↓reduceIte, Nat.reduceEqDiff]) (notup (fun vs h => by cases h) fun vs h => by cases h) (has_spec L last no) (SubH.of ⟨rfl, rfl, trivial⟩) ⟨by simp, put_same⟩ ?_
  cases hh : hasP L no
  · have e : pageP L no = (0, []) := by rw [pageP, hh]; rfl
    rw [e]
    simp -dsimp -implicitDefEqProofs only [↓j0, ↓j1, ↓j7, ↓j10, ↓j12, ↓j13, ↓j15, j17, j18, j19, j20, j21, j22, j23, ↓j25, ↓j27, ↓j29, ↓j44, ↓j54, ↓j55, ↓j78, j84, ↓j124, j125, j127, ↓j145, ↓j146, ↓j147, ↓j149, ↓j153, partsAV, AV.proj, AV.offOf, AV.upd, AV.size, AV.sizeL, AV.layable, j170, j171, j173, j174, reduceCtorEq, ↓reduceIte, Nat.reduceAdd, Nat.reduceEqDiff, j182, j194, j197, j214, j218, j219, j289, j394]
    exact Final.oneH (.inr rfl) (r := .cell 4 33) rfl ⟨2, 0, [], _, rfl, rfl, rfl, rfl, by simp -dsimp -implicitDefEqProofs only [j129, AV.size, AV.sizeL, Nat.reduceAdd, j182, j197, j289, j290]⟩ (fun vs h => by cases h) (fun vs h => by cases h) (.same _ ⟨trivial, trivial, trivial⟩) (room_keep rfl rfl)
  · have hr := hasP_iff.1 hh
    obtain ⟨q, hq⟩ := list_get (xs := L) (i := no.toNat) (by omega)
    have hqm := hs.2 q (List.mem_of_getElem? hq)
    have e : pageP L no = q := by rw [pageP, hh, hq]; rfl
    rw [e]
    have hsz := sizeL_pg L no.toNat (by omega)
    have hr1 := hr.1
    have hr2 := hr.2
    obtain ⟨lsn, xs⟩ := q
    have hu := unif_olds xs
    have hqm : xs.length ≤ 100 := hqm
    have hb : xs.length * 32 ≤ 140737488355328 := by omega
    have hl : xs.length ≤ 9223372036854775807 := by omega
    simp -dsimp -implicitDefEqProofs only [↓j0, ↓j1, ↓j4, ↓j8, ↓j9, ↓j12, ↓j13, ↓j15, j17, j18, j20, j21, j22, j23, j24, ↓j25, ↓j27, ↓j29, ↓j30, j36, ↓j38, ↓j43, ↓j45, ↓j46, ↓j51, ↓j55, ↓j56, ↓j76, ↓j79, j84, ↓j93, j130, j133, j135, ↓j145, ↓j146, ↓j148, ↓j149, ↓j153, AV.proj, AV.offOf, AV.size, AV.sizeL, j163, j164, j166, j167, j170, j171, j172, j173, j174, j177, reduceCtorEq, ↓reduceIte, Nat.reduceEqDiff, j182, j193, j196, j197, j206, j271, j272, j283, j286, j292, j295, j358, hr1, hr2, hq, hsz]
    refine DoAppend_of rfl rfl at31 ?_
    simp -dsimp -implicitDefEqProofs only [↓j100, ↓j104, ↓j146, j182, j222, j223, hu, take_olds, hb, hl]
    refine ⟨fun hz => ?_, fun hz => ?_⟩
    · have hx0 : xs = [] := by simpa using hz
      subst hx0
      simp -dsimp -implicitDefEqProofs only [↓j3, ↓j4, j17, j18, j19, j20, j21, j22, j23, j24, ↓j25, ↓j27, ↓j29, ↓j44, ↓j54, ↓j78, ↓j124, j125, j126, j127, j128, ↓j145, ↓j146, ↓j153, partsAV, AV.proj, AV.offOf, AV.upd, AV.size, AV.sizeL, AV.layable, j163, j164, j166, j167, j168, j169, j170, j171, j172, j173, j174, j179, j180, reduceCtorEq, ↓reduceIte, Nat.reduceAdd, Nat.reduceEqDiff, j182, j183, j197, j213, j214, j215, j216, j217, j289, j293, j296, j394]
      refine ⟨by kernel_rfl, ?_⟩
      simp -dsimp -implicitDefEqProofs only [↓j10]
      refine Final.oneH (.inr rfl) (r := .cell 4 33) rfl ⟨2, 0, [], _, rfl, rfl, rfl, rfl, by simp -dsimp -implicitDefEqProofs only [j129, AV.size, AV.sizeL, Nat.reduceAdd, j182, j197, j289, j290]⟩ (fun vs h => by cases h) (fun vs h => by cases h) (.agg _ _ rfl fun k hk => ?_) (room_keep rfl rfl)
      match k, hk with
      | 0, _ => exact .same _ trivial
      | 1, _ => exact .nil
    · simp -dsimp -implicitDefEqProofs only [↓j3, ↓j4, j17, j18, j19, j20, j21, j22, j23, j24, ↓j25, ↓j27, ↓j29, ↓j44, ↓j54, ↓j78, ↓j124, j125, j126, j127, j128, ↓j145, ↓j146, ↓j153, partsAV, AV.proj, AV.offOf, AV.upd, AV.size, AV.sizeL, AV.layable, j163, j164, j166, j167, j168, j169, j170, j171, j172, j173, j174, j179, j180, reduceCtorEq, ↓reduceIte, Nat.reduceAdd, Nat.reduceEqDiff, j182, j183, j197, j213, j214, j215, j216, j217, j222, j289, j293, j296, j394, take_olds]
      refine ⟨by kernel_rfl, ?_⟩
      simp -dsimp -implicitDefEqProofs only [↓j10]
      refine Final.oneH (.inr rfl) (r := .cell 4 33) rfl ⟨2, 0, [], _, rfl, rfl, rfl, rfl, by simp -dsimp -implicitDefEqProofs only [j129, AV.size, AV.sizeL, Nat.reduceAdd, j182, j197, j289, j290]⟩ (fun vs h => by cases h) (fun vs h => by cases h) (frz_rowK (n := 3) ?_ ?_) (room_keep rfl rfl)
      · simp [Heap.get]
      · rfl
end Go.Proofs.Ytlagoaggllhggaa
