import Derived.Test.YtimdepgenefkmaaP24
set_option maxRecDepth 8000
set_option linter.unusedVariables false
set_option linter.unusedSimpArgs false
namespace Go.Proofs.Ytimdepgenefkmaa
open Go Go.RowKit

def rtS (u : Ud) (i : Nat) : List UInt8 := UInt8.ofNat u.olds.length :: textL (u.olds.take i)
theorem rtS_len (u : Ud) (i : Nat) : (rtS u i).length = 1 + sumS (u.olds.take i) := by
  rw [rtS, List.length_cons, textL_len]; omega
def rtT (u : Ud) (i : Nat) : Env := [(15, .int .i64 i), (14, .int .i64 u.olds.length), (13, odsAV u.olds), (3, .str ⟨(rtS u i).toArray⟩), (1, .ptr 100 0 []), (2, .str ⟨#[]⟩)]
def rtSt (u : Ud) (i : Nat) : St := ⟨56, rtT u i, [(100, .cells u.av)], 101⟩
theorem rt_onT {u : Ud} {i : Nat} : onT (fun m => m < 101) (rtT u i) :=
  (onTL_cons trivial (onTL_cons trivial (onTL_cons (on_ods _ _) (onTL_cons trivial (onTL_cons (show (100 : Nat) < 101 by decide) (onTL_cons trivial onTL_nil))))) : onTL (fun m => m < 101) (rtT u i)).onT
theorem rt_onH {u : Ud} : onH (fun m => m < 101) [(100, .cells u.av)] :=
  (onHL_cons (show (100 : Nat) < 101 by decide) (on_ud _ _) onHL_nil : onHL (fun m => m < 101) [(100, .cells u.av)]).onH
set_option maxHeartbeats 800000 in
theorem rtext_spec (u : Ud) (hu : u.Ok) (hs : sumS u.olds ≤ 4611686018427387904) : ACall Try.prog 52 [u.av] [] (.str ⟨(undoRest u).toArray⟩) [] := by
  refine ACall.run (Z := Z) (N := 56) mixed hZ Try.func52 rfl rfl (by kernel_rfl) (by simp) args_ud 100 ?_
  have hl := hu.len
  have w8 : IntKind.u8.wrap (u.olds.length : Int) = ((UInt8.ofNat u.olds.length).toNat : Int) := by rw [wrap_u8]; simp
  have hb1 : bytesOf [AV.int .u8 ((UInt8.ofNat u.olds.length).toNat : Int)] = some [UInt8.ofNat u.olds.length] := bytesOf_bytes [UInt8.ofNat u.olds.length]
  have hu1 : Unif 1 [AV.int .u8 ((UInt8.ofNat u.olds.length).toNat : Int)] := fun x hx => by
    simp only [List.mem_singleton] at hx; subst hx; rfl
  simp -dsimp -implicitDefEqProofs only [↓j0, ↓j1, ↓j7, ↓j12, ↓j14, ↓j15, ↓j16, j17, j18, j20, ↓j25, ↓j27, ↓j29, ↓j30, j33, j34, ↓j38, ↓j39, ↓j42, ↓j43, ↓j45, ↓j50, ↓j58, ↓j62, ↓j74, ↓j76, ↓j79, ↓j106, j107, ↓j121, j125, j126, j127, j128, j133, j142, ↓j145, ↓j146, ↓j153, partsAV, AV.proj, AV.offOf, AV.size, AV.sizeL, AV.layable, argEnv, j163, j164, j166, j167, j169, j170, j171, j172, j179, j180, ↓reduceIte, Nat.reduceAdd, Nat.reduceMul, Nat.reduceEqDiff, Nat.reduceLeDiff, j182, j183, j196, j197, j213, j214, j215, j217, j223, ↓j225, Nat.reducePow, j227, List.replicate, j228, j230, j231, j234, j256, j259, j388, j397, j403, j454, j459, j478, w8, hb1, hu1]
  refine AWp.loopR (Z := Z) mixed hZ (by kernel_rfl) (fun n s => ∃ i, i + n = u.olds.length ∧ s = rtSt u i) (n0 := u.olds.length) (s0 := rtSt u 0) ?_ ⟨0, by omega, rfl⟩ ?_ rfl
  · exact Wk.trans (Wk.mk (s' := ⟨56, rtT u 0, [(100, .cells u.av)], 102⟩) (SubT.spec (by simp -dsimp -implicitDefEqProofs only [↓j25, j167, j179, ↓reduceIte, Nat.reduceEqDiff, j182, j183, j184, j202, j203, j209, rtT, rtS] <;> simp [textL])) (SubH.spec (by simp -dsimp -implicitDefEqProofs only [↓j27, ↓reduceIte, Nat.reduceEqDiff, j182, j204, j205] <;> simp)) (Nat.le_refl _) rfl) (Wk.gc (by omega) rt_onT rt_onH)
  rintro n s ⟨i, hi, rfl⟩
  refine ⟨rfl, ?_⟩
  rcases Nat.lt_or_ge i u.olds.length with hlt | hge
  · have hd : decide ((i : Int) < (u.olds.length : Int)) = true := decide_eq_true (by omega)
    have hlt2 : (i : Int) < (u.olds.length : Int) := by omega
    obtain ⟨o, ho⟩ := list_get (xs := u.olds) (i := i) (by omega)
    have hoo := hu.olds o (List.mem_of_getElem? ho)
    have hsz2 : AV.sizeL ((u.olds.map Od.av).take i) = i * 6 := (unif_od u.olds).sizeL_take (by simp; omega)
    have hw : IntKind.i64.wrap ((i : Int) + 1) = ((i + 1 : Nat) : Int) := by rw [wrap_i64 (by omega) (by omega)]; omega
    have hs1 := sumS_take ho
    have hs2 := sumS_take_le u.olds (i + 1)
    have htl := o.text_len
    have hsl := rtS_len u i
    have hS : rtS u (i + 1) = rtS u i ++ o.text := by rw [rtS, rtS, take_succ ho, textL_append]; simp [textL]
    obtain ⟨S, hSe⟩ : ∃ S, rtS u i = S := ⟨_, rfl⟩
    rw [hSe] at hS hsl
    have step : ∀ (t : Env) (H : Heap) (nx : Nat), SubT (rtT u (i + 1)) t → SubH [(100, .cells u.av)] H → ∃ m s'', m < n ∧ (∃ i, i + m = u.olds.length ∧ s'' = rtSt u i) ∧ Wk ⟨56, t, H, nx⟩ s'' := fun t H nx ht hH =>
      ⟨n - 1, rtSt u (i + 1), by omega, ⟨i + 1, by omega, rfl⟩, Wk.trans (Wk.mk (s' := ⟨56, rtT u (i + 1), [(100, .cells u.av)], nx⟩) ht.spec hH.spec (Nat.le_refl _) rfl) (Wk.gc (by omega) rt_onT rt_onH)⟩
    cases hlv : o.live
    · have hos : o.size = 1 := by unfold Od.size; rw [hlv]; rfl
      have hot : o.text = [0] := by unfold Od.text; rw [hlv]; rfl
      rw [hot] at hS
      have s0 : (ByteArray.mk #[0]).size = 1 := rfl
      have a1 : (ByteArray.mk S.toArray) ++ (ByteArray.mk #[0]) = ByteArray.mk (rtS u (i + 1)).toArray := by rw [hS]; exact str_append S [0]
      have k1 : S.length + 1 ≤ 9223372036854775807 := by omega
      simp -dsimp -implicitDefEqProofs only [↓j0, ↓j1, ↓j7, ↓j9, ↓j12, ↓j13, ↓j14, ↓j15, j17, j18, j19, j20, j21, j22, j23, ↓j25, ↓j27, ↓j29, ↓j30, j33, j34, ↓j38, ↓j39, ↓j41, ↓j43, ↓j44, ↓j45, ↓j46, ↓j48, ↓j76, ↓j77, ↓j78, ↓j79, ↓j89, ↓j92, j117, ↓j120, j129, j131, ↓j145, ↓j146, ↓j147, ↓j148, ↓j149, ↓j153, j154, j159, AV.proj, AV.offOf, AV.upd, AV.size, AV.sizeL, AV.layable, j163, j167, j170, j171, j177, ↓reduceIte, Nat.reduceAdd, Nat.reduceEqDiff, j182, j185, j191, j197, j206, j207, j208, j253, j294, j295, j297, j389, j423, rtSt, rtT, hSe, hlt2, ho, hsz2, hlv, str_bytes, s0, a1, k1]
      exact step _ _ _ (by simp -dsimp -implicitDefEqProofs only [↓j25, ↓reduceIte, Nat.reduceEqDiff, j182, j202, j203, rtT, hw] <;> simp) (by simp -dsimp -implicitDefEqProofs only [↓j27, ↓reduceIte, Nat.reduceEqDiff, j182, j204, j205] <;> simp)
    · have hp1 := hoo.page
      have hp2 := hoo.ts
      have hp3 := hoo.npg
      have hdl := hoo.delta
      have hos : o.size = 11 + o.delta.length := by unfold Od.size; rw [hlv]; rfl
      have x1 : IntKind.u64.wrap (o.page : Int) = (o.page : Int) := by rw [wrap_u64, Nat.mod_eq_of_lt (by omega)]
      have x2 : IntKind.u64.wrap (o.ts : Int) = (o.ts : Int) := by rw [wrap_u64, Nat.mod_eq_of_lt (by omega)]
      have x3 : IntKind.u64.wrap (o.npg : Int) = (o.npg : Int) := by rw [wrap_u64, Nat.mod_eq_of_lt (by omega)]
      have l1 := putL_len o.page 2
      have l2 := putL_len o.ts 4
      have l3 := putL_len o.npg 2
      have w8 : IntKind.u8.wrap (o.delta.length : Int) = ((UInt8.ofNat o.delta.length).toNat : Int) := by rw [wrap_u8]; simp
      have hb2 : bytesOf [AV.int .u8 (o.nsl.toNat : Int), AV.int .u8 ((UInt8.ofNat o.delta.length).toNat : Int)] = some [o.nsl, UInt8.ofNat o.delta.length] := bytesOf_bytes [o.nsl, UInt8.ofNat o.delta.length]
      have hu2 : Unif 1 [AV.int .u8 (o.nsl.toNat : Int), AV.int .u8 ((UInt8.ofNat o.delta.length).toNat : Int)] := fun x hx => by
        simp only [List.mem_cons, List.not_mem_nil, or_false] at hx
        rcases hx with rfl | rfl <;> rfl
      have htx : 1 :: putL o.page 2 ++ putL o.ts 4 ++ putL o.npg 2 ++ [o.nsl, UInt8.ofNat o.delta.length] ++ o.delta = o.text := by
        unfold Od.text; rw [hlv]; simp
      obtain ⟨T1, hT1⟩ : ∃ T, 1 :: putL o.page 2 = T := ⟨_, rfl⟩
      rw [hT1] at htx
      have n1 : T1.length = 3 := by rw [← hT1, List.length_cons, l1]
      obtain ⟨T2, hT2⟩ : ∃ T, T1 ++ putL o.ts 4 = T := ⟨_, rfl⟩
      rw [hT2] at htx
      have n2 : T2.length = 7 := by rw [← hT2, List.length_append, n1, l2]
      obtain ⟨T3, hT3⟩ : ∃ T, T2 ++ putL o.npg 2 = T := ⟨_, rfl⟩
      rw [hT3] at htx
      have n3 : T3.length = 9 := by rw [← hT3, List.length_append, n2, l3]
      obtain ⟨T4, hT4⟩ : ∃ T, T3 ++ [o.nsl, UInt8.ofNat o.delta.length] = T := ⟨_, rfl⟩
      rw [hT4] at htx
      have n4 : T4.length = 11 := by rw [← hT4, List.length_append, n3]; rfl
      have s0 : (ByteArray.mk #[1]).size = 1 := rfl
      have s2 : (ByteArray.mk #[o.nsl, UInt8.ofNat o.delta.length]).size = 2 := rfl
      have a1 : (ByteArray.mk #[1]) ++ (ByteArray.mk (putL o.page 2).toArray) = ByteArray.mk T1.toArray := by rw [← hT1]; exact str_append [1] _
      have a2 : (ByteArray.mk T1.toArray) ++ (ByteArray.mk (putL o.ts 4).toArray) = ByteArray.mk T2.toArray := by rw [← hT2]; exact str_append _ _
      have a3 : (ByteArray.mk T2.toArray) ++ (ByteArray.mk (putL o.npg 2).toArray) = ByteArray.mk T3.toArray := by rw [← hT3]; exact str_append _ _
      have a4 : (ByteArray.mk T3.toArray) ++ (ByteArray.mk #[o.nsl, UInt8.ofNat o.delta.length]) = ByteArray.mk T4.toArray := by rw [← hT4]; exact str_append _ [o.nsl, UInt8.ofNat o.delta.length]
      have a5 : (ByteArray.mk T4.toArray) ++ (ByteArray.mk o.delta.toArray) = ByteArray.mk o.text.toArray := by rw [← htx]; exact str_append _ _
      have a6 : (ByteArray.mk S.toArray) ++ (ByteArray.mk o.text.toArray) = ByteArray.mk (rtS u (i + 1)).toArray := by rw [hS]; exact str_append _ _
      have k5 : 11 + o.delta.length ≤ 9223372036854775807 := by omega
      have k6 : S.length + o.size ≤ 9223372036854775807 := by omega
      simp -dsimp -implicitDefEqProofs only [↓j0, ↓j1, ↓j4, ↓j7, ↓j8, ↓j9, ↓j12, ↓j13, ↓j14, ↓j15, j17, j18, j19, j20, j21, j22, j23, j24, ↓j25, ↓j27, ↓j29, ↓j38, ↓j41, ↓j43, ↓j44, ↓j45, ↓j46, ↓j48, ↓j50, ↓j53, ↓j76, ↓j77, ↓j78, ↓j79, ↓j89, ↓j92, j129, j130, j131, ↓j145, ↓j146, ↓j147, ↓j149, ↓j153, j159, AV.proj, AV.offOf, AV.upd, AV.size, AV.sizeL, AV.layable, j163, j164, j166, j167, j170, j171, j172, j174, j177, ↓reduceIte, Nat.reduceAdd, Nat.reduceEqDiff, j182, j185, j191, j196, j197, j206, j207, j208, ↓j225, j253, j261, j280, j294, j295, j297, j300, j389, j423, j463, rtSt, rtT, hSe, hlt2, ho, hsz2, hlv, x1]
      refine CallTo.pure (args := [.int .u64 o.page, .int .i64 ((2 : Nat) : Int)]) rfl fok48 (by simp -dsimp -implicitDefEqProofs only [↓j25, ↓j29, ↓j30, j33, j173, j174, ↓reduceIte]; rfl) (notup (fun vs h => by cases h) fun vs h => by cases h) (rput_spec o.page 2 (by omega) (by omega)) ?_
      simp -dsimp -implicitDefEqProofs only [↓j4, j17, j18, j20, j24, ↓j25, ↓j27, ↓j29, ↓j30, j34, ↓j43, ↓j45, ↓j48, ↓j50, ↓j53, ↓j76, ↓j79, j117, ↓j120, j130, ↓j145, ↓j146, ↓j153, AV.proj, AV.offOf, AV.size, AV.sizeL, j163, j164, j166, j167, j170, j171, j172, j174, ↓reduceIte, Nat.reduceAdd, Nat.reduceEqDiff, Nat.reduceLeDiff, j182, j196, j197, ↓j225, j280, j282, j303, j467, str_bytes, l1, x2, s0, a1]
      refine CallTo.pure (args := [.int .u64 o.ts, .int .i64 ((4 : Nat) : Int)]) rfl fok48 (by simp -dsimp -implicitDefEqProofs only [↓j25, ↓j29, ↓j30, j33, j173, j174, ↓reduceIte]; rfl) (notup (fun vs h => by cases h) fun vs h => by cases h) (rput_spec o.ts 4 (by omega) (by omega)) ?_
      simp -dsimp -implicitDefEqProofs only [↓j4, j17, j18, j20, j24, ↓j25, ↓j27, ↓j29, ↓j43, ↓j45, ↓j48, ↓j50, ↓j53, ↓j76, ↓j79, j117, ↓j120, j130, ↓j145, ↓j146, ↓j153, AV.proj, AV.offOf, AV.size, AV.sizeL, j163, j164, j166, j167, j170, j171, j172, j174, ↓reduceIte, Nat.reduceAdd, Nat.reduceEqDiff, Nat.reduceLeDiff, j182, j196, j197, ↓j225, j261, j280, j287, j306, j463, str_bytes, l2, n1, a2, x3]
      refine CallTo.pure (args := [.int .u64 o.npg, .int .i64 ((2 : Nat) : Int)]) rfl fok48 (by simp -dsimp -implicitDefEqProofs only [↓j25, ↓j29, ↓j30, j33, j173, j174, ↓reduceIte]; rfl) (notup (fun vs h => by cases h) fun vs h => by cases h) (rput_spec o.npg 2 (by omega) (by omega)) ?_
      simp -dsimp -implicitDefEqProofs only [↓j3, ↓j4, j17, j18, j20, j24, ↓j25, ↓j27, ↓j29, ↓j39, ↓j43, ↓j45, ↓j48, ↓j50, ↓j58, ↓j59, ↓j74, ↓j76, ↓j79, ↓j106, j107, j117, ↓j120, ↓j121, j125, j126, j127, j128, j130, j132, j141, ↓j145, ↓j146, ↓j153, partsAV, AV.proj, AV.offOf, AV.size, AV.sizeL, AV.layable, j163, j164, j166, j167, j168, j169, j170, j171, j172, j173, j174, j179, j180, ↓reduceIte, Nat.reduceAdd, Nat.reduceMul, Nat.reduceEqDiff, Nat.reduceLeDiff, j182, j183, j196, j197, j213, j214, j215, j216, j217, j223, ↓j225, Nat.reducePow, j227, List.replicate, j228, j230, j231, j234, j255, j256, j258, j259, j290, j306, j309, j403, j454, j459, str_bytes, l3, n2, a3, n3, w8, hb2, hu2, s2, a4, n4, a5, k5, htl, a6, k6]
      refine ⟨by kernel_rfl, ?_⟩
      simp -dsimp -implicitDefEqProofs only [↓j0, ↓j1, ↓j7, ↓j15, j17, j18, j20, ↓j25, ↓j29, ↓j30, j33, ↓j38, ↓j48, ↓j89, ↓j145, ↓j146, j154, j171, ↓reduceIte, Nat.reduceEqDiff, j185]
      exact step _ _ _ (by simp -dsimp -implicitDefEqProofs only [↓j25, ↓reduceIte, Nat.reduceEqDiff, j182, j202, j203, rtT, hw] <;> simp) (by simp -dsimp -implicitDefEqProofs only [↓j27, ↓reduceIte, Nat.reduceEqDiff, j182, j204, j205] <;> simp)
  · have hi2 : i = u.olds.length := by omega
    subst hi2
    have hd : decide ((u.olds.length : Int) < (u.olds.length : Int)) = false := decide_eq_false (by omega)
    have hT : rtS u u.olds.length = undoRest u := by rw [rtS, List.take_of_length_le (Nat.le_refl _)]; rfl
    simp -dsimp -implicitDefEqProofs only [↓j0, ↓j1, ↓j7, ↓j10, ↓j11, ↓j12, ↓j13, ↓j15, j17, j18, j20, ↓j25, ↓j29, ↓j38, ↓j39, ↓j48, ↓j89, ↓j145, ↓j146, ↓j148, ↓j149, j159, j171, ↓reduceIte, Nat.reduceEqDiff, j185, rtSt, rtT, hT, hd]
    exact Final.one (.inr rfl) (r := .tmp 2) rfl ⟨rfl, fun vs h => by cases h⟩ (fun vs h => by cases h) (fun vs h => by cases h) (.same _ trivial)
theorem rsize_spec (u : Ud) (hu : u.Ok) (hs : sumS u.olds ≤ 4611686018427387904) : ACall Try.prog 60 [u.av] [] (.int .i64 (16 + sumS u.olds : Nat)) [] := by
  refine ACall.run (Z := Z) (N := 7) mixed hZ Try.func60 rfl rfl (by kernel_rfl) (by simp) args_ud 100 ?_
  have hl : (undoRest u).length = 1 + sumS u.olds := by rw [undoRest, List.length_cons, textL_len]; omega
  have hw : IntKind.i64.wrap (15 + ((1 + sumS u.olds : Nat) : Int)) = ((16 + sumS u.olds : Nat) : Int) := by rw [wrap_i64 (by omega) (by omega)]; omega
  simp -dsimp -implicitDefEqProofs only [↓j0, ↓j1, ↓j7, ↓j12, ↓j15, j17, j18, j20, ↓j25, ↓j27, ↓j29, ↓j30, j33, ↓j39, ↓j42, ↓j43, ↓j53, ↓j76, j129, ↓j145, ↓j146, ↓j153, AV.proj, AV.offOf, AV.size, AV.sizeL, AV.layable, argEnv, j171, j172, ↓reduceIte, Nat.reduceAdd, Nat.reduceEqDiff, j182, j197, j391, j392]
  refine CallTo.pure (args := [u.av]) rfl fok52 (by simp -dsimp -implicitDefEqProofs only [↓j25, ↓j29, j173, j174, ↓reduceIte]) (fun x hx => (args_ud x hx).2) (rtext_spec u hu hs) ?_
  simp -dsimp -implicitDefEqProofs only [↓j0, ↓j1, ↓j10, j17, j18, j20, ↓j25, ↓j29, ↓j30, j33, ↓j39, ↓j48, ↓j58, ↓j59, ↓j89, j141, ↓j145, ↓j146, j154, j171, ↓reduceIte, j185, j259, str_bytes, hl, hw]
  exact Final.one (.inr rfl) (r := .tmp 2) rfl ⟨rfl, fun vs h => by cases h⟩ (fun vs h => by cases h) (fun vs h => by cases h) (.same _ trivial)
end Go.Proofs.Ytimdepgenefkmaa
