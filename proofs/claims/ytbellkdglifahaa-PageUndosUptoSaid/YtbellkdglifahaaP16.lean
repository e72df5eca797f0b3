/- Undo pages are put. -/
import Derived.Test.YtbellkdglifahaaP15
import Derived.Test.YtbellkdglifahaaF40
set_option linter.unusedVariables false
set_option linter.unusedSimpArgs false
namespace Go.Proofs.Ytbellkdglifahaa
open Go Go.RowKit

def undoRest (u : Ud) : List UInt8 := UInt8.ofNat u.olds.length :: textL u.olds
def putUndo (no : Nat) (u : Ud) : List UInt8 := if mayP u then sealP 2 no u.lsn (undoRest u ++ zb (208 - sumS u.olds)) else zb 224
abbrev putAV (no : Nat) (u : Ud) : AV := .tuple [arrAV (putUndo no u), .int .i64 (if mayP u then 0 else 1)]
theorem args_nu {no : Nat} {u : Ud} : ∀ x, x ∈ [AV.int .u16 (no : Int), u.av] → AV.on (fun _ => False) x ∧ ∀ vs, x ≠ .tuple vs := fun x hx => by
  simp only [List.mem_cons, List.not_mem_nil, or_false] at hx
  rcases hx with rfl | rfl
  · exact ⟨trivial, fun vs h => by cases h⟩
  · exact ⟨on_ud _ _, fun vs h => by cases h⟩
def puL (u : Ud) (i : Nat) : List UInt8 := zb 15 ++ (UInt8.ofNat u.olds.length :: (textL (u.olds.take i) ++ zb (208 - sumS (u.olds.take i))))
theorem puL_len {u : Ud} (h : sumS u.olds ≤ 208) (i : Nat) : (puL u i).length = 224 := by
  have := sumS_take_le u.olds i
  simp only [puL, List.length_append, List.length_cons, zb_len, textL_len]; omega
theorem puL_step {u : Ud} (h : sumS u.olds ≤ 208) {i : Nat} {o : Od} (ho : u.olds[i]? = some o) : (puL u i).take (16 + sumS (u.olds.take i)) ++ o.text ++ (puL u i).drop (16 + sumS (u.olds.take i) + o.size) = puL u (i + 1) := by
  have h1 := sumS_take ho
  have h2 := sumS_take_le u.olds (i + 1)
  have hT : textL (u.olds.take (i + 1)) = textL (u.olds.take i) ++ o.text := by rw [take_succ ho, textL_append]; simp [textL]
  obtain ⟨T, hTe⟩ : ∃ T, textL (u.olds.take i) = T := ⟨_, rfl⟩
  have hTl : T.length = sumS (u.olds.take i) := by rw [← hTe, textL_len]
  have hp : puL u i = (zb 15 ++ (UInt8.ofNat u.olds.length :: T)) ++ zb (208 - sumS (u.olds.take i)) := by unfold puL; rw [hTe]; simp
  have hpl : (zb 15 ++ (UInt8.ofNat u.olds.length :: T)).length = 16 + sumS (u.olds.take i) := by rw [List.length_append, List.length_cons, zb_len, hTl]; omega
  have hx := o.text_len
  rw [hp, List.take_append_of_le_length (by omega), List.take_of_length_le (by omega), List.drop_append, List.drop_eq_nil_of_le (by omega), List.nil_append, hpl, show 16 + sumS (u.olds.take i) + o.size - (16 + sumS (u.olds.take i)) = o.size by omega]
  have hdz : List.drop o.size (zb (208 - sumS (u.olds.take i))) = zb (208 - sumS (u.olds.take i) - o.size) := by rw [zb, List.drop_replicate]; rfl
  unfold puL
  rw [hT, hTe, h1, hdz, show 208 - (sumS (u.olds.take i) + o.size) = 208 - sumS (u.olds.take i) - o.size by omega]
  simp
def puT (no : Nat) (u : Ud) (i : Nat) : Env := [(23, .int .i64 i), (22, .int .i64 u.olds.length), (21, odsAV u.olds), (7, .int .i64 (16 + sumS (u.olds.take i) : Nat)), (6, .ptr 102 0 []), (3, .ptr 100 0 []), (4, .ptr 101 0 []), (5, .int .i64 0), (0, .int .u16 no)]
def puH (u : Ud) (i : Nat) : Heap := [(102, .cells (arrAV (puL u i))), (101, .cells (arrAV (zb 224))), (100, .cells u.av)]
def puSt (no : Nat) (u : Ud) (i : Nat) : St := ⟨70, puT no u i, puH u i, 103⟩
theorem pu_onT {no : Nat} {u : Ud} {i : Nat} : onT (fun m => m < 103) (puT no u i) :=
  (onTL_cons trivial (onTL_cons trivial (onTL_cons (on_ods _ _) (onTL_cons trivial (onTL_cons (show (102 : Nat) < 103 by decide) (onTL_cons (show (100 : Nat) < 103 by decide) (onTL_cons (show (101 : Nat) < 103 by decide) (onTL_cons trivial (onTL_cons trivial onTL_nil)))))))) : onTL (fun m => m < 103) (puT no u i)).onT
theorem pu_onH {u : Ud} {i : Nat} : onH (fun m => m < 103) (puH u i) :=
  (onHL_cons (show (102 : Nat) < 103 by decide) (on_bytes _ _) (onHL_cons (show (101 : Nat) < 103 by decide) (on_bytes _ _) (onHL_cons (show (100 : Nat) < 103 by decide) (on_ud _ _) onHL_nil)) : onHL (fun m => m < 103) (puH u i)).onH
theorem putUndo_spec (no : Nat) (hno : no < 65536) (u : Ud) (hu : u.Ok) : ACall Try.prog 16 [.int .u16 no, u.av] [] (putAV no u) [] := by
  refine ACall.run (Z := Z) (N := 70) mixed hZ Try.func16 rfl rfl (by kernel_rfl) (by simp) args_nu 100 ?_
  have hz := zb_len 224
  have hl := hu.len
  simp -dsimp -implicitDefEqProofs only [↓j0, ↓j1, ↓j7, ↓j12, ↓j15, j17, j18, j20, ↓j25, ↓j27, ↓j29, ↓j30, j33, ↓j39, ↓j41, ↓j42, ↓j43, ↓j53, ↓j76, j129, ↓j145, ↓j146, ↓j153, AV.proj, AV.offOf, AV.size, AV.sizeL, AV.layable, argEnv, j170, j171, j172, reduceCtorEq, ↓reduceIte, Nat.reduceAdd, Nat.reduceEqDiff, j182, j196, j197, j312, j313, j367]
  refine CallTo.pure (args := [u.av]) rfl fok21 (by simp -dsimp -implicitDefEqProofs only [↓j25, ↓j29, j173, j174, ↓reduceIte]) (fun x hx => (args_ud x hx).2) (may_spec u hu) ?_
  cases hm : mayP u
  · simp -dsimp -implicitDefEqProofs only [↓j0, ↓j1, ↓j7, ↓j10, ↓j12, ↓j13, ↓j15, j17, j18, j19, j20, j21, j22, j23, ↓j25, ↓j27, ↓j29, ↓j30, j33, ↓j39, ↓j44, ↓j54, ↓j55, ↓j78, j84, ↓j124, j125, j127, ↓j145, ↓j146, ↓j147, ↓j149, ↓j153, partsAV, AV.proj, AV.offOf, AV.upd, AV.size, AV.layable, j170, j171, ↓reduceIte, Nat.reduceEqDiff, j182, j194, j214, j218, j219, j240, j300, j378, hz]
    have e1 : putUndo no u = zb 224 := by unfold putUndo; rw [hm]; rfl
    have e2 : (if mayP u then (0 : Int) else 1) = 1 := by rw [hm]; rfl
    rw [putAV, e1, e2]
    exact Final.many (.inr rfl) (rs := [.cell 4 32, .tmp 5]) (us := [arrAV (zb 224), .int .i64 1]) rfl ⟨⟨101, 0, [], _, rfl, rfl, rfl, rfl, by simp -dsimp -implicitDefEqProofs only [j129, j182, j240, j300, j301, hz]⟩, ⟨rfl, fun vs h => by cases h⟩, trivial⟩ (by simp) ⟨.same _ (on_bytes _ _), .same _ trivial, trivial⟩
  have hm' := hm
  unfold mayP at hm'
  simp only [Bool.and_eq_true, decide_eq_true_eq] at hm'
  obtain ⟨⟨⟨m15, mL⟩, mfit⟩, m224⟩ := hm'
  have c15 : (15 : Int) < ((224 : Nat) : Int) := by omega
  obtain ⟨y, hy⟩ := list_get (xs := zb 224) (i := 15) (by rw [hz]; omega)
  have uz := unif_bytes (zb 224)
  have hszz : AV.sizeL (((zb 224).map byteAV).take 15) = 15 * 1 := uz.sizeL_take (by simp [hz])
  have w1 : IntKind.u8.wrap (u.olds.length : Int) = ((UInt8.ofNat u.olds.length).toNat : Int) := by
    rw [wrap_u8]; simp
  have hset : ((zb 224).map byteAV).set 15 (AV.int .u8 ((UInt8.ofNat u.olds.length).toNat : Int)) = (puL u 0).map byteAV := by
    have : (zb 224).set 15 (UInt8.ofNat u.olds.length) = puL u 0 := by
      unfold puL
      rw [List.take_zero]
      rfl
    rw [← this, List.map_set]; rfl
  simp -dsimp -implicitDefEqProofs only [↓j0, ↓j1, ↓j7, ↓j9, ↓j12, ↓j13, ↓j14, ↓j15, ↓j16, j17, j18, j19, j20, j21, j22, j23, ↓j25, ↓j27, ↓j29, ↓j30, j33, ↓j38, ↓j39, ↓j41, ↓j43, ↓j44, ↓j45, ↓j46, ↓j50, ↓j55, ↓j58, ↓j62, ↓j76, ↓j78, ↓j79, j84, ↓j94, j133, j142, ↓j145, ↓j146, ↓j148, ↓j149, ↓j153, AV.proj, AV.offOf, AV.upd, AV.size, AV.sizeL, AV.layable, j163, j164, j166, j167, j170, j171, j177, ↓reduceIte, Nat.reduceAdd, Nat.reduceMul, Nat.reduceEqDiff, Int.reduceLE, Int.reduceToNat, j182, j193, j196, j197, j206, ↓j225, ↓j245, j254, j256, j302, j309, j318, j367, j389, j401, c15, hy, hszz, w1, hset, bAV]
  refine AWp.loopR (Z := Z) mixed hZ (by kernel_rfl) (fun n s => ∃ i, i + n = u.olds.length ∧ s = puSt no u i) (n0 := u.olds.length) (s0 := puSt no u 0) ?_ ⟨0, by omega, rfl⟩ ?_ rfl
  · exact Wk.sub (by simp -dsimp -implicitDefEqProofs only [↓j25, ↓j27, j167, j179, reduceCtorEq, ↓reduceIte, Nat.reduceEqDiff, j182, j183, j184, j202, j203, j204, j205, j209, j223, puT, puH] <;> simp [sumS])
  rintro n s ⟨i, hi, rfl⟩
  refine ⟨rfl, ?_⟩
  have hle := sumS_take_le u.olds i
  have hpl := puL_len (u := u) (by omega) i
  rcases Nat.lt_or_ge i u.olds.length with hlt | hge
  · have hd : decide ((i : Int) < (u.olds.length : Int)) = true := decide_eq_true (by omega)
    have hlt2 : (i : Int) < (u.olds.length : Int) := by omega
    obtain ⟨o, ho⟩ := list_get (xs := u.olds) (i := i) (by omega)
    have hoo := hu.olds o (List.mem_of_getElem? ho)
    have hof : o.fit = true := List.all_eq_true.1 mfit o (List.mem_of_getElem? ho)
    have hod : o.delta.length ≤ 66 := by
      unfold Od.fit at hof
      rw [Bool.and_eq_true] at hof
      exact of_decide_eq_true hof.2
    have hsz2 : AV.sizeL ((u.olds.map Od.av).take i) = i * 6 := (unif_od u.olds).sizeL_take (by simp; omega)
    have hw : IntKind.i64.wrap ((i : Int) + 1) = ((i + 1 : Nat) : Int) := by rw [wrap_i64 (by omega) (by omega)]; omega
    have hs1 := sumS_take ho
    have hs2 := sumS_take_le u.olds (i + 1)
    have hstep := puL_step (u := u) (by omega) ho
    have htl := o.text_len
    obtain ⟨a, ha⟩ : ∃ a, 16 + sumS (u.olds.take i) = a := ⟨_, rfl⟩
    have ha2 : 16 + sumS (u.olds.take (i + 1)) = a + o.size := by omega
    obtain ⟨q, hq⟩ : ∃ q, puL u i = q := ⟨_, rfl⟩
    rw [ha, hq] at hstep
    rw [hq] at hpl
    have uq := unif_bytes q
    have ca : (a : Int) ≤ ((224 : Nat) : Int) := by omega
    have wz : IntKind.i64.wrap ((a : Int) + (o.size : Int)) = ((a + o.size : Nat) : Int) := by rw [wrap_i64 (by omega) (by omega)]; omega
    have hn : a + (224 - a) ≤ 224 := by omega
    have mn : Nat.min o.size (224 - a) = o.size := by
      show min o.size (224 - a) = _
      omega
    have step : ∀ (t : Env) (H : Heap) (nx : Nat), SubT (puT no u (i + 1)) t → SubH (puH u (i + 1)) H → ∃ m s'', m < n ∧ (∃ i, i + m = u.olds.length ∧ s'' = puSt no u i) ∧ Wk ⟨70, t, H, nx⟩ s'' := fun t H nx ht hH =>
      ⟨n - 1, puSt no u (i + 1), by omega, ⟨i + 1, by omega, rfl⟩, Wk.trans (Wk.mk (s' := ⟨70, puT no u (i + 1), puH u (i + 1), nx⟩) ht.spec hH.spec (Nat.le_refl _) rfl) (Wk.gc (by omega) pu_onT pu_onH)⟩
    cases hlv : o.live
    · skip
      have hos : o.size = 1 := by unfold Od.size; rw [hlv]; rfl
      have hot : o.text = [0] := by unfold Od.text; rw [hlv]; rfl
      rw [hos] at mn hstep wz
      rw [hot] at hstep
      have hcp : List.take a (q.map byteAV) ++ [byteAV 0] ++ List.drop (a + 1) (q.map byteAV) = (puL u (i + 1)).map byteAV := by
        rw [← hstep, List.map_append, List.map_append, List.map_take, List.map_drop]; rfl
      simp -dsimp -implicitDefEqProofs only [↓j0, ↓j1, ↓j7, ↓j9, ↓j12, ↓j13, ↓j14, ↓j15, j17, j18, j19, j20, j21, j22, j23, ↓j25, ↓j27, ↓j29, ↓j30, j33, j34, ↓j38, ↓j39, ↓j41, ↓j43, ↓j44, ↓j45, ↓j46, ↓j48, ↓j49, ↓j52, ↓j76, ↓j77, ↓j78, ↓j79, ↓j89, ↓j92, ↓j105, j107, j129, j131, ↓j145, ↓j146, ↓j147, ↓j148, ↓j149, ↓j153, j154, j159, AV.proj, AV.offOf, AV.upd, AV.size, AV.sizeL, AV.layable, j163, j166, j167, j170, j171, j173, j174, j177, ↓reduceIte, Nat.reduceAdd, Nat.reduceMul, Nat.reduceEqDiff, j182, j185, j189, j191, j196, j197, j206, j207, j208, j214, j222, j228, j230, j231, bndAV, j232, ↓j238, ↓j239, j240, j253, j302, j310, j335, j338, j339, j341, j374, puSt, puT, puH, ha, hq, hlt2, ho, hsz2, hlv, hpl, uq, ca, mn, hcp, hn]
      rw [hos] at ha2
      exact step _ _ _ (by simp -dsimp -implicitDefEqProofs only [↓j25, reduceCtorEq, ↓reduceIte, Nat.reduceEqDiff, j182, j202, j203, puT, hw, wz, ha2] <;> simp) (by simp -dsimp -implicitDefEqProofs only [↓j27, ↓reduceIte, Nat.reduceEqDiff, j182, j204, j205, puH] <;> simp)
    · have hp1 := hoo.page
      have hp2 := hoo.ts
      have hp3 := hoo.npg
      have x1 : IntKind.u64.wrap (o.page : Int) = (o.page : Int) := by rw [wrap_u64, Nat.mod_eq_of_lt (by omega)]
      have x2 : IntKind.u64.wrap (o.ts : Int) = (o.ts : Int) := by rw [wrap_u64, Nat.mod_eq_of_lt (by omega)]
      have x3 : IntKind.u64.wrap (o.npg : Int) = (o.npg : Int) := by rw [wrap_u64, Nat.mod_eq_of_lt (by omega)]
      have l1 := putL_len o.page 2
      have l2 := putL_len o.ts 4
      have l3 := putL_len o.npg 2
      simp -dsimp -implicitDefEqProofs only [↓j0, ↓j1, ↓j4, ↓j7, ↓j8, ↓j9, ↓j12, ↓j13, ↓j14, ↓j15, j17, j18, j19, j20, j21, j22, j23, j24, ↓j25, ↓j27, ↓j29, ↓j30, j34, ↓j39, ↓j41, ↓j43, ↓j44, ↓j45, ↓j46, ↓j48, ↓j50, ↓j53, ↓j76, ↓j77, ↓j78, ↓j79, ↓j89, ↓j92, j129, j130, j131, ↓j145, ↓j146, ↓j147, ↓j149, ↓j153, j159, AV.proj, AV.offOf, AV.upd, AV.size, AV.sizeL, AV.layable, j163, j164, j166, j167, j170, j171, j172, j174, j177, ↓reduceIte, Nat.reduceAdd, Nat.reduceEqDiff, j182, j185, j191, j196, j197, j206, j207, j208, ↓j225, j253, j261, j265, j310, j338, j339, j341, j344, j374, j393, puSt, puT, puH, ha, hq, hlt2, ho, hsz2, hlv, x1]
      refine CallTo.pure (args := [.int .u64 o.page, .int .i64 ((2 : Nat) : Int)]) rfl fok32 (by simp -dsimp -implicitDefEqProofs only [↓j25, ↓j29, ↓j30, j33, j173, j174, ↓reduceIte]; rfl) (notup (fun vs h => by cases h) fun vs h => by cases h) (put_spec o.page 2 (by omega)) ?_
      have w8 : IntKind.u8.wrap (o.delta.length : Int) = ((UInt8.ofNat o.delta.length).toNat : Int) := by rw [wrap_u8]; simp
      have hb2 : bytesOf [AV.int .u8 (o.nsl.toNat : Int), AV.int .u8 ((UInt8.ofNat o.delta.length).toNat : Int)] = some [o.nsl, UInt8.ofNat o.delta.length] := bytesOf_bytes [o.nsl, UInt8.ofNat o.delta.length]
      have hu2 : Unif 1 [AV.int .u8 (o.nsl.toNat : Int), AV.int .u8 ((UInt8.ofNat o.delta.length).toNat : Int)] := fun x hx => by
        simp only [List.mem_cons, List.not_mem_nil, or_false] at hx
        rcases hx with rfl | rfl <;> rfl
      have htx : 1 :: putL o.page 2 ++ putL o.ts 4 ++ putL o.npg 2 ++ [o.nsl, UInt8.ofNat o.delta.length] ++ o.delta = o.text := by
        unfold Od.text; rw [hlv]; simp
      obtain ⟨T1, hT1⟩ : ∃ T, 1 :: putL o.page 2 = T := ⟨_, rfl⟩
      rw [hT1] at htx
      have n1 : T1.length = 3 := by rw [← hT1, List.length_cons, l1]
      obtain ⟨T2, hT2⟩ : ∃ T, T1 ++ putL o.ts 4 = T := ⟨_, rfl⟩
      rw [hT2] at htx
      have n2 : T2.length = 7 := by rw [← hT2, List.length_append, n1, l2]
      obtain ⟨T3, hT3⟩ : ∃ T, T2 ++ putL o.npg 2 = T := ⟨_, rfl⟩
      rw [hT3] at htx
      have n3 : T3.length = 9 := by rw [← hT3, List.length_append, n2, l3]
      obtain ⟨T4, hT4⟩ : ∃ T, T3 ++ [o.nsl, UInt8.ofNat o.delta.length] = T := ⟨_, rfl⟩
      rw [hT4] at htx
      have n4 : T4.length = 11 := by rw [← hT4, List.length_append, n3]; rfl
      have s0 : (ByteArray.mk #[1]).size = 1 := rfl
      have s2 : (ByteArray.mk #[o.nsl, UInt8.ofNat o.delta.length]).size = 2 := rfl
      have a1 : (ByteArray.mk #[1]) ++ (ByteArray.mk (putL o.page 2).toArray) = ByteArray.mk T1.toArray := by rw [← hT1]; exact str_append [1] _
      have a2 : (ByteArray.mk T1.toArray) ++ (ByteArray.mk (putL o.ts 4).toArray) = ByteArray.mk T2.toArray := by rw [← hT2]; exact str_append _ _
      have a3 : (ByteArray.mk T2.toArray) ++ (ByteArray.mk (putL o.npg 2).toArray) = ByteArray.mk T3.toArray := by rw [← hT3]; exact str_append _ _
      have a4 : (ByteArray.mk T3.toArray) ++ (ByteArray.mk #[o.nsl, UInt8.ofNat o.delta.length]) = ByteArray.mk T4.toArray := by rw [← hT4]; exact str_append _ [o.nsl, UInt8.ofNat o.delta.length]
      have a5 : (ByteArray.mk T4.toArray) ++ (ByteArray.mk o.delta.toArray) = ByteArray.mk o.text.toArray := by rw [← htx]; exact str_append _ _
      have k5 : 11 + o.delta.length ≤ 9223372036854775807 := by omega
      simp -dsimp -implicitDefEqProofs only [↓j4, j17, j18, j20, j24, ↓j25, ↓j27, ↓j29, ↓j30, j34, ↓j43, ↓j45, ↓j48, ↓j50, ↓j53, ↓j76, ↓j79, j117, ↓j120, j130, ↓j145, ↓j146, ↓j153, AV.proj, AV.offOf, AV.size, AV.sizeL, j163, j164, j166, j167, j170, j171, j172, j174, ↓reduceIte, Nat.reduceAdd, Nat.reduceEqDiff, Nat.reduceLeDiff, j182, j196, j197, ↓j225, j265, j267, j347, j395, str_bytes, l1, x2, s0, a1]
      refine CallTo.pure (args := [.int .u64 o.ts, .int .i64 ((4 : Nat) : Int)]) rfl fok32 (by simp -dsimp -implicitDefEqProofs only [↓j25, ↓j29, ↓j30, j33, j173, j174, ↓reduceIte]; rfl) (notup (fun vs h => by cases h) fun vs h => by cases h) (put_spec o.ts 4 (by omega)) ?_
      simp -dsimp -implicitDefEqProofs only [↓j4, j17, j18, j20, j24, ↓j25, ↓j27, ↓j29, ↓j43, ↓j45, ↓j48, ↓j50, ↓j53, ↓j76, ↓j79, j117, ↓j120, j130, ↓j145, ↓j146, ↓j153, AV.proj, AV.offOf, AV.size, AV.sizeL, j163, j164, j166, j167, j170, j171, j172, j174, ↓reduceIte, Nat.reduceAdd, Nat.reduceEqDiff, Nat.reduceLeDiff, j182, j196, j197, ↓j225, j261, j265, j272, j350, j393, str_bytes, l2, n1, a2, x3]
      refine CallTo.pure (args := [.int .u64 o.npg, .int .i64 ((2 : Nat) : Int)]) rfl fok32 (by simp -dsimp -implicitDefEqProofs only [↓j25, ↓j29, ↓j30, j33, j173, j174, ↓reduceIte]; rfl) (notup (fun vs h => by cases h) fun vs h => by cases h) (put_spec o.npg 2 (by omega)) ?_
      simp -dsimp -implicitDefEqProofs only [↓j3, ↓j4, j17, j18, j20, j24, ↓j25, ↓j27, ↓j29, ↓j39, ↓j43, ↓j45, ↓j48, ↓j50, ↓j58, ↓j59, ↓j74, ↓j76, ↓j79, ↓j106, j107, j117, ↓j120, ↓j121, j125, j126, j127, j128, j130, j132, j141, ↓j145, ↓j146, ↓j153, partsAV, AV.proj, AV.offOf, AV.size, AV.sizeL, AV.layable, j163, j164, j166, j167, j168, j169, j170, j171, j172, j173, j174, j179, j180, ↓reduceIte, Nat.reduceAdd, Nat.reduceMul, Nat.reduceEqDiff, Nat.reduceLeDiff, j182, j183, j196, j197, j213, j214, j215, j216, j217, j223, ↓j225, Nat.reducePow, j227, List.replicate, j228, j230, j231, j234, j255, j256, j258, j259, j275, j337, j350, j353, j384, j389, str_bytes, l3, n2, a3, n3, w8, hb2, hu2, s2, a4, n4, a5, k5]
      refine ⟨by kernel_rfl, ?_⟩
      have hcp : List.take a (q.map byteAV) ++ List.take o.size (o.text.map byteAV) ++ List.drop (a + o.size) (q.map byteAV) = (puL u (i + 1)).map byteAV := by
        rw [copyB, List.take_of_length_le (l := o.text) (by omega), hstep]
      simp -dsimp -implicitDefEqProofs only [↓j0, ↓j1, ↓j7, ↓j15, j17, j18, j20, j21, j22, j23, ↓j25, ↓j27, ↓j29, ↓j30, j33, ↓j38, ↓j39, ↓j48, ↓j49, ↓j52, ↓j89, ↓j105, j107, ↓j145, ↓j146, ↓j153, j154, AV.proj, AV.offOf, AV.upd, j170, j171, ↓reduceIte, Nat.reduceMul, Nat.reduceEqDiff, j182, j185, j189, j196, j207, j208, j214, j222, bndAV, j232, ↓j238, ↓j239, j240, j302, j335, htl, hpl, uq, ca, mn, hn, hcp, wz]
      exact step _ _ _ (by simp -dsimp -implicitDefEqProofs only [↓j25, reduceCtorEq, ↓reduceIte, Nat.reduceEqDiff, j182, j202, j203, puT, hw, ha2] <;> simp) (by simp -dsimp -implicitDefEqProofs only [↓j27, ↓reduceIte, Nat.reduceEqDiff, j182, j204, j205, puH] <;> simp)
  have hi2 : i = u.olds.length := by omega
  subst hi2
  have hd : decide ((u.olds.length : Int) < (u.olds.length : Int)) = false := decide_eq_false (by omega)
  have hps := pseal_spec 2 no u.lsn hno hu.lsn (puL u u.olds.length) hpl
  have hT : u.olds.take u.olds.length = u.olds := List.take_of_length_le (Nat.le_refl _)
  have hdr : (puL u u.olds.length).drop 15 = undoRest u ++ zb (208 - sumS u.olds) := by
    unfold puL undoRest
    rw [hT, List.drop_left' (zb_len 15)]
    rfl
  rw [hdr] at hps
  have hsl : (sealP 2 no u.lsn (undoRest u ++ zb (208 - sumS u.olds))).length = 224 := sealP_len (by simp only [undoRest, List.length_append, List.length_cons, textL_len, zb_len]; omega)
  have e1 : putUndo no u = sealP 2 no u.lsn (undoRest u ++ zb (208 - sumS u.olds)) := by unfold putUndo; rw [hm]; rfl
  have e2 : (if mayP u then (0 : Int) else 1) = 0 := by rw [hm]; rfl
  obtain ⟨q, hq⟩ : ∃ q, puL u u.olds.length = q := ⟨_, rfl⟩
  rw [hq] at hps hpl
  obtain ⟨p, hp⟩ : ∃ p, sealP 2 no u.lsn (undoRest u ++ zb (208 - sumS u.olds)) = p := ⟨_, rfl⟩
  rw [hp] at hps hsl e1
  have uq := unif_bytes q
  simp -dsimp -implicitDefEqProofs only [↓j0, ↓j1, ↓j7, ↓j11, ↓j12, ↓j13, ↓j15, j17, j18, j20, ↓j25, ↓j27, ↓j29, ↓j38, ↓j43, ↓j45, ↓j48, ↓j53, ↓j76, ↓j79, ↓j89, j129, j130, ↓j145, ↓j146, ↓j148, ↓j149, ↓j153, j159, AV.proj, AV.offOf, AV.sizeL, j163, j167, j171, reduceCtorEq, ↓reduceIte, Nat.reduceEqDiff, j182, j185, j197, j240, j264, j300, j301, j315, puSt, puT, puH, hq, hd, hpl]
  refine CallTo.pure (args := [.int .u8 ((2 : UInt8).toNat : Nat), .int .u16 no, .int .u64 u.lsn, arrAV q]) rfl fok33 (by simp -dsimp -implicitDefEqProofs only [↓j25, ↓j29, ↓j30, j33, j173, j174, ↓reduceIte, Nat.reduceEqDiff]; rfl) (fun x hx => (args_seal x hx).2) hps ?_
  simp -dsimp -implicitDefEqProofs only [↓j0, ↓j1, ↓j10, j17, j18, j19, j20, j21, j22, j23, ↓j25, ↓j27, ↓j29, ↓j30, j33, ↓j39, ↓j44, ↓j78, ↓j145, ↓j146, ↓j153, AV.proj, AV.offOf, AV.upd, AV.size, AV.layable, j170, j171, ↓reduceIte, Nat.reduceEqDiff, j182, j240, j300, hsl, hz]
  rw [putAV, e1, e2]
  exact Final.many (.inr rfl) (rs := [.cell 4 32, .tmp 5]) (us := [arrAV p, .int .i64 0]) rfl ⟨⟨101, 0, [], _, rfl, rfl, rfl, rfl, by simp -dsimp -implicitDefEqProofs only [j129, j182, j240, j300, j301, hsl]⟩, ⟨rfl, fun vs h => by cases h⟩, trivial⟩ (by simp) ⟨.same _ (on_bytes _ _), .same _ trivial, trivial⟩
end Go.Proofs.Ytbellkdglifahaa
