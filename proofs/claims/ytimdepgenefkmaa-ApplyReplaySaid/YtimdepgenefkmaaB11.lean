import Derived.Test.YtimdepgenefkmaaAB
import Derived.Test.YtimdepgenefkmaaF40
import Derived.Test.YtimdepgenefkmaaF41
set_option maxRecDepth 8000
set_option linter.unusedVariables false
set_option linter.unusedSimpArgs false
namespace Go.Proofs.Ytimdepgenefkmaa.Slot
open Go Go.RowKit

theorem args_ii {a b : Int} {k k' : IntKind} : ∀ x, x ∈ [AV.int k a, AV.int k' b] → AV.on (fun _ => False) x ∧ ∀ vs, x ≠ .tuple vs := fun x hx => by
  simp only [List.mem_cons, List.not_mem_nil, or_false] at hx
  rcases hx with rfl | rfl
  · exact ⟨trivial, fun vs h => by cases h⟩
  · exact ⟨trivial, fun vs h => by cases h⟩
theorem putL_take (v k : Nat) : putL v (k + 1) = putL v k ++ [UInt8.ofNat (v / 2 ^ (8 * k))] := by simp [putL, List.range_succ]
theorem str_append (a b : List UInt8) : (ByteArray.mk a.toArray) ++ (ByteArray.mk b.toArray) = ByteArray.mk (a ++ b).toArray := by
  apply ByteArray.ext
  rw [ByteArray.data_append]
  simp
def rpSt (v n i c : Nat) : St := ⟨28, [(6, .int .i64 i), (5, .str ⟨(putL v i).toArray⟩), (0, .int .u64 (v / 2 ^ (8 * i) : Nat)), (1, .int .i64 n), (4, .str ⟨#[]⟩)], [], c⟩
theorem rput_spec (v n : Nat) (hv : v < 18446744073709551616) (hn : n ≤ 8) : ACall Try.prog 48 [.int .u64 v, .int .i64 n] [] (.str ⟨(putL v n).toArray⟩) [] := by
  refine ACall.run (Z := Z) (N := 28) mixed hZ Try.func48 rfl rfl (by kernel_rfl) (by simp) args_ii 0 ?_
  have d1 : decide ((n : Int) < 0) = false := decide_eq_false (by omega)
  have d2 : decide (8 < (n : Int)) = false := decide_eq_false (by omega)
  simp -dsimp -implicitDefEqProofs only [↓j0, ↓j1, ↓j2, ↓j7, ↓j9, ↓j12, ↓j13, ↓j14, ↓j15, ↓j16, j17, j18, j20, ↓j25, ↓j29, ↓j30, j32, j33, j34, ↓j38, ↓j39, ↓j40, ↓j48, j83, ↓j89, ↓j145, ↓j146, ↓j148, ↓j149, ↓j151, j159, j161, argEnv, j163, j164, j172, j175, reduceCtorEq, ↓reduceIte, Nat.reduceEqDiff, j185, j195, j196, d1, d2]
  refine AWp.loopR (Z := Z) mixed hZ (by kernel_rfl) (fun k s => ∃ i c, i + k = n ∧ s = rpSt v n i c) (n0 := n) (s0 := rpSt v n 0 0) ?_ ⟨0, 0, by omega, rfl⟩ ?_ rfl
  · exact Wk.sub (by simp -dsimp -implicitDefEqProofs only [↓j25, j179, reduceCtorEq, ↓reduceIte, Nat.reduceMul, Nat.reduceEqDiff, j182, j183, j184, j202, j203, j204, j209, j223, Nat.reducePow] <;> simp [putL])
  rintro k s ⟨i, c, hi, rfl⟩
  refine ⟨rfl, ?_⟩
  have hql : v / 2 ^ (8 * i) < 18446744073709551616 := Nat.lt_of_le_of_lt (Nat.div_le_self _ _) hv
  have hqn : v / 2 ^ (8 * (i + 1)) = v / 2 ^ (8 * i) / 256 := by
    rw [Nat.div_div_eq_div_mul, show 8 * (i + 1) = 8 * i + 8 by omega, Nat.pow_add]
  have hpt := putL_take v i
  obtain ⟨q, hq⟩ : ∃ q, v / 2 ^ (8 * i) = q := ⟨_, rfl⟩
  obtain ⟨l, hl⟩ : ∃ l, putL v i = l := ⟨_, rfl⟩
  have hll : l.length = i := by rw [← hl, putL_len]
  rw [hq] at hql hqn hpt
  rw [hl] at hpt
  rcases Nat.lt_or_ge i n with hlt | hge
  · have hd : decide ((i : Int) < (n : Int)) = true := decide_eq_true (by omega)
    have hw : IntKind.i64.wrap ((i : Int) + 1) = ((i + 1 : Nat) : Int) := by rw [wrap_i64 (by omega) (by omega)]; omega
    have e1 : (q : Int).tmod 256 = ((q % 256 : Nat) : Int) := by rw [Int.tmod_eq_emod_of_nonneg (by omega)]; omega
    have e2 : IntKind.u64.wrap ((q : Int).tdiv 256) = ((q / 256 : Nat) : Int) := by
      rw [Int.tdiv_eq_ediv_of_nonneg (by omega), show (q : Int) / 256 = ((q / 256 : Nat) : Int) by omega, wrap_u64, Nat.mod_eq_of_lt (by omega)]
    have hby : IntKind.u8.wrap ((q % 256 : Nat) : Int) = ((q % 256 : Nat) : Int) := by rw [wrap_u8, Nat.mod_mod]
    have hbo : bytesOf [AV.int .u8 ((q % 256 : Nat) : Int)] = some [UInt8.ofNat q] := by
      simp only [bytesOf, Option.map_some]
      congr 2
      apply UInt8.toNat_inj.1
      simp
      omega
    have hu : Unif 1 [AV.int .u8 ((q % 256 : Nat) : Int)] := fun x hx => by
      simp only [List.mem_singleton] at hx; subst hx; rfl
    have hlim : i + 1 ≤ 9223372036854775807 := by omega
    have hs1 : (ByteArray.mk #[UInt8.ofNat q]).size = 1 := rfl
    have ha : (ByteArray.mk l.toArray) ++ (ByteArray.mk #[UInt8.ofNat q]) = ByteArray.mk (l ++ [UInt8.ofNat q]).toArray := str_append l [UInt8.ofNat q]
    simp -dsimp -implicitDefEqProofs only [↓j0, ↓j1, ↓j7, ↓j9, ↓j12, ↓j13, ↓j14, ↓j15, j17, j18, j20, ↓j25, ↓j27, ↓j29, ↓j30, j33, ↓j38, ↓j39, ↓j48, ↓j50, ↓j74, ↓j89, ↓j106, j107, j108, j109, j117, ↓j120, ↓j121, j125, j126, j127, j128, ↓j145, ↓j146, ↓j147, ↓j149, ↓j153, j154, j159, partsAV, AV.proj, AV.offOf, AV.size, AV.sizeL, AV.layable, j163, j166, j167, j169, j171, j172, j179, j180, reduceCtorEq, ↓reduceIte, Nat.reduceMul, Nat.reduceEqDiff, Nat.reduceLeDiff, Int.reduceEq, j182, j183, j185, j196, j197, j213, j214, j215, j217, j223, ↓j225, Nat.reducePow, j227, List.replicate, j228, j230, j231, j234, j256, j259, j403, j454, j466, rpSt, hq, hl, hd, e1, e2, hby, hbo, hu, str_bytes, hll, hs1, hlim, ha]
    exact ⟨k - 1, rpSt v n (i + 1) (c + 1), by omega, ⟨i + 1, c + 1, by omega, rfl⟩, Wk.sub (by simp -dsimp -implicitDefEqProofs only [↓j25, reduceCtorEq, ↓reduceIte, Nat.reduceEqDiff, j182, j202, j203, j204, j223, hw, hpt, hqn] <;> simp)⟩
  · have hin : i = n := by omega
    subst hin
    have hd : decide ((i : Int) < (i : Int)) = false := decide_eq_false (by omega)
    simp -dsimp -implicitDefEqProofs only [↓j0, ↓j1, ↓j7, ↓j10, ↓j11, ↓j12, ↓j13, ↓j15, j17, j18, j20, ↓j25, ↓j29, ↓j38, ↓j39, ↓j48, ↓j89, ↓j145, ↓j146, ↓j148, ↓j149, j159, j172, reduceCtorEq, ↓reduceIte, Nat.reduceEqDiff, j185, rpSt, hl, hd]
    exact Final.one (.inr rfl) (r := .tmp 4) rfl ⟨rfl, fun vs h => by cases h⟩ (fun vs h => by cases h) (fun vs h => by cases h) (.same _ trivial)
def un (x : Int) : Nat := (IntKind.u64.wrap x).toNat
theorem wrap64_eq (x : Int) : IntKind.u64.wrap x = x % 18446744073709551616 := by simp [IntKind.wrap, IntKind.signed, IntKind.bits]
theorem un_eq (x : Int) : IntKind.u64.wrap x = (un x : Int) := by
  have h := wrap64_eq x
  unfold un; omega
theorem un_lt (x : Int) : un x < 18446744073709551616 := by
  have h := wrap64_eq x
  unfold un; omega
def by8 (x : Int) : UInt8 := UInt8.ofNat x.toNat
def Old.txt (o : Old) : ByteArray := (ByteArray.mk #[1]) ++ (ByteArray.mk (putL (un o.page) 2).toArray) ++ (ByteArray.mk (putL (un o.ts) 4).toArray) ++ (ByteArray.mk (putL (un o.rpage) 2).toArray) ++ (ByteArray.mk #[by8 o.rslot, by8 (IntKind.u8.wrap (o.delta.size : Int))]) ++ o.delta
def Old.text (o : Old) : ByteArray := if o.live then o.txt else ByteArray.mk #[0]
theorem mk_size (l : List UInt8) : (ByteArray.mk l.toArray).size = l.length := by simp [ByteArray.size]
theorem Old.text_size (o : Old) : o.text.size = 1 + o.cost := by
  unfold Old.text Old.cost Old.txt
  split
  · simp only [ByteArray.size_append, mk_size, putL_len]
    show 1 + 2 + 4 + 2 + 2 + o.delta.size = _
    omega
  · rfl
def textB (n : Nat) : List Old → ByteArray
  | [] => ByteArray.mk #[by8 (IntKind.u8.wrap (n : Int))]
  | o :: r => textB n r ++ o.text
def sumC (xs : List Old) : Nat := (xs.map fun o => 1 + o.cost).sum
theorem textB_size (n : Nat) : ∀ xs, (textB n xs).size = 1 + sumC xs
  | [] => rfl
  | o :: r => by rw [textB, ByteArray.size_append, textB_size n r, o.text_size]; simp [sumC]; omega
theorem sumC_rev (xs : List Old) : sumC xs.reverse = sumC xs := by simp [sumC]
def tx (xs : List Old) (i : Nat) : ByteArray := textB xs.length (xs.take i).reverse
theorem tx_size (xs : List Old) (i : Nat) : (tx xs i).size = 1 + sumC (xs.take i) := by rw [tx, textB_size, sumC_rev]
theorem tx_succ {xs : List Old} {i : Nat} {o : Old} (h : xs[i]? = some o) : tx xs (i + 1) = tx xs i ++ o.text := by
  rw [tx, take_succ h, List.reverse_append]; rfl
theorem sumC_take {xs : List Old} {i : Nat} {o : Old} (h : xs[i]? = some o) : sumC (xs.take (i + 1)) = sumC (xs.take i) + (1 + o.cost) := by
  rw [take_succ h]; simp [sumC]
theorem sumC_le (xs : List Old) (i : Nat) : sumC (xs.take i) ≤ sumC xs := by
  conv => rhs; rw [← List.take_append_drop i xs]
  simp only [sumC, List.map_append, List.sum_append]; omega
theorem sizeOf_sum (xs : List Old) : sizeOf' xs = 16 + sumC xs := rfl
theorem len_le_sum (xs : List Old) : xs.length ≤ sumC xs := by
  have := len_le_size xs
  rw [sizeOf_sum] at this; omega
theorem fok48 : fnOk Try.prog 48 = true := by kernel_rfl
def rtT (xs : List Old) (i : Nat) : Env := [(15, .int .i64 i), (14, .int .i64 xs.length), (13, rowAV xs), (3, .str (tx xs i)), (1, .ptr 100 0 []), (2, .str ⟨#[]⟩)]
def rtSt (lsn : Int) (xs : List Old) (i : Nat) : St := ⟨56, rtT xs i, [(100, .cells (undoAV lsn xs))], 101⟩
theorem rt_onT {xs : List Old} {i : Nat} : onT (fun m => m < 101) (rtT xs i) :=
  (onTL_cons trivial (onTL_cons trivial (onTL_cons (on_olds _ _) (onTL_cons trivial (onTL_cons (show (100 : Nat) < 101 by decide) (onTL_cons trivial onTL_nil))))) : onTL (fun m => m < 101) (rtT xs i)).onT
theorem rt_onH {lsn : Int} {xs : List Old} : onH (fun m => m < 101) [(100, .cells (undoAV lsn xs))] :=
  (onHL_cons (show (100 : Nat) < 101 by decide) (on_undo _ _ _) onHL_nil : onHL (fun m => m < 101) [(100, .cells (undoAV lsn xs))]).onH
theorem notup2' {x y : AV} (hx : ∀ vs, x ≠ .tuple vs) (hy : ∀ vs, y ≠ .tuple vs) : ∀ z, z ∈ [x, y] → ∀ vs, z ≠ .tuple vs := fun z hz => by
  simp only [List.mem_cons, List.not_mem_nil, or_false] at hz
  rcases hz with rfl | rfl
  · exact hx
  · exact hy
set_option maxHeartbeats 800000 in
theorem rtext_spec (lsn : Int) (xs : List Old) (hs : sumC xs ≤ 4611686018427387904) : ACall Try.prog 52 [undoAV lsn xs] [] (.str (tx xs xs.length)) [] := by
  refine ACall.run (Z := Z) (N := 56) mixed hZ Try.func52 rfl rfl (by kernel_rfl) (by simp) args1 100 ?_
  have hl := len_le_sum xs
  have hb1 : bytesOf [AV.int .u8 (IntKind.u8.wrap (xs.length : Int))] = some [by8 (IntKind.u8.wrap (xs.length : Int))] := rfl
  have hu1 : Unif 1 [AV.int .u8 (IntKind.u8.wrap (xs.length : Int))] := fun x hx => by
    simp only [List.mem_singleton] at hx; subst hx; rfl
  simp -dsimp -implicitDefEqProofs only [↓j0, ↓j1, ↓j7, ↓j12, ↓j14, ↓j15, ↓j16, j17, j18, j20, ↓j25, ↓j27, ↓j29, ↓j30, j33, j34, ↓j38, ↓j39, ↓j42, ↓j43, ↓j45, ↓j50, ↓j58, ↓j62, ↓j74, ↓j76, ↓j79, ↓j106, j107, ↓j121, j125, j126, j127, j128, j133, j142, ↓j145, ↓j146, ↓j153, partsAV, AV.proj, AV.offOf, AV.size, AV.sizeL, AV.layable, argEnv, j163, j164, j166, j167, j169, j170, j171, j172, j179, j180, ↓reduceIte, Nat.reduceAdd, Nat.reduceMul, Nat.reduceEqDiff, Nat.reduceLeDiff, j182, j183, j196, j197, j213, j214, j215, j217, j223, ↓j225, Nat.reducePow, j227, List.replicate, j228, j230, j231, j234, j256, j259, j388, j397, j403, j454, j459, j478, hb1, hu1]
  refine AWp.loopR (Z := Z) mixed hZ (by kernel_rfl) (fun n s => ∃ i, i + n = xs.length ∧ s = rtSt lsn xs i) (n0 := xs.length) (s0 := rtSt lsn xs 0) ?_ ⟨0, by omega, rfl⟩ ?_ rfl
  · exact Wk.trans (Wk.mk (s' := ⟨56, rtT xs 0, [(100, .cells (undoAV lsn xs))], 102⟩) (SubT.spec (by simp -dsimp -implicitDefEqProofs only [↓j25, j167, j179, ↓reduceIte, Nat.reduceEqDiff, j182, j183, j184, j202, j203, j209, rtT, tx] <;> simp [textB])) (SubH.spec (by simp -dsimp -implicitDefEqProofs only [↓j27, ↓reduceIte, Nat.reduceEqDiff, j182, j204, j205] <;> simp)) (Nat.le_refl _) rfl) (Wk.gc (by omega) rt_onT rt_onH)
  rintro n s ⟨i, hi, rfl⟩
  refine ⟨rfl, ?_⟩
  rcases Nat.lt_or_ge i xs.length with hlt | hge
  · have hd : decide ((i : Int) < (xs.length : Int)) = true := decide_eq_true (by omega)
    have hlt2 : (i : Int) < (xs.length : Int) := by omega
    obtain ⟨o, ho⟩ := list_get (xs := xs) (i := i) (by omega)
    have hsz2 : AV.sizeL ((xs.map Old.av).take i) = i * 6 := (unif_olds xs).sizeL_take (by simp; omega)
    have hw : IntKind.i64.wrap ((i : Int) + 1) = ((i + 1 : Nat) : Int) := by rw [wrap_i64 (by omega) (by omega)]; omega
    have hs1 := sumC_take ho
    have hs2 := sumC_le xs (i + 1)
    have htl := o.text_size
    have hsl := tx_size xs i
    have hS := tx_succ ho
    obtain ⟨S, hSe⟩ : ∃ S, tx xs i = S := ⟨_, rfl⟩
    rw [hSe] at hS hsl
    have step : ∀ (t : Env) (H : Heap) (nx : Nat), SubT (rtT xs (i + 1)) t → SubH [(100, .cells (undoAV lsn xs))] H → ∃ m s'', m < n ∧ (∃ i, i + m = xs.length ∧ s'' = rtSt lsn xs i) ∧ Wk ⟨56, t, H, nx⟩ s'' := fun t H nx ht hH =>
      ⟨n - 1, rtSt lsn xs (i + 1), by omega, ⟨i + 1, by omega, rfl⟩, Wk.trans (Wk.mk (s' := ⟨56, rtT xs (i + 1), [(100, .cells (undoAV lsn xs))], nx⟩) ht.spec hH.spec (Nat.le_refl _) rfl) (Wk.gc (by omega) rt_onT rt_onH)⟩
    cases hlv : o.live
    · have hc : o.cost = 0 := by unfold Old.cost; rw [hlv]; rfl
      have hot : o.text = ByteArray.mk #[0] := by unfold Old.text; rw [hlv]; rfl
      rw [hot] at hS
      have s0 : (ByteArray.mk #[0]).size = 1 := rfl
      have a1 : S ++ (ByteArray.mk #[0]) = tx xs (i + 1) := hS.symm
      have k1 : S.size + 1 ≤ 9223372036854775807 := by omega
      simp -dsimp -implicitDefEqProofs only [↓j0, ↓j1, ↓j7, ↓j9, ↓j12, ↓j13, ↓j14, ↓j15, j17, j18, j19, j20, j21, j22, j23, ↓j25, ↓j27, ↓j29, ↓j30, j33, j34, ↓j38, ↓j39, ↓j41, ↓j43, ↓j44, ↓j45, ↓j46, ↓j48, ↓j76, ↓j77, ↓j78, ↓j79, ↓j89, ↓j92, j117, ↓j120, j129, j131, ↓j145, ↓j146, ↓j147, ↓j148, ↓j149, ↓j153, j154, j159, AV.proj, AV.offOf, AV.upd, AV.size, AV.sizeL, AV.layable, j163, j167, j170, j171, j177, ↓reduceIte, Nat.reduceAdd, Nat.reduceEqDiff, j182, j185, j191, j197, j206, j207, j208, j253, j294, j295, j297, j389, j423, rtSt, rtT, hSe, hlt2, ho, hsz2, hlv, s0, a1, k1]
      exact step _ _ _ (by simp -dsimp -implicitDefEqProofs only [↓j25, ↓reduceIte, Nat.reduceEqDiff, j182, j202, j203, rtT, hw] <;> simp) (by simp -dsimp -implicitDefEqProofs only [↓j27, ↓reduceIte, Nat.reduceEqDiff, j182, j204, j205] <;> simp)
    · have hc : o.cost = 10 + o.delta.size := by unfold Old.cost; rw [hlv]; rfl
      have hot : o.text = o.txt := by unfold Old.text; rw [hlv]; rfl
      have htx : (ByteArray.mk #[1]) ++ (ByteArray.mk (putL (un o.page) 2).toArray) ++ (ByteArray.mk (putL (un o.ts) 4).toArray) ++ (ByteArray.mk (putL (un o.rpage) 2).toArray) ++ (ByteArray.mk #[by8 o.rslot, by8 (IntKind.u8.wrap (o.delta.size : Int))]) ++ o.delta = o.text := by rw [hot, Old.txt]
      have x1 := un_eq o.page
      have x2 := un_eq o.ts
      have x3 := un_eq o.rpage
      have l1 := putL_len (un o.page) 2
      have l2 := putL_len (un o.ts) 4
      have l3 := putL_len (un o.rpage) 2
      have hb2 : bytesOf [AV.int .u8 o.rslot, AV.int .u8 (IntKind.u8.wrap (o.delta.size : Int))] = some [by8 o.rslot, by8 (IntKind.u8.wrap (o.delta.size : Int))] := rfl
      have hu2 : Unif 1 [AV.int .u8 o.rslot, AV.int .u8 (IntKind.u8.wrap (o.delta.size : Int))] := fun x hx => by
        simp only [List.mem_cons, List.not_mem_nil, or_false] at hx
        rcases hx with rfl | rfl <;> rfl
      have a1 : ∃ T, (ByteArray.mk #[1]) ++ (ByteArray.mk (putL (un o.page) 2).toArray) = T := ⟨_, rfl⟩
      obtain ⟨T1, a1⟩ := a1
      rw [a1] at htx
      have n1 : T1.size = 3 := by rw [← a1, ByteArray.size_append, mk_size (putL _ _), l1]; rfl
      obtain ⟨T2, a2⟩ : ∃ T, T1 ++ (ByteArray.mk (putL (un o.ts) 4).toArray) = T := ⟨_, rfl⟩
      rw [a2] at htx
      have n2 : T2.size = 7 := by rw [← a2, ByteArray.size_append, mk_size (putL _ _), n1, l2]
      obtain ⟨T3, a3⟩ : ∃ T, T2 ++ (ByteArray.mk (putL (un o.rpage) 2).toArray) = T := ⟨_, rfl⟩
      rw [a3] at htx
      have n3 : T3.size = 9 := by rw [← a3, ByteArray.size_append, mk_size (putL _ _), n2, l3]
      have s2 : (ByteArray.mk #[by8 o.rslot, by8 (IntKind.u8.wrap (o.delta.size : Int))]).size = 2 := rfl
      obtain ⟨T4, a4⟩ : ∃ T, T3 ++ (ByteArray.mk #[by8 o.rslot, by8 (IntKind.u8.wrap (o.delta.size : Int))]) = T := ⟨_, rfl⟩
      rw [a4] at htx
      have n4 : T4.size = 11 := by rw [← a4, ByteArray.size_append, n3, s2]
      have s0 : (ByteArray.mk #[1]).size = 1 := rfl
      have a5 := htx
      have a6 : S ++ o.text = tx xs (i + 1) := hS.symm
      have k5 : 11 + o.delta.size ≤ 9223372036854775807 := by omega
      have k6 : S.size + (1 + o.cost) ≤ 9223372036854775807 := by omega
      simp -dsimp -implicitDefEqProofs only [↓j0, ↓j1, ↓j4, ↓j7, ↓j8, ↓j9, ↓j12, ↓j13, ↓j14, ↓j15, j17, j18, j19, j20, j21, j22, j23, j24, ↓j25, ↓j27, ↓j29, ↓j38, ↓j41, ↓j43, ↓j44, ↓j45, ↓j46, ↓j48, ↓j50, ↓j53, ↓j76, ↓j77, ↓j78, ↓j79, ↓j89, ↓j92, j129, j130, j131, ↓j145, ↓j146, ↓j147, ↓j149, ↓j153, j159, AV.proj, AV.offOf, AV.upd, AV.size, AV.sizeL, AV.layable, j163, j164, j166, j167, j170, j171, j172, j174, j177, ↓reduceIte, Nat.reduceAdd, Nat.reduceEqDiff, j182, j185, j191, j196, j197, j206, j207, j208, ↓j225, j253, j261, j280, j294, j295, j297, j300, j389, j423, j463, rtSt, rtT, hSe, hlt2, ho, hsz2, hlv, x1]
      refine CallTo.pure (args := [.int .u64 (un o.page), .int .i64 ((2 : Nat) : Int)]) rfl fok48 (by simp -dsimp -implicitDefEqProofs only [↓j25, ↓j29, ↓j30, j33, j173, j174, ↓reduceIte]; rfl) (notup2' (fun vs h => by cases h) fun vs h => by cases h) (rput_spec _ 2 (un_lt _) (by omega)) ?_
      simp -dsimp -implicitDefEqProofs only [↓j4, j17, j18, j20, j24, ↓j25, ↓j27, ↓j29, ↓j30, j34, ↓j43, ↓j45, ↓j48, ↓j50, ↓j53, ↓j76, ↓j79, j117, ↓j120, j130, ↓j145, ↓j146, ↓j153, AV.proj, AV.offOf, AV.size, AV.sizeL, j163, j164, j166, j167, j170, j171, j172, j174, ↓reduceIte, Nat.reduceAdd, Nat.reduceEqDiff, Nat.reduceLeDiff, j182, j196, j197, ↓j225, j280, j282, j303, j467, str_bytes, l1, x2, s0, a1]
      refine CallTo.pure (args := [.int .u64 (un o.ts), .int .i64 ((4 : Nat) : Int)]) rfl fok48 (by simp -dsimp -implicitDefEqProofs only [↓j25, ↓j29, ↓j30, j33, j173, j174, ↓reduceIte]; rfl) (notup2' (fun vs h => by cases h) fun vs h => by cases h) (rput_spec _ 4 (un_lt _) (by omega)) ?_
      simp -dsimp -implicitDefEqProofs only [↓j4, j17, j18, j20, j24, ↓j25, ↓j27, ↓j29, ↓j43, ↓j45, ↓j48, ↓j50, ↓j53, ↓j76, ↓j79, j117, ↓j120, j130, ↓j145, ↓j146, ↓j153, AV.proj, AV.offOf, AV.size, AV.sizeL, j163, j164, j166, j167, j170, j171, j172, j174, ↓reduceIte, Nat.reduceAdd, Nat.reduceEqDiff, Nat.reduceLeDiff, j182, j196, j197, ↓j225, j261, j280, j287, j306, j463, str_bytes, l2, n1, a2, x3]
      refine CallTo.pure (args := [.int .u64 (un o.rpage), .int .i64 ((2 : Nat) : Int)]) rfl fok48 (by simp -dsimp -implicitDefEqProofs only [↓j25, ↓j29, ↓j30, j33, j173, j174, ↓reduceIte]; rfl) (notup2' (fun vs h => by cases h) fun vs h => by cases h) (rput_spec _ 2 (un_lt _) (by omega)) ?_
      simp -dsimp -implicitDefEqProofs only [↓j3, ↓j4, j17, j18, j20, j24, ↓j25, ↓j27, ↓j29, ↓j39, ↓j43, ↓j45, ↓j48, ↓j50, ↓j58, ↓j59, ↓j74, ↓j76, ↓j79, ↓j106, j107, j117, ↓j120, ↓j121, j125, j126, j127, j128, j130, j132, j141, ↓j145, ↓j146, ↓j153, partsAV, AV.proj, AV.offOf, AV.size, AV.sizeL, AV.layable, j163, j164, j166, j167, j168, j169, j170, j171, j172, j173, j174, j179, j180, ↓reduceIte, Nat.reduceAdd, Nat.reduceMul, Nat.reduceEqDiff, Nat.reduceLeDiff, j182, j183, j196, j197, j213, j214, j215, j216, j217, j223, ↓j225, Nat.reducePow, j227, List.replicate, j228, j230, j231, j234, j255, j256, j258, j259, j290, j306, j309, j403, j454, j459, str_bytes, l3, n2, a3, n3, hb2, hu2, s2, a4, n4, a5, k5, htl, a6, k6]
      refine ⟨by kernel_rfl, ?_⟩
      simp -dsimp -implicitDefEqProofs only [↓j0, ↓j1, ↓j7, ↓j15, j17, j18, j20, ↓j25, ↓j29, ↓j30, j33, ↓j38, ↓j48, ↓j89, ↓j145, ↓j146, j154, j171, ↓reduceIte, Nat.reduceEqDiff, j185]
      exact step _ _ _ (by simp -dsimp -implicitDefEqProofs only [↓j25, ↓reduceIte, Nat.reduceEqDiff, j182, j202, j203, rtT, hw] <;> simp) (by simp -dsimp -implicitDefEqProofs only [↓j27, ↓reduceIte, Nat.reduceEqDiff, j182, j204, j205] <;> simp)
  · have hi2 : i = xs.length := by omega
    subst hi2
    have hd : decide ((xs.length : Int) < (xs.length : Int)) = false := decide_eq_false (by omega)
    simp -dsimp -implicitDefEqProofs only [↓j0, ↓j1, ↓j7, ↓j10, ↓j11, ↓j12, ↓j13, ↓j15, j17, j18, j20, ↓j25, ↓j29, ↓j38, ↓j39, ↓j48, ↓j89, ↓j145, ↓j146, ↓j148, ↓j149, j159, j171, ↓reduceIte, Nat.reduceEqDiff, j185, rtSt, rtT, hd]
    exact Final.one (.inr rfl) (r := .tmp 2) rfl ⟨rfl, fun vs h => by cases h⟩ (fun vs h => by cases h) (fun vs h => by cases h) (.same _ trivial)
theorem fok52 : fnOk Try.prog 52 = true := by kernel_rfl
theorem rsize_spec (lsn : Int) (xs : List Old) (hs : sumC xs ≤ 4611686018427387904) : ACall Try.prog 60 [undoAV lsn xs] [] (.int .i64 (sizeOf' xs : Nat)) [] := by
  refine ACall.run (Z := Z) (N := 7) mixed hZ Try.func60 rfl rfl (by kernel_rfl) (by simp) args1 100 ?_
  have hl := tx_size xs xs.length
  rw [List.take_of_length_le (Nat.le_refl _)] at hl
  have hso := sizeOf_sum xs
  have hw : IntKind.i64.wrap (15 + ((1 + sumC xs : Nat) : Int)) = ((sizeOf' xs : Nat) : Int) := by rw [wrap_i64 (by omega) (by omega)]; omega
  simp -dsimp -implicitDefEqProofs only [↓j0, ↓j1, ↓j7, ↓j12, ↓j15, j17, j18, j20, ↓j25, ↓j27, ↓j29, ↓j30, j33, ↓j39, ↓j42, ↓j43, ↓j53, ↓j76, j129, ↓j145, ↓j146, ↓j153, AV.proj, AV.offOf, AV.size, AV.sizeL, AV.layable, argEnv, j171, j172, ↓reduceIte, Nat.reduceAdd, Nat.reduceEqDiff, j182, j197, j391, j392]
  refine CallTo.pure (args := [undoAV lsn xs]) rfl fok52 (by simp -dsimp -implicitDefEqProofs only [↓j25, ↓j29, j173, j174, ↓reduceIte]) (fun x hx => (args1 x hx).2) (rtext_spec lsn xs hs) ?_
  simp -dsimp -implicitDefEqProofs only [↓j0, ↓j1, ↓j10, j17, j18, j20, ↓j25, ↓j29, ↓j30, j33, ↓j39, ↓j48, ↓j58, ↓j59, ↓j89, j141, ↓j145, ↓j146, j154, j171, ↓reduceIte, j185, j259, hl, hw]
  exact Final.one (.inr rfl) (r := .tmp 2) rfl ⟨rfl, fun vs h => by cases h⟩ (fun vs h => by cases h) (fun vs h => by cases h) (.same _ trivial)
end Go.Proofs.Ytimdepgenefkmaa.Slot
