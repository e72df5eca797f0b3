/- A master's block, read. -/
import Derived.Test.YthfaldoagmkllaaE3
set_option linter.unusedVariables false
set_option linter.unusedSimpArgs false
namespace Go.Proofs.Ythfaldoagmkllaa
open Go Go.RowKit

theorem notup3 {x y z : AV} (hx : ∀ vs, x ≠ .tuple vs) (hy : ∀ vs, y ≠ .tuple vs) (hz : ∀ vs, z ≠ .tuple vs) : ∀ w, w ∈ [x, y, z] → ∀ vs, w ≠ .tuple vs := fun w hw => by
  simp only [List.mem_cons, List.not_mem_nil, or_false] at hw
  rcases hw with rfl | rfl | rfl
  · exact hx
  · exact hy
  · exact hz
def numAt (p : List UInt8) (o n : Nat) : Nat := getL ((p.drop o).take n)
theorem numAt_lt {p : List UInt8} {o n : Nat} : numAt p o n < 2 ^ (8 * n) := by
  refine Nat.lt_of_lt_of_le (getL_lt _) (Nat.pow_le_pow_right (by decide) ?_)
  have := List.length_take_le n (p.drop o)
  omega
def msOf (p : List UInt8) : Ms := ⟨numAt p 6 8, numAt p 14 4, numAt p 18 4, numAt p 22 8, numAt p 30 4, numAt p 34 2, numAt p 36 2, numAt p 38 2, numAt p 40 4⟩
theorem msOf_ok (p : List UInt8) : (msOf p).Ok := ⟨numAt_lt (n := 8), numAt_lt (n := 4), numAt_lt (n := 4), numAt_lt (n := 8), numAt_lt (n := 4), numAt_lt (n := 4)⟩
def unpackM (b : List UInt8) : Option Ms := if openOk b then (if mayM (msOf (partsL b 4)) && (packM (msOf (partsL b 4)) == b) then some (msOf (partsL b 4)) else none) else none
abbrev muAV (r : Option Ms) : AV := .tuple [(r.getD .zero).av, .bool r.isSome]
abbrev strH (p : List UInt8) (o : Nat) : Heap := [(3, .cells (.str ⟨(p.drop o).toArray⟩))]
theorem args_num {n : Nat} {p : List UInt8} {o : Nat} : ∀ x, x ∈ [AV.int .i64 (n : Int), .ptr 3 0 []] → AV.on (fun k => k ∈ (strH p o).map (·.1)) x ∧ ∀ vs, x ≠ .tuple vs := fun x hx => by
  simp only [List.mem_cons, List.not_mem_nil, or_false] at hx
  rcases hx with rfl | rfl
  · exact ⟨trivial, fun vs h => by cases h⟩
  · exact ⟨by show (3 : Nat) ∈ _; simp, fun vs h => by cases h⟩
/-- The reader of numbers within Unpack. -/
theorem num_spec (p : List UInt8) (o n : Nat) (hn : n ≤ 8) (h : o + n ≤ p.length) (hl : p.length ≤ 9223372036854775807) : ACall Try.prog 31 [.int .i64 n, .ptr 3 0 []] (strH p o) (.int .u64 (numAt p o n : Nat)) (strH p (o + n)) := by
  refine ACall.runH (Z := Z) (N := 16) mixed hZ Try.func31 rfl rfl (by kernel_rfl) (by simp) args_num (fun k b hb => ?_) 4 (fun k hk => by simp at hk; omega) ?_
  · simp only [Heap.get] at hb
    split at hb
    · cases hb; trivial
    · cases hb
  have hdl : (p.drop o).length = p.length - o := by simp
  have hg := get_spec (p.drop o) 0 n hn (by omega) (by omega)
  rw [List.drop_zero] at hg
  have hg : ACall Try.prog 32 [.str ⟨(p.drop o).toArray⟩, .int .i64 ((0 : Nat) : Int), .int .i64 n] [] (.tuple [.int .u64 (numAt p o n : Nat), .bool true]) [] := hg
  have hex : (ByteArray.mk (p.drop o).toArray).extract n (p.length - o) = ⟨(p.drop (o + n)).toArray⟩ := by
    apply ByteArray.ext
    rw [ByteArray.data_extract]
    rw [List.extract_toArray, List.extract_eq_take_drop, List.take_of_length_le (by simp; omega), List.drop_drop]
  have hsz := str_bytes (p.drop o)
  rw [hdl] at hsz
  obtain ⟨s, hs⟩ : ∃ s, p.drop o = s := ⟨_, rfl⟩
  obtain ⟨s2, hs2⟩ : ∃ s, p.drop (o + n) = s := ⟨_, rfl⟩
  rw [hs] at hg hex hsz
  rw [hs2] at hex
  simp -dsimp -implicitDefEqProofs only [↓j0, ↓j1, ↓j7, ↓j12, ↓j15, j17, j18, j20, ↓j25, ↓j27, ↓j29, ↓j30, j33, ↓j38, ↓j39, ↓j43, ↓j53, ↓j76, j132, ↓j145, ↓j146, ↓j153, AV.proj, AV.offOf, argEnv, j171, reduceCtorEq, ↓reduceIte, Nat.reduceEqDiff, j182, j196, j258, strH, hs]
  refine CallTo.pure (args := [.str ⟨s.toArray⟩, .int .i64 ((0 : Nat) : Int), .int .i64 (n : Int)]) rfl fok32 (by simp -dsimp -implicitDefEqProofs only [↓j25, ↓j29, ↓j30, j33, j173, j174, ↓reduceIte, Nat.reduceEqDiff]; rfl) (notup3 (fun vs h => by cases h) (fun vs h => by cases h) fun vs h => by cases h) hg ?_
  simp -dsimp -implicitDefEqProofs only [↓j0, ↓j1, ↓j7, ↓j12, ↓j15, j17, j18, j20, ↓j25, ↓j27, ↓j29, ↓j38, ↓j39, ↓j43, ↓j49, ↓j57, ↓j76, j85, ↓j97, j132, ↓j145, ↓j146, ↓j153, AV.proj, AV.offOf, j163, j164, j171, reduceCtorEq, ↓reduceIte, Nat.reduceEqDiff, j182, j183, j184, j208, bndAV, j232, j258, j259, hsz]
  refine ⟨by omega, ?_⟩
  simp -dsimp -implicitDefEqProofs only [↓j0, ↓j1, ↓j7, ↓j10, ↓j12, ↓j15, j17, j18, j19, j20, j21, j22, j23, ↓j25, ↓j27, ↓j29, ↓j38, ↓j39, ↓j44, ↓j78, ↓j145, ↓j146, ↓j153, AV.proj, AV.offOf, AV.upd, AV.size, AV.layable, j171, j172, reduceCtorEq, ↓reduceIte, Nat.reduceEqDiff, j182, j207, j257, hex]
  rw [hs2]
  exact Final.oneH (.inr rfl) (r := .tmp 3) rfl ⟨rfl, fun vs h => by cases h⟩ (fun vs h => by cases h) (fun vs h => by cases h) (.same _ trivial) (fun k b hb => by
    simp only [Heap.get] at hb
    split at hb
    · rename_i h3; cases hb; subst h3; exact ⟨_, rfl, .same _ trivial⟩
    · cases hb)
theorem on_arr1 {b : List UInt8} : ∀ x, x ∈ [arrAV b] → AV.on (fun _ => False) x ∧ ∀ vs, x ≠ .tuple vs := fun x hx => by
  simp only [List.mem_singleton] at hx; subst hx; exact ⟨on_bytes _ _, fun vs h => by cases h⟩
set_option maxHeartbeats 1600000 in
theorem unpack_spec (b : List UInt8) (hb : b.length = 256) : ACall Try.prog 10 [arrAV b] [] (muAV (unpackM b)) [] := by
  refine ACall.run (Z := Z) (N := 70) mixed hZ Try.func10 rfl rfl (by kernel_rfl) (by simp) on_arr1 0 ?_
  have hz := zb_len 256
  have hz2 := zb_len 224
  have hos := open_spec b hb
  have err : ∀ (t : Env) (H : Heap) (nx : Nat), unpackM b = none → look t 2 = some (.ptr 1 0 []) → look t 3 = some (.bool false) → Heap.get H 1 = some (.cells Ms.zero.av) → Final Try.prog Try.f10 (muAV (unpackM b)) [] .ret ⟨70, t, H, nx⟩ := fun t H nx hn h4 h5 hH => by
    rw [hn]
    exact Final.many (.inr rfl) (rs := [.cell 2 27, .tmp 3]) (us := [Ms.zero.av, .bool false]) rfl ⟨⟨1, 0, [], _, h4, hH, rfl, rfl, by simp -dsimp -implicitDefEqProofs only [j129, AV.size, AV.sizeL, Nat.reduceAdd, j182, j197, j282, j283]⟩, ⟨h5, fun vs h => by cases h⟩, trivial⟩ (by simp) ⟨.same _ (on_ms _ _), .same _ trivial, trivial⟩
  cases ho : openOk b
  · have hop : openP b = (0, zb 224, false) := by unfold openP; rw [ho]; rfl
    rw [hop] at hos
    have hos : ACall Try.prog 30 [arrAV b] [] (.tuple [.int .u64 0, arrAV (zb 224), .bool false]) [] := hos
    simp -dsimp -implicitDefEqProofs only [↓j0, ↓j1, ↓j7, ↓j12, ↓j15, j17, j18, j20, ↓j25, ↓j27, ↓j29, ↓j30, j32, ↓j39, ↓j41, ↓j42, ↓j43, ↓j53, ↓j76, j129, ↓j145, ↓j146, ↓j153, AV.proj, AV.offOf, AV.layable, argEnv, j170, j171, j172, reduceCtorEq, ↓reduceIte, Nat.reduceAdd, Nat.reduceEqDiff, j182, j196, j240, j309, j310, j412, hb]
    refine CallTo.pure (args := [arrAV b]) rfl fok30 (by simp -dsimp -implicitDefEqProofs only [↓j25, ↓j29, j173, j174, ↓reduceIte]) (fun x hx => (on_arr1 x hx).2) hos ?_
    simp -dsimp -implicitDefEqProofs only [↓j0, ↓j1, ↓j7, ↓j10, ↓j12, ↓j13, ↓j15, j17, j18, j19, j20, j21, j22, j23, ↓j25, ↓j27, ↓j29, ↓j30, j32, ↓j38, ↓j39, ↓j41, ↓j44, ↓j54, ↓j55, ↓j57, ↓j78, j84, j85, ↓j124, j125, j127, ↓j145, ↓j146, ↓j147, ↓j149, ↓j153, partsAV, AV.proj, AV.offOf, AV.upd, AV.size, AV.sizeL, AV.layable, j163, j164, j170, j171, reduceCtorEq, ↓reduceIte, Nat.reduceAdd, Nat.reduceEqDiff, j182, j194, j197, j214, j218, j219, j240, j282, j333, j420, j432, hz2]
    exact err _ _ _ (by unfold unpackM; rw [ho]; rfl) rfl rfl rfl
  have hop : openP b = (stampAt b 0, partsL b 4, true) := by unfold openP; rw [ho]; rfl
  rw [hop] at hos
  have hpl : (partsL b 4).length = 224 := by rw [partsL_len hb 4 (by omega)]
  have hU : unpackM b = if mayM (msOf (partsL b 4)) && (packM (msOf (partsL b 4)) == b) then some (msOf (partsL b 4)) else none := by unfold unpackM; rw [ho, if_pos rfl]
  have hps := pack_spec (msOf (partsL b 4)) (msOf_ok _)
  obtain ⟨p, hp⟩ : ∃ p, partsL b 4 = p := ⟨_, rfl⟩
  rw [hp] at hos hpl hU hps
  have hos : ACall Try.prog 30 [arrAV b] [] (.tuple [.int .u64 (stampAt b 0 : Nat), arrAV p, .bool true]) [] := hos
  have up := unif_bytes p
  have hbo : bytesOf (List.take 218 (List.drop 6 (p.map byteAV))) = some (p.drop 6) := by
    rw [← List.map_drop, List.take_of_length_le (by simp; omega)]; exact bytesOf_bytes _
  have i1 : (!true) = false := rfl
  have tup : ∀ (n : Nat), ∀ x, x ∈ [AV.int .i64 (n : Int)] → ∀ vs, x ≠ .tuple vs := fun n x hx => by
    simp only [List.mem_singleton] at hx; subst hx; exact fun vs h => by cases h
  have hcap : ∀ x, x ∈ [AV.ptr 3 0 []] → (∀ vs, x ≠ .tuple vs) ∧ ∀ vs, x ≠ .agg vs := fun x hx => by
    simp only [List.mem_singleton] at hx; subst hx; exact ⟨(fun vs h => by cases h), (fun vs h => by cases h)⟩
  have hnew : ∀ (o o2 : Nat) (a b : Nat), ∀ n x, Heap.get (strH p o) n = some x → n ∉ (strH p o2).map (·.1) → a ≤ n ∧ n < b := fun o o2 a b n x h hn => by
    simp only [strH, Heap.get] at h
    by_cases h1 : n = 3
    · subst h1; simp at hn
    · simp [h1] at h
  simp -dsimp -implicitDefEqProofs only [↓j0, ↓j1, ↓j7, ↓j12, ↓j15, j17, j18, j20, ↓j25, ↓j27, ↓j29, ↓j30, j32, ↓j39, ↓j41, ↓j42, ↓j43, ↓j53, ↓j76, j129, ↓j145, ↓j146, ↓j153, AV.proj, AV.offOf, AV.layable, argEnv, j170, j171, j172, reduceCtorEq, ↓reduceIte, Nat.reduceAdd, Nat.reduceEqDiff, j182, j196, j240, j309, j310, j412, hb]
  refine CallTo.pure (args := [arrAV b]) rfl fok30 (by simp -dsimp -implicitDefEqProofs only [↓j25, ↓j29, j173, j174, ↓reduceIte]) (fun x hx => (on_arr1 x hx).2) hos ?_
  simp -dsimp -implicitDefEqProofs only [↓j0, ↓j1, ↓j7, ↓j9, ↓j12, ↓j13, ↓j15, j17, j18, j19, j20, j21, j22, j23, ↓j25, ↓j27, ↓j29, ↓j30, j33, ↓j38, ↓j39, ↓j41, ↓j44, ↓j49, ↓j55, ↓j57, ↓j78, j84, j85, j107, ↓j145, ↓j146, ↓j148, ↓j149, ↓j153, AV.proj, AV.offOf, AV.upd, AV.size, AV.layable, j163, j164, j170, j171, reduceCtorEq, ↓reduceIte, Nat.reduceAdd, Nat.reduceMul, Nat.reduceEqDiff, Int.reduceLE, j182, j183, j184, bndAV, j232, ↓j238, j240, j333, j335, j420, hz2, hpl, i1]
  have f1 := num_spec p 6 8 (by omega) (by omega) (by omega)
  have b1 : numAt p 6 8 < 2 ^ (8 * 8) := numAt_lt
  obtain ⟨N1, hN1⟩ : ∃ x, numAt p 6 8 = x := ⟨_, rfl⟩
  rw [hN1] at f1 b1
  have f2 := num_spec p 14 4 (by omega) (by omega) (by omega)
  have b2 : numAt p 14 4 < 2 ^ (8 * 4) := numAt_lt
  obtain ⟨N2, hN2⟩ : ∃ x, numAt p 14 4 = x := ⟨_, rfl⟩
  rw [hN2] at f2 b2
  have x2 : IntKind.u32.wrap (N2 : Int) = (N2 : Int) := by rw [wrap_u32, Nat.mod_eq_of_lt (by omega)]
  have f3 := num_spec p 18 4 (by omega) (by omega) (by omega)
  have b3 : numAt p 18 4 < 2 ^ (8 * 4) := numAt_lt
  obtain ⟨N3, hN3⟩ : ∃ x, numAt p 18 4 = x := ⟨_, rfl⟩
  rw [hN3] at f3 b3
  have x3 : IntKind.u32.wrap (N3 : Int) = (N3 : Int) := by rw [wrap_u32, Nat.mod_eq_of_lt (by omega)]
  have f4 := num_spec p 22 8 (by omega) (by omega) (by omega)
  have b4 : numAt p 22 8 < 2 ^ (8 * 8) := numAt_lt
  obtain ⟨N4, hN4⟩ : ∃ x, numAt p 22 8 = x := ⟨_, rfl⟩
  rw [hN4] at f4 b4
  have f5 := num_spec p 30 4 (by omega) (by omega) (by omega)
  have b5 : numAt p 30 4 < 2 ^ (8 * 4) := numAt_lt
  obtain ⟨N5, hN5⟩ : ∃ x, numAt p 30 4 = x := ⟨_, rfl⟩
  rw [hN5] at f5 b5
  have x5 : IntKind.u32.wrap (N5 : Int) = (N5 : Int) := by rw [wrap_u32, Nat.mod_eq_of_lt (by omega)]
  have f6 := num_spec p 34 2 (by omega) (by omega) (by omega)
  have b6 : numAt p 34 2 < 2 ^ (8 * 2) := numAt_lt
  obtain ⟨N6, hN6⟩ : ∃ x, numAt p 34 2 = x := ⟨_, rfl⟩
  rw [hN6] at f6 b6
  have x6 : IntKind.i64.wrap (N6 : Int) = (N6 : Int) := by rw [wrap_i64 (by omega) (by omega)]
  have f7 := num_spec p 36 2 (by omega) (by omega) (by omega)
  have b7 : numAt p 36 2 < 2 ^ (8 * 2) := numAt_lt
  obtain ⟨N7, hN7⟩ : ∃ x, numAt p 36 2 = x := ⟨_, rfl⟩
  rw [hN7] at f7 b7
  have x7 : IntKind.i64.wrap (N7 : Int) = (N7 : Int) := by rw [wrap_i64 (by omega) (by omega)]
  have f8 := num_spec p 38 2 (by omega) (by omega) (by omega)
  have b8 : numAt p 38 2 < 2 ^ (8 * 2) := numAt_lt
  obtain ⟨N8, hN8⟩ : ∃ x, numAt p 38 2 = x := ⟨_, rfl⟩
  rw [hN8] at f8 b8
  have x8 : IntKind.i64.wrap (N8 : Int) = (N8 : Int) := by rw [wrap_i64 (by omega) (by omega)]
  have f9 := num_spec p 40 4 (by omega) (by omega) (by omega)
  have b9 : numAt p 40 4 < 2 ^ (8 * 4) := numAt_lt
  obtain ⟨N9, hN9⟩ : ∃ x, numAt p 40 4 = x := ⟨_, rfl⟩
  rw [hN9] at f9 b9
  have x9 : IntKind.u32.wrap (N9 : Int) = (N9 : Int) := by rw [wrap_u32, Nat.mod_eq_of_lt (by omega)]
  refine ⟨by omega, ?_⟩
  simp -dsimp -implicitDefEqProofs only [↓j0, ↓j1, ↓j7, ↓j12, ↓j15, j17, j18, j19, j20, j21, j22, j23, ↓j25, ↓j27, ↓j29, ↓j38, ↓j39, ↓j41, ↓j44, ↓j50, ↓j53, ↓j71, ↓j78, ↓j106, j107, ↓j121, ↓j145, ↓j146, ↓j153, AV.proj, AV.offOf, AV.upd, AV.size, AV.layable, j170, j171, reduceCtorEq, ↓reduceIte, Nat.reduceAdd, Nat.reduceMul, Nat.reduceEqDiff, Nat.reduceSub, Int.reduceToNat, j182, j196, j207, j222, j223, evL, capOk, j246, j247, j248, j257, j259, j342, j408, j412, hpl, up, hbo]
  refine CallTo.genF (f := 31) (caps := [.ptr 3 0 []]) (args := [.int .i64 ((8 : Nat) : Int)]) (strH p 6) (strH p 14) 5 rfl (by simp -dsimp -implicitDefEqProofs only [↓j25, ↓j29, ↓reduceIte]) fok31 (by simp -dsimp -implicitDefEqProofs only [↓j30, j33, j173, j174]; rfl) (tup _) hcap f1 (SubH.of (by simp -dsimp -implicitDefEqProofs only [↓j27, ↓reduceIte, Nat.reduceEqDiff, j182, j204, j205])) ⟨by simp, hnew _ _ _ _⟩ ?_
  simp -dsimp -implicitDefEqProofs only [↓j1, j17, j18, j20, j21, j22, j23, ↓j25, ↓j29, ↓j38, ↓j53, ↓j145, j170, j171, j173, j174, reduceCtorEq, ↓reduceIte, Nat.reduceEqDiff]
  refine CallTo.genF (f := 31) (caps := [.ptr 3 0 []]) (args := [.int .i64 ((4 : Nat) : Int)]) (strH p 14) (strH p 18) 5 rfl (by simp -dsimp -implicitDefEqProofs only [↓j25, ↓j29, ↓reduceIte]) fok31 (by simp -dsimp -implicitDefEqProofs only [↓j30, j33, j173, j174]; rfl) (tup _) hcap f2 (SubH.of (by simp -dsimp -implicitDefEqProofs only [↓j27, ↓reduceIte, j182, j204, j205])) ⟨by simp, hnew _ _ _ _⟩ ?_
  simp -dsimp -implicitDefEqProofs only [↓j1, j17, j18, j20, j21, j22, j23, ↓j25, ↓j29, ↓j38, ↓j50, ↓j53, ↓j145, j170, j171, j173, j174, reduceCtorEq, ↓reduceIte, Nat.reduceEqDiff, ↓j225, j265, j461, x2]
  refine CallTo.genF (f := 31) (caps := [.ptr 3 0 []]) (args := [.int .i64 ((4 : Nat) : Int)]) (strH p 18) (strH p 22) 5 rfl (by simp -dsimp -implicitDefEqProofs only [↓j25, ↓j29, ↓reduceIte]) fok31 (by simp -dsimp -implicitDefEqProofs only [↓j30, j33, j173, j174]; rfl) (tup _) hcap f3 (SubH.of (by simp -dsimp -implicitDefEqProofs only [↓j27, ↓reduceIte, j182, j204, j205])) ⟨by simp, hnew _ _ _ _⟩ ?_
  simp -dsimp -implicitDefEqProofs only [↓j1, j17, j18, j20, j21, j22, j23, ↓j25, ↓j29, ↓j38, ↓j50, ↓j53, ↓j145, j170, j171, j173, j174, reduceCtorEq, ↓reduceIte, Nat.reduceEqDiff, ↓j225, j265, j461, x3]
  refine CallTo.genF (f := 31) (caps := [.ptr 3 0 []]) (args := [.int .i64 ((8 : Nat) : Int)]) (strH p 22) (strH p 30) 5 rfl (by simp -dsimp -implicitDefEqProofs only [↓j25, ↓j29, ↓reduceIte]) fok31 (by simp -dsimp -implicitDefEqProofs only [↓j30, j33, j173, j174]; rfl) (tup _) hcap f4 (SubH.of (by simp -dsimp -implicitDefEqProofs only [↓j27, ↓reduceIte, j182, j204, j205])) ⟨by simp, hnew _ _ _ _⟩ ?_
  simp -dsimp -implicitDefEqProofs only [↓j1, j17, j18, j20, j21, j22, j23, ↓j25, ↓j29, ↓j38, ↓j53, ↓j145, j170, j171, j173, j174, reduceCtorEq, ↓reduceIte, Nat.reduceEqDiff]
  refine CallTo.genF (f := 31) (caps := [.ptr 3 0 []]) (args := [.int .i64 ((4 : Nat) : Int)]) (strH p 30) (strH p 34) 5 rfl (by simp -dsimp -implicitDefEqProofs only [↓j25, ↓j29, ↓reduceIte]) fok31 (by simp -dsimp -implicitDefEqProofs only [↓j30, j33, j173, j174]; rfl) (tup _) hcap f5 (SubH.of (by simp -dsimp -implicitDefEqProofs only [↓j27, ↓reduceIte, j182, j204, j205])) ⟨by simp, hnew _ _ _ _⟩ ?_
  simp -dsimp -implicitDefEqProofs only [↓j0, ↓j1, ↓j7, ↓j12, ↓j15, j17, j18, j19, j20, j21, j22, j23, ↓j25, ↓j27, ↓j29, ↓j38, ↓j44, ↓j45, ↓j50, ↓j53, ↓j78, ↓j79, ↓j145, ↓j146, ↓j153, AV.proj, AV.offOf, AV.upd, AV.size, AV.sizeL, AV.layable, j163, j164, j166, j167, j168, j169, j170, j171, j173, j174, reduceCtorEq, ↓reduceIte, Nat.reduceAdd, Nat.reduceEqDiff, j182, j196, j197, ↓j225, j260, j263, j265, j285, j288, j291, j294, j297, j461, x5]
  refine CallTo.genF (f := 31) (caps := [.ptr 3 0 []]) (args := [.int .i64 ((2 : Nat) : Int)]) (strH p 34) (strH p 36) 5 rfl (by simp -dsimp -implicitDefEqProofs only [↓j25, ↓j29, ↓reduceIte]) fok31 (by simp -dsimp -implicitDefEqProofs only [↓j30, j33, j173, j174]; rfl) (tup _) hcap f6 (SubH.of (by simp -dsimp -implicitDefEqProofs only [↓j27, ↓reduceIte, Nat.reduceEqDiff, j182, j204, j205])) ⟨by simp, hnew _ _ _ _⟩ ?_
  simp -dsimp -implicitDefEqProofs only [↓j1, j17, j18, j20, j21, j22, j23, ↓j25, ↓j29, ↓j38, ↓j50, ↓j53, ↓j145, j170, j171, j173, j174, reduceCtorEq, ↓reduceIte, Nat.reduceEqDiff, ↓j225, j251, j461, x6]
  refine CallTo.genF (f := 31) (caps := [.ptr 3 0 []]) (args := [.int .i64 ((2 : Nat) : Int)]) (strH p 36) (strH p 38) 5 rfl (by simp -dsimp -implicitDefEqProofs only [↓j25, ↓j29, ↓reduceIte]) fok31 (by simp -dsimp -implicitDefEqProofs only [↓j30, j33, j173, j174]; rfl) (tup _) hcap f7 (SubH.of (by simp -dsimp -implicitDefEqProofs only [↓j27, ↓reduceIte, j182, j204, j205])) ⟨by simp, hnew _ _ _ _⟩ ?_
  simp -dsimp -implicitDefEqProofs only [↓j1, j17, j18, j20, j21, j22, j23, ↓j25, ↓j29, ↓j38, ↓j50, ↓j53, ↓j145, j170, j171, j173, j174, reduceCtorEq, ↓reduceIte, Nat.reduceEqDiff, ↓j225, j251, j461, x7]
  refine CallTo.genF (f := 31) (caps := [.ptr 3 0 []]) (args := [.int .i64 ((2 : Nat) : Int)]) (strH p 38) (strH p 40) 5 rfl (by simp -dsimp -implicitDefEqProofs only [↓j25, ↓j29, ↓reduceIte]) fok31 (by simp -dsimp -implicitDefEqProofs only [↓j30, j33, j173, j174]; rfl) (tup _) hcap f8 (SubH.of (by simp -dsimp -implicitDefEqProofs only [↓j27, ↓reduceIte, j182, j204, j205])) ⟨by simp, hnew _ _ _ _⟩ ?_
  simp -dsimp -implicitDefEqProofs only [↓j1, j17, j18, j20, j21, j22, j23, ↓j25, ↓j29, ↓j38, ↓j50, ↓j53, ↓j145, j170, j171, j173, j174, reduceCtorEq, ↓reduceIte, Nat.reduceEqDiff, ↓j225, j251, j461, x8]
  refine CallTo.genF (f := 31) (caps := [.ptr 3 0 []]) (args := [.int .i64 ((4 : Nat) : Int)]) (strH p 40) (strH p 44) 5 rfl (by simp -dsimp -implicitDefEqProofs only [↓j25, ↓j29, ↓reduceIte]) fok31 (by simp -dsimp -implicitDefEqProofs only [↓j30, j33, j173, j174]; rfl) (tup _) hcap f9 (SubH.of (by simp -dsimp -implicitDefEqProofs only [↓j27, ↓reduceIte, j182, j204, j205])) ⟨by simp, hnew _ _ _ _⟩ ?_
  simp -dsimp -implicitDefEqProofs only [↓j0, ↓j1, ↓j7, ↓j12, ↓j15, j17, j18, j19, j20, j21, j22, j23, ↓j25, ↓j27, ↓j29, ↓j43, ↓j44, ↓j45, ↓j50, ↓j53, ↓j54, ↓j76, ↓j78, ↓j79, ↓j124, j125, j126, j127, j128, j129, ↓j145, ↓j146, ↓j153, partsAV, AV.proj, AV.offOf, AV.upd, AV.size, AV.sizeL, AV.layable, j163, j164, j166, j167, j168, j169, j170, j171, j173, j174, j179, j180, reduceCtorEq, ↓reduceIte, Nat.reduceAdd, Nat.reduceEqDiff, j182, j183, j196, j197, j213, j214, j215, j216, j217, ↓j225, j265, j266, j270, j273, j276, j279, j282, j283, j300, j431, j461, x9]
  have hmo : msOf p = ⟨N1, N2, N3, N4, N5, N6, N7, N8, N9⟩ := by unfold msOf; rw [hN1, hN2, hN3, hN4, hN5, hN6, hN7, hN8, hN9]
  rw [hmo] at hps hU
  have hql := packM_len ⟨N1, N2, N3, N4, N5, N6, N7, N8, N9⟩
  obtain ⟨q, hq⟩ : ∃ q, packM ⟨N1, N2, N3, N4, N5, N6, N7, N8, N9⟩ = q := ⟨_, rfl⟩
  obtain ⟨y, hy⟩ : ∃ y, mayM ⟨N1, N2, N3, N4, N5, N6, N7, N8, N9⟩ = y := ⟨_, rfl⟩
  rw [hq, hy] at hps hU
  rw [hq] at hql
  have hce := cellsEq_bytes (l := q) (k := b) (by omega)
  have hk1 := kinds_bytes hql
  have hk2 := kinds_bytes hb
  have y1 : ((1 : Int) != 0) = true := rfl
  have y0 : ((0 : Int) != 0) = false := rfl
  refine CallTo.pure (args := [Ms.av ⟨N1, N2, N3, N4, N5, N6, N7, N8, N9⟩]) rfl fok8 (by simp -dsimp -implicitDefEqProofs only [↓j25, ↓j29, j173, j174, ↓reduceIte]) (fun x hx => (args_ms x hx).2) hps ?_
  cases y
  · simp -dsimp -implicitDefEqProofs only [↓j0, ↓j1, ↓j2, ↓j7, ↓j10, ↓j12, ↓j13, ↓j15, j17, j18, j19, j20, j21, j22, j23, ↓j25, ↓j27, ↓j29, ↓j30, j32, j33, ↓j38, ↓j39, ↓j40, ↓j41, ↓j44, ↓j48, ↓j54, ↓j57, ↓j78, j81, j85, ↓j89, ↓j124, j125, j127, ↓j145, ↓j146, ↓j147, ↓j149, ↓j151, ↓j153, j158, partsAV, AV.proj, AV.offOf, AV.upd, AV.size, AV.sizeL, AV.layable, j163, j164, j170, j171, j175, reduceCtorEq, ↓reduceIte, Nat.reduceAdd, Nat.reduceEqDiff, j182, j185, j195, j197, j214, j218, j219, j240, j282, j309, j414, j432, hz, hql, y1]
    exact err _ _ _ (by rw [hU]; rfl) rfl rfl rfl
  cases hqb : (q == b)
  · rw [hqb] at hce
    simp -dsimp -implicitDefEqProofs only [↓j0, ↓j1, ↓j2, ↓j7, ↓j10, ↓j12, ↓j13, ↓j15, j17, j18, j19, j20, j21, j22, j23, ↓j25, ↓j27, ↓j29, ↓j30, j32, j33, ↓j38, ↓j39, ↓j40, ↓j41, ↓j43, ↓j44, ↓j48, ↓j54, ↓j57, ↓j76, ↓j78, j83, j85, ↓j89, ↓j91, ↓j124, j125, j127, j129, ↓j145, ↓j146, ↓j147, ↓j148, ↓j149, ↓j151, ↓j153, j158, partsAV, AV.proj, AV.offOf, AV.upd, AV.size, AV.sizeL, AV.layable, j163, j164, j170, j171, j175, reduceCtorEq, ↓reduceIte, Nat.reduceAdd, Nat.reduceEqDiff, j182, j185, j194, j195, j197, j212, j214, j218, j219, j240, j241, j282, j309, j310, j312, j313, j414, j432, hz, hql, hb, y0, hce, hk1]
    exact err _ _ _ (by rw [hU, hqb]; rfl) rfl rfl rfl
  · rw [hqb] at hce
    simp -dsimp -implicitDefEqProofs only [↓j0, ↓j1, ↓j2, ↓j7, ↓j9, ↓j10, ↓j12, ↓j13, ↓j15, j17, j18, j19, j20, j21, j22, j23, ↓j25, ↓j27, ↓j29, ↓j30, j32, j33, ↓j38, ↓j39, ↓j40, ↓j41, ↓j43, ↓j44, ↓j48, ↓j57, ↓j76, ↓j78, j83, j85, ↓j89, ↓j91, j129, ↓j145, ↓j146, ↓j148, ↓j149, ↓j151, ↓j153, j158, AV.proj, AV.offOf, AV.upd, AV.size, AV.sizeL, AV.layable, j163, j164, j170, j171, j175, reduceCtorEq, ↓reduceIte, Nat.reduceAdd, Nat.reduceEqDiff, j182, j185, j195, j197, j212, j240, j241, j282, j283, j309, j310, j312, j313, j414, hz, hql, hb, y0, hce, hk1, i1]
    rw [hU, hqb]
    exact Final.many (.inr rfl) (rs := [.cell 2 27, .tmp 3]) (us := [Ms.av ⟨N1, N2, N3, N4, N5, N6, N7, N8, N9⟩, .bool true]) rfl ⟨⟨1, 0, [], _, rfl, rfl, rfl, rfl, by simp -dsimp -implicitDefEqProofs only [j129, AV.size, AV.sizeL, Nat.reduceAdd, j182, j197, j282, j283]⟩, ⟨rfl, fun vs h => by cases h⟩, trivial⟩ (by simp) ⟨.same _ (on_ms _ _), .same _ trivial, trivial⟩
end Go.Proofs.Ythfaldoagmkllaa
