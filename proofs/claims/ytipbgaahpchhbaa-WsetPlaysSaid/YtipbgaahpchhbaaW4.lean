/- A delta's pieces; what a delta makes of a body. -/
import Derived.Test.YtipbgaahpchhbaaW3
set_option maxRecDepth 8000
set_option linter.unusedVariables false
set_option linter.unusedSimpArgs false
namespace Go.Proofs.Ytipbgaahpchhbaa
open Go Go.RowKit

theorem str_extract (l : List UInt8) (i j : Nat) : (ByteArray.mk l.toArray).extract i j = ByteArray.mk ((l.take j).drop i).toArray := by
  have h : ∀ a b : ByteArray, a.data.toList = b.data.toList → a = b := fun a b h => by cases a; cases b; simpa using h
  apply h
  simp [ByteArray.data_extract, List.extract, List.drop_take]
theorem notup {u v : AV} (hu : ∀ vs, u ≠ .tuple vs) (hv : ∀ vs, v ≠ .tuple vs) : ∀ x, x ∈ [u, v] → ∀ vs, x ≠ .tuple vs := notup2 hu hv
/-- A delta's pieces: what they make, and whether it is one. -/
def eachP (d : List UInt8) : Nat → Nat → Nat → List UInt8 → Bool × List UInt8
  | 0, _, _, out => (true, out)
  | k + 1, next, i, out =>
    if i < d.length then
      if d.length < i + 2 then (false, out) else
      let at_ := (d.getD i 0).toNat
      let n := (d.getD (i + 1) 0).toNat
      if n < 1 ∨ at_ < next ∨ 64 < at_ + n ∨ d.length < i + 2 + n then (false, out)
      else eachP d k (at_ + n + 1) (i + 2 + n) (layB out at_ ((d.drop (i + 2)).take n))
    else (true, out)
theorem eachP_len (d : List UInt8) : ∀ (k next i : Nat) (out : List UInt8), out.length = 64 → (eachP d k next i out).2.length = 64
  | 0, _, _, out, h => h
  | k + 1, next, i, out, h => by
    unfold eachP
    split
    · split
      · exact h
      · simp only
        split
        · exact h
        · rename_i h1 h2
          refine eachP_len d k _ _ _ ?_
          have hl : ((d.drop (i + 2)).take (d.getD (i + 1) 0).toNat).length ≤ (d.getD (i + 1) 0).toNat := List.length_take_le _ _
          rw [layB_len (by omega)]; exact h
    · exact h
def outH (out : List UInt8) : Heap := [(2, .cells (arrAV out))]
theorem on_bytes' (S : Nat → Prop) (l : List UInt8) : AV.on S (arrAV l) := on_bytes _ _
theorem get_out {out : List UInt8} {n : Nat} {b : ABlk} (h : Heap.get (outH out) n = some b) : n = 2 ∧ b = .cells (arrAV out) := by
  simp only [outH, Heap.get] at h
  by_cases h1 : n = 2
  · subst h1; simp only [if_true, Option.some.injEq] at h; exact ⟨rfl, h.symm⟩
  · rw [if_neg h1] at h; cases h
theorem out_on {out : List UInt8} (S : Nat → Prop) : ∀ n b, Heap.get (outH out) n = some b → b.on S := fun n b h => by
  obtain ⟨_, rfl⟩ := get_out h; exact on_bytes _ _
theorem out_keep {out : List UInt8} {H : Heap} (h : Heap.get H 2 = some (.cells (arrAV out))) : ∀ n b, Heap.get (outH out) n = some b → ∃ b0, Heap.get H n = some b0 ∧ BFrz (fun n => Heap.get (outH out) n ≠ none) H b0 b := fun n b hb => by
  obtain ⟨rfl, rfl⟩ := get_out hb
  exact ⟨_, h, .same _ (on_bytes _ _)⟩
theorem out_lt {out : List UInt8} : ∀ n, n ∈ (outH out).map (·.1) → n < 3 := fun n hn => by simp [outH] at hn; omega
theorem args_lay {a : Int} {s : ByteArray} {out : List UInt8} : ∀ x, x ∈ [AV.int .i64 a, .str s, .ptr 2 0 []] → AV.on (fun n => n ∈ (outH out).map (·.1)) x ∧ ∀ vs, x ≠ .tuple vs := fun x hx => by
  simp only [List.mem_cons, List.not_mem_nil, or_false] at hx
  rcases hx with rfl | rfl | rfl
  · exact ⟨trivial, fun vs h => by cases h⟩
  · exact ⟨trivial, fun vs h => by cases h⟩
  · exact ⟨show (2 : Nat) ∈ _ by simp [outH], fun vs h => by cases h⟩
theorem lay_spec (out : List UInt8) (ho : out.length = 64) (at_ : Nat) (x : List UInt8) (h : at_ + x.length ≤ 64) : ACall Try.prog 23 [.int .i64 at_, .str ⟨x.toArray⟩, .ptr 2 0 []] (outH out) (.tuple []) (outH (layB out at_ x)) := by
  refine ACall.runH (Z := Z) (N := 9) mixed hZ Try.func23 rfl rfl (by kernel_rfl) (by simp) args_lay (out_on _) 3 out_lt ?_
  have h0 : (0 : Int) ≤ (at_ : Int) := by omega
  have h1 : (at_ : Int) ≤ 64 := by omega
  have h2 : at_ ≤ 64 := by omega
  simp -dsimp -implicitDefEqProofs only [↓j1, ↓j7, ↓j15, j17, j18, j20, ↓j25, ↓j27, ↓j29, ↓j38, ↓j49, j107, ↓j145, ↓j153, AV.proj, AV.offOf, argEnv, j171, reduceCtorEq, ↓reduceIte, Nat.reduceAdd, Nat.reduceMul, Nat.reduceEqDiff, j183, j184, j196, bndAV, j232, ↓j238, j240, j276, outH, ho, h0]
  have t1 : ((at_ : Nat) : Int).toNat = at_ := Int.toNat_natCast _
  have t2 : (64 : Int).toNat = 64 := rfl
  have u0 := unif_bytes out
  refine ⟨by simpa using h1, ?_⟩
  simp -dsimp -implicitDefEqProofs only [↓j1, j17, j18, j20, ↓j25, ↓j27, ↓j29, ↓j38, ↓j52, j107, ↓j145, ↓j153, AV.proj, AV.offOf, j171, reduceCtorEq, ↓reduceIte, Nat.reduceEqDiff, j183, j184, j196, j207, j222, ↓j239, j356, ho, t1, u0]
  have cp := copyB at_ x.length (at_ + x.length) out x
  have t3 : x.take x.length = x := List.take_of_length_le (Nat.le_refl _)
  have t4 : Nat.min x.length (64 - at_) = x.length := Nat.min_eq_left (by omega)
  refine ⟨by omega, ?_⟩
  rw [t3] at cp
  simp -dsimp -implicitDefEqProofs only [↓j0, j17, j18, j20, j21, j22, j23, ↓j105, ↓j146, AV.upd, j172, ↓reduceIte, j189, j214, j222, outH, t4, cp]
  refine Final.manyH (.inl rfl) (rs := []) (us := []) rfl trivial (by simp) trivial (out_keep ?_)
  simp -dsimp -implicitDefEqProofs only [↓j27, ↓reduceIte, layB]
theorem fok23' : fnOk Try.prog 23 = true := by kernel_rfl
theorem fok22' : fnOk Try.prog 22 = true := by kernel_rfl
theorem args_each {d : List UInt8} {out : List UInt8} : ∀ x, x ∈ [AV.str ⟨d.toArray⟩, .func 23 [.ptr 2 0 []]] → AV.on (fun n => n ∈ (outH out).map (·.1)) x ∧ ∀ vs, x ≠ .tuple vs := fun x hx => by
  simp only [List.mem_cons, List.not_mem_nil, or_false] at hx
  rcases hx with rfl | rfl
  · exact ⟨trivial, fun vs h => by cases h⟩
  · exact ⟨⟨show (2 : Nat) ∈ _ by simp [outH], trivial⟩, fun vs h => by cases h⟩
theorem put_out {out out' : List UInt8} {m k : Nat} : ∀ n x, Heap.get (outH out) n = some x → n ∉ (outH out').map (·.1) → m ≤ n ∧ n < k := fun n x h h2 => by
  obtain ⟨rfl, _⟩ := get_out h; simp [outH] at h2
theorem byte_at {d : List UInt8} {i : Nat} {a : UInt8} (h : d[i]? = some a) : byteAt ⟨d.toArray⟩ (i : Int) = (a.toNat : Int) := by
  unfold byteAt
  rw [Int.toNat_natCast, Array.getD_eq_getD_getElem?, List.getElem?_toArray, h]; rfl
def eaSt (d : List UInt8) (next i : Nat) (out : List UInt8) : St := ⟨68, [(5, .int .i64 next), (6, .int .i64 i), (0, .str ⟨d.toArray⟩), (1, .func 23 [.ptr 2 0 []]), (4, .bool false)], outH out, 3⟩
theorem each_spec (d : List UInt8) (hd : d.length ≤ 4611686018427387904) (out0 : List UInt8) (ho : out0.length = 64) : ACall Try.prog 22 [.str ⟨d.toArray⟩, .func 23 [.ptr 2 0 []]] (outH out0) (.bool (eachP d d.length 0 0 out0).1) (outH (eachP d d.length 0 0 out0).2) := by
  refine ACall.runH (Z := Z) (N := 68) mixed hZ Try.func22 rfl rfl (by kernel_rfl) (by simp) args_each (out_on _) 3 out_lt ?_
  obtain ⟨R, hR⟩ : ∃ R, eachP d d.length 0 0 out0 = R := ⟨_, rfl⟩
  rw [hR]
  have ret : ∀ (r : Bool × List UInt8) (t : Env) (H : Heap) (m : Nat), r = R → look t 4 = some (.bool r.1) → Heap.get H 2 = some (.cells (arrAV r.2)) → Final Try.prog Try.f22 (.bool R.1) (outH R.2) .ret ⟨68, t, H, m⟩ := fun r t H m hr h1 h2 => by
    subst hr
    exact Final.oneH (.inr rfl) (r := .tmp 4) rfl ⟨h1, fun vs h => by cases h⟩ (fun vs h => by cases h) (fun vs h => by cases h) (.same _ trivial) (out_keep h2)
  simp -dsimp -implicitDefEqProofs only [↓j0, ↓j1, ↓j7, ↓j12, ↓j14, ↓j15, ↓j16, j17, j18, j20, ↓j30, j32, j33, ↓j39, ↓j145, argEnv, j171, j196]
  refine AWp.loopR (Z := Z) mixed hZ (by kernel_rfl) (fun k s => ∃ next i out, d.length ≤ k + i ∧ next ≤ 200 ∧ i ≤ d.length ∧ out.length = 64 ∧ eachP d k next i out = R ∧ s = eaSt d next i out) (n0 := d.length) (s0 := eaSt d 0 0 out0) ?_ ⟨0, 0, out0, by omega, by omega, by omega, ho, hR, rfl⟩ ?_ rfl
  · exact Wk.sub (by simp -dsimp -implicitDefEqProofs only [↓j25, ↓j27, j179, reduceCtorEq, ↓reduceIte, Nat.reduceEqDiff, j182, j183, j184, j202, j203, j204, j205, j209, j223, outH] <;> simp)
  rintro k s ⟨next, i, out, hk, hn, hi, hol, hE, rfl⟩
  refine ⟨rfl, ?_⟩
  rcases Nat.lt_or_ge i d.length with hlt | hge
  · cases k with
    | zero => omega
    | succ k =>
      have e1 : decide ((i : Int) < (d.length : Int)) = true := decide_eq_true (by omega)
      have w2 : IntKind.i64.wrap ((i : Int) + 2) = ((i + 2 : Nat) : Int) := by rw [wrap_i64 (by omega) (by omega)]; omega
      unfold eachP at hE
      rw [if_pos hlt] at hE
      by_cases h2 : d.length < i + 2
      · rw [if_pos h2] at hE
        have e2 : decide ((d.length : Int) < ((i + 2 : Nat) : Int)) = true := decide_eq_true (by omega)
        simp -dsimp -implicitDefEqProofs only [↓j0, ↓j1, ↓j7, ↓j9, ↓j10, ↓j12, ↓j13, ↓j14, ↓j15, j17, j18, j20, ↓j25, ↓j29, ↓j30, j32, j33, ↓j38, ↓j39, ↓j48, ↓j58, ↓j59, ↓j89, j141, ↓j145, ↓j146, ↓j147, ↓j149, j154, j159, j161, j171, reduceCtorEq, ↓reduceIte, Nat.reduceEqDiff, j185, j259, eaSt, outH, str_bytes, e1, w2, e2]
        exact ret (false, out) _ _ _ hE rfl rfl
      rw [if_neg h2] at hE
      have e2 : decide ((d.length : Int) < ((i + 2 : Nat) : Int)) = false := decide_eq_false (by omega)
      obtain ⟨a, ha⟩ := list_get (xs := d) (i := i) hlt
      obtain ⟨b, hb⟩ := list_get (xs := d) (i := i + 1) (by omega)
      have ga : d.getD i 0 = a := by rw [List.getD_eq_getElem?_getD, ha]; rfl
      have gb : d.getD (i + 1) 0 = b := by rw [List.getD_eq_getElem?_getD, hb]; rfl
      rw [ga, gb] at hE
      have hal := a.toNat_lt
      have hbl := b.toNat_lt
      simp -dsimp -implicitDefEqProofs only [↓j0, ↓j1, ↓j4, ↓j7, ↓j8, ↓j9, ↓j12, ↓j13, ↓j14, ↓j15, j17, j18, j20, j24, ↓j25, ↓j29, ↓j30, j33, ↓j38, ↓j47, ↓j48, ↓j58, ↓j59, ↓j89, ↓j95, j141, ↓j145, ↓j146, ↓j147, ↓j148, ↓j149, j154, j159, j161, j170, j171, j172, j174, reduceCtorEq, ↓reduceIte, Nat.reduceEqDiff, j184, j185, j208, j259, eaSt, outH, str_bytes, e1, w2, e2]
      have hba : byteAt ⟨d.toArray⟩ (i : Int) = (a.toNat : Int) := byte_at ha
      have hbb : byteAt ⟨d.toArray⟩ ((i + 1 : Nat) : Int) = (b.toNat : Int) := byte_at hb
      have i1 : (i : Int) < (d.length : Int) := by omega
      have i2 : ((i + 1 : Nat) : Int) < (d.length : Int) := by omega
      have w1 : IntKind.i64.wrap ((i : Int) + 1) = ((i + 1 : Nat) : Int) := by rw [wrap_i64 (by omega) (by omega)]; omega
      have wa : IntKind.i64.wrap (a.toNat : Int) = (a.toNat : Int) := wrap_i64 (by omega) (by omega)
      have wb : IntKind.i64.wrap (b.toNat : Int) = (b.toNat : Int) := wrap_i64 (by omega) (by omega)
      obtain ⟨p, hp⟩ : ∃ p, a.toNat = p := ⟨_, rfl⟩
      obtain ⟨n, hnn⟩ : ∃ n, b.toNat = n := ⟨_, rfl⟩
      rw [hp] at hba wa hal
      rw [hnn] at hbb wb hbl
      simp only [hp, hnn] at hE
      have wpn : IntKind.i64.wrap ((p : Int) + (n : Int)) = ((p + n : Nat) : Int) := by rw [wrap_i64 (by omega) (by omega)]; omega
      have win : IntKind.i64.wrap (((i + 2 : Nat) : Int) + (n : Int)) = ((i + (2 + n) : Nat) : Int) := by rw [wrap_i64 (by omega) (by omega)]; omega
      refine ⟨by omega, ?_⟩
      simp -dsimp -implicitDefEqProofs only [↓j3, ↓j4, j17, j18, j20, j24, ↓j25, ↓j29, ↓j30, j33, ↓j38, ↓j39, ↓j47, ↓j48, ↓j50, ↓j89, ↓j95, ↓j145, ↓j146, j154, j170, j171, j172, j174, reduceCtorEq, ↓reduceIte, Nat.reduceEqDiff, j182, j185, j208, ↓j225, j251, j259, j419, str_bytes, hba, hbb, i2, w1, wa, wb]
      refine ⟨by kernel_rfl, ?_⟩
      by_cases c1 : n < 1
      · have f1 : decide ((n : Int) < 1) = true := decide_eq_true (by omega)
        rw [if_pos (.inl c1)] at hE
        simp -dsimp -implicitDefEqProofs only [↓j0, ↓j1, ↓j2, ↓j7, ↓j10, ↓j12, ↓j13, ↓j15, j17, j18, j20, ↓j25, ↓j29, ↓j30, j32, j33, ↓j38, ↓j39, ↓j40, ↓j48, j81, ↓j89, ↓j145, ↓j146, ↓j147, ↓j149, ↓j151, j159, j163, j164, j171, j175, ↓reduceIte, Nat.reduceEqDiff, j185, f1]
        exact ret (false, out) _ _ _ hE rfl rfl
      have f1 : decide ((n : Int) < 1) = false := decide_eq_false (by omega)
      by_cases c2 : p < next
      · have f2 : decide ((p : Int) < (next : Int)) = true := decide_eq_true (by omega)
        rw [if_pos (.inr (.inl c2))] at hE
        simp -dsimp -implicitDefEqProofs only [↓j0, ↓j1, ↓j2, ↓j7, ↓j10, ↓j12, ↓j13, ↓j15, j17, j18, j20, ↓j25, ↓j29, ↓j30, j32, j33, ↓j38, ↓j39, ↓j40, ↓j48, j81, j83, ↓j89, ↓j145, ↓j146, ↓j147, ↓j148, ↓j149, ↓j151, j159, j163, j164, j171, j175, ↓reduceIte, Nat.reduceEqDiff, j185, j195, f1, f2]
        exact ret (false, out) _ _ _ hE rfl rfl
      have f2 : decide ((p : Int) < (next : Int)) = false := decide_eq_false (by omega)
      by_cases c3 : 64 < p + n
      · have f3 : decide (64 < ((p + n : Nat) : Int)) = true := decide_eq_true (by omega)
        rw [if_pos (.inr (.inr (.inl c3)))] at hE
        simp -dsimp -implicitDefEqProofs only [↓j0, ↓j1, ↓j2, ↓j7, ↓j10, ↓j12, ↓j13, ↓j15, j17, j18, j20, ↓j25, ↓j29, ↓j30, j32, j33, ↓j38, ↓j39, ↓j40, ↓j48, j81, j83, ↓j89, ↓j145, ↓j146, ↓j147, ↓j148, ↓j149, ↓j151, j154, j159, j161, j163, j164, j171, j175, ↓reduceIte, Nat.reduceEqDiff, j185, j195, f1, f2, wpn, f3]
        exact ret (false, out) _ _ _ hE rfl rfl
      have f3 : decide (64 < ((p + n : Nat) : Int)) = false := decide_eq_false (by omega)
      by_cases c4 : d.length < i + 2 + n
      · have f4 : decide ((d.length : Int) < ((i + (2 + n) : Nat) : Int)) = true := decide_eq_true (by omega)
        rw [if_pos (.inr (.inr (.inr c4)))] at hE
        simp -dsimp -implicitDefEqProofs only [↓j0, ↓j1, ↓j2, ↓j7, ↓j10, ↓j12, ↓j13, ↓j15, j17, j18, j20, ↓j25, ↓j29, ↓j30, j32, j33, ↓j38, ↓j39, ↓j40, ↓j48, ↓j58, ↓j59, j83, ↓j89, j141, ↓j145, ↓j146, ↓j147, ↓j148, ↓j149, ↓j151, j154, j159, j161, j163, j164, j171, j175, reduceCtorEq, ↓reduceIte, Nat.reduceEqDiff, j185, j195, j259, f1, f2, wpn, f3, w2, win, f4, str_bytes]
        exact ret (false, out) _ _ _ hE rfl rfl
      have f4 : decide ((d.length : Int) < ((i + (2 + n) : Nat) : Int)) = false := decide_eq_false (by omega)
      rw [if_neg (by omega)] at hE
      have hx : ((d.drop (i + 2)).take n).length = n := by rw [List.length_take, List.length_drop]; omega
      have hls := lay_spec out hol p ((d.drop (i + 2)).take n) (by omega)
      have g0 : (0 : Int) ≤ ((i + 2 : Nat) : Int) := by omega
      have g1 : ((i + 2 : Nat) : Int) ≤ ((i + (2 + n) : Nat) : Int) := by omega
      have g2 : ((i + (2 + n) : Nat) : Int) ≤ (d.length : Int) := by omega
      have hxs : (ByteArray.mk d.toArray).extract (i + 2) (i + (2 + n)) = ByteArray.mk ((d.drop (i + 2)).take n).toArray := by
        rw [str_extract, List.drop_take, show i + (2 + n) - (i + 2) = n by omega]
      obtain ⟨X, hX⟩ : ∃ X, (d.drop (i + 2)).take n = X := ⟨_, rfl⟩
      rw [hX] at hxs hx hls hE
      have wn1 : IntKind.i64.wrap (((p + n : Nat) : Int) + 1) = ((p + (n + 1) : Nat) : Int) := by rw [wrap_i64 (by omega) (by omega)]; omega
      have w2n : IntKind.i64.wrap (2 + (n : Int)) = ((2 + n : Nat) : Int) := by rw [wrap_i64 (by omega) (by omega)]; omega
      have wi2 : IntKind.i64.wrap ((i : Int) + ((2 + n : Nat) : Int)) = ((i + (2 + n) : Nat) : Int) := by rw [wrap_i64 (by omega) (by omega)]; omega
      have hll := layB_len (out := out) (x := X) (at_ := p) (by omega)
      simp -dsimp -implicitDefEqProofs only [↓j0, ↓j1, ↓j2, ↓j7, ↓j9, ↓j12, ↓j13, ↓j15, j17, j18, j20, ↓j25, ↓j29, ↓j30, j32, j33, ↓j38, ↓j40, ↓j48, ↓j49, ↓j53, ↓j58, ↓j59, j83, ↓j89, ↓j97, j141, ↓j145, ↓j146, ↓j148, ↓j149, ↓j151, j154, j159, j161, j163, j164, j171, j175, reduceCtorEq, ↓reduceIte, Nat.reduceEqDiff, j182, j185, j195, j207, bndAV, j259, f1, f2, wpn, f3, w2, win, f4, str_bytes, g0, g1, g2, hxs]
      refine CallTo.genF (f := 23) (caps := [.ptr 2 0 []]) (args := [.int .i64 p, .str ⟨X.toArray⟩]) (outH out) (outH (layB out p X)) 3 rfl (by simp -dsimp -implicitDefEqProofs only [↓j25, ↓j29, ↓reduceIte, Nat.reduceEqDiff]) fok23' (by simp -dsimp -implicitDefEqProofs only [↓j25, ↓j29, j173, j174, ↓reduceIte, Nat.reduceEqDiff]) (notup (fun vs h => by cases h) fun vs h => by cases h) (fun x hx => by
        simp only [List.mem_singleton] at hx; subst hx; exact ⟨fun vs h => (by cases h), fun vs h => by cases h⟩) hls (SubH.of (by simp -dsimp -implicitDefEqProofs only [↓j27, ↓reduceIte, j182, j204, j205, outH])) ⟨by simp, put_out⟩ ?_
      simp -dsimp -implicitDefEqProofs only [↓j0, ↓j1, ↓j7, ↓j12, ↓j15, j17, j18, j20, j21, j22, j23, ↓j25, ↓j29, ↓j30, j33, ↓j38, ↓j39, ↓j48, ↓j89, ↓j145, ↓j146, j154, j171, j172, j173, j174, ↓reduceIte, Nat.reduceEqDiff, j185, outH, wpn, wn1, w2n, wi2]
      refine ⟨k, eaSt d (p + n + 1) (i + 2 + n) (layB out p X), by omega, ⟨p + n + 1, i + 2 + n, layB out p X, by omega, by omega, by omega, by omega, hE, rfl⟩, Wk.sub ?_⟩
      simp -dsimp -implicitDefEqProofs only [↓j25, ↓j27, reduceCtorEq, ↓reduceIte, Nat.reduceEqDiff, j182, j202, j203, j204, j205, j223, j224, outH]
  · have e1 : decide ((i : Int) < (d.length : Int)) = false := decide_eq_false (by omega)
    have hE2 : (true, out) = R := by
      rw [← hE]
      cases k with
      | zero => rfl
      | succ k => unfold eachP; rw [if_neg (by omega)]
    simp -dsimp -implicitDefEqProofs only [↓j0, ↓j1, ↓j7, ↓j10, ↓j11, ↓j12, ↓j13, ↓j15, j17, j18, j20, ↓j25, ↓j29, ↓j30, j32, ↓j38, ↓j39, ↓j48, ↓j58, ↓j59, ↓j89, j141, ↓j145, ↓j146, ↓j148, ↓j149, j159, j171, reduceCtorEq, ↓reduceIte, Nat.reduceEqDiff, j185, j259, eaSt, outH, str_bytes, e1]
    exact ret (true, out) _ _ _ hE2 rfl rfl
/-- What a delta makes of a body. -/
def dApply (b d : List UInt8) : Bool × List UInt8 := eachP d d.length 0 0 b
theorem args_dapp {b d : List UInt8} : ∀ x, x ∈ [arrAV b, .str ⟨d.toArray⟩] → AV.on (fun _ => False) x ∧ ∀ vs, x ≠ .tuple vs := fun x hx => by
  simp only [List.mem_cons, List.not_mem_nil, or_false] at hx
  rcases hx with rfl | rfl
  · exact ⟨on_bytes _ _, fun vs h => by cases h⟩
  · exact ⟨trivial, fun vs h => by cases h⟩
def dApplyR (b d : List UInt8) : List UInt8 × Nat := if (dApply b d).1 then ((dApply b d).2, 0) else (zb 64, 2)
theorem dapply_spec (b d : List UInt8) (hb : b.length = 64) (hd : d.length ≤ 4611686018427387904) : ACall Try.prog 17 [arrAV b, .str ⟨d.toArray⟩] [] (.tuple [arrAV (dApplyR b d).1, .int .i64 (dApplyR b d).2]) [] := by
  refine ACall.run (Z := Z) (N := 14) mixed hZ Try.func17 rfl rfl (by kernel_rfl) (by simp) args_dapp 0 ?_
  have hz := zb_len 64
  have hes := each_spec d hd b hb
  have hlen : (dApply b d).2.length = 64 := eachP_len d _ _ _ b hb
  have hR : dApplyR b d = if (dApply b d).1 then ((dApply b d).2, 0) else (zb 64, 2) := rfl
  have hes : ACall Try.prog 22 [.str ⟨d.toArray⟩, .func 23 [.ptr 2 0 []]] (outH b) (.bool (dApply b d).1) (outH (dApply b d).2) := hes
  obtain ⟨⟨r, o⟩, hr⟩ : ∃ r, dApply b d = r := ⟨_, rfl⟩
  rw [hr] at hes hlen hR
  have hlen : o.length = 64 := hlen
  simp -dsimp -implicitDefEqProofs only [↓j0, ↓j1, ↓j7, ↓j12, ↓j15, j17, j18, j19, j20, j21, j22, j23, ↓j25, ↓j27, ↓j29, ↓j30, j33, ↓j38, ↓j39, ↓j41, ↓j42, ↓j43, ↓j44, ↓j53, ↓j71, ↓j76, ↓j78, j129, ↓j145, ↓j146, ↓j153, AV.proj, AV.offOf, AV.upd, AV.size, AV.layable, argEnv, j170, j171, j172, reduceCtorEq, ↓reduceIte, Nat.reduceAdd, Nat.reduceEqDiff, j182, j196, j240, evL, capOk, j246, j247, j248, j274, j275, j376, hb, hz]
  refine CallTo.gen (args := [.str ⟨d.toArray⟩, .func 23 [.ptr 2 0 []]]) (outH b) (outH o) 3 rfl fok22' (by simp -dsimp -implicitDefEqProofs only [↓j25, ↓j29, j173, j174, ↓reduceIte, Nat.reduceEqDiff]) (notup (fun vs h => by cases h) fun vs h => by cases h) hes (SubH.of (by simp -dsimp -implicitDefEqProofs only [↓j27, ↓reduceIte, j182, j204, j205, outH])) ⟨by simp, put_out⟩ ?_
  cases r
  · rw [hR]
    simp -dsimp -implicitDefEqProofs only [↓j0, ↓j1, ↓j7, ↓j10, ↓j12, ↓j13, ↓j15, j17, j18, j19, j20, j21, j22, j23, ↓j25, ↓j27, ↓j29, ↓j30, j33, ↓j39, ↓j44, ↓j54, ↓j55, ↓j78, j84, ↓j124, j125, j127, ↓j145, ↓j146, ↓j147, ↓j149, ↓j153, partsAV, AV.proj, AV.offOf, AV.upd, AV.size, AV.layable, j170, j171, j173, j174, reduceCtorEq, ↓reduceIte, Nat.reduceEqDiff, j182, j194, j195, j214, j218, j219, j240, j274, j397, hz, outH]
    exact Final.many (.inr rfl) (rs := [.cell 4 25, .tmp 5]) (us := [arrAV (zb 64), .int .i64 2]) rfl ⟨⟨1, 0, [], _, rfl, rfl, rfl, rfl, by simp -dsimp -implicitDefEqProofs only [j129, j182, j240, j274, j275, hz]⟩, ⟨rfl, fun vs h => by cases h⟩, trivial⟩ (by simp) ⟨.same _ (on_bytes _ _), .same _ trivial, trivial⟩
  · rw [hR]
    simp -dsimp -implicitDefEqProofs only [↓j0, ↓j1, ↓j7, ↓j9, ↓j10, ↓j12, ↓j13, ↓j15, j17, j18, j19, j20, j21, j22, j23, ↓j25, ↓j27, ↓j29, ↓j30, j33, ↓j39, ↓j43, ↓j44, ↓j55, ↓j76, ↓j78, j84, j129, ↓j145, ↓j146, ↓j148, ↓j149, ↓j153, AV.proj, AV.offOf, AV.upd, AV.size, AV.layable, j170, j171, j173, j174, reduceCtorEq, ↓reduceIte, Nat.reduceEqDiff, j182, j193, j240, j274, j275, hz, hlen, outH]
    exact Final.many (.inr rfl) (rs := [.cell 4 25, .tmp 5]) (us := [arrAV o, .int .i64 0]) rfl ⟨⟨1, 0, [], _, rfl, rfl, rfl, rfl, by simp -dsimp -implicitDefEqProofs only [j129, j182, j240, j274, j275, hlen]⟩, ⟨rfl, fun vs h => by cases h⟩, trivial⟩ (by simp) ⟨.same _ (on_bytes _ _), .same _ trivial, trivial⟩
end Go.Proofs.Ytipbgaahpchhbaa
