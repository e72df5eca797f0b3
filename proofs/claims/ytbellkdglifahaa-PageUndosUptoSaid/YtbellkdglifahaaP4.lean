/- What opens a page; data pages are put. -/
import Derived.Test.YtbellkdglifahaaP3
set_option linter.unusedVariables false
set_option linter.unusedSimpArgs false
namespace Go.Proofs.Ytbellkdglifahaa
open Go Go.RowKit

theorem drop_copy {α : Type} {q x : List α} {n j m : Nat} (h : n + j ≤ q.length) (hm : n ≤ m) : (q.take (n + j) ++ x ++ q.drop m).drop n = (q.drop n).take j ++ (x ++ (q.drop n).drop (m - n)) := by
  have hl : (q.take (n + j)).length = n + j := by rw [List.length_take]; omega
  rw [List.append_assoc, List.drop_append, hl, show n - (n + j) = 0 by omega, List.drop_zero, List.drop_take, show n + j - n = j by omega, List.drop_drop, show n + (m - n) = m by omega]
def opensP (k : UInt8) (no : Nat) (p : List UInt8) : Bool :=
  ((((p.getD 0 0).toNat : Int) == (k.toNat : Int)) && ((getL ((p.drop 1).take 2) : Int) == (no : Int))) && ((getL ((p.drop 3).take 4) : Int) == (pgSum p : Int))
theorem args_opens {k no : Nat} {p : List UInt8} : ∀ x, x ∈ [AV.int .u8 (k : Int), .int .u16 (no : Int), arrAV p] → AV.on (fun _ => False) x ∧ ∀ vs, x ≠ .tuple vs := fun x hx => by
  simp only [List.mem_cons, List.not_mem_nil, or_false] at hx
  rcases hx with rfl | rfl | rfl
  · exact ⟨trivial, fun vs h => by cases h⟩
  · exact ⟨trivial, fun vs h => by cases h⟩
  · exact ⟨on_bytes _ _, fun vs h => by cases h⟩
theorem pgSum_lt (p : List UInt8) : pgSum p < 4294967296 := crcSum_lt _
theorem opens_spec (k : UInt8) (no : Nat) (hno : no < 65536) (p : List UInt8) (hp : p.length = 224) : ACall Try.prog 29 [.int .u8 k.toNat, .int .u16 no, arrAV p] [] (.bool (opensP k no p)) [] := by
  refine ACall.run (Z := Z) (N := 40) mixed hZ Try.func29 rfl rfl (by kernel_rfl) (by simp) args_opens 0 ?_
  have up := unif_bytes p
  obtain ⟨y, hy⟩ := list_get (xs := p) (i := 0) (by omega)
  have c0 : (0 : Int) < ((224 : Nat) : Int) := by omega
  have w1 : IntKind.u64.wrap (no : Int) = (no : Int) := by rw [wrap_u64, Nat.mod_eq_of_lt (by omega)]
  have hgl := pgSum_lt p
  have w2 : IntKind.u64.wrap (pgSum p : Int) = (pgSum p : Int) := by rw [wrap_u64, Nat.mod_eq_of_lt (by omega)]
  have hg1 := get_spec p 1 2 (by omega) (by omega) (by omega)
  have hg2 := get_spec p 3 4 (by omega) (by omega) (by omega)
  have hbo := bytesOf_bytes p
  have hT : List.take 224 (p.map byteAV) = p.map byteAV := List.take_of_length_le (by simp; omega)
  have hyd : p.getD 0 0 = y := by rw [List.getD_eq_getElem?_getD, hy]; rfl
  have hO : opensP k no p = ((((y.toNat : Int) == (k.toNat : Int)) && ((getL ((p.drop 1).take 2) : Int) == (no : Int))) && ((getL ((p.drop 3).take 4) : Int) == (pgSum p : Int))) := by rw [opensP, hyd]
  have fin : ∀ (r : Bool) (t : Env) (H : Heap) (m : Nat), r = opensP k no p → look t 6 = some (.bool r) → Final Try.prog Try.f29 (.bool (opensP k no p)) [] .ret ⟨40, t, H, m⟩ := fun r t H m hv h =>
    Final.one (.inr rfl) (r := .tmp 6) rfl ⟨hv ▸ h, fun vs h => by cases h⟩ (fun vs h => by cases h) (fun vs h => by cases h) (.same _ trivial)
  obtain ⟨a, ha⟩ : ∃ a, ((y.toNat : Int) == (k.toNat : Int)) = a := ⟨_, rfl⟩
  obtain ⟨g1, hG1⟩ : ∃ g, getL ((p.drop 1).take 2) = g := ⟨_, rfl⟩
  obtain ⟨g2, hG2⟩ : ∃ g, getL ((p.drop 3).take 4) = g := ⟨_, rfl⟩
  rw [hG1, hG2] at hO
  rw [hG1] at hg1
  rw [hG2] at hg2
  obtain ⟨b, hb⟩ : ∃ b, ((g1 : Int) == (no : Int)) = b := ⟨_, rfl⟩
  obtain ⟨c, hc⟩ : ∃ c, ((g2 : Int) == (pgSum p : Int)) = c := ⟨_, rfl⟩
  rw [ha, hb, hc] at hO
  simp -dsimp -implicitDefEqProofs only [↓j0, ↓j1, ↓j7, ↓j12, ↓j15, j17, j18, j20, ↓j25, ↓j27, ↓j29, ↓j30, j32, ↓j39, ↓j42, ↓j49, ↓j50, ↓j53, ↓j106, j107, ↓j121, ↓j145, ↓j146, ↓j153, AV.proj, AV.offOf, AV.layable, argEnv, j171, j172, reduceCtorEq, ↓reduceIte, Nat.reduceAdd, Nat.reduceMul, Nat.reduceEqDiff, Int.reduceToNat, j182, j196, j197, j207, j208, j222, j223, j227, bndAV, j232, j233, j234, ↓j238, j240, j259, j302, j337, hp, up, hbo, hT]
  refine CallTo.pure (args := [.str ⟨p.toArray⟩, .int .i64 ((1 : Nat) : Int), .int .i64 ((2 : Nat) : Int)]) rfl fok30 (by simp -dsimp -implicitDefEqProofs only [↓j25, ↓j29, ↓j30, j33, j173, j174, ↓reduceIte]; rfl) (fun x hx => (args_sii x hx).2) hg1 ?_
  simp -dsimp -implicitDefEqProofs only [↓j0, ↓j1, ↓j7, ↓j12, ↓j15, j17, j18, j20, ↓j25, ↓j27, ↓j29, ↓j38, ↓j39, ↓j49, ↓j50, ↓j53, ↓j57, j85, ↓j106, j107, ↓j121, ↓j145, ↓j146, ↓j153, AV.proj, AV.offOf, j163, j164, j171, ↓reduceIte, Nat.reduceMul, Nat.reduceEqDiff, Int.reduceToNat, j182, j196, j197, j207, j208, j222, j223, j227, bndAV, j232, j233, j234, ↓j238, j240, j259, j302, j337, hp, up, hbo, hT]
  refine CallTo.pure (args := [.str ⟨p.toArray⟩, .int .i64 ((3 : Nat) : Int), .int .i64 ((4 : Nat) : Int)]) rfl fok30 (by simp -dsimp -implicitDefEqProofs only [↓j25, ↓j29, ↓j30, j33, j173, j174, ↓reduceIte]; rfl) (fun x hx => (args_sii x hx).2) hg2 ?_
  simp -dsimp -implicitDefEqProofs only [↓j0, ↓j1, ↓j2, ↓j7, ↓j12, ↓j15, j17, j18, j20, ↓j25, ↓j27, ↓j29, ↓j30, j33, ↓j38, ↓j39, ↓j43, ↓j46, ↓j48, ↓j57, ↓j76, j85, ↓j89, ↓j94, j130, ↓j145, ↓j146, ↓j150, ↓j153, j157, AV.proj, AV.offOf, AV.sizeL, j163, j164, j167, j171, j175, j177, reduceCtorEq, ↓reduceIte, Nat.reduceEqDiff, Int.reduceToNat, j182, j185, j197, j206, j232, j234, j255, j302, hy, c0, ha, byteAV]
  cases a
  · simp -dsimp -implicitDefEqProofs only [↓j0, ↓j1, ↓j2, ↓j10, j17, j18, j20, ↓j25, ↓j29, ↓j30, j32, ↓j38, ↓j39, ↓j40, j82, ↓j145, ↓j148, ↓j150, j163, j164, j171, j175, ↓reduceIte, Nat.reduceEqDiff]
    exact fin false _ _ _ (by rw [hO]; rfl) rfl
  simp -dsimp -implicitDefEqProofs only [↓j1, ↓j2, j17, j18, j20, ↓j25, ↓j29, ↓j30, j32, ↓j38, ↓j40, ↓j48, ↓j50, j83, ↓j89, ↓j145, ↓j146, ↓j147, ↓j150, j157, j163, j164, j171, j175, reduceCtorEq, ↓reduceIte, Nat.reduceEqDiff, j185, ↓j225, j265, j393, w1, hb]
  cases b
  · simp -dsimp -implicitDefEqProofs only [↓j0, ↓j1, ↓j2, ↓j10, j17, j18, j20, ↓j25, ↓j29, ↓j30, j32, ↓j39, ↓j40, j82, ↓j145, ↓j148, ↓j150, j163, j164, j171, j175, ↓reduceIte, Nat.reduceEqDiff]
    exact fin false _ _ _ (by rw [hO]; rfl) rfl
  simp -dsimp -implicitDefEqProofs only [↓j2, j17, j18, j20, ↓j25, ↓j27, ↓j29, ↓j38, ↓j43, ↓j53, ↓j76, j129, ↓j145, ↓j146, ↓j147, ↓j150, ↓j153, AV.proj, AV.offOf, j163, j164, j171, j175, ↓reduceIte, Nat.reduceEqDiff, j182, j240, j300, j301, hp]
  refine CallTo.pure (args := [arrAV p]) rfl fok38 (by simp -dsimp -implicitDefEqProofs only [↓j25, ↓j29, j173, j174, ↓reduceIte]) (fun x hx => (args_arr x hx).2) (psum_spec p hp) ?_
  simp -dsimp -implicitDefEqProofs only [↓j0, ↓j1, ↓j2, ↓j10, j17, j18, j20, ↓j25, ↓j29, ↓j30, j32, ↓j39, ↓j40, ↓j48, ↓j50, j83, ↓j89, ↓j145, ↓j146, ↓j147, ↓j150, j157, j163, j164, j171, j175, ↓reduceIte, Nat.reduceEqDiff, j185, ↓j225, j265, j395, w2, hc]
  exact fin c _ _ _ (by rw [hO]; cases c <;> rfl) rfl
def lsnOf (p : List UInt8) : Nat := getL ((p.drop 7).take 8)
theorem lsn_spec (p : List UInt8) (hp : p.length = 224) : ACall Try.prog 13 [arrAV p] [] (.int .u64 (lsnOf p : Nat)) [] := by
  refine ACall.run (Z := Z) (N := 12) mixed hZ Try.func13 rfl rfl (by kernel_rfl) (by simp) args_arr 0 ?_
  have up := unif_bytes p
  have hg1 := get_spec p 7 8 (by omega) (by omega) (by omega)
  have hbo := bytesOf_bytes p
  have hT : List.take 224 (p.map byteAV) = p.map byteAV := List.take_of_length_le (by simp; omega)
  simp -dsimp -implicitDefEqProofs only [↓j0, ↓j1, ↓j7, ↓j12, ↓j15, j17, j18, j20, ↓j25, ↓j27, ↓j29, ↓j30, j33, ↓j39, ↓j42, ↓j49, ↓j50, ↓j53, ↓j106, j107, ↓j121, ↓j145, ↓j146, ↓j153, AV.proj, AV.offOf, AV.layable, argEnv, j171, j172, ↓reduceIte, Nat.reduceMul, Nat.reduceEqDiff, Int.reduceToNat, j182, j196, j197, j207, j208, j222, j223, j227, bndAV, j232, j233, j234, ↓j238, j240, j259, j302, j337, hp, up, hbo, hT]
  refine CallTo.pure (args := [.str ⟨p.toArray⟩, .int .i64 ((7 : Nat) : Int), .int .i64 ((8 : Nat) : Int)]) rfl fok30 (by simp -dsimp -implicitDefEqProofs only [↓j25, ↓j29, ↓j30, j33, j173, j174, ↓reduceIte]; rfl) (fun x hx => (args_sii x hx).2) hg1 ?_
  simp -dsimp -implicitDefEqProofs only [↓j0, ↓j1, ↓j7, ↓j10, ↓j12, ↓j15, j17, j18, j20, ↓j25, ↓j29, ↓j38, ↓j39, ↓j57, j85, ↓j145, j163, j164, j171, ↓reduceIte, Nat.reduceEqDiff]
  exact Final.one (.inr rfl) (r := .tmp 2) rfl ⟨rfl, fun vs h => by cases h⟩ (fun vs h => by cases h) (fun vs h => by cases h) (.same _ trivial)
theorem args_num {a b : Int} {k k' : IntKind} {p : List UInt8} : ∀ x, x ∈ [arrAV p, AV.int k a, AV.int k' b] → AV.on (fun _ => False) x ∧ ∀ vs, x ≠ .tuple vs := fun x hx => by
  simp only [List.mem_cons, List.not_mem_nil, or_false] at hx
  rcases hx with rfl | rfl | rfl
  · exact ⟨on_bytes _ _, fun vs h => by cases h⟩
  · exact ⟨trivial, fun vs h => by cases h⟩
  · exact ⟨trivial, fun vs h => by cases h⟩
theorem loadB (b : UInt8) : LoadOk Try.prog 5 (byteAV b) = True := by
  simp -dsimp -implicitDefEqProofs only [j130, j255, byteAV]
def numAt (p : List UInt8) (o n : Nat) : Nat := getL ((p.drop o).take n)
theorem numAt_lt {p : List UInt8} {o n : Nat} : numAt p o n < 2 ^ (8 * n) := by
  refine Nat.lt_of_lt_of_le (getL_lt _) (Nat.pow_le_pow_right (by decide) ?_)
  have := List.length_take_le n (p.drop o)
  omega
theorem num_spec (p : List UInt8) (hp : p.length = 224) (o n : Nat) (hn : n ≤ 8) (ho : o + n ≤ 224) : ACall Try.prog 31 [arrAV p, .int .i64 o, .int .i64 n] [] (.int .u64 (numAt p o n : Nat)) [] := by
  refine ACall.run (Z := Z) (N := 18) mixed hZ Try.func31 rfl rfl (by kernel_rfl) (by simp) args_num 0 ?_
  have up := unif_bytes p
  have hg1 := rget_spec p o n hn (by omega) (by omega)
  have hbo := bytesOf_bytes p
  have hT : List.take 224 (p.map byteAV) = p.map byteAV := List.take_of_length_le (by simp; omega)
  simp -dsimp -implicitDefEqProofs only [↓j0, ↓j1, ↓j7, ↓j12, ↓j15, j17, j18, j20, ↓j25, ↓j27, ↓j29, ↓j30, j33, ↓j38, ↓j39, ↓j42, ↓j49, ↓j50, ↓j53, ↓j106, j107, ↓j121, ↓j145, ↓j146, ↓j153, AV.proj, AV.offOf, AV.layable, argEnv, j171, j172, reduceCtorEq, ↓reduceIte, Nat.reduceAdd, Nat.reduceMul, Nat.reduceEqDiff, Int.reduceToNat, j182, j196, j197, j207, j208, j222, j223, j227, bndAV, j232, j233, j234, ↓j238, j240, j259, j302, j337, hp, up, hbo, hT]
  refine CallTo.pure (args := [.str ⟨p.toArray⟩, .int .i64 (o : Int), .int .i64 (n : Int)]) rfl fok39 (by simp -dsimp -implicitDefEqProofs only [↓j25, ↓j29, j173, j174, ↓reduceIte, Nat.reduceEqDiff]) (fun x hx => (args_sii x hx).2) hg1 ?_
  simp -dsimp -implicitDefEqProofs only [↓j0, ↓j1, ↓j7, ↓j10, ↓j12, ↓j15, j17, j18, j20, ↓j25, ↓j29, ↓j38, ↓j39, ↓j57, j85, ↓j145, j163, j164, j171, ↓reduceIte, Nat.reduceEqDiff]
  exact Final.one (.inr rfl) (r := .tmp 6) rfl ⟨rfl, fun vs h => by cases h⟩ (fun vs h => by cases h) (fun vs h => by cases h) (.same _ trivial)
theorem rlsn_spec (p : List UInt8) (hp : p.length = 224) : ACall Try.prog 14 [arrAV p] [] (.int .u64 (lsnOf p : Nat)) [] := by
  refine ACall.run (Z := Z) (N := 5) mixed hZ Try.func14 rfl rfl (by kernel_rfl) (by simp) args_arr 0 ?_
  simp -dsimp -implicitDefEqProofs only [↓j0, ↓j1, ↓j7, ↓j12, ↓j15, j17, j18, j20, ↓j25, ↓j27, ↓j29, ↓j30, j33, ↓j39, ↓j42, ↓j43, ↓j53, ↓j76, j129, ↓j145, ↓j146, ↓j153, AV.proj, AV.offOf, AV.layable, argEnv, j171, j172, ↓reduceIte, Nat.reduceEqDiff, j182, j196, j240, j300, j301, hp]
  refine CallTo.pure (args := [arrAV p, .int .i64 ((7 : Nat) : Int), .int .i64 ((8 : Nat) : Int)]) rfl fok31 (by simp -dsimp -implicitDefEqProofs only [↓j25, ↓j29, ↓j30, j33, j173, j174, ↓reduceIte]; rfl) (fun x hx => (args_num x hx).2) (num_spec p hp 7 8 (by omega) (by omega)) ?_
  simp -dsimp -implicitDefEqProofs only [↓j0, ↓j1, ↓j10, j17, j18, j20, ↓j25, ↓j29, ↓j39, ↓j145, j171, ↓reduceIte]
  exact Final.one (.inr rfl) (r := .tmp 2) rfl ⟨rfl, fun vs h => by cases h⟩ (fun vs h => by cases h) (fun vs h => by cases h) (.same _ trivial)
/-- What a data page holds. -/
structure Dt where
  lsn : Nat
  ts : Nat
  pg : Nat
  sl : UInt8
  body : List UInt8
abbrev Dt.av (d : Dt) : AV := .agg [.int .u64 d.lsn, .int .u32 d.ts, .agg [.int .u16 d.pg, .int .u8 d.sl.toNat], arrAV d.body]
structure Dt.Ok (d : Dt) : Prop where
  lsn : d.lsn < 18446744073709551616
  ts : d.ts < 4294967296
  pg : d.pg < 65536
  body : d.body.length = 64
theorem on_dt (S : Nat → Prop) (d : Dt) : AV.on S d.av := ⟨trivial, trivial, ⟨trivial, trivial, trivial⟩, on_bytes _ _, trivial⟩
theorem args_nd {no : Nat} {d : Dt} : ∀ x, x ∈ [AV.int .u16 (no : Int), d.av] → AV.on (fun _ => False) x ∧ ∀ vs, x ≠ .tuple vs := fun x hx => by
  simp only [List.mem_cons, List.not_mem_nil, or_false] at hx
  rcases hx with rfl | rfl
  · exact ⟨trivial, fun vs h => by cases h⟩
  · exact ⟨on_dt _ _, fun vs h => by cases h⟩
def dtRest (d : Dt) : List UInt8 := putL d.ts 4 ++ (putL d.pg 2 ++ (d.sl :: d.body))
theorem dtRest_len {d : Dt} (h : d.Ok) : (dtRest d).length = 71 := by
  simp only [dtRest, List.length_append, List.length_cons, putL_len, h.body]
def putData (no : Nat) (d : Dt) : List UInt8 := sealP 1 no d.lsn (dtRest d ++ zb 138)
theorem putData_len {no : Nat} {d : Dt} (h : d.Ok) : (putData no d).length = 224 := sealP_len (by rw [List.length_append, dtRest_len h, zb_len])
theorem putData_spec (no : Nat) (hno : no < 65536) (d : Dt) (hd : d.Ok) : ACall Try.prog 11 [.int .u16 no, d.av] [] (arrAV (putData no d)) [] := by
  refine ACall.run (Z := Z) (N := 32) mixed hZ Try.func11 rfl rfl (by kernel_rfl) (by simp) args_nd 0 ?_
  have hbl := hd.body
  have hz := zb_len 224
  have c15 : (15 : Int) ≤ ((224 : Nat) : Int) := by omega
  have c19 : (19 : Int) ≤ ((224 : Nat) : Int) := by omega
  have c21 : (21 : Int) < ((224 : Nat) : Int) := by omega
  have c22 : (22 : Int) ≤ ((224 : Nat) : Int) := by omega
  have hts := hd.ts
  have hpg := hd.pg
  have w1 : IntKind.u64.wrap (d.ts : Int) = (d.ts : Int) := by rw [wrap_u64, Nat.mod_eq_of_lt (by omega)]
  have w2 : IntKind.u64.wrap (d.pg : Int) = (d.pg : Int) := by rw [wrap_u64, Nat.mod_eq_of_lt (by omega)]
  have l4 := putL_len d.ts 4
  have l2 := putL_len d.pg 2
  have uz := unif_bytes (zb 224)
  simp -dsimp -implicitDefEqProofs only [↓j0, ↓j1, ↓j4, ↓j7, ↓j8, ↓j12, ↓j15, j17, j18, j20, j24, ↓j25, ↓j27, ↓j29, ↓j30, j33, ↓j41, ↓j42, ↓j43, ↓j45, ↓j49, ↓j50, ↓j53, ↓j76, ↓j79, j107, j130, ↓j145, ↓j146, ↓j153, AV.proj, AV.offOf, AV.size, AV.sizeL, AV.layable, argEnv, j163, j164, j166, j167, j170, j171, j172, j174, reduceCtorEq, ↓reduceIte, Nat.reduceAdd, Nat.reduceMul, Nat.reduceEqDiff, Nat.reduceSub, Int.reduceLE, Int.reduceToNat, j182, j196, j197, j207, ↓j225, bndAV, j232, ↓j238, j240, j265, j267, j290, j302, j367, j395, hz, c15, w1]
  refine CallTo.pure (args := [.int .u64 d.ts, .int .i64 ((4 : Nat) : Int)]) rfl fok32 (by simp -dsimp -implicitDefEqProofs only [↓j25, ↓j29, ↓j30, j33, j173, j174, ↓reduceIte]; rfl) (notup (fun vs h => by cases h) fun vs h => by cases h) (put_spec d.ts 4 (by omega)) ?_
  have m4 : Nat.min 4 209 = 4 := rfl
  have cp1 := copyB 15 4 19 (zb 224) (putL d.ts 4)
  obtain ⟨q1, hq1⟩ : ∃ q, (zb 224).take 15 ++ (putL d.ts 4).take 4 ++ (zb 224).drop 19 = q := ⟨_, rfl⟩
  have hl1 : q1.length = 224 := by rw [← hq1]; simp only [List.length_append, List.length_take, List.length_drop, l4, hz]; omega
  have u1 := unif_bytes q1
  rw [hq1] at cp1
  simp -dsimp -implicitDefEqProofs only [↓j3, ↓j4, j17, j18, j20, j21, j22, j23, j24, ↓j25, ↓j27, ↓j29, ↓j52, ↓j105, j107, ↓j145, ↓j146, ↓j153, AV.proj, AV.offOf, AV.upd, j170, j171, j172, j173, j174, reduceCtorEq, ↓reduceIte, Nat.reduceAdd, Nat.reduceMul, Nat.reduceEqDiff, j182, j189, j196, j214, j222, j223, ↓j239, j335, l4, uz, hz, m4, cp1]
  refine ⟨by kernel_rfl, ?_⟩
  simp -dsimp -implicitDefEqProofs only [↓j4, ↓j8, ↓j12, ↓j15, j17, j18, j20, j24, ↓j25, ↓j27, ↓j29, ↓j30, j33, ↓j43, ↓j45, ↓j49, ↓j50, ↓j53, ↓j76, ↓j79, j107, j130, ↓j145, ↓j146, ↓j153, AV.proj, AV.offOf, AV.size, AV.sizeL, j163, j164, j166, j167, j170, j171, j172, j174, reduceCtorEq, ↓reduceIte, Nat.reduceAdd, Nat.reduceMul, Nat.reduceEqDiff, Nat.reduceSub, Int.reduceLE, Int.reduceToNat, j182, j196, j197, j207, ↓j225, bndAV, j232, ↓j238, j240, j261, j265, j272, j293, j302, j393, hl1, c19, w2]
  refine CallTo.pure (args := [.int .u64 d.pg, .int .i64 ((2 : Nat) : Int)]) rfl fok32 (by simp -dsimp -implicitDefEqProofs only [↓j25, ↓j29, ↓j30, j33, j173, j174, ↓reduceIte]; rfl) (notup (fun vs h => by cases h) fun vs h => by cases h) (put_spec d.pg 2 (by omega)) ?_
  have m2 : Nat.min 2 205 = 2 := rfl
  have cp2 := copyB 19 2 21 q1 (putL d.pg 2)
  obtain ⟨q2, hq2⟩ : ∃ q, q1.take 19 ++ (putL d.pg 2).take 2 ++ q1.drop 21 = q := ⟨_, rfl⟩
  have hl2 : q2.length = 224 := by rw [← hq2]; simp only [List.length_append, List.length_take, List.length_drop, l2]; omega
  have u2 := unif_bytes q2
  rw [hq2] at cp2
  obtain ⟨y, hy⟩ := list_get (xs := q2) (i := 21) (by omega)
  have hsz : AV.sizeL ((q2.map byteAV).take 21) = 21 * 1 := u2.sizeL_take (by simp; omega)
  have hset : (q2.map byteAV).set 21 (AV.int .u8 (d.sl.toNat : Int)) = (q2.set 21 d.sl).map byteAV := by rw [List.map_set]; rfl
  obtain ⟨q3, hq3⟩ : ∃ q, q2.set 21 d.sl = q := ⟨_, rfl⟩
  have hl3 : q3.length = 224 := by rw [← hq3, List.length_set, hl2]
  have u3 := unif_bytes q3
  rw [hq3] at hset
  have ub := unif_bytes d.body
  have m64 : Nat.min 64 202 = 64 := rfl
  have hT : List.take 64 (d.body.map byteAV) = d.body.map byteAV := List.take_of_length_le (by simp; omega)
  have cp4 := copyB 22 64 86 q3 d.body
  rw [hT] at cp4
  obtain ⟨q4, hq4⟩ : ∃ q, q3.take 22 ++ d.body.take 64 ++ q3.drop 86 = q := ⟨_, rfl⟩
  have hl4 : q4.length = 224 := by rw [← hq4]; simp only [List.length_append, List.length_take, List.length_drop]; omega
  have u4 := unif_bytes q4
  rw [hq4] at cp4
  simp -dsimp -implicitDefEqProofs only [↓j3, ↓j4, j17, j18, j20, j21, j22, j23, j24, ↓j25, ↓j27, ↓j29, ↓j52, ↓j105, j107, ↓j145, ↓j146, ↓j153, AV.proj, AV.offOf, AV.upd, j170, j171, j172, j173, j174, reduceCtorEq, ↓reduceIte, Nat.reduceAdd, Nat.reduceMul, Nat.reduceEqDiff, j182, j189, j196, j214, j222, j223, ↓j239, j335, l2, u1, hl1, m2, cp2]
  refine ⟨by kernel_rfl, ?_⟩
  simp -dsimp -implicitDefEqProofs only [↓j0, ↓j1, ↓j3, ↓j4, ↓j7, ↓j8, ↓j12, ↓j15, j17, j18, j19, j20, j21, j22, j23, j24, ↓j25, ↓j27, ↓j29, ↓j30, j33, ↓j43, ↓j44, ↓j45, ↓j46, ↓j49, ↓j52, ↓j76, ↓j78, ↓j79, ↓j94, ↓j106, j107, j130, ↓j145, ↓j146, ↓j153, AV.proj, AV.offOf, AV.upd, AV.size, AV.sizeL, AV.layable, j163, j164, j166, j167, j170, j171, j172, j173, j174, j177, reduceCtorEq, ↓reduceIte, Nat.reduceAdd, Nat.reduceMul, Nat.reduceEqDiff, Nat.reduceSub, Int.reduceLE, Int.reduceToNat, j182, j189, j196, j197, j206, j207, j208, j213, j214, j215, j222, j223, j227, bndAV, j232, j233, j234, ↓j238, ↓j239, j240, ↓j245, j254, j255, j275, j281, j293, j296, j302, j335, hbl, hy, c21, hsz, hset, hl3, u3, c22, ub, m64, hT, cp4]
  refine ⟨by kernel_rfl, ?_⟩
  simp -dsimp -implicitDefEqProofs only [↓j1, ↓j7, ↓j12, ↓j15, j17, j18, j20, ↓j25, ↓j27, ↓j29, ↓j38, ↓j43, ↓j45, ↓j53, ↓j76, ↓j79, j129, j130, ↓j145, ↓j146, ↓j153, AV.proj, AV.offOf, AV.sizeL, j163, j167, j171, reduceCtorEq, ↓reduceIte, Nat.reduceEqDiff, j182, j197, j240, j264, j287, j300, j301, hl4]
  have e4 : q4.drop 15 = dtRest d ++ zb 138 := by
    obtain ⟨a1, a2, a3, a4, ha⟩ : ∃ a b c e, putL d.ts 4 = [a, b, c, e] := ⟨_, _, _, _, rfl⟩
    obtain ⟨b1, b2, hb⟩ : ∃ a b, putL d.pg 2 = [a, b] := ⟨_, _, rfl⟩
    have d1 : q1.drop 15 = putL d.ts 4 ++ zb 205 := by
      rw [← hq1, List.take_of_length_le (l := putL d.ts 4) (by omega), drop_copy (j := 0) (by rw [hz]; omega) (by omega)]
      simp [zb]
    have d2 : q2.drop 15 = putL d.ts 4 ++ (putL d.pg 2 ++ zb 203) := by
      rw [← hq2, List.take_of_length_le (l := putL d.pg 2) (by omega), drop_copy (n := 15) (j := 4) (by omega) (by omega), d1, ha, hb]
      simp [zb]
    have d3 : q3.drop 15 = putL d.ts 4 ++ (putL d.pg 2 ++ (d.sl :: zb 202)) := by
      rw [← hq3, List.drop_set, if_neg (by omega), d2, ha, hb]
      rfl
    rw [← hq4, List.take_of_length_le (l := d.body) (by omega), drop_copy (n := 15) (j := 7) (by omega) (by omega), d3, dtRest, ha, hb]
    simp [zb]
  have hps := pseal_spec 1 no d.lsn hno hd.lsn q4 hl4
  have hpl := putData_len (no := no) hd
  rw [e4] at hps
  refine CallTo.pure (args := [.int .u8 ((1 : UInt8).toNat : Nat), .int .u16 no, .int .u64 d.lsn, arrAV q4]) rfl fok33 (by simp -dsimp -implicitDefEqProofs only [↓j25, ↓j29, ↓j30, j33, j173, j174, ↓reduceIte, Nat.reduceEqDiff]; rfl) (fun x hx => (args_seal x hx).2) hps ?_
  simp -dsimp -implicitDefEqProofs only [↓j1, j17, j18, j20, ↓j25, ↓j27, ↓j29, ↓j44, ↓j78, ↓j145, ↓j153, AV.proj, AV.offOf, AV.size, AV.layable, j171, j179, ↓reduceIte, Nat.reduceEqDiff, j184, j240, j300, hz]
  have hpl' : (sealP 1 no d.lsn (dtRest d ++ zb 138)).length = 224 := hpl
  simp -dsimp -implicitDefEqProofs only [↓j0, ↓j10, j17, j19, j20, j21, j22, j23, ↓j146, AV.upd, j170, j171, reduceCtorEq, ↓reduceIte, Nat.reduceEqDiff, j182, hpl']
  exact Final.one (.inr rfl) (r := .cell 4 32) rfl ⟨1, 0, [], _, rfl, rfl, rfl, rfl, by simp -dsimp -implicitDefEqProofs only [j129, j182, j240, j300, j301, hpl']⟩ (fun vs h => by cases h) (fun vs h => by cases h) (.same _ (on_bytes _ _))
end Go.Proofs.Ytbellkdglifahaa
