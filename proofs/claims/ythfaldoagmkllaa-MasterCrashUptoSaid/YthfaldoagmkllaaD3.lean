/- An operation is counted; blocks are gathered. -/
import Derived.Test.YthfaldoagmkllaaD2
set_option linter.unusedVariables false
set_option linter.unusedSimpArgs false
namespace Go.Proofs.Ythfaldoagmkllaa
open Go Go.RowKit

theorem laid0 : laidOutB Try.prog = true := by kernel_rfl
theorem keyed3 : Maps.Keyed Try.prog 3 := Maps.int_keyed Try.underlying3
theorem keyed67 : Maps.Keyed Try.prog 81 := Maps.Keyed.of_law (deep_law_laid laid0 (m := 20) (by decide) (of_decide_eq_true (by kernel_rfl)) (by kernel_rfl) (by kernel_rfl))
theorem wf_i64 {k : Int} (h : flOk k) : (Lit.int .i64 k).wf = true := by
  obtain ⟨h1, h2⟩ := h
  simp [Lit.wf, IntKind.min, IntKind.max, IntKind.signed, IntKind.bits]
  omega
theorem isKey3 {k : Int} (h : flOk k) : IsKey Try.prog 3 (flK k) := ⟨.int .i64 k, .int .i64 k, rfl, Maps.keyOf_int_mk Try.underlying3 (wf_i64 h)⟩
theorem keyInj3 : KeyInj flK flOk := ⟨fun a b _ _ h => by
  have : plainV (flK a) = some (.int .i64 a) := rfl
  rw [this, show plainV (flK b) = some (.int .i64 b) from rfl] at h
  cases h; rfl⟩
def plOk (k : Pl) : Prop := k.1 < 9223372036854775808 ∧ k.2 < 9223372036854775808
theorem plainV_pl (k : Pl) : plainV (plAV k) = some (.agg #[.int .i64 (k.1 : Nat), .int .i64 (k.2 : Nat)]) := rfl
theorem keyInj67 : KeyInj plAV plOk := ⟨fun a b _ _ h => by
  rw [plainV_pl, plainV_pl] at h
  obtain ⟨a1, a2⟩ := a
  obtain ⟨b1, b2⟩ := b
  simp only [Option.some.injEq, Value.agg.injEq] at h
  have h := congrArg Array.toList h
  simp at h
  obtain ⟨h1, h2⟩ := h
  have h1 : a1 = b1 := by omega
  have h2 : a2 = b2 := by omega
  subst h1 h2; rfl⟩
theorem cells67 : Try.prog.cellsOf 81 = 2 := by kernel_rfl
theorem cells3 : Try.prog.cellsOf 3 = 1 := by kernel_rfl
theorem keyT67 : Try.prog.keyType 81 = true := by kernel_rfl
theorem isKey67 {k : Pl} (h : plOk k) : IsKey Try.prog 81 (plAV k) := by
  have w1 := wf_i64 (k := (k.1 : Nat)) ⟨by have := h.1; omega, by have := h.1; omega⟩
  have w2 := wf_i64 (k := (k.2 : Nat)) ⟨by have := h.2; omega, by have := h.2; omega⟩
  refine ⟨_, .string (keyBytes [.int .i64 (k.1 : Nat), .int .i64 (k.2 : Nat)]), plainV_pl k, ?_⟩
  obtain ⟨n, hn⟩ : ∃ n, Try.prog.types.size + 1 = n + 2 := ⟨Try.prog.types.size - 1, by kernel_rfl⟩
  have hk : ∀ q : Int, (Lit.int .i64 q).wf = true → Try.prog.keyLits (n + 1) 3 [.int .i64 q] = some [.int .i64 q] := fun q hq => by
    simp [Program.keyLits, Try.underlying3, hq]
  have hf : Value.formed Try.prog 81 (.agg #[.int .i64 (k.1 : Nat), .int .i64 (k.2 : Nat)]) = true := by
    simp [Value.formed, Try.underlying81, cells67]
  unfold keyOf
  rw [Try.underlying81]
  simp only [keyT67, hf, Bool.and_self, if_true, hn]
  have e : Try.prog.keyLits (n + 2) 81 (Value.agg #[.int .i64 (k.1 : Nat), .int .i64 (k.2 : Nat)]).cells.toList = some [.int .i64 (k.1 : Nat), .int .i64 (k.2 : Nat)] := by
    show Try.prog.keyLits (n + 1 + 1) 81 [.int .i64 (k.1 : Nat), .int .i64 (k.2 : Nat)] = _
    simp [Program.keyLits, Try.underlying81, Try.underlying3, cells67, cells3, List.range_succ, w1, w2]
  rw [e]
  rfl
theorem wrOk_pl {n : Nat} (hn : n ≤ 2048) {w : Wr} (h : wrOk n w) : plOk w.1 := ⟨by have := h.1; omega, by have := h.2.1; omega⟩
theorem goodW {n : Nat} (hn : n ≤ 2048) {l : List Wr} (hl : ∀ w, w ∈ l → wrOk n w) (hd : (l.map (·.1)).Nodup) : GoodMap Try.prog 81 (mapE plAV arrAV l) :=
  goodMap_map keyInj67 (fun _ h => isKey67 h) (fun e he => wrOk_pl hn (hl e he)) hd
theorem goodF {l : List (Int × Bool)} (hd : (l.map (·.1)).Nodup) (hl : ∀ e, e ∈ l → flOk e.1) : GoodMap Try.prog 3 (mapE flK flV l) :=
  goodMap_map keyInj3 (fun _ h => isKey3 h) hl hd

def failAt (f : Option (List (Int × Bool))) (k : Int) : Bool := match f with
  | none => false
  | some l => (aGet l k).getD false
def DS.opP (d : DS) : Nat × DS :=
  if 1 ≤ d.fuse ∧ (d.ops : Int) + 1 = d.fuse then (4, { d with ops := d.ops + 1, down := true })
  else if failAt d.fails ((d.ops : Int) + 1) then (3, { d with ops := d.ops + 1 }) else (0, { d with ops := d.ops + 1 })
theorem fok37 : fnOk Try.prog 37 = true := by kernel_rfl
theorem op_spec (d : DS) (hd : d.Ok) : ACall Try.prog 37 [.ptr 0 0 []] (diskH0 d) (.int .i64 (d.opP.1 : Nat)) (diskH0 d.opP.2) := by
  refine ACall.runH (Z := Z) (N := 38) mixed hZ Try.func37 rfl rfl (by kernel_rfl) (by simp) (disk_args no_args) (disk_on fun _ h => h) 5 disk_lt ?_
  have ho := hd.ops
  have w1 : IntKind.i64.wrap ((d.ops : Int) + 1) = ((d.ops + 1 : Nat) : Int) := by rw [wrap_i64 (by omega) (by omega)]; omega
  have d0 : ∀ n, n ≠ 4 → Heap.del (pendB d.pend 4) n = pendB d.pend 4 := fun n h => del_pendB h
  have d1 := d0 0 (by omega)
  have f0 : Heap.del (failB d.fails 3) 0 = failB d.fails 3 := del_failB (by omega)
  have hk1 : flOk ((d.ops + 1 : Nat) : Int) := ⟨by omega, by omega⟩
  have fin : ∀ (e : Nat) (d' : DS) (t : Env) (m : Nat), d.opP = (e, d') → look t 2 = some (.int .i64 (e : Nat)) → d'.sure = d.sure → d'.seen = d.seen → d'.pend = d.pend → d'.fails = d.fails →
      Final Try.prog Try.f37 (.int .i64 (d.opP.1 : Nat)) (diskH0 d.opP.2) .ret ⟨38, t, (0, dskC d' 2 3 4) :: (1, mapB d.sure) :: (2, mapB d.seen) :: (failB d.fails 3 ++ pendB d.pend 4), m⟩ := by
    intro e d' t m he h2 e1 e2 e3 e4
    rw [he, ← e1, ← e2, ← e3, ← e4]
    exact Final.oneH (.inr rfl) (r := .tmp 2) rfl ⟨h2, fun vs h => by cases h⟩ (fun vs h => by cases h) (fun vs h => by cases h) (.same _ trivial) (disk_same nm0)
  simp -dsimp -implicitDefEqProofs only [↓j0, ↓j1, ↓j4, ↓j5, ↓j7, ↓j8, ↓j12, ↓j15, j17, j18, j19, j20, j21, j23, j24, ↓j25, ↓j27, ↓j29, ↓j30, j33, ↓j38, ↓j39, ↓j43, ↓j44, ↓j45, ↓j48, ↓j56, ↓j76, ↓j78, ↓j79, ↓j89, j130, ↓j145, ↓j146, ↓j150, ↓j153, j154, j162, AV.proj, AV.offOf, AV.upd, AV.size, AV.sizeL, AV.layable, argEnv, j163, j164, j166, j167, j168, j169, j170, j171, j172, j174, j175, reduceCtorEq, ↓reduceIte, Nat.reduceAdd, Nat.reduceEqDiff, j182, j185, j196, j197, j249, j250, j375, j378, size_pendV, size_failV, w1, del_app, d1, f0]
  have look : ∀ (t : Env) (H0 : Heap) (m : Nat) (K : Eff → Nat → Prop), Heap.get H0 3 = Heap.get (failB d.fails 3) 3 → (K ⟨.bool (failAt d.fails ((d.ops : Int) + 1)), (if d.fails = none then [] else [3]), [], []⟩ m) →
      DoLookup Try.prog Z 76 (some (failV d.fails 3)) (some (.int .i64 ((d.ops + 1 : Nat) : Int))) false ⟨38, t, H0, m⟩ K := by
    intro t H0 m K h3 hK
    cases hfl : d.fails with
    | none =>
      rw [hfl] at hK
      exact DoLookup_nil Try.underlying76 rfl keyed3 (isKey3 hk1) hK
    | some l =>
      rw [hfl] at hK h3
      obtain ⟨g1, g2⟩ := hd.fails l hfl
      refine DoLookup_own (es := mapE flK flV l) Try.underlying76 h3 rfl keyed3 (isKey3 hk1) (goodF g1 g2) rfl rfl ?_
      rw [mval_map keyInj3 hk1 g2]
      simp only [failAt] at hK
      have e : ((d.ops : Int) + 1) = ((d.ops + 1 : Nat) : Int) := by omega
      rw [e] at hK
      cases hg : aGet l ((d.ops + 1 : Nat) : Int) <;> rw [hg] at hK <;> simpa using hK
  have h3 : Heap.get ((0, dskC { d with ops := d.ops + 1 } 2 3 4) :: (1, mapB d.sure) :: (2, mapB d.seen) :: (failB d.fails 3 ++ pendB d.pend 4)) 3 = Heap.get (failB d.fails 3) 3 := by
    simp only [Heap.get]
    rw [get_append, get_pendB (by omega)]
    cases Heap.get (failB d.fails 3) 3 <;> simp
  have cf : ∀ (os : List Oper), (∀ l, l = [] ∨ l = [3] → confOk os [([],[]),([],[]),([],[]),([0],[]),([],[]),([],[]),([],[]),([0],[]),(l,[])] = true) → confOk os [([],[]),([],[]),([],[]),([0],[]),([],[]),([],[]),([],[]),([0],[]),((if d.fails = none then [] else [3]),[])] = true := by
    intro os h
    refine h _ ?_
    split
    · exact .inl rfl
    · exact .inr rfl
  have rest : ¬ (1 ≤ d.fuse ∧ (d.ops : Int) + 1 = d.fuse) → ∀ b, failAt d.fails ((d.ops : Int) + 1) = b → d.opP = (if b then 3 else 0, { d with ops := d.ops + 1 }) := by
    intro h b hb
    unfold DS.opP
    rw [if_neg h, hb]
    cases b <;> rfl
  refine ⟨fun hf => ?_, fun hf => ?_⟩
  · have hf' : 1 ≤ d.fuse := of_decide_eq_true hf
    simp -dsimp -implicitDefEqProofs only [↓j3, ↓j4, ↓j5, j17, j18, j20, j24, ↓j25, ↓j27, ↓j29, ↓j30, j32, ↓j38, ↓j40, ↓j43, ↓j45, ↓j48, ↓j56, ↓j76, ↓j79, j83, ↓j89, j130, ↓j145, ↓j146, ↓j147, ↓j150, ↓j153, j157, AV.proj, AV.offOf, AV.size, AV.sizeL, j163, j164, j166, j167, j170, j171, j172, j174, j175, reduceCtorEq, ↓reduceIte, Nat.reduceAdd, Nat.reduceEqDiff, j182, j185, j196, j197, j250, j375, j378, hf, size_pendV, size_failV]
    refine ⟨by kernel_rfl, ?_⟩
    simp -dsimp -implicitDefEqProofs only [↓j13, ↓j25, ↓j29, ↓j145, ↓j149, ↓reduceIte]
    refine ⟨fun he => ?_, fun he => ?_⟩
    · have he' : ((d.ops + 1 : Nat) : Int) = d.fuse := by simpa using he
      simp -dsimp -implicitDefEqProofs only [↓j0, ↓j1, ↓j7, ↓j10, ↓j12, ↓j15, j17, j18, j19, j20, j21, j23, ↓j25, ↓j27, ↓j29, ↓j30, j32, j33, ↓j38, ↓j39, ↓j44, ↓j45, ↓j56, ↓j78, ↓j79, ↓j145, ↓j146, ↓j153, AV.proj, AV.offOf, AV.upd, AV.size, AV.sizeL, AV.layable, j163, j164, j166, j167, j168, j169, j170, j171, reduceCtorEq, ↓reduceIte, Nat.reduceAdd, j182, j196, j197, j252, j381, he, size_pendV, size_failV, del_app, d1, f0]
      refine fin 4 { d with ops := d.ops + 1, down := true } _ _ ?_ rfl rfl rfl rfl rfl
      unfold DS.opP
      rw [if_pos ⟨hf', by omega⟩]
    · have he' : ¬ ((d.ops + 1 : Nat) : Int) = d.fuse := by simpa using he
      simp -dsimp -implicitDefEqProofs only [↓j4, ↓j8, ↓j9, ↓j12, ↓j15, j17, j18, j20, j24, ↓j25, ↓j27, ↓j29, ↓j38, ↓j43, ↓j45, ↓j56, ↓j64, ↓j76, ↓j79, j130, ↓j145, ↓j146, ↓j153, AV.proj, AV.offOf, AV.size, AV.sizeL, j163, j164, j166, j167, j170, j171, j172, j174, reduceCtorEq, ↓reduceIte, Nat.reduceAdd, Nat.reduceEqDiff, j182, j196, j197, j250, j372, j378, he, size_pendV, size_failV, load_failV]
      refine look _ _ _ _ h3 ?_
      simp -dsimp -implicitDefEqProofs only [↓j3, j17, j18, j20, j24, j171, j172, j174]
      refine ⟨cf _ (by rintro l (rfl | rfl) <;> kernel_rfl), ?_⟩
      refine ⟨fun hb => ?_, fun hb => ?_⟩
      · simp -dsimp -implicitDefEqProofs only [↓j0, ↓j1, ↓j7, ↓j10, ↓j12, ↓j15, j17, j18, j20, ↓j30, j33, ↓j39, ↓j145, j171, hb]
        exact fin 3 { d with ops := d.ops + 1 } _ _ (by rw [rest (by omega) true hb]; rfl) rfl rfl rfl rfl rfl
      · simp -dsimp -implicitDefEqProofs only [↓j0, ↓j1, ↓j7, ↓j9, ↓j10, ↓j12, ↓j15, j17, j18, j20, ↓j30, j33, ↓j39, ↓j145, j171, hb]
        exact fin 0 { d with ops := d.ops + 1 } _ _ (by rw [rest (by omega) false hb]; rfl) rfl rfl rfl rfl rfl
  · have hf' : ¬ 1 ≤ d.fuse := of_decide_eq_false hf
    simp -dsimp -implicitDefEqProofs only [↓j3, ↓j4, ↓j5, j17, j18, j20, j24, ↓j25, ↓j29, ↓j30, j32, ↓j40, j82, ↓j145, ↓j148, ↓j150, j163, j164, j170, j171, j172, j174, j175, ↓reduceIte, Nat.reduceEqDiff, hf]
    refine ⟨by kernel_rfl, ?_⟩
    simp -dsimp -implicitDefEqProofs only [↓j4, ↓j8, ↓j9, ↓j12, ↓j13, ↓j15, j17, j18, j20, j24, ↓j25, ↓j27, ↓j29, ↓j38, ↓j43, ↓j45, ↓j56, ↓j64, ↓j76, ↓j79, j130, ↓j145, ↓j146, ↓j148, ↓j149, ↓j153, AV.proj, AV.offOf, AV.size, AV.sizeL, j163, j164, j166, j167, j170, j171, j172, j174, reduceCtorEq, ↓reduceIte, Nat.reduceAdd, Nat.reduceEqDiff, j182, j196, j197, j250, j372, j378, size_pendV, size_failV, load_failV]
    refine look _ _ _ _ h3 ?_
    simp -dsimp -implicitDefEqProofs only [↓j3, j17, j18, j20, j24, j171, j172, j174]
    refine ⟨cf _ (by rintro l (rfl | rfl) <;> kernel_rfl), ?_⟩
    refine ⟨fun hb => ?_, fun hb => ?_⟩
    · simp -dsimp -implicitDefEqProofs only [↓j0, ↓j1, ↓j7, ↓j10, ↓j12, ↓j15, j17, j18, j20, ↓j30, j33, ↓j39, ↓j145, j171, hb]
      exact fin 3 { d with ops := d.ops + 1 } _ _ (by rw [rest (by omega) true hb]; rfl) rfl rfl rfl rfl rfl
    · simp -dsimp -implicitDefEqProofs only [↓j0, ↓j1, ↓j7, ↓j9, ↓j10, ↓j12, ↓j15, j17, j18, j20, ↓j30, j33, ↓j39, ↓j145, j171, hb]
      exact fin 0 { d with ops := d.ops + 1 } _ _ (by rw [rest (by omega) false hb]; rfl) rfl rfl rfl rfl rfl
theorem opP_ok {d : DS} (hd : d.Ok) (hl : d.ops < 1000000) : d.opP.2.Ok := by
  have key : ∀ b, DS.Ok { d with ops := d.ops + 1, down := b } := fun b => ⟨hd.n1, hd.n2, hd.sure, hd.seen, hd.pend, hd.sureN, hd.seenN, hd.few, hd.fails, by show d.ops + 1 ≤ 1000000; omega⟩
  unfold DS.opP
  split
  · exact key _
  · split <;> exact key d.down
end Go.Proofs.Ythfaldoagmkllaa
