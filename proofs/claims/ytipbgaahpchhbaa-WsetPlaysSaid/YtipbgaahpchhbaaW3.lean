/- The set of what was written: its memory; New, Write, Read, Pages. -/
import Derived.Test.YtipbgaahpchhbaaW2
set_option maxRecDepth 8000
set_option linter.unusedVariables false
set_option linter.unusedSimpArgs false
namespace Go.Proofs.Ytipbgaahpchhbaa
open Go Go.RowKit

/-- A piece is laid. -/
def layB (out : Bo) (at_ : Nat) (x : Bo) : Bo := out.take at_ ++ x ++ out.drop (at_ + x.length)
theorem layB_len {out x : Bo} {at_ : Nat} (h : at_ + x.length ≤ out.length) : (layB out at_ x).length = out.length := by
  simp only [layB, List.length_append, List.length_take, List.length_drop]; omega
def kOk (k : Nat) : Prop := k < 65536
structure MOk (M : List KV) : Prop where
  few : M.length ≤ 4
  nodup : (M.map (·.1)).Nodup
  keys : ∀ e, e ∈ M → kOk e.1 ∧ e.2.1.length = 64 ∧ e.2.2.length = 64
abbrev stC : ABlk := .cells (.agg [.mapv 1])
abbrev stH (M : List KV) : Heap := [(2, stC), (1, mapB M)]
theorem keyed23 : Maps.Keyed Try.prog 23 := Maps.int_keyed Try.underlying23
theorem wf_u16 {k : Nat} (h : kOk k) : (Lit.int .u16 (k : Int)).wf = true := by
  unfold kOk at h
  simp [Lit.wf, IntKind.min, IntKind.max, IntKind.signed, IntKind.bits]
  omega
theorem isKey23 {k : Nat} (h : kOk k) : IsKey Try.prog 23 (kAV k) := ⟨.int .u16 k, .int .u16 k, rfl, Maps.keyOf_int_mk Try.underlying23 (wf_u16 h)⟩
theorem keyInj23 : KeyInj kAV kOk := ⟨fun a b _ _ h => by
  have : plainV (kAV a) = some (.int .u16 a) := rfl
  rw [this, show plainV (kAV b) = some (.int .u16 b) from rfl] at h
  simp only [Option.some.injEq, Value.int.injEq, true_and] at h
  omega⟩
theorem ks_ok {M : List KV} (h : MOk M) : ∀ e, e ∈ M → kOk e.1 := fun e he => (h.keys e he).1
theorem goodM {M : List KV} (h : MOk M) : GoodMap Try.prog 23 (mapE kAV vAV M) := goodMap_map keyInj23 (fun _ h => isKey23 h) (ks_ok h) h.nodup
theorem get_st {M : List KV} {n : Nat} {b : ABlk} (h : Heap.get (stH M) n = some b) : (n = 2 ∧ b = stC) ∨ (n = 1 ∧ b = mapB M) := by
  simp only [Heap.get] at h
  by_cases h2 : n = 2
  · rw [if_pos h2] at h; cases h; exact .inl ⟨h2, rfl⟩
  rw [if_neg h2] at h
  by_cases h1 : n = 1
  · rw [if_pos h1] at h; cases h; exact .inr ⟨h1, rfl⟩
  rw [if_neg h1] at h; cases h
theorem st_on {M : List KV} {S : Nat → Prop} (h1 : S 1) : ∀ n b, Heap.get (stH M) n = some b → b.on S := fun n b h => by
  rcases get_st h with ⟨_, rfl⟩ | ⟨_, rfl⟩
  · exact ⟨h1, trivial⟩
  · exact mapB_on _ _
theorem st_lt {M : List KV} : ∀ n, n ∈ (stH M).map (·.1) → n < 3 := fun n hn => by simp at hn; omega
theorem st_mem (M : List KV) (n : Nat) : n ∈ (stH M).map (·.1) ↔ n = 2 ∨ n = 1 := by simp
theorem st_args {M : List KV} {l : List AV} (hl : ∀ x, x ∈ l → AV.on (fun _ => False) x ∧ ∀ vs, x ≠ .tuple vs) : ∀ x, x ∈ AV.ptr 2 0 [] :: l → AV.on (fun n => n ∈ (stH M).map (·.1)) x ∧ ∀ vs, x ≠ .tuple vs := fun x hx => by
  rcases List.mem_cons.1 hx with rfl | hx
  · exact ⟨(st_mem M 2).2 (.inl rfl), fun vs h => by cases h⟩
  · exact ⟨on_mono (fun _ h => h.elim) (hl x hx).1, (hl x hx).2⟩
theorem st_keep {M : List KV} {H : Heap} (h0 : Heap.get H 2 = some stC) (h1 : Heap.get H 1 = some (mapB M)) : ∀ n b, Heap.get (stH M) n = some b → ∃ b0, Heap.get H n = some b0 ∧ BFrz (fun n => Heap.get (stH M) n ≠ none) H b0 b := fun n b hb => by
  rcases get_st hb with ⟨rfl, rfl⟩ | ⟨rfl, rfl⟩
  · exact ⟨_, h0, .same _ ⟨show Heap.get _ _ ≠ none by simp [Heap.get], trivial⟩⟩
  · exact ⟨_, h1, show _ = _ ∧ _ from ⟨rfl, mapB_on _ _⟩⟩
theorem no_args : ∀ x, x ∈ ([] : List AV) → AV.on (fun _ => False) x ∧ ∀ vs, x ≠ .tuple vs := fun x hx => by cases hx
theorem arg_int {k : IntKind} {n : Int} : ∀ x, x ∈ [AV.int k n] → AV.on (fun _ => False) x ∧ ∀ vs, x ≠ .tuple vs := fun x hx => by
  simp only [List.mem_singleton] at hx; subst hx; exact ⟨trivial, fun vs h => by cases h⟩
theorem notup1 {v : AV} (hv : ∀ vs, v ≠ .tuple vs) : ∀ x, x ∈ [v] → ∀ vs, x ≠ .tuple vs := fun x hx => by
  simp only [List.mem_singleton] at hx; subst hx; exact hv
theorem notup2 {u v : AV} (hu : ∀ vs, u ≠ .tuple vs) (hv : ∀ vs, v ≠ .tuple vs) : ∀ x, x ∈ [u, v] → ∀ vs, x ≠ .tuple vs := fun x hx => by
  simp only [List.mem_cons, List.not_mem_nil, or_false] at hx
  rcases hx with rfl | rfl <;> assumption
theorem put_st {M M' : List KV} {a b : Nat} : ∀ n x, Heap.get (stH M) n = some x → n ∉ (stH M').map (·.1) → a ≤ n ∧ n < b := fun n x h h2 => absurd ((st_mem M' n).2 (by rcases get_st h with ⟨h, _⟩ | ⟨h, _⟩ <;> simp [h])) h2
theorem put_new {M : List KV} {k : Nat} (hk : k ≤ 1) : ∀ n x, Heap.get (stH M) n = some x → n ∉ ([] : Heap).map (·.1) → k ≤ n ∧ n < 3 := fun n x h _ => by rcases get_st h with ⟨rfl, _⟩ | ⟨rfl, _⟩ <;> omega
theorem put_new' {M : List KV} {H : Heap} {k : Nat} (hk : k ≤ 1) : ∀ n x, Heap.get (stH M) n = some x → n ∉ ([] : Heap).map (·.1) → k ≤ n ∧ n < 3 := fun n x h _ => by rcases get_st h with ⟨rfl, _⟩ | ⟨rfl, _⟩ <;> omega
theorem m0_ok : MOk [] := ⟨by show (0 : Nat) ≤ 4; decide, List.nodup_nil, fun e he => by cases he⟩
theorem new_spec : ACall Try.prog 7 [] [] (.ptr 2 0 []) (stH []) := by
  refine ACall.run (Z := Z) (N := 4) mixed hZ Try.func7 rfl rfl (by kernel_rfl) (by simp) no_args 1 ?_
  simp -dsimp -implicitDefEqProofs only [↓j0, ↓j1, ↓j7, ↓j10, ↓j12, ↓j15, j17, j18, j20, ↓j25, ↓j29, ↓j30, j35, ↓j39, ↓j42, ↓j54, ↓j66, ↓j124, j125, j126, j127, j128, ↓j145, ↓j146, partsAV, AV.size, AV.sizeL, AV.layable, argEnv, j163, j167, j169, j170, j171, j172, j179, j180, ↓reduceIte, Nat.reduceAdd, j182, j183, j213, j214, j215, j217, j343, j410]
  refine Final.oneH (.inr rfl) (r := .tmp 0) rfl ⟨rfl, fun vs h => by cases h⟩ (fun vs h => by cases h) (fun vs h => by cases h) (.same _ (show Heap.get _ _ ≠ none by simp [Heap.get])) (st_keep ?_ ?_)
  · rfl
  · rfl
theorem fok7 : fnOk Try.prog 7 = true := by kernel_rfl
theorem fok8 : fnOk Try.prog 8 = true := by kernel_rfl
theorem fok9 : fnOk Try.prog 9 = true := by kernel_rfl
theorem fok10 : fnOk Try.prog 10 = true := by kernel_rfl
theorem fok11 : fnOk Try.prog 11 = true := by kernel_rfl
theorem fok12 : fnOk Try.prog 12 = true := by kernel_rfl
theorem fok13 : fnOk Try.prog 13 = true := by kernel_rfl
theorem fok14 : fnOk Try.prog 14 = true := by kernel_rfl
theorem fok15 : fnOk Try.prog 15 = true := by kernel_rfl
theorem fok16 : fnOk Try.prog 16 = true := by kernel_rfl
theorem fok17 : fnOk Try.prog 17 = true := by kernel_rfl
theorem fok18 : fnOk Try.prog 18 = true := by kernel_rfl
theorem fok19 : fnOk Try.prog 19 = true := by kernel_rfl
theorem fok20 : fnOk Try.prog 20 = true := by kernel_rfl
/-- A writing: what is answered, and the set behind it. -/
def writeP (M : List KV) (page : Nat) (base : Bo) (off : Int) (s : Bo) : Nat × List KV :=
  if off < 0 ∨ 64 < off ∨ 64 - off < (s.length : Int) then (1, M) else
  match aGet M page with
  | some e => (0, aPut M page (e.1, layB e.2 off.toNat s))
  | none => if M.length = 4 then (10, M) else (0, aPut M page (base, layB base off.toNat s))
theorem write_ok {M : List KV} (hM : MOk M) {page : Nat} (hp : kOk page) {base : Bo} (hb : base.length = 64) (off : Int) (s : Bo) : MOk (writeP M page base off s).2 := by
  unfold writeP
  split
  · exact hM
  · rename_i h
    cases hg : aGet M page with
    | some e =>
      have hm := aGet_mem hg
      have hk := hM.keys _ hm
      have hk64 : e.2.length = 64 := hk.2.2
      refine ⟨?_, aPut_nodup _ _ hM.nodup, fun x hx => ?_⟩
      · have hl : (aPut M page (e.1, layB e.2 off.toNat s)).length = M.length := by
          have h1 := aPut_find (M := M) (k := page) (v := (e.1, layB e.2 off.toNat s))
          have h2 := aFind_get (M := M) (k := page)
          rcases h2 with ⟨h2, h3⟩ | ⟨j, e', h2, _, _, _⟩
          · rw [h3] at hg; cases hg
          · rw [h1, h2]; simp
        have := hM.few
        show (aPut M page (e.1, layB e.2 off.toNat s)).length ≤ 4
        omega
      · rcases aPut_mem hx with rfl | hx
        · exact ⟨hp, hk.2.1, by show (layB e.2 off.toNat s).length = 64; rw [layB_len (by omega)]; exact hk.2.2⟩
        · exact hM.keys x hx
    | none =>
      simp only
      split
      · exact hM
      · rename_i h4
        refine ⟨?_, aPut_nodup _ _ hM.nodup, fun x hx => ?_⟩
        · have := aPut_len (M := M) (k := page) (v := (base, layB base off.toNat s))
          have := hM.few
          show (aPut M page (base, layB base off.toNat s)).length ≤ 4
          omega
        · rcases aPut_mem hx with rfl | hx
          · exact ⟨hp, hb, by show (layB base off.toNat s).length = 64; rw [layB_len (by omega)]; exact hb⟩
          · exact hM.keys x hx
theorem args_write {M : List KV} {page : Nat} {base : Bo} {off : Int} {s : ByteArray} : ∀ x, x ∈ AV.ptr 2 0 [] :: [.int .u16 page, arrAV base, .int .i64 off, .str s] → AV.on (fun n => n ∈ (stH M).map (·.1)) x ∧ ∀ vs, x ≠ .tuple vs := st_args fun x hx => by
  simp only [List.mem_cons, List.not_mem_nil, or_false] at hx
  rcases hx with rfl | rfl | rfl | rfl
  · exact ⟨trivial, fun vs h => by cases h⟩
  · exact ⟨on_bytes _ _, fun vs h => by cases h⟩
  · exact ⟨trivial, fun vs h => by cases h⟩
  · exact ⟨trivial, fun vs h => by cases h⟩
theorem str_bytes' (l : Bo) : (ByteArray.mk l.toArray).size = l.length := str_bytes l
theorem copyB (a k b : Nat) (l x : Bo) : List.take a (l.map byteAV) ++ List.take k (x.map byteAV) ++ List.drop b (l.map byteAV) = (l.take a ++ x.take k ++ l.drop b).map byteAV := by
  simp only [List.map_append, List.map_take, List.map_drop]
set_option maxHeartbeats 3200000 in
theorem write_spec (M : List KV) (hM : MOk M) (page : Nat) (hp : kOk page) (base : Bo) (hb : base.length = 64) (off : Int) (ho : -9223372036854775808 ≤ off ∧ off ≤ 9223372036854775807) (s : Bo) (hs : s.length ≤ 9223372036854775807) : ACall Try.prog 8 [.ptr 2 0 [], .int .u16 page, arrAV base, .int .i64 off, .str ⟨s.toArray⟩] (stH M) (.int .i64 (writeP M page base off s).1) (stH (writeP M page base off s).2) := by
  refine ACall.runH (Z := Z) (N := 61) mixed hZ Try.func8 rfl rfl (by kernel_rfl) (by simp) args_write (st_on (by simp)) 3 st_lt ?_
  have hW : writeP M page base off s = if off < 0 ∨ 64 < off ∨ 64 - off < (s.length : Int) then (1, M) else
    match aGet M page with
    | some e => (0, aPut M page (e.1, layB e.2 off.toNat s))
    | none => if M.length = 4 then (10, M) else (0, aPut M page (base, layB base off.toNat s)) := rfl
  have ret : ∀ (k : Nat) (M' : List KV) (t : Env) (H : Heap) (m : Nat), (k, M') = writeP M page base off s → look t 10 = some (.int .i64 k) → Heap.get H 2 = some stC → Heap.get H 1 = some (mapB M') → Final Try.prog Try.f8 (.int .i64 (writeP M page base off s).1) (stH (writeP M page base off s).2) .ret ⟨61, t, H, m⟩ := fun k M' t H m hk h1 h2 h3 => by
    rw [← hk]
    exact Final.oneH (.inr rfl) (r := .tmp 10) rfl ⟨h1, fun vs h => by cases h⟩ (fun vs h => by cases h) (fun vs h => by cases h) (.same _ trivial) (st_keep h2 h3)
  by_cases c1 : off < 0
  · have e1 : decide (off < 0) = true := decide_eq_true c1
    rw [if_pos (.inl c1)] at hW
    simp -dsimp -implicitDefEqProofs only [↓j0, ↓j1, ↓j2, ↓j7, ↓j10, ↓j12, ↓j13, ↓j15, j17, j18, j20, ↓j25, ↓j29, ↓j30, j32, j33, j35, ↓j38, ↓j39, ↓j40, ↓j42, ↓j48, j81, j83, ↓j89, ↓j145, ↓j146, ↓j147, ↓j148, ↓j149, ↓j151, j159, AV.layable, argEnv, j163, j164, j170, j171, j175, reduceCtorEq, ↓reduceIte, Nat.reduceAdd, Nat.reduceEqDiff, j185, j195, j196, j211, ↓j235, j297, e1]
    exact ret 1 M _ _ _ hW.symm rfl rfl rfl
  have e1 : decide (off < 0) = false := decide_eq_false c1
  by_cases c2 : 64 < off
  · have e2 : decide (64 < off) = true := decide_eq_true c2
    rw [if_pos (.inr (.inl c2))] at hW
    simp -dsimp -implicitDefEqProofs only [↓j0, ↓j1, ↓j2, ↓j7, ↓j10, ↓j12, ↓j13, ↓j15, j17, j18, j20, ↓j25, ↓j29, ↓j30, j32, j33, j35, ↓j38, ↓j39, ↓j40, ↓j42, ↓j48, j81, j83, ↓j89, ↓j145, ↓j146, ↓j147, ↓j148, ↓j149, ↓j151, j159, j161, AV.layable, argEnv, j163, j164, j170, j171, j175, reduceCtorEq, ↓reduceIte, Nat.reduceAdd, Nat.reduceEqDiff, j185, j195, j196, j211, ↓j235, j297, e1, e2]
    exact ret 1 M _ _ _ hW.symm rfl rfl rfl
  have e2 : decide (64 < off) = false := decide_eq_false c2
  have w1 : IntKind.i64.wrap (64 - off) = 64 - off := wrap_i64 (by omega) (by omega)
  by_cases c3 : 64 - off < (s.length : Int)
  · have e3 : decide (64 - off < (s.length : Int)) = true := decide_eq_true c3
    rw [if_pos (.inr (.inr c3))] at hW
    simp -dsimp -implicitDefEqProofs only [↓j0, ↓j1, ↓j2, ↓j7, ↓j10, ↓j12, ↓j13, ↓j15, j17, j18, j20, ↓j25, ↓j29, ↓j30, j32, j33, j35, ↓j38, ↓j39, ↓j40, ↓j42, ↓j48, ↓j58, ↓j59, j83, ↓j89, j141, ↓j145, ↓j146, ↓j147, ↓j148, ↓j149, ↓j151, j155, j159, j161, AV.layable, argEnv, j163, j164, j170, j171, j175, reduceCtorEq, ↓reduceIte, Nat.reduceAdd, Nat.reduceEqDiff, j185, j195, j196, j211, ↓j235, j259, j297, e1, e2, str_bytes, w1, e3]
    exact ret 1 M _ _ _ hW.symm rfl rfl rfl
  have e3 : decide (64 - off < (s.length : Int)) = false := decide_eq_false c3
  rw [if_neg (by omega)] at hW
  obtain ⟨a, rfl⟩ : ∃ a : Nat, off = (a : Int) := ⟨off.toNat, by omega⟩
  have hz := zb_len 64
  have ks := ks_ok hM
  have hv : mval (mapE kAV vAV M) (kAV page) (vAV (zb 64, zb 64)) = vAV ((aGet M page).getD (zb 64, zb 64)) := by
    rw [mval_map keyInj23 hp ks]
    cases aGet M page <;> rfl
  have hh : mhas (mapE kAV vAV M) (kAV page) = (aGet M page).isSome := mhas_map keyInj23 hp ks
  have lk : ∀ (t : Env) (H : Heap) (m : Nat) (K : Eff → Nat → Prop), Heap.get H 1 = some (mapB M) → K ⟨.tuple [vAV ((aGet M page).getD (zb 64, zb 64)), .bool (aGet M page).isSome], [1], [], []⟩ m → DoLookup Try.prog Z 54 (some (.mapv 1)) (some (kAV page)) true ⟨61, t, H, m⟩ K := fun t H m K h1 h2 =>
    DoLookup_own (k := kAV page) (es := mapE kAV vAV M) Try.underlying54 h1 Z58 keyed23 (isKey23 hp) (goodM hM) hv hh h2
  have t1 : ((a : Nat) : Int).toNat = a := Int.toNat_natCast a
  have b1 : (a : Int) ≤ 64 := by omega
  have b2 : a ≤ 64 := by omega
  have b0 : (0 : Int) ≤ (a : Int) := by omega
  have t3 : s.take s.length = s := List.take_of_length_le (Nat.le_refl _)
  have t4 : Nat.min s.length (64 - a) = s.length := Nat.min_eq_left (by omega)
  rw [t1] at hW
  simp -dsimp -implicitDefEqProofs only [↓j0, ↓j1, ↓j2, ↓j7, ↓j9, ↓j12, ↓j13, ↓j15, j17, j18, j20, ↓j25, ↓j27, ↓j29, ↓j30, j32, j33, j35, ↓j38, ↓j39, ↓j40, ↓j42, ↓j43, ↓j45, ↓j48, ↓j56, ↓j58, ↓j59, ↓j64, ↓j76, ↓j79, j83, ↓j89, j138, j141, ↓j145, ↓j146, ↓j148, ↓j149, ↓j151, ↓j153, j155, j159, j161, AV.proj, AV.offOf, AV.sizeL, AV.layable, argEnv, j163, j164, j167, j170, j171, j175, reduceCtorEq, ↓reduceIte, Nat.reduceAdd, Nat.reduceEqDiff, j182, j185, j195, j196, j197, j211, ↓j235, j259, j297, j338, j342, e1, e2, str_bytes, w1, e3]
  refine lk _ _ _ _ rfl ?_
  cases hg : aGet M page with
  | some e =>
    have hk := hM.keys _ (aGet_mem hg)
    have hk1 : e.1.length = 64 := hk.2.1
    have hk2 : e.2.length = 64 := hk.2.2
    rw [hg] at hW
    simp only at hW
    have t2 : (64 : Int).toNat = 64 := rfl
    simp -dsimp -implicitDefEqProofs only [↓j0, ↓j1, ↓j7, ↓j9, ↓j12, ↓j13, ↓j15, j17, j18, j19, j20, j21, j22, j23, ↓j25, ↓j27, ↓j29, ↓j38, ↓j39, ↓j41, ↓j44, ↓j45, ↓j49, ↓j55, ↓j57, ↓j78, ↓j79, j84, j85, j107, ↓j145, ↓j146, ↓j148, ↓j149, ↓j153, AV.proj, AV.offOf, AV.upd, AV.size, AV.sizeL, AV.layable, j163, j164, j166, j167, j170, j171, reduceCtorEq, ↓reduceIte, Nat.reduceAdd, Nat.reduceMul, Nat.reduceEqDiff, j182, j183, j184, j193, j196, j197, j208, bndAV, j232, ↓j238, j240, j276, j344, j350, j388, hk1, hk2, hz, Option.getD_some, Option.isSome_some]
    refine ⟨by simpa using b1, ?_⟩
    have u0 := unif_bytes e.2
    simp -dsimp -implicitDefEqProofs only [↓j1, j17, j18, j20, ↓j25, ↓j27, ↓j29, ↓j38, ↓j52, j107, ↓j145, ↓j153, AV.proj, AV.offOf, AV.size, AV.sizeL, j163, j164, j166, j167, j171, reduceCtorEq, ↓reduceIte, Nat.reduceEqDiff, j183, j184, j197, j207, j222, ↓j239, j240, j356, hk1, hk2, t1, u0]
    have cp := copyB a s.length (a + s.length) e.2 s
    refine ⟨by omega, ?_⟩
    rw [t3] at cp
    have hlb : (layB e.2 a s).length = 64 := by rw [layB_len (by omega)]; exact hk2
    have cp : List.take a ((e.2).map byteAV) ++ List.take s.length (s.map byteAV) ++ List.drop (a + s.length) ((e.2).map byteAV) = (layB e.2 a s).map byteAV := cp
    obtain ⟨N, hN⟩ : ∃ N, layB e.2 a s = N := ⟨_, rfl⟩
    rw [hN] at cp hlb hW
    have hup : mput (mapE kAV vAV M) (kAV page) (vAV (e.1, N)) = mapE kAV vAV (aPut M page (e.1, N)) := mput_map keyInj23 hp ks (e.1, N)
    simp -dsimp -implicitDefEqProofs only [↓j0, ↓j4, ↓j8, ↓j12, ↓j15, j17, j18, j20, j21, j22, j23, j24, ↓j25, ↓j27, ↓j29, ↓j38, ↓j43, ↓j45, ↓j56, ↓j65, ↓j76, ↓j79, ↓j105, j129, j138, ↓j145, ↓j146, ↓j153, AV.proj, AV.offOf, AV.upd, AV.size, AV.sizeL, j163, j164, j167, j168, j169, j170, j171, j172, j174, reduceCtorEq, ↓reduceIte, Nat.reduceAdd, Nat.reduceEqDiff, j182, j189, j197, j214, j222, j240, j338, j342, j344, j345, hk1, t4, cp, hlb]
    refine DoMapUpdate_own (k := kAV page) (u := vAV (e.1, N)) Try.underlying54 rfl keyed23 (isKey23 hp) (goodM hM) (fun vs h => by cases h) hup ?_
    simp -dsimp -implicitDefEqProofs only [↓j3, j17, j19, j20, j21, j22, j23, j24, j170, j171, j173, j174, ↓reduceIte, Nat.reduceEqDiff]
    refine ⟨by kernel_rfl, ?_⟩
    simp -dsimp -implicitDefEqProofs only [↓j0, ↓j1, ↓j7, ↓j10, ↓j12, ↓j15, j17, j18, j20, ↓j30, j33, ↓j39, ↓j145, j171]
    exact ret 0 (aPut M page (e.1, N)) _ _ _ hW.symm rfl rfl rfl
  | none =>
    rw [hg] at hW
    have t2 : (64 : Int).toNat = 64 := rfl
    simp -dsimp -implicitDefEqProofs only [↓j0, ↓j1, ↓j7, ↓j12, ↓j13, ↓j15, j17, j18, j19, j20, j21, j22, j23, ↓j25, ↓j27, ↓j29, ↓j38, ↓j39, ↓j41, ↓j43, ↓j44, ↓j45, ↓j55, ↓j56, ↓j57, ↓j58, ↓j76, ↓j78, ↓j79, j84, j85, j138, ↓j145, ↓j146, ↓j147, ↓j149, ↓j153, AV.proj, AV.offOf, AV.upd, AV.size, AV.sizeL, AV.layable, j163, j164, j167, j170, j171, reduceCtorEq, ↓reduceIte, Nat.reduceAdd, Nat.reduceEqDiff, j182, j194, j197, j240, j338, j342, j344, j388, hz, Option.getD_none, Option.isSome_none]
    refine LenAt_mapv rfl (by kernel_rfl) ?_
    rw [List.length_map]
    by_cases c4 : M.length = 4
    · have e4 : ((M.length : Int) == 4) = true := by rw [beq_iff_eq]; omega
      simp only [if_pos c4] at hW
      simp -dsimp -implicitDefEqProofs only [↓j0, ↓j1, ↓j7, ↓j10, ↓j12, ↓j13, ↓j15, j17, j18, j20, ↓j25, ↓j29, ↓j30, j33, ↓j39, ↓j48, ↓j89, ↓j145, ↓j146, ↓j147, ↓j149, j157, j171, ↓reduceIte, j185, e4]
      exact ret 10 M _ _ _ hW.symm rfl rfl rfl
    have e4 : ((M.length : Int) == 4) = false := by rw [beq_eq_false_iff_ne]; omega
    simp only [if_neg c4] at hW
    simp -dsimp -implicitDefEqProofs only [↓j0, ↓j1, ↓j7, ↓j9, ↓j12, ↓j13, ↓j15, j17, j18, j19, j20, j21, j22, j23, ↓j25, ↓j27, ↓j29, ↓j30, j33, ↓j38, ↓j43, ↓j44, ↓j45, ↓j48, ↓j49, ↓j54, ↓j76, ↓j78, ↓j79, ↓j89, j107, ↓j124, j125, j126, j127, j128, j129, ↓j145, ↓j146, ↓j148, ↓j149, ↓j153, j157, partsAV, AV.proj, AV.offOf, AV.upd, AV.size, AV.sizeL, AV.layable, j163, j164, j166, j167, j168, j169, j170, j171, j179, j180, reduceCtorEq, ↓reduceIte, Nat.reduceAdd, Nat.reduceMul, Nat.reduceEqDiff, j182, j183, j184, j185, j196, j197, j208, j213, j214, j215, j216, j217, bndAV, j232, ↓j238, j240, j274, j275, j276, j344, j348, j350, j351, j411, hb, hz, e4]
    refine ⟨by simpa using b1, ?_⟩
    have u0 := unif_bytes base
    simp -dsimp -implicitDefEqProofs only [↓j1, j17, j18, j20, ↓j25, ↓j27, ↓j29, ↓j38, ↓j52, j107, ↓j145, ↓j153, AV.proj, AV.offOf, AV.size, AV.sizeL, j163, j164, j166, j167, j171, reduceCtorEq, ↓reduceIte, Nat.reduceEqDiff, j183, j184, j197, j207, j222, ↓j239, j240, j356, hb, hb, hb, t1, u0]
    have cp := copyB a s.length (a + s.length) base s
    refine ⟨by omega, ?_⟩
    rw [t3] at cp
    have hlb : (layB base a s).length = 64 := by rw [layB_len (by omega)]; exact hb
    have cp : List.take a ((base).map byteAV) ++ List.take s.length (s.map byteAV) ++ List.drop (a + s.length) ((base).map byteAV) = (layB base a s).map byteAV := cp
    obtain ⟨N, hN⟩ : ∃ N, layB base a s = N := ⟨_, rfl⟩
    rw [hN] at cp hlb hW
    have hup : mput (mapE kAV vAV M) (kAV page) (vAV (base, N)) = mapE kAV vAV (aPut M page (base, N)) := mput_map keyInj23 hp ks (base, N)
    simp -dsimp -implicitDefEqProofs only [↓j0, ↓j4, ↓j8, ↓j12, ↓j15, j17, j18, j20, j21, j22, j23, j24, ↓j25, ↓j27, ↓j29, ↓j38, ↓j43, ↓j45, ↓j56, ↓j65, ↓j76, ↓j79, ↓j105, j129, j138, ↓j145, ↓j146, ↓j153, AV.proj, AV.offOf, AV.upd, AV.size, AV.sizeL, j163, j164, j167, j168, j169, j170, j171, j172, j174, reduceCtorEq, ↓reduceIte, Nat.reduceAdd, Nat.reduceEqDiff, j182, j189, j197, j214, j222, j240, j338, j342, j344, j345, hb, hb, hb, t4, cp, hlb]
    refine DoMapUpdate_own (k := kAV page) (u := vAV (base, N)) Try.underlying54 rfl keyed23 (isKey23 hp) (goodM hM) (fun vs h => by cases h) hup ?_
    simp -dsimp -implicitDefEqProofs only [↓j3, j17, j19, j20, j21, j22, j23, j24, j170, j171, j173, j174, ↓reduceIte, Nat.reduceEqDiff]
    refine ⟨by kernel_rfl, ?_⟩
    simp -dsimp -implicitDefEqProofs only [↓j0, ↓j1, ↓j7, ↓j10, ↓j12, ↓j15, j17, j18, j20, ↓j30, j33, ↓j39, ↓j145, j171]
    exact ret 0 (aPut M page (base, N)) _ _ _ hW.symm rfl rfl rfl
def readP (M : List KV) (page : Nat) : Bo × Bool := match aGet M page with
  | some e => (e.2, true)
  | none => (zb 64, false)
theorem readP_len {M : List KV} (hM : MOk M) (page : Nat) : (readP M page).1.length = 64 := by
  unfold readP
  cases hg : aGet M page with
  | some e => exact (hM.keys _ (aGet_mem hg)).2.2
  | none => exact zb_len 64
theorem read_spec (M : List KV) (hM : MOk M) (page : Nat) (hp : kOk page) : ACall Try.prog 10 [.ptr 2 0 [], .int .u16 page] (stH M) (.tuple [arrAV (readP M page).1, .bool (readP M page).2]) (stH M) := by
  refine ACall.runH (Z := Z) (N := 23) mixed hZ Try.func10 rfl rfl (by kernel_rfl) (by simp) (st_args arg_int) (st_on (by simp)) 3 st_lt ?_
  have hz := zb_len 64
  have ks := ks_ok hM
  have hl := readP_len hM page
  have hv : mval (mapE kAV vAV M) (kAV page) (vAV (zb 64, zb 64)) = vAV ((aGet M page).getD (zb 64, zb 64)) := by
    rw [mval_map keyInj23 hp ks]
    cases aGet M page <;> rfl
  have hh : mhas (mapE kAV vAV M) (kAV page) = (aGet M page).isSome := mhas_map keyInj23 hp ks
  have hR : readP M page = (((aGet M page).getD (zb 64, zb 64)).2, (aGet M page).isSome) := by
    unfold readP; cases aGet M page <;> rfl
  have he1 : ((aGet M page).getD (zb 64, zb 64)).1.length = 64 := by
    cases hg : aGet M page with
    | some e => exact (hM.keys _ (aGet_mem hg)).2.1
    | none => exact hz
  rw [hR] at hl ⊢
  obtain ⟨e, he⟩ : ∃ e, (aGet M page).getD (zb 64, zb 64) = e := ⟨_, rfl⟩
  obtain ⟨b, hb⟩ : ∃ b, (aGet M page).isSome = b := ⟨_, rfl⟩
  rw [he] at hv he1 hl
  rw [hb] at hh
  rw [he, hb]
  have hl : e.2.length = 64 := hl
  simp -dsimp -implicitDefEqProofs only [↓j0, ↓j1, ↓j7, ↓j9, ↓j12, ↓j13, ↓j15, j17, j18, j20, ↓j25, ↓j27, ↓j29, ↓j30, j32, j35, ↓j38, ↓j39, ↓j41, ↓j43, ↓j45, ↓j48, ↓j56, ↓j64, ↓j76, ↓j79, j138, ↓j145, ↓j146, ↓j148, ↓j149, ↓j153, AV.proj, AV.offOf, AV.sizeL, argEnv, j163, j167, j170, j171, reduceCtorEq, ↓reduceIte, Nat.reduceAdd, Nat.reduceEqDiff, j182, j196, j197, j211, ↓j235, j297, j338, j342, j376]
  refine DoLookup_own (k := kAV page) (es := mapE kAV vAV M) Try.underlying54 rfl Z58 keyed23 (isKey23 hp) (goodM hM) hv hh ?_
  simp -dsimp -implicitDefEqProofs only [↓j0, ↓j1, ↓j7, ↓j10, ↓j12, ↓j15, j17, j18, j19, j20, j21, j22, j23, ↓j25, ↓j27, ↓j29, ↓j38, ↓j39, ↓j41, ↓j43, ↓j44, ↓j45, ↓j57, ↓j76, ↓j78, ↓j79, j85, j129, ↓j145, ↓j146, ↓j153, AV.proj, AV.offOf, AV.upd, AV.size, AV.sizeL, AV.layable, j163, j164, j166, j167, j170, j171, ↓reduceIte, Nat.reduceAdd, Nat.reduceEqDiff, j182, j196, j197, j240, j274, j275, j344, j350, j388, hz, hl, he1]
  exact Final.manyH (.inr rfl) (rs := [.cell 4 25, .tmp 5]) (us := [arrAV e.2, .bool b]) rfl ⟨⟨3, 0, [], _, rfl, rfl, rfl, rfl, by simp -dsimp -implicitDefEqProofs only [j129, j182, j240, j274, j275, hl]⟩, ⟨rfl, fun vs h => by cases h⟩, trivial⟩ (by simp) ⟨.same _ (on_bytes _ _), .same _ trivial, trivial⟩ (st_keep rfl rfl)
theorem keysIn_len (M : List KV) : (keysIn M).length = M.length := by rw [keysIn, sortN_len, List.length_map]
theorem keysIn_mem {M : List KV} {k : Nat} : k ∈ keysIn M ↔ k ∈ M.map (·.1) := (sortN_perm _).mem_iff
theorem pages_spec (M : List KV) (hM : MOk M) : ACall Try.prog 9 [.ptr 2 0 []] (stH M) (keysAV (keysIn M)) (stH M) := by
  refine ACall.runH (Z := Z) (N := 10) mixed hZ Try.func9 rfl rfl (by kernel_rfl) (by simp) (st_args no_args) (st_on (by simp)) 3 st_lt ?_
  have hf := hM.few
  simp -dsimp -implicitDefEqProofs only [↓j0, ↓j1, ↓j7, ↓j9, ↓j12, ↓j13, ↓j15, j17, j18, j20, ↓j25, ↓j27, ↓j29, ↓j30, j35, j36, ↓j38, ↓j39, ↓j43, ↓j45, ↓j48, ↓j53, ↓j56, ↓j76, ↓j79, j138, ↓j145, ↓j146, ↓j148, ↓j149, ↓j153, AV.proj, AV.offOf, AV.sizeL, argEnv, j163, j167, j171, reduceCtorEq, ↓reduceIte, j182, j197, j211, ↓j235, j297, j338, j342]
  refine CallTo.gen (args := [.mapv 1]) [(1, mapB M)] [(1, mapB M)] 3 rfl fok18 (by simp -dsimp -implicitDefEqProofs only [↓j25, ↓j29, j173, j174, ↓reduceIte]) (notup1 fun vs h => by cases h) (sorted_spec M (by omega)) (SubH.of (by simp -dsimp -implicitDefEqProofs only [↓j27, ↓reduceIte, Nat.reduceEqDiff, j182, j204, j205])) ⟨by simp, fun n x h h2 => absurd (get_map h) h2⟩ ?_
  simp -dsimp -implicitDefEqProofs only [↓j0, ↓j1, ↓j10, j17, j18, j20, j21, j22, j23, ↓j25, ↓j29, ↓j39, ↓j145, j170, j171, j173, j174, ↓reduceIte, Nat.reduceEqDiff]
  exact Final.oneH (.inr rfl) (r := .tmp 2) rfl ⟨rfl, fun vs h => by cases h⟩ (fun vs h => by cases h) (fun vs h => by cases h) (.same _ (on_keys _ _)) (st_keep rfl rfl)
end Go.Proofs.Ytipbgaahpchhbaa
