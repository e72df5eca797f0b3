/- The oracle: its memory; New, Next, Publish, Last, Start, Begin, End. -/
import Derived.Test.YtiolhncfnoafeaaO2
set_option linter.unusedVariables false
set_option linter.unusedSimpArgs false
namespace Go.Proofs.Ytiolhncfnoafeaa
open Go Go.RowKit

structure OS where
  last : Nat
  max : Nat
  count : Nat
  live : List KV
def kOk (k : Nat) : Prop := k < 18446744073709551616
structure OS.Ok (o : OS) : Prop where
  lm : o.last ≤ o.max
  max : o.max < 4294967296
  count : o.count ≤ 1000
  few : o.live.length ≤ 8
  nodup : (o.live.map (·.1)).Nodup
  keys : ∀ e, e ∈ o.live → 1 ≤ e.1 ∧ e.1 ≤ o.count ∧ e.2 ≤ o.last
abbrev orC (o : OS) : ABlk := .cells (.agg [.int .u32 o.last, .int .u32 o.max, .int .u64 o.count, .mapv 1])
abbrev orH (o : OS) : Heap := [(2, orC o), (1, mapB o.live)]
theorem keyed37 : Maps.Keyed Try.prog 37 := Maps.int_keyed Try.underlying37
theorem wf_u64 {k : Nat} (h : kOk k) : (Lit.int .u64 (k : Int)).wf = true := by
  unfold kOk at h
  simp [Lit.wf, IntKind.min, IntKind.max, IntKind.signed, IntKind.bits]
  omega
theorem isKey37 {k : Nat} (h : kOk k) : IsKey Try.prog 37 (kAV k) := ⟨.int .u64 k, .int .u64 k, rfl, Maps.keyOf_int_mk Try.underlying37 (wf_u64 h)⟩
theorem keyInj37 : KeyInj kAV kOk := ⟨fun a b _ _ h => by
  have : plainV (kAV a) = some (.int .u64 a) := rfl
  rw [this, show plainV (kAV b) = some (.int .u64 b) from rfl] at h
  simp only [Option.some.injEq, Value.int.injEq, true_and] at h
  omega⟩
theorem live_ok {o : OS} (h : o.Ok) : ∀ e, e ∈ o.live → kOk e.1 := fun e he => by have := h.keys e he; have := h.count; unfold kOk; omega
theorem goodM {o : OS} (h : o.Ok) : GoodMap Try.prog 37 (mapE kAV vAV o.live) := goodMap_map keyInj37 (fun _ h => isKey37 h) (live_ok h) h.nodup
theorem get_or {o : OS} {n : Nat} {b : ABlk} (h : Heap.get (orH o) n = some b) : (n = 2 ∧ b = orC o) ∨ (n = 1 ∧ b = mapB o.live) := by
  simp only [Heap.get] at h
  by_cases h2 : n = 2
  · rw [if_pos h2] at h; cases h; exact .inl ⟨h2, rfl⟩
  rw [if_neg h2] at h
  by_cases h1 : n = 1
  · rw [if_pos h1] at h; cases h; exact .inr ⟨h1, rfl⟩
  rw [if_neg h1] at h; cases h
theorem or_on {o : OS} {S : Nat → Prop} (h1 : S 1) : ∀ n b, Heap.get (orH o) n = some b → b.on S := fun n b h => by
  rcases get_or h with ⟨_, rfl⟩ | ⟨_, rfl⟩
  · exact ⟨trivial, trivial, trivial, h1, trivial⟩
  · exact mapB_on _ _
theorem or_lt {o : OS} : ∀ n, n ∈ (orH o).map (·.1) → n < 3 := fun n hn => by simp at hn; omega
theorem or_mem (o : OS) (n : Nat) : n ∈ (orH o).map (·.1) ↔ n = 2 ∨ n = 1 := by simp
theorem or_args {o : OS} {l : List AV} (hl : ∀ x, x ∈ l → AV.on (fun _ => False) x ∧ ∀ vs, x ≠ .tuple vs) : ∀ x, x ∈ AV.ptr 2 0 [] :: l → AV.on (fun n => n ∈ (orH o).map (·.1)) x ∧ ∀ vs, x ≠ .tuple vs := fun x hx => by
  rcases List.mem_cons.1 hx with rfl | hx
  · exact ⟨(or_mem o 2).2 (.inl rfl), fun vs h => by cases h⟩
  · exact ⟨on_mono (fun _ h => h.elim) (hl x hx).1, (hl x hx).2⟩
theorem or_keep {o : OS} {H : Heap} (h0 : Heap.get H 2 = some (orC o)) (h1 : Heap.get H 1 = some (mapB o.live)) : ∀ n b, Heap.get (orH o) n = some b → ∃ b0, Heap.get H n = some b0 ∧ BFrz (fun n => Heap.get (orH o) n ≠ none) H b0 b := fun n b hb => by
  rcases get_or hb with ⟨rfl, rfl⟩ | ⟨rfl, rfl⟩
  · exact ⟨_, h0, .same _ ⟨trivial, trivial, trivial, show Heap.get _ _ ≠ none by simp [Heap.get], trivial⟩⟩
  · exact ⟨_, h1, show _ = _ ∧ _ from ⟨rfl, mapB_on _ _⟩⟩
theorem no_args : ∀ x, x ∈ ([] : List AV) → AV.on (fun _ => False) x ∧ ∀ vs, x ≠ .tuple vs := fun x hx => by cases hx
theorem arg_int {k : IntKind} {n : Int} : ∀ x, x ∈ [AV.int k n] → AV.on (fun _ => False) x ∧ ∀ vs, x ≠ .tuple vs := fun x hx => by
  simp only [List.mem_singleton] at hx; subst hx; exact ⟨trivial, fun vs h => by cases h⟩
theorem arg_int2 {k k' : IntKind} {n n' : Int} : ∀ x, x ∈ [AV.int k n, .int k' n'] → AV.on (fun _ => False) x ∧ ∀ vs, x ≠ .tuple vs := fun x hx => by
  simp only [List.mem_cons, List.not_mem_nil, or_false] at hx
  rcases hx with rfl | rfl <;> exact ⟨trivial, fun vs h => by cases h⟩
/-- New: an oracle, or none. -/
def new0 (last max : Nat) : OS := ⟨last, max, 0, []⟩
theorem new_ok {last max : Nat} (h : last ≤ max) (hm : max < 4294967296) : (new0 last max).Ok := ⟨h, hm, by show (0 : Nat) ≤ 1000; decide, by show (0 : Nat) ≤ 8; decide, List.nodup_nil, fun e he => by cases he⟩
theorem new_spec (last max : Nat) (h : last ≤ max) : ACall Try.prog 9 [.int .u32 last, .int .u32 max] [] (.ptr 2 0 []) (orH (new0 last max)) := by
  refine ACall.run (Z := Z) (N := 13) mixed hZ Try.func9 rfl rfl (by kernel_rfl) (by simp) arg_int2 1 ?_
  have d1 : decide ((max : Int) < (last : Int)) = false := decide_eq_false (by omega)
  simp -dsimp -implicitDefEqProofs only [↓j0, ↓j1, ↓j7, ↓j9, ↓j10, ↓j12, ↓j13, ↓j15, j17, j18, j20, ↓j25, ↓j29, ↓j30, j35, ↓j38, ↓j39, ↓j42, ↓j48, ↓j54, ↓j66, ↓j89, ↓j124, j125, j126, j127, j128, ↓j145, ↓j146, ↓j148, ↓j149, j161, partsAV, AV.size, AV.sizeL, AV.layable, argEnv, j163, j164, j166, j167, j168, j169, j170, j171, j172, j179, j180, reduceCtorEq, ↓reduceIte, Nat.reduceAdd, Nat.reduceEqDiff, j182, j183, j185, j196, j197, j213, j214, j215, j216, j217, j326, j329, j335, j368, d1]
  refine Final.oneH (.inr rfl) (r := .tmp 4) rfl ⟨rfl, fun vs h => by cases h⟩ (fun vs h => by cases h) (fun vs h => by cases h) (.same _ (show Heap.get _ _ ≠ none by simp [Heap.get])) (or_keep ?_ ?_)
  · rfl
  · rfl
theorem new_none (last max : Nat) (h : max < last) : ACall Try.prog 9 [.int .u32 last, .int .u32 max] [] .nilptr [] := by
  refine ACall.run (Z := Z) (N := 13) mixed hZ Try.func9 rfl rfl (by kernel_rfl) (by simp) arg_int2 1 ?_
  have d1 : decide ((max : Int) < (last : Int)) = true := decide_eq_true (by omega)
  simp -dsimp -implicitDefEqProofs only [↓j0, ↓j1, ↓j7, ↓j10, ↓j12, ↓j13, ↓j15, j17, j18, j20, ↓j25, ↓j29, ↓j30, j35, ↓j38, ↓j39, ↓j48, ↓j89, ↓j145, ↓j146, ↓j147, ↓j149, j161, argEnv, j172, reduceCtorEq, ↓reduceIte, Nat.reduceEqDiff, j185, j196, d1]
  exact Final.one (.inr rfl) (r := .tmp 4) rfl ⟨rfl, fun vs h => by cases h⟩ (fun vs h => by cases h) (fun vs h => by cases h) (.same _ trivial)
/-- Next. -/
def OS.nextP (o : OS) : Nat × Nat := if o.last = o.max then (0, 8) else (o.last + 1, 0)
theorem next_spec (o : OS) (ho : o.Ok) : ACall Try.prog 10 [.ptr 2 0 []] (orH o) (.tuple [.int .u32 o.nextP.1, .int .i64 o.nextP.2]) (orH o) := by
  refine ACall.runH (Z := Z) (N := 20) mixed hZ Try.func10 rfl rfl (by kernel_rfl) (by simp) (or_args no_args) (or_on (by simp)) 3 or_lt ?_
  have h1 := ho.lm
  have h2 := ho.max
  by_cases h : o.last = o.max
  · have e : ((o.last : Int) == (o.max : Int)) = true := by rw [beq_iff_eq]; omega
    have hn : o.nextP = (0, 8) := by rw [OS.nextP, if_pos h]
    rw [hn]
    simp -dsimp -implicitDefEqProofs only [↓j0, ↓j1, ↓j3, ↓j4, ↓j7, ↓j8, ↓j9, ↓j12, ↓j13, ↓j15, j17, j18, j20, j24, ↓j25, ↓j27, ↓j29, ↓j30, j33, j35, ↓j38, ↓j39, ↓j43, ↓j45, ↓j48, ↓j56, ↓j76, ↓j79, ↓j89, j130, ↓j145, ↓j146, ↓j148, ↓j149, ↓j153, j157, AV.proj, AV.offOf, AV.size, AV.sizeL, argEnv, j163, j164, j166, j167, j170, j171, j172, j174, reduceCtorEq, ↓reduceIte, Nat.reduceEqDiff, j182, j185, j196, j197, j211, ↓j235, j260, j264, j325, j328, e]
    refine ⟨by kernel_rfl, ?_⟩
    simp -dsimp -implicitDefEqProofs only [↓j0, ↓j1, ↓j7, ↓j10, ↓j12, ↓j13, ↓j15, j17, j18, j20, ↓j25, ↓j29, ↓j30, j33, ↓j39, ↓j145, ↓j147, ↓j149, j171, ↓reduceIte]
    exact Final.manyH (.inr rfl) (rs := [.tmp 2, .tmp 3]) (us := [.int .u32 0, .int .i64 8]) rfl ⟨⟨rfl, fun vs h => by cases h⟩, ⟨rfl, fun vs h => by cases h⟩, trivial⟩ (by simp) ⟨.same _ trivial, .same _ trivial, trivial⟩ (or_keep rfl rfl)
  · have e : ((o.last : Int) == (o.max : Int)) = false := by rw [beq_eq_false_iff_ne]; omega
    have hn : o.nextP = (o.last + 1, 0) := by rw [OS.nextP, if_neg h]
    have hw : IntKind.u32.wrap ((o.last : Int) + 1) = ((o.last + 1 : Nat) : Int) := by
      have := wrap_u32 (o.last + 1)
      rw [Nat.mod_eq_of_lt (by omega)] at this
      rw [← this]; rfl
    rw [hn]
    simp -dsimp -implicitDefEqProofs only [↓j0, ↓j1, ↓j3, ↓j4, ↓j7, ↓j8, ↓j9, ↓j12, ↓j13, ↓j15, j17, j18, j20, j24, ↓j25, ↓j27, ↓j29, ↓j30, j33, j35, ↓j38, ↓j39, ↓j43, ↓j45, ↓j48, ↓j56, ↓j76, ↓j79, ↓j89, j130, ↓j145, ↓j146, ↓j148, ↓j149, ↓j153, j157, AV.proj, AV.offOf, AV.size, AV.sizeL, argEnv, j163, j164, j166, j167, j170, j171, j172, j174, reduceCtorEq, ↓reduceIte, Nat.reduceEqDiff, j182, j185, j196, j197, j211, ↓j235, j260, j264, j325, j328, e]
    refine ⟨by kernel_rfl, ?_⟩
    simp -dsimp -implicitDefEqProofs only [↓j0, ↓j1, ↓j7, ↓j9, ↓j10, ↓j12, ↓j13, ↓j15, j17, j18, j20, ↓j25, ↓j27, ↓j29, ↓j30, j33, ↓j38, ↓j39, ↓j43, ↓j45, ↓j48, ↓j56, ↓j76, ↓j79, ↓j89, j130, ↓j145, ↓j146, ↓j148, ↓j149, ↓j153, j154, AV.proj, AV.offOf, AV.sizeL, j163, j167, j171, reduceCtorEq, ↓reduceIte, j182, j185, j197, j260, j325, hw]
    exact Final.manyH (.inr rfl) (rs := [.tmp 2, .tmp 3]) (us := [.int .u32 ((o.last + 1 : Nat) : Int), .int .i64 0]) rfl ⟨⟨rfl, fun vs h => by cases h⟩, ⟨rfl, fun vs h => by cases h⟩, trivial⟩ (by simp) ⟨.same _ trivial, .same _ trivial, trivial⟩ (or_keep rfl rfl)
theorem next_nil : ACall Try.prog 10 [.nilptr] [] (.tuple [.int .u32 0, .int .i64 1]) [] := by
  refine ACall.run (Z := Z) (N := 20) mixed hZ Try.func10 rfl rfl (by kernel_rfl) (by simp) (fun x hx => by simp only [List.mem_singleton] at hx; subst hx; exact ⟨trivial, fun vs h => by cases h⟩) 1 ?_
  simp -dsimp -implicitDefEqProofs only [↓j0, ↓j1, ↓j7, ↓j10, ↓j12, ↓j13, ↓j15, j17, j18, j20, ↓j25, ↓j29, ↓j30, j33, j35, ↓j38, ↓j39, ↓j48, ↓j145, ↓j146, ↓j147, ↓j149, argEnv, j172, reduceCtorEq, ↓reduceIte, j194, j211, ↓j236, j264]
  exact Final.many (.inr rfl) (rs := [.tmp 2, .tmp 3]) (us := [.int .u32 0, .int .i64 1]) rfl ⟨⟨rfl, fun vs h => by cases h⟩, ⟨rfl, fun vs h => by cases h⟩, trivial⟩ (by simp) ⟨.same _ trivial, .same _ trivial, trivial⟩
theorem fok8 : fnOk Try.prog 8 = true := by kernel_rfl
theorem fok9 : fnOk Try.prog 9 = true := by kernel_rfl
theorem fok10 : fnOk Try.prog 10 = true := by kernel_rfl
theorem fok11 : fnOk Try.prog 11 = true := by kernel_rfl
theorem fok12 : fnOk Try.prog 12 = true := by kernel_rfl
theorem fok13 : fnOk Try.prog 13 = true := by kernel_rfl
theorem fok14 : fnOk Try.prog 14 = true := by kernel_rfl
theorem fok15 : fnOk Try.prog 15 = true := by kernel_rfl
theorem fok16 : fnOk Try.prog 16 = true := by kernel_rfl
theorem fok17 : fnOk Try.prog 17 = true := by kernel_rfl
theorem fok18 : fnOk Try.prog 18 = true := by kernel_rfl
theorem fok19 : fnOk Try.prog 19 = true := by kernel_rfl
theorem fok20 : fnOk Try.prog 20 = true := by kernel_rfl
theorem fok21 : fnOk Try.prog 21 = true := by kernel_rfl
theorem fok22 : fnOk Try.prog 22 = true := by kernel_rfl
theorem fok23 : fnOk Try.prog 23 = true := by kernel_rfl
theorem fok24 : fnOk Try.prog 24 = true := by kernel_rfl
theorem notup1 {v : AV} (hv : ∀ vs, v ≠ .tuple vs) : ∀ x, x ∈ [v] → ∀ vs, x ≠ .tuple vs := fun x hx => by
  simp only [List.mem_singleton] at hx; subst hx; exact hv
theorem notup2 {u v : AV} (hu : ∀ vs, u ≠ .tuple vs) (hv : ∀ vs, v ≠ .tuple vs) : ∀ x, x ∈ [u, v] → ∀ vs, x ≠ .tuple vs := fun x hx => by
  simp only [List.mem_cons, List.not_mem_nil, or_false] at hx
  rcases hx with rfl | rfl <;> assumption
theorem put_or {o o' : OS} {a b : Nat} : ∀ n x, Heap.get (orH o) n = some x → n ∉ (orH o').map (·.1) → a ≤ n ∧ n < b := fun n x h h2 => absurd ((or_mem o' n).2 (by rcases get_or h with ⟨h, _⟩ | ⟨h, _⟩ <;> simp [h])) h2
/-- Publish. -/
def OS.pubP (o : OS) (ts : Nat) : Nat × OS := if o.nextP.2 ≠ 0 ∨ o.nextP.1 ≠ ts then (1, o) else (0, { o with last := ts })
theorem pub_ok {o : OS} (ho : o.Ok) (ts : Nat) : (o.pubP ts).2.Ok := by
  unfold OS.pubP
  split
  · exact ho
  · rename_i h
    rw [not_or] at h
    obtain ⟨h1, h2⟩ := h
    have h1 : o.nextP.2 = 0 := by omega
    have h2 : o.nextP.1 = ts := by omega
    have : o.last ≠ o.max ∧ ts = o.last + 1 := by
      unfold OS.nextP at h1 h2
      by_cases h : o.last = o.max
      · rw [if_pos h] at h1; cases h1
      · rw [if_neg h] at h2; exact ⟨h, h2.symm⟩
    have hl := ho.lm
    exact ⟨by show ts ≤ o.max; omega, ho.max, ho.count, ho.few, ho.nodup, fun e he => by have := ho.keys e he; exact ⟨this.1, this.2.1, by show e.2 ≤ ts; omega⟩⟩
theorem pub_spec (o : OS) (ho : o.Ok) (ts : Nat) (hts : ts < 4294967296) : ACall Try.prog 11 [.ptr 2 0 [], .int .u32 ts] (orH o) (.int .i64 (o.pubP ts).1) (orH (o.pubP ts).2) := by
  refine ACall.runH (Z := Z) (N := 23) mixed hZ Try.func11 rfl rfl (by kernel_rfl) (by simp) (or_args arg_int) (or_on (by simp)) 3 or_lt ?_
  have hns := next_spec o ho
  have hp : o.pubP ts = if o.nextP.2 ≠ 0 ∨ o.nextP.1 ≠ ts then (1, o) else (0, { o with last := ts }) := rfl
  obtain ⟨⟨n, e⟩, hne⟩ : ∃ x, o.nextP = x := ⟨_, rfl⟩
  rw [hne] at hns hp
  simp -dsimp -implicitDefEqProofs only [↓j0, ↓j1, ↓j7, ↓j12, ↓j15, j17, j18, j20, ↓j25, ↓j29, ↓j30, j33, ↓j38, ↓j39, ↓j53, ↓j145, argEnv, j171, reduceCtorEq, ↓reduceIte, j196]
  refine CallTo.gen (args := [.ptr 2 0 []]) (orH o) (orH o) 3 rfl fok10 (by simp -dsimp -implicitDefEqProofs only [↓j25, ↓j29, j173, j174, ↓reduceIte]) (notup1 fun vs h => by cases h) hns (fun n b h => h) ⟨by simp, put_or⟩ ?_
  have ret : ∀ (k : Nat) (o' : OS) (t : Env) (H : Heap) (m : Nat), (k, o') = o.pubP ts → look t 4 = some (.int .i64 k) → Heap.get H 2 = some (orC o') → Heap.get H 1 = some (mapB o'.live) → Final Try.prog Try.f11 (.int .i64 (o.pubP ts).1) (orH (o.pubP ts).2) .ret ⟨23, t, H, m⟩ := fun k o' t H m hk h1 h2 h3 => by
    rw [← hk]
    exact Final.oneH (.inr rfl) (r := .tmp 4) rfl ⟨h1, fun vs h => by cases h⟩ (fun vs h => by cases h) (fun vs h => by cases h) (.same _ trivial) (or_keep h2 h3)
  by_cases h1 : e = 0
  · subst h1
    have e1 : (((0 : Nat) : Int) != 0) = false := rfl
    by_cases h2 : n = ts
    · subst h2
      have e2 : ((n : Int) != (n : Int)) = false := by simp
      simp -dsimp -implicitDefEqProofs only [↓j0, ↓j1, ↓j2, ↓j7, ↓j9, ↓j10, ↓j12, ↓j13, ↓j15, j17, j18, j19, j20, j21, j22, j23, ↓j25, ↓j27, ↓j29, ↓j30, j32, j33, ↓j38, ↓j39, ↓j40, ↓j44, ↓j45, ↓j48, ↓j56, ↓j57, ↓j78, ↓j79, j83, j85, ↓j89, ↓j145, ↓j146, ↓j148, ↓j149, ↓j151, ↓j153, j158, AV.proj, AV.offOf, AV.upd, AV.size, AV.sizeL, AV.layable, j163, j164, j167, j169, j170, j171, j172, j173, j174, j175, reduceCtorEq, ↓reduceIte, Nat.reduceEqDiff, j182, j185, j195, j197, j259, j325, e1, e2]
      exact ret 0 { o with last := n } _ _ _ (by rw [hp, if_neg (by simp)]) rfl rfl rfl
    · have e2 : ((n : Int) != (ts : Int)) = true := by simp; omega
      simp -dsimp -implicitDefEqProofs only [↓j0, ↓j1, ↓j2, ↓j7, ↓j10, ↓j12, ↓j13, ↓j15, j17, j18, j20, j21, j22, j23, ↓j25, ↓j29, ↓j30, j32, j33, ↓j38, ↓j39, ↓j40, ↓j48, ↓j57, j83, j85, ↓j89, ↓j145, ↓j146, ↓j147, ↓j148, ↓j149, ↓j151, j158, j163, j164, j171, j172, j173, j174, j175, reduceCtorEq, ↓reduceIte, Nat.reduceEqDiff, j185, j195, e1, e2]
      exact ret 1 o _ _ _ (by rw [hp, if_pos (.inr h2)]) rfl rfl rfl
  · have e1 : ((e : Int) != 0) = true := by simp; omega
    simp -dsimp -implicitDefEqProofs only [↓j0, ↓j1, ↓j2, ↓j7, ↓j10, ↓j12, ↓j13, ↓j15, j17, j18, j20, j21, j22, j23, ↓j25, ↓j29, ↓j30, j32, j33, ↓j38, ↓j39, ↓j40, ↓j48, ↓j57, j81, j85, ↓j89, ↓j145, ↓j146, ↓j147, ↓j149, ↓j151, j158, j163, j164, j171, j172, j173, j174, j175, ↓reduceIte, Nat.reduceEqDiff, j185, e1]
    exact ret 1 o _ _ _ (by rw [hp, if_pos (.inl h1)]) rfl rfl rfl
theorem pub_nil (ts : Nat) : ACall Try.prog 11 [.nilptr, .int .u32 ts] [] (.int .i64 1) [] := by
  refine ACall.run (Z := Z) (N := 23) mixed hZ Try.func11 rfl rfl (by kernel_rfl) (by simp) (fun x hx => by
    simp only [List.mem_cons, List.not_mem_nil, or_false] at hx
    rcases hx with rfl | rfl <;> exact ⟨trivial, fun vs h => by cases h⟩) 1 ?_
  have e1 : ((1 : Int) != 0) = true := rfl
  simp -dsimp -implicitDefEqProofs only [↓j0, ↓j1, ↓j7, ↓j12, ↓j15, j17, j18, j20, ↓j25, ↓j29, ↓j30, j33, ↓j38, ↓j39, ↓j53, ↓j145, argEnv, j172, reduceCtorEq, ↓reduceIte, j196]
  refine CallTo.pure (args := [.nilptr]) rfl fok10 (by simp -dsimp -implicitDefEqProofs only [↓j25, ↓j29, j173, j174, ↓reduceIte]) (notup1 fun vs h => by cases h) next_nil ?_
  simp -dsimp -implicitDefEqProofs only [↓j0, ↓j1, ↓j2, ↓j7, ↓j10, ↓j12, ↓j13, ↓j15, j17, j18, j20, ↓j25, ↓j29, ↓j30, j32, j33, ↓j38, ↓j39, ↓j40, ↓j48, ↓j57, j81, j85, ↓j89, ↓j145, ↓j146, ↓j147, ↓j149, ↓j151, j158, j163, j164, j172, j175, ↓reduceIte, Nat.reduceEqDiff, j185, e1]
  exact Final.one (.inr rfl) (r := .tmp 4) rfl ⟨rfl, fun vs h => by cases h⟩ (fun vs h => by cases h) (fun vs h => by cases h) (.same _ trivial)
/-- Last. -/
theorem last_spec (o : OS) : ACall Try.prog 12 [.ptr 2 0 []] (orH o) (.int .u32 o.last) (orH o) := by
  refine ACall.runH (Z := Z) (N := 9) mixed hZ Try.func12 rfl rfl (by kernel_rfl) (by simp) (or_args no_args) (or_on (by simp)) 3 or_lt ?_
  simp -dsimp -implicitDefEqProofs only [↓j0, ↓j1, ↓j7, ↓j9, ↓j10, ↓j12, ↓j13, ↓j15, j17, j18, j20, ↓j25, ↓j27, ↓j29, ↓j30, j33, j35, ↓j38, ↓j39, ↓j43, ↓j45, ↓j48, ↓j56, ↓j76, ↓j79, j130, ↓j145, ↓j146, ↓j148, ↓j149, ↓j153, AV.proj, AV.offOf, AV.sizeL, argEnv, j163, j167, j171, reduceCtorEq, ↓reduceIte, j182, j197, j211, ↓j235, j260, j264, j325]
  exact Final.oneH (.inr rfl) (r := .tmp 2) rfl ⟨rfl, fun vs h => by cases h⟩ (fun vs h => by cases h) (fun vs h => by cases h) (.same _ trivial) (or_keep rfl rfl)
theorem last_nil : ACall Try.prog 12 [.nilptr] [] (.int .u32 0) [] := by
  refine ACall.run (Z := Z) (N := 9) mixed hZ Try.func12 rfl rfl (by kernel_rfl) (by simp) (fun x hx => by simp only [List.mem_singleton] at hx; subst hx; exact ⟨trivial, fun vs h => by cases h⟩) 1 ?_
  simp -dsimp -implicitDefEqProofs only [↓j0, ↓j1, ↓j7, ↓j10, ↓j12, ↓j13, ↓j15, j17, j18, j20, ↓j25, ↓j29, ↓j30, j33, j35, ↓j38, ↓j39, ↓j48, ↓j145, ↓j146, ↓j147, ↓j149, argEnv, j172, reduceCtorEq, ↓reduceIte, j194, j211, ↓j236, j264]
  exact Final.one (.inr rfl) (r := .tmp 2) rfl ⟨rfl, fun vs h => by cases h⟩ (fun vs h => by cases h) (fun vs h => by cases h) (.same _ trivial)
/-- Start. -/
def OS.startP (o : OS) (n : Nat) : Nat × Bool := match aGet o.live n with
  | some v => (v, true)
  | none => (0, false)
theorem start_spec (o : OS) (ho : o.Ok) (n : Nat) (hn : kOk n) : ACall Try.prog 14 [.ptr 2 0 [], .int .u64 n] (orH o) (.tuple [.int .u32 (o.startP n).1, .bool (o.startP n).2]) (orH o) := by
  refine ACall.runH (Z := Z) (N := 21) mixed hZ Try.func14 rfl rfl (by kernel_rfl) (by simp) (or_args arg_int) (or_on (by simp)) 3 or_lt ?_
  have hv : mval (mapE kAV vAV o.live) (kAV n) (.int .u32 0) = vAV (o.startP n).1 := by
    rw [mval_map keyInj37 hn (live_ok ho)]
    unfold OS.startP
    cases aGet o.live n <;> rfl
  have hb : mhas (mapE kAV vAV o.live) (kAV n) = (o.startP n).2 := by
    rw [mhas_map keyInj37 hn (live_ok ho)]
    unfold OS.startP
    cases aGet o.live n <;> rfl
  simp -dsimp -implicitDefEqProofs only [↓j0, ↓j1, ↓j7, ↓j9, ↓j12, ↓j13, ↓j15, j17, j18, j20, ↓j25, ↓j27, ↓j29, ↓j30, j32, j33, j35, ↓j38, ↓j39, ↓j43, ↓j45, ↓j48, ↓j56, ↓j64, ↓j76, ↓j79, j138, ↓j145, ↓j146, ↓j148, ↓j149, ↓j153, AV.proj, AV.offOf, AV.size, AV.sizeL, argEnv, j163, j164, j166, j167, j171, reduceCtorEq, ↓reduceIte, Nat.reduceAdd, Nat.reduceEqDiff, j182, j196, j197, j211, ↓j235, j264, j321, j334]
  refine DoLookup_own (k := kAV n) (es := mapE kAV vAV o.live) Try.underlying57 rfl Z22 keyed37 (isKey37 hn) (goodM ho) hv hb ?_
  simp -dsimp -implicitDefEqProofs only [↓j0, ↓j1, ↓j7, ↓j10, ↓j12, ↓j15, j17, j18, j20, ↓j25, ↓j29, ↓j38, ↓j39, ↓j57, j85, ↓j145, j163, j164, j171, ↓reduceIte, Nat.reduceEqDiff]
  exact Final.manyH (.inr rfl) (rs := [.tmp 4, .tmp 5]) (us := [.int .u32 (o.startP n).1, .bool (o.startP n).2]) rfl ⟨⟨rfl, fun vs h => by cases h⟩, ⟨rfl, fun vs h => by cases h⟩, trivial⟩ (by simp) ⟨.same _ trivial, .same _ trivial, trivial⟩ (or_keep rfl rfl)
theorem args_nil_int {k : IntKind} {n : Int} : ∀ x, x ∈ [AV.nilptr, .int k n] → AV.on (fun _ => False) x ∧ ∀ vs, x ≠ .tuple vs := fun x hx => by
  simp only [List.mem_cons, List.not_mem_nil, or_false] at hx
  rcases hx with rfl | rfl <;> exact ⟨trivial, fun vs h => by cases h⟩
theorem start_nil (n : Nat) : ACall Try.prog 14 [.nilptr, .int .u64 n] [] (.tuple [.int .u32 0, .bool false]) [] := by
  refine ACall.run (Z := Z) (N := 21) mixed hZ Try.func14 rfl rfl (by kernel_rfl) (by simp) args_nil_int 1 ?_
  simp -dsimp -implicitDefEqProofs only [↓j0, ↓j1, ↓j7, ↓j10, ↓j12, ↓j13, ↓j15, j17, j18, j20, ↓j25, ↓j29, ↓j30, j32, j33, j35, ↓j38, ↓j39, ↓j48, ↓j145, ↓j146, ↓j147, ↓j149, argEnv, j172, reduceCtorEq, ↓reduceIte, j194, j196, j211, ↓j236, j264]
  exact Final.many (.inr rfl) (rs := [.tmp 4, .tmp 5]) (us := [.int .u32 0, .bool false]) rfl ⟨⟨rfl, fun vs h => by cases h⟩, ⟨rfl, fun vs h => by cases h⟩, trivial⟩ (by simp) ⟨.same _ trivial, .same _ trivial, trivial⟩
/-- Begin. -/
def OS.beginP (o : OS) : (Nat × Nat × Nat) × OS := if o.live.length = 8 then ((0, 0, 10), o) else ((o.count + 1, o.last, 0), { o with count := o.count + 1, live := aPut o.live (o.count + 1) o.last })
theorem begin_ok {o : OS} (ho : o.Ok) (hc : o.count < 1000) : o.beginP.2.Ok := by
  unfold OS.beginP
  split
  · exact ho
  · rename_i h
    have hf := ho.few
    refine ⟨ho.lm, ho.max, by show o.count + 1 ≤ 1000; omega, ?_, aPut_nodup _ _ ho.nodup, fun e he => ?_⟩
    · have := aPut_len (M := o.live) (k := o.count + 1) (v := o.last)
      show (aPut o.live (o.count + 1) o.last).length ≤ 8
      omega
    · rcases aPut_mem he with rfl | he
      · exact ⟨by show 1 ≤ o.count + 1; omega, Nat.le_refl _, Nat.le_refl _⟩
      · have := ho.keys e he
        exact ⟨this.1, by show e.1 ≤ o.count + 1; omega, this.2.2⟩
theorem begin_spec (o : OS) (ho : o.Ok) (hc : o.count < 1000) : ACall Try.prog 15 [.ptr 2 0 []] (orH o) (.tuple [.int .u64 o.beginP.1.1, .int .u32 o.beginP.1.2.1, .int .i64 o.beginP.1.2.2]) (orH o.beginP.2) := by
  refine ACall.runH (Z := Z) (N := 40) mixed hZ Try.func15 rfl rfl (by kernel_rfl) (by simp) (or_args no_args) (or_on (by simp)) 3 or_lt ?_
  have hp : o.beginP = if o.live.length = 8 then ((0, 0, 10), o) else ((o.count + 1, o.last, 0), { o with count := o.count + 1, live := aPut o.live (o.count + 1) o.last }) := rfl
  have ret : ∀ (a b c : Nat) (o' : OS) (t : Env) (H : Heap) (m : Nat), ((a, b, c), o') = o.beginP → look t 2 = some (.int .u64 a) → look t 3 = some (.int .u32 b) → look t 4 = some (.int .i64 c) → Heap.get H 2 = some (orC o') → Heap.get H 1 = some (mapB o'.live) → Final Try.prog Try.f15 (.tuple [.int .u64 o.beginP.1.1, .int .u32 o.beginP.1.2.1, .int .i64 o.beginP.1.2.2]) (orH o.beginP.2) .ret ⟨40, t, H, m⟩ := fun a b c o' t H m hk h1 h2 h3 h4 h5 => by
    rw [← hk]
    exact Final.manyH (.inr rfl) (rs := [.tmp 2, .tmp 3, .tmp 4]) (us := [.int .u64 a, .int .u32 b, .int .i64 c]) rfl ⟨⟨h1, fun vs h => by cases h⟩, ⟨h2, fun vs h => by cases h⟩, ⟨h3, fun vs h => by cases h⟩, trivial⟩ (by simp) ⟨.same _ trivial, .same _ trivial, .same _ trivial, trivial⟩ (or_keep h4 h5)
  have hlm : ∀ (H : Heap) (m : Nat) (K : Eff → Nat → Prop), Heap.get H 1 = some (mapB o.live) → K ⟨.int .i64 (o.live.length : Nat), [1], [], []⟩ m → LenAt Try.prog 57 H m (.mapv 1) K := fun H m K h1 h2 => by
    refine LenAt_mapv h1 (by kernel_rfl) ?_
    rw [List.length_map]; exact h2
  simp -dsimp -implicitDefEqProofs only [↓j0, ↓j1, ↓j7, ↓j9, ↓j12, ↓j13, ↓j15, j17, j18, j20, ↓j25, ↓j27, ↓j29, ↓j30, j33, j35, ↓j38, ↓j39, ↓j43, ↓j45, ↓j48, ↓j56, ↓j58, ↓j76, ↓j79, j138, ↓j145, ↓j146, ↓j148, ↓j149, ↓j153, AV.proj, AV.offOf, AV.size, AV.sizeL, argEnv, j163, j164, j166, j167, j171, reduceCtorEq, ↓reduceIte, Nat.reduceAdd, j182, j196, j197, j211, ↓j235, j264, j321, j334]
  refine hlm _ _ _ rfl ?_
  by_cases h : o.live.length = 8
  · have e : ((o.live.length : Int) == 8) = true := by rw [beq_iff_eq]; omega
    simp -dsimp -implicitDefEqProofs only [↓j0, ↓j1, ↓j7, ↓j10, ↓j12, ↓j13, ↓j15, j17, j18, j20, ↓j25, ↓j29, ↓j30, j33, ↓j39, ↓j48, ↓j89, ↓j145, ↓j146, ↓j147, ↓j149, j157, j171, ↓reduceIte, j185, e]
    exact ret 0 0 10 o _ _ _ (by rw [hp, if_pos h]) rfl rfl rfl rfl rfl
  · have e : ((o.live.length : Int) == 8) = false := by rw [beq_eq_false_iff_ne]; omega
    have hw : IntKind.u64.wrap ((o.count : Int) + 1) = ((o.count + 1 : Nat) : Int) := by
      have := wrap_u64 (o.count + 1)
      rw [Nat.mod_eq_of_lt (by omega)] at this
      rw [← this]; rfl
    have hk : kOk (o.count + 1) := by unfold kOk; omega
    have hup : mput (mapE kAV vAV o.live) (kAV (o.count + 1)) (vAV o.last) = mapE kAV vAV (aPut o.live (o.count + 1) o.last) := mput_map keyInj37 hk (live_ok ho) o.last
    simp -dsimp -implicitDefEqProofs only [↓j0, ↓j1, ↓j4, ↓j7, ↓j8, ↓j9, ↓j12, ↓j13, ↓j15, j17, j18, j19, j20, j21, j22, j23, j24, ↓j25, ↓j27, ↓j29, ↓j30, j33, ↓j38, ↓j43, ↓j44, ↓j45, ↓j48, ↓j56, ↓j65, ↓j76, ↓j78, ↓j79, ↓j89, j130, j138, ↓j145, ↓j146, ↓j148, ↓j149, ↓j153, j154, j157, AV.proj, AV.offOf, AV.upd, AV.size, AV.sizeL, AV.layable, j163, j164, j166, j167, j168, j169, j170, j171, j172, j174, reduceCtorEq, ↓reduceIte, Nat.reduceAdd, Nat.reduceEqDiff, j182, j185, j196, j197, j260, j290, j291, j321, j325, j331, j334, e, hw]
    refine DoMapUpdate_own (k := kAV (o.count + 1)) Try.underlying57 rfl keyed37 (isKey37 hk) (goodM ho) (fun vs h => by cases h) hup ?_
    simp -dsimp -implicitDefEqProofs only [↓j3, j17, j19, j20, j21, j22, j23, j24, j170, j171, j173, j174, ↓reduceIte, Nat.reduceEqDiff]
    refine ⟨by kernel_rfl, ?_⟩
    simp -dsimp -implicitDefEqProofs only [↓j3, ↓j4, ↓j8, ↓j12, ↓j15, j17, j18, j20, j24, ↓j25, ↓j27, ↓j29, ↓j30, j33, ↓j38, ↓j39, ↓j43, ↓j45, ↓j56, ↓j76, ↓j79, j130, ↓j145, ↓j146, ↓j153, AV.proj, AV.offOf, AV.size, AV.sizeL, j163, j164, j166, j167, j170, j171, j172, j174, reduceCtorEq, ↓reduceIte, Nat.reduceAdd, Nat.reduceEqDiff, j182, j196, j197, j260, j291, j325, j331]
    refine ⟨by kernel_rfl, ?_⟩
    exact ret (o.count + 1) o.last 0 { o with count := o.count + 1, live := aPut o.live (o.count + 1) o.last } _ _ _ (by rw [hp, if_neg h]) rfl rfl rfl rfl rfl
theorem begin_nil : ACall Try.prog 15 [.nilptr] [] (.tuple [.int .u64 0, .int .u32 0, .int .i64 1]) [] := by
  refine ACall.run (Z := Z) (N := 40) mixed hZ Try.func15 rfl rfl (by kernel_rfl) (by simp) (fun x hx => by simp only [List.mem_singleton] at hx; subst hx; exact ⟨trivial, fun vs h => by cases h⟩) 1 ?_
  simp -dsimp -implicitDefEqProofs only [↓j0, ↓j1, ↓j7, ↓j10, ↓j12, ↓j13, ↓j15, j17, j18, j20, ↓j25, ↓j29, ↓j30, j33, j35, ↓j38, ↓j39, ↓j48, ↓j145, ↓j146, ↓j147, ↓j149, argEnv, j172, reduceCtorEq, ↓reduceIte, j194, j211, ↓j236, j264]
  exact Final.many (.inr rfl) (rs := [.tmp 2, .tmp 3, .tmp 4]) (us := [.int .u64 0, .int .u32 0, .int .i64 1]) rfl ⟨⟨rfl, fun vs h => by cases h⟩, ⟨rfl, fun vs h => by cases h⟩, ⟨rfl, fun vs h => by cases h⟩, trivial⟩ (by simp) ⟨.same _ trivial, .same _ trivial, .same _ trivial, trivial⟩
/-- End. -/
def OS.endP (o : OS) (n : Nat) : Nat × OS := if (o.startP n).2 then (0, { o with live := aDel o.live n }) else (9, o)
theorem end_ok {o : OS} (ho : o.Ok) (n : Nat) : (o.endP n).2.Ok := by
  unfold OS.endP
  split
  · obtain ⟨h1, h2⟩ := aDel_nodup n ho.nodup
    refine ⟨ho.lm, ho.max, ho.count, ?_, h1, fun e he => ho.keys e ((h2 e).1 he).1⟩
    have hsub : (aDel o.live n).length ≤ o.live.length := by
      rw [aDel_find]
      cases aFind o.live n with
      | none => exact Nat.le_refl _
      | some j => exact List.length_eraseIdx_le _ _
    have := ho.few
    show (aDel o.live n).length ≤ 8
    omega
  · exact ho
theorem end_spec (o : OS) (ho : o.Ok) (n : Nat) (hn : kOk n) : ACall Try.prog 17 [.ptr 2 0 [], .int .u64 n] (orH o) (.int .i64 (o.endP n).1) (orH (o.endP n).2) := by
  refine ACall.runH (Z := Z) (N := 20) mixed hZ Try.func17 rfl rfl (by kernel_rfl) (by simp) (or_args arg_int) (or_on (by simp)) 3 or_lt ?_
  have hp : o.endP n = if (o.startP n).2 then (0, { o with live := aDel o.live n }) else (9, o) := rfl
  have hss := start_spec o ho n hn
  obtain ⟨⟨s, b⟩, hs⟩ : ∃ x, o.startP n = x := ⟨_, rfl⟩
  rw [hs] at hss hp
  have ret : ∀ (k : Nat) (o' : OS) (t : Env) (H : Heap) (m : Nat), (k, o') = o.endP n → look t 4 = some (.int .i64 k) → Heap.get H 2 = some (orC o') → Heap.get H 1 = some (mapB o'.live) → Final Try.prog Try.f17 (.int .i64 (o.endP n).1) (orH (o.endP n).2) .ret ⟨20, t, H, m⟩ := fun k o' t H m hk h1 h2 h3 => by
    rw [← hk]
    exact Final.oneH (.inr rfl) (r := .tmp 4) rfl ⟨h1, fun vs h => by cases h⟩ (fun vs h => by cases h) (fun vs h => by cases h) (.same _ trivial) (or_keep h2 h3)
  simp -dsimp -implicitDefEqProofs only [↓j0, ↓j1, ↓j7, ↓j12, ↓j15, j17, j18, j20, ↓j25, ↓j29, ↓j30, j33, ↓j38, ↓j39, ↓j53, ↓j145, argEnv, j171, reduceCtorEq, ↓reduceIte, Nat.reduceEqDiff, j196]
  refine CallTo.gen (args := [.ptr 2 0 [], .int .u64 n]) (orH o) (orH o) 3 rfl fok14 (by simp -dsimp -implicitDefEqProofs only [↓j25, ↓j29, j173, j174, ↓reduceIte, Nat.reduceEqDiff]) (notup2 (fun vs h => by cases h) fun vs h => by cases h) hss (fun n b h => h) ⟨by simp, put_or⟩ ?_
  cases b
  · simp -dsimp -implicitDefEqProofs only [↓j0, ↓j1, ↓j7, ↓j10, ↓j12, ↓j13, ↓j15, j17, j18, j20, j21, j22, j23, ↓j25, ↓j29, ↓j30, j33, ↓j38, ↓j39, ↓j55, ↓j57, j84, j85, ↓j145, ↓j147, ↓j149, j163, j164, j171, j172, j173, j174, ↓reduceIte, Nat.reduceEqDiff, j194]
    exact ret 9 o _ _ _ (by rw [hp]; rfl) rfl rfl rfl
  · simp -dsimp -implicitDefEqProofs only [↓j0, ↓j1, ↓j7, ↓j9, ↓j12, ↓j13, ↓j15, j17, j18, j20, j21, j22, j23, ↓j25, ↓j27, ↓j29, ↓j38, ↓j39, ↓j43, ↓j45, ↓j55, ↓j56, ↓j57, ↓j70, ↓j76, ↓j79, j84, j85, j138, ↓j145, ↓j146, ↓j148, ↓j149, ↓j153, AV.proj, AV.offOf, AV.size, AV.sizeL, j163, j164, j166, j167, j171, j172, j173, j174, reduceCtorEq, ↓reduceIte, Nat.reduceAdd, Nat.reduceEqDiff, j182, j193, j196, j197, j321, j334]
    refine CallTo.delete (n := 1) (k := kAV n) (es := mapE kAV vAV o.live) rfl Try.underlying57 (by simp -dsimp -implicitDefEqProofs only [↓j25, ↓j29, ↓reduceIte, Nat.reduceEqDiff]) (by simp -dsimp -implicitDefEqProofs only [↓j25, ↓j29, ↓reduceIte]) rfl keyed37 (isKey37 hn) (goodM ho) ?_
    rw [mdel_map keyInj37 hn (live_ok ho)]
    simp -dsimp -implicitDefEqProofs only [↓j0, ↓j1, ↓j7, ↓j10, ↓j12, ↓j15, j17, j18, j19, j20, j21, j22, j23, ↓j30, j33, ↓j39, ↓j145, j170, j171, ↓reduceIte, Nat.reduceEqDiff]
    exact ret 0 { o with live := aDel o.live n } _ _ _ (by rw [hp]; rfl) rfl rfl rfl
theorem end_nil (n : Nat) : ACall Try.prog 17 [.nilptr, .int .u64 n] [] (.int .i64 9) [] := by
  refine ACall.run (Z := Z) (N := 20) mixed hZ Try.func17 rfl rfl (by kernel_rfl) (by simp) args_nil_int 1 ?_
  simp -dsimp -implicitDefEqProofs only [↓j0, ↓j1, ↓j7, ↓j12, ↓j15, j17, j18, j20, ↓j25, ↓j29, ↓j30, j33, ↓j38, ↓j39, ↓j53, ↓j145, argEnv, j172, reduceCtorEq, ↓reduceIte, Nat.reduceEqDiff, j196]
  refine CallTo.pure (args := [.nilptr, .int .u64 n]) rfl fok14 (by simp -dsimp -implicitDefEqProofs only [↓j25, ↓j29, j173, j174, ↓reduceIte, Nat.reduceEqDiff]) (notup2 (fun vs h => by cases h) fun vs h => by cases h) (start_nil n) ?_
  simp -dsimp -implicitDefEqProofs only [↓j0, ↓j1, ↓j7, ↓j10, ↓j12, ↓j13, ↓j15, j17, j18, j20, ↓j25, ↓j29, ↓j30, j33, ↓j38, ↓j39, ↓j55, ↓j57, j84, j85, ↓j145, ↓j147, ↓j149, j163, j164, j172, ↓reduceIte, Nat.reduceEqDiff, j194]
  exact Final.one (.inr rfl) (r := .tmp 4) rfl ⟨rfl, fun vs h => by cases h⟩ (fun vs h => by cases h) (fun vs h => by cases h) (.same _ trivial)
end Go.Proofs.Ytiolhncfnoafeaa
