/- The oracle: Live, Horizon; do; awake. -/
import Derived.Test.YtiolhncfnoafeaaO3
set_option linter.unusedVariables false
set_option linter.unusedSimpArgs false
namespace Go.Proofs.Ytiolhncfnoafeaa
open Go Go.RowKit

theorem keysIn_len (M : List KV) : (keysIn M).length = M.length := by rw [keysIn, sortN_len, List.length_map]
theorem keysIn_mem {M : List KV} {k : Nat} : k ∈ keysIn M ↔ k ∈ M.map (·.1) := (sortN_perm _).mem_iff
theorem get_mapH {M : List KV} {n : Nat} {b : ABlk} (h : Heap.get [(1, mapB M)] n = some b) : n = 1 ∧ b = mapB M := by
  simp only [Heap.get] at h
  by_cases h1 : n = 1
  · subst h1; simp only [if_true, Option.some.injEq] at h; exact ⟨rfl, h.symm⟩
  · rw [if_neg h1] at h; cases h
theorem live_spec (o : OS) (ho : o.Ok) : ACall Try.prog 21 [.ptr 2 0 []] (orH o) (keysAV (keysIn o.live)) (orH o) := by
  refine ACall.runH (Z := Z) (N := 10) mixed hZ Try.func21 rfl rfl (by kernel_rfl) (by simp) (or_args no_args) (or_on (by simp)) 3 or_lt ?_
  have hf := ho.few
  simp -dsimp -implicitDefEqProofs only [↓j0, ↓j1, ↓j7, ↓j9, ↓j12, ↓j13, ↓j15, j17, j18, j20, ↓j25, ↓j27, ↓j29, ↓j30, j35, j36, ↓j38, ↓j39, ↓j43, ↓j45, ↓j48, ↓j53, ↓j56, ↓j76, ↓j79, j138, ↓j145, ↓j146, ↓j148, ↓j149, ↓j153, AV.proj, AV.offOf, AV.size, AV.sizeL, argEnv, j163, j164, j166, j167, j171, reduceCtorEq, ↓reduceIte, Nat.reduceAdd, j182, j196, j197, j211, ↓j235, j264, j321, j334]
  refine CallTo.gen (args := [.mapv 1]) [(1, mapB o.live)] [(1, mapB o.live)] 3 rfl fok24 (by simp -dsimp -implicitDefEqProofs only [↓j25, ↓j29, j173, j174, ↓reduceIte]) (notup1 fun vs h => by cases h) (sorted_spec o.live (by omega)) (SubH.of (by simp -dsimp -implicitDefEqProofs only [↓j27, ↓reduceIte, Nat.reduceEqDiff, j182, j204, j205])) ⟨by simp, fun n x h h2 => absurd (get_map h) h2⟩ ?_
  simp -dsimp -implicitDefEqProofs only [↓j0, ↓j1, ↓j10, j17, j18, j20, j21, j22, j23, ↓j25, ↓j29, ↓j39, ↓j145, j170, j171, j173, j174, ↓reduceIte, Nat.reduceEqDiff]
  exact Final.oneH (.inr rfl) (r := .tmp 2) rfl ⟨rfl, fun vs h => by cases h⟩ (fun vs h => by cases h) (fun vs h => by cases h) (.same _ (on_keys _ _)) (or_keep rfl rfl)
theorem live_nil : ACall Try.prog 21 [.nilptr] [] (keysAV []) [] := by
  refine ACall.run (Z := Z) (N := 10) mixed hZ Try.func21 rfl rfl (by kernel_rfl) (by simp) (fun x hx => by simp only [List.mem_singleton] at hx; subst hx; exact ⟨trivial, fun vs h => by cases h⟩) 1 ?_
  simp -dsimp -implicitDefEqProofs only [↓j0, ↓j1, ↓j7, ↓j10, ↓j12, ↓j13, ↓j15, j17, j18, j20, ↓j25, ↓j29, ↓j30, j35, j36, ↓j38, ↓j39, ↓j48, ↓j145, ↓j146, ↓j147, ↓j149, argEnv, j172, reduceCtorEq, ↓reduceIte, j194, j211, ↓j236, j264]
  exact Final.one (.inr rfl) (r := .tmp 2) rfl ⟨rfl, fun vs h => by cases h⟩ (fun vs h => by cases h) (fun vs h => by cases h) .nil
/-- The horizon. -/
def hzL (M : List KV) (h : Nat) (ks : List Nat) : Nat := ks.foldl (fun h t => min h ((aGet M t).getD 0)) h
def OS.hz (o : OS) : Nat := hzL o.live o.last (keysIn o.live)
theorem hzL_snoc (M : List KV) (h : Nat) (ks : List Nat) (k : Nat) : hzL M h (ks ++ [k]) = min (hzL M h ks) ((aGet M k).getD 0) := by
  simp only [hzL, List.foldl_append, List.foldl_cons, List.foldl_nil]
theorem hzL_le (M : List KV) : ∀ (ks : List Nat) (h : Nat), hzL M h ks ≤ h
  | [], h => Nat.le_refl _
  | k :: ks, h => by
    have := hzL_le M ks (min h ((aGet M k).getD 0))
    simp only [hzL, List.foldl_cons] at this ⊢
    omega
theorem hzL_all (M : List KV) : ∀ (ks : List Nat) (h : Nat) (k : Nat), k ∈ ks → hzL M h ks ≤ (aGet M k).getD 0
  | j :: ks, h, k, hk => by
    rcases List.mem_cons.1 hk with rfl | hk
    · have := hzL_le M ks (min h ((aGet M k).getD 0))
      simp only [hzL, List.foldl_cons] at this ⊢
      omega
    · exact hzL_all M ks (min h ((aGet M j).getD 0)) k hk
theorem hzL_in (M : List KV) : ∀ (ks : List Nat) (h : Nat), hzL M h ks = h ∨ ∃ k, k ∈ ks ∧ hzL M h ks = (aGet M k).getD 0
  | [], h => .inl rfl
  | j :: ks, h => by
    rcases hzL_in M ks (min h ((aGet M j).getD 0)) with h1 | ⟨k, hk, h1⟩
    · by_cases hm : h ≤ (aGet M j).getD 0
      · left; simp only [hzL, List.foldl_cons] at h1 ⊢; omega
      · right; exact ⟨j, by simp, by simp only [hzL, List.foldl_cons] at h1 ⊢; omega⟩
    · right; exact ⟨k, by simp [hk], h1⟩
theorem hz_le (o : OS) : o.hz ≤ o.last := hzL_le _ _ _
theorem hz_all {o : OS} (ho : o.Ok) {e : KV} (he : e ∈ o.live) : o.hz ≤ e.2 := by
  have h := hzL_all o.live (keysIn o.live) o.last e.1 (keysIn_mem.2 (List.mem_map.2 ⟨e, he, rfl⟩))
  rw [aGet_of_mem ho.nodup (show (e.1, e.2) ∈ o.live from he)] at h
  exact h
theorem hz_in {o : OS} (ho : o.Ok) : o.hz = o.last ∨ ∃ e, e ∈ o.live ∧ o.hz = e.2 := by
  rcases hzL_in o.live (keysIn o.live) o.last with h | ⟨k, hk, h⟩
  · exact .inl h
  · obtain ⟨e, he, rfl⟩ := List.mem_map.1 (keysIn_mem.1 hk)
    rw [aGet_of_mem ho.nodup (show (e.1, e.2) ∈ o.live from he)] at h
    exact .inr ⟨e, he, h⟩
def hzSt (o : OS) (i : Nat) : St := ⟨25, [(3, .int .u32 (hzL o.live o.last ((keysIn o.live).take i) : Nat)), (11, .int .i64 i), (10, .int .i64 (keysIn o.live).length), (9, keysAV (keysIn o.live)), (0, .ptr 2 0 []), (2, .int .u32 0)], orH o, 3⟩
theorem min_int (a b : Nat) : (if (b : Int) < (a : Int) then (b : Int) else (a : Int)) = ((min a b : Nat) : Int) := by
  split <;> omega
theorem hz_spec (o : OS) (ho : o.Ok) : ACall Try.prog 18 [.ptr 2 0 []] (orH o) (.int .u32 o.hz) (orH o) := by
  refine ACall.runH (Z := Z) (N := 25) mixed hZ Try.func18 rfl rfl (by kernel_rfl) (by simp) (or_args no_args) (or_on (by simp)) 3 or_lt ?_
  have hf := ho.few
  have hL := keysIn_len o.live
  simp -dsimp -implicitDefEqProofs only [↓j0, ↓j1, ↓j7, ↓j12, ↓j15, j17, j18, j20, ↓j25, ↓j29, ↓j30, j33, ↓j38, ↓j39, ↓j53, ↓j145, argEnv, j171, reduceCtorEq, ↓reduceIte]
  refine CallTo.gen (args := [.ptr 2 0 []]) (orH o) (orH o) 3 rfl fok12 (by simp -dsimp -implicitDefEqProofs only [↓j25, ↓j29, j173, j174, ↓reduceIte]) (notup1 fun vs h => by cases h) (last_spec o) (fun n b h => h) ⟨by simp, put_or⟩ ?_
  simp -dsimp -implicitDefEqProofs only [↓j0, ↓j1, ↓j7, ↓j12, ↓j15, j17, j18, j20, j21, j22, j23, ↓j25, ↓j29, ↓j38, ↓j39, ↓j53, ↓j145, j171, j172, j173, j174, reduceCtorEq, ↓reduceIte, Nat.reduceEqDiff]
  refine CallTo.gen (args := [.ptr 2 0 []]) (orH o) (orH o) 3 rfl fok21 (by simp -dsimp -implicitDefEqProofs only [↓j25, ↓j29, j173, j174, ↓reduceIte]) (notup1 fun vs h => by cases h) (live_spec o ho) (SubH.of (by simp -dsimp -implicitDefEqProofs only [↓j27, ↓reduceIte, Nat.reduceEqDiff, j182, j204, j205])) ⟨by simp, put_or⟩ ?_
  simp -dsimp -implicitDefEqProofs only [↓j0, ↓j1, ↓j14, ↓j16, j17, j18, j20, j21, j22, j23, ↓j25, ↓j29, ↓j30, j33, ↓j38, ↓j58, ↓j62, j142, ↓j145, j171, j172, j173, j174, ↓reduceIte, Nat.reduceEqDiff, j383]
  refine AWp.loopR (Z := Z) mixed hZ (by kernel_rfl) (fun n s => ∃ i, i + n = (keysIn o.live).length ∧ s = hzSt o i) (n0 := (keysIn o.live).length) (s0 := hzSt o 0) ?_ ⟨0, by omega, rfl⟩ ?_ rfl
  · exact Wk.sub (by simp -dsimp -implicitDefEqProofs only [↓j25, ↓j27, j167, j179, reduceCtorEq, ↓reduceIte, Nat.reduceEqDiff, j182, j183, j184, j202, j203, j204, j205, j209, j223, hzL, List.foldl_nil] <;> simp)
  rintro n s ⟨i, hi, rfl⟩
  refine ⟨rfl, ?_⟩
  rcases Nat.lt_or_ge i (keysIn o.live).length with hlt | hge
  · have e1 : decide ((i : Int) < ((keysIn o.live).length : Int)) = true := decide_eq_true (by omega)
    obtain ⟨k, hk⟩ := list_get (xs := keysIn o.live) (i := i) hlt
    have hsz := (unif_keys (keysIn o.live)).sizeL_take (k := i) (by simp; omega)
    have hlt2 : (i : Int) < ((keysIn o.live).length : Int) := by omega
    have hkm : k ∈ o.live.map (·.1) := keysIn_mem.1 (List.mem_of_getElem? hk)
    obtain ⟨e, he, hek⟩ := List.mem_map.1 hkm
    have hko : kOk k := hek ▸ live_ok ho e he
    have hv : mval (mapE kAV vAV o.live) (kAV k) (.int .u32 0) = vAV ((aGet o.live k).getD 0) := by
      rw [mval_map keyInj37 hko (live_ok ho)]
      cases aGet o.live k <;> rfl
    have hw : IntKind.i64.wrap ((i : Int) + 1) = ((i + 1 : Nat) : Int) := by rw [wrap_i64 (by omega) (by omega)]; omega
    obtain ⟨h, hh⟩ : ∃ h, hzL o.live o.last ((keysIn o.live).take i) = h := ⟨_, rfl⟩
    have hn : hzL o.live o.last ((keysIn o.live).take (i + 1)) = min h ((aGet o.live k).getD 0) := by rw [take_succ hk, hzL_snoc, hh]
    obtain ⟨g, hg⟩ : ∃ g, (aGet o.live k).getD 0 = g := ⟨_, rfl⟩
    rw [hg] at hn hv
    have hmi := min_int h g
    obtain ⟨ks, hks⟩ : ∃ ks, keysIn o.live = ks := ⟨_, rfl⟩
    rw [hks] at e1 hk hsz hlt2 hh hn hi hlt
    simp -dsimp -implicitDefEqProofs only [↓j0, ↓j1, ↓j7, ↓j9, ↓j12, ↓j13, ↓j14, ↓j15, j17, j18, j20, ↓j25, ↓j27, ↓j29, ↓j38, ↓j39, ↓j43, ↓j45, ↓j46, ↓j48, ↓j56, ↓j64, ↓j76, ↓j77, ↓j79, ↓j89, ↓j92, j130, j138, ↓j145, ↓j146, ↓j147, ↓j149, ↓j153, j159, AV.proj, AV.offOf, AV.size, AV.sizeL, j163, j164, j166, j167, j171, j177, reduceCtorEq, ↓reduceIte, Nat.reduceAdd, Nat.reduceEqDiff, j182, j185, j191, j196, j197, j206, j207, j208, j291, j318, j321, j334, hzSt, hks, hh, hk, hsz, hlt2]
    refine DoLookup_own (k := kAV k) (es := mapE kAV vAV o.live) Try.underlying57 rfl Z22 keyed37 (isKey37 hko) (goodM ho) hv rfl ?_
    simp -dsimp -implicitDefEqProofs only [↓j0, ↓j1, ↓j7, ↓j15, j17, j18, j20, ↓j25, ↓j29, ↓j30, j33, ↓j38, ↓j39, ↓j48, ↓j72, j86, ↓j89, ↓j145, ↓j146, j154, j171, ↓reduceIte, Nat.reduceEqDiff, j185, j195, hmi]
    refine ⟨n - 1, hzSt o (i + 1), by omega, ⟨i + 1, by omega, by simp only [hzSt, hks]⟩, Wk.sub (by simp -dsimp -implicitDefEqProofs only [↓j25, ↓j27, reduceCtorEq, ↓reduceIte, Nat.reduceEqDiff, j182, j202, j203, j204, j205, j223, hks, hw, hn] <;> simp)⟩
  · have hi2 : i = (keysIn o.live).length := by omega
    subst hi2
    have e1 : decide (((keysIn o.live).length : Int) < ((keysIn o.live).length : Int)) = false := decide_eq_false (by omega)
    have ht : (keysIn o.live).take (keysIn o.live).length = keysIn o.live := List.take_of_length_le (Nat.le_refl _)
    have hz : hzL o.live o.last (keysIn o.live) = o.hz := rfl
    simp -dsimp -implicitDefEqProofs only [↓j0, ↓j1, ↓j7, ↓j10, ↓j11, ↓j12, ↓j13, ↓j15, j17, j18, j20, ↓j25, ↓j29, ↓j38, ↓j39, ↓j48, ↓j89, ↓j145, ↓j146, ↓j148, ↓j149, j159, j171, ↓reduceIte, Nat.reduceEqDiff, j185, hzSt, ht, hz, e1]
    exact Final.oneH (.inr rfl) (r := .tmp 2) rfl ⟨rfl, fun vs h => by cases h⟩ (fun vs h => by cases h) (fun vs h => by cases h) (.same _ trivial) (or_keep rfl rfl)
theorem hz_nil : ACall Try.prog 18 [.nilptr] [] (.int .u32 0) [] := by
  refine ACall.run (Z := Z) (N := 25) mixed hZ Try.func18 rfl rfl (by kernel_rfl) (by simp) (fun x hx => by simp only [List.mem_singleton] at hx; subst hx; exact ⟨trivial, fun vs h => by cases h⟩) 1 ?_
  simp -dsimp -implicitDefEqProofs only [↓j0, ↓j1, ↓j7, ↓j12, ↓j15, j17, j18, j20, ↓j25, ↓j29, ↓j30, j33, ↓j38, ↓j39, ↓j53, ↓j145, argEnv, j172, reduceCtorEq, ↓reduceIte]
  refine CallTo.pure (args := [.nilptr]) rfl fok12 (by simp -dsimp -implicitDefEqProofs only [↓j25, ↓j29, j173, j174, ↓reduceIte]) (notup1 fun vs h => by cases h) last_nil ?_
  simp -dsimp -implicitDefEqProofs only [↓j0, ↓j1, ↓j7, ↓j12, ↓j15, j17, j18, j20, ↓j25, ↓j29, ↓j38, ↓j39, ↓j53, ↓j145, j172, reduceCtorEq, ↓reduceIte]
  refine CallTo.pure (args := [.nilptr]) rfl fok21 (by simp -dsimp -implicitDefEqProofs only [↓j25, ↓j29, j173, j174, ↓reduceIte]) (notup1 fun vs h => by cases h) live_nil ?_
  simp -dsimp -implicitDefEqProofs only [↓j0, ↓j1, ↓j14, ↓j16, j17, j18, j20, ↓j25, ↓j29, ↓j30, j33, ↓j38, ↓j58, ↓j62, j142, ↓j145, j172, j174, ↓reduceIte, j231, j383]
  refine AWp.loopR (Z := Z) mixed hZ (by kernel_rfl) (fun n s => s = ⟨25, [(3, .int .u32 0), (11, .int .i64 0), (10, .int .i64 0), (0, .nilptr), (2, .int .u32 0)], [], 1⟩) (n0 := 0) (s0 := ⟨25, [(3, .int .u32 0), (11, .int .i64 0), (10, .int .i64 0), (0, .nilptr), (2, .int .u32 0)], [], 1⟩) ?_ rfl ?_ rfl
  · exact Wk.sub (by simp -dsimp -implicitDefEqProofs only [↓j25, j179, reduceCtorEq, ↓reduceIte, Nat.reduceEqDiff, j182, j183, j184, j202, j203, j204, j209, j223] <;> simp)
  rintro n s rfl
  refine ⟨rfl, ?_⟩
  have e1 : decide ((0 : Int) < (0 : Int)) = false := rfl
  simp -dsimp -implicitDefEqProofs only [↓j0, ↓j1, ↓j7, ↓j10, ↓j11, ↓j12, ↓j13, ↓j15, j17, j18, j20, ↓j25, ↓j29, ↓j38, ↓j39, ↓j48, ↓j89, ↓j145, ↓j146, ↓j148, ↓j149, j159, j172, ↓reduceIte, Nat.reduceEqDiff, Int.reduceLT, j185, j192]
  exact Final.one (.inr rfl) (r := .tmp 2) rfl ⟨rfl, fun vs h => by cases h⟩ (fun vs h => by cases h) (fun vs h => by cases h) (.same _ trivial)
/-- awake. -/
theorem awake_spec : ACall Try.prog 8 [] [] (.bool true) [] := by
  refine ACall.run (Z := Z) (N := 41) mixed hZ Try.func8 rfl rfl (by kernel_rfl) (by simp) (fun x hx => by cases hx) 0 ?_
  have o0 : (new0 3 9).Ok := new_ok (by decide) (by decide)
  have hb := begin_spec (new0 3 9) o0 (by decide)
  have o1 := begin_ok o0 (by decide)
  have hb : ACall Try.prog 15 [.ptr 2 0 []] (orH (new0 3 9)) (.tuple [.int .u64 1, .int .u32 3, .int .i64 0]) (orH (new0 3 9).beginP.2) := hb
  obtain ⟨a, ha⟩ : ∃ a, (new0 3 9).beginP.2 = a := ⟨_, rfl⟩
  have hp := pub_spec (new0 3 9).beginP.2 o1 4 (by decide)
  have hp : ACall Try.prog 11 [.ptr 2 0 [], .int .u32 4] (orH (new0 3 9).beginP.2) (.int .i64 0) (orH ((new0 3 9).beginP.2.pubP 4).2) := hp
  have o2 := pub_ok o1 4
  have hl := last_spec ((new0 3 9).beginP.2.pubP 4).2
  have hl : ACall Try.prog 12 [.ptr 2 0 []] (orH ((new0 3 9).beginP.2.pubP 4).2) (.int .u32 4) (orH ((new0 3 9).beginP.2.pubP 4).2) := hl
  have hh := hz_spec ((new0 3 9).beginP.2.pubP 4).2 o2
  have hz3 : ((new0 3 9).beginP.2.pubP 4).2.hz = 3 := by
    have h1 : (keysIn ((new0 3 9).beginP.2.pubP 4).2.live) = [1] := by
      show sortN [1] = [1]
      unfold sortN; simp
    show hzL ((new0 3 9).beginP.2.pubP 4).2.live ((new0 3 9).beginP.2.pubP 4).2.last (keysIn ((new0 3 9).beginP.2.pubP 4).2.live) = 3
    rw [h1]; rfl
  rw [hz3] at hh
  obtain ⟨b, hbb⟩ : ∃ b, ((new0 3 9).beginP.2.pubP 4).2 = b := ⟨_, rfl⟩
  rw [hbb] at hp hl hh
  rw [ha] at hb hp
  obtain ⟨c, hc⟩ : ∃ c, new0 3 9 = c := ⟨_, rfl⟩
  have hn := new_spec 3 9 (by decide)
  rw [hc] at hn hb
  simp -dsimp -implicitDefEqProofs only [↓j0, ↓j1, ↓j7, ↓j12, ↓j15, j17, j18, j20, ↓j30, j32, ↓j39, ↓j53, ↓j145, argEnv, j172]
  refine CallTo.gen (args := [.int .u32 3, .int .u32 9]) [] (orH c) 3 rfl fok9 (by simp -dsimp -implicitDefEqProofs only [↓j30, j33, j173, j174]) (notup2 (fun vs h => by cases h) fun vs h => by cases h) hn (fun n b h => by simp [Heap.get] at h) ⟨by simp, fun n x h _ => by rcases get_or h with ⟨rfl, _⟩ | ⟨rfl, _⟩ <;> simp⟩ ?_
  simp -dsimp -implicitDefEqProofs only [↓j0, ↓j1, ↓j7, ↓j12, ↓j15, j17, j18, j20, ↓j25, ↓j29, ↓j38, ↓j39, ↓j53, ↓j145, j171, j172, j174, ↓reduceIte]
  refine CallTo.gen (args := [.ptr 2 0 []]) (orH c) (orH a) 3 rfl fok15 (by simp -dsimp -implicitDefEqProofs only [↓j25, ↓j29, j173, j174, ↓reduceIte]) (notup1 fun vs h => by cases h) hb (SubH.of (by simp -dsimp -implicitDefEqProofs only [↓j27, ↓reduceIte, Nat.reduceEqDiff, j182, j204, j205])) ⟨by simp, put_or⟩ ?_
  simp -dsimp -implicitDefEqProofs only [↓j0, ↓j1, ↓j2, ↓j7, ↓j12, ↓j15, j17, j18, j20, j21, j22, j23, ↓j25, ↓j29, ↓j30, j32, j33, j35, ↓j38, ↓j39, ↓j40, ↓j48, ↓j53, ↓j57, j83, j85, ↓j89, ↓j145, ↓j146, ↓j147, ↓j150, j157, j163, j164, j171, j172, j173, j174, j175, ↓reduceIte, Nat.reduceEqDiff, j185, j212, Int.reduceBEq, ↓j235, j264]
  refine CallTo.gen (args := [.ptr 2 0 [], .int .u32 4]) (orH a) (orH b) 3 rfl fok11 (by simp -dsimp -implicitDefEqProofs only [↓j25, ↓j29, ↓j30, j33, j173, j174, ↓reduceIte]) (notup2 (fun vs h => by cases h) fun vs h => by cases h) hp (SubH.of (by simp -dsimp -implicitDefEqProofs only [↓j27, ↓reduceIte, Nat.reduceEqDiff, j182, j204, j205])) ⟨by simp, put_or⟩ ?_
  simp -dsimp -implicitDefEqProofs only [↓j1, ↓j2, j17, j18, j20, j21, j22, j23, ↓j25, ↓j29, ↓j30, j32, j33, ↓j38, ↓j40, ↓j48, ↓j53, j83, ↓j89, ↓j145, ↓j146, ↓j147, ↓j150, j157, j163, j164, j171, j172, j173, j174, j175, ↓reduceIte, Nat.reduceEqDiff, j185, Int.reduceBEq]
  refine CallTo.gen (args := [.ptr 2 0 []]) (orH b) (orH b) 3 rfl fok12 (by simp -dsimp -implicitDefEqProofs only [↓j25, ↓j29, j173, j174, ↓reduceIte]) (notup1 fun vs h => by cases h) hl (SubH.of (by simp -dsimp -implicitDefEqProofs only [↓j27, ↓reduceIte, Nat.reduceEqDiff, j182, j204, j205])) ⟨by simp, put_or⟩ ?_
  simp -dsimp -implicitDefEqProofs only [↓j1, ↓j2, j17, j18, j20, j21, j22, j23, ↓j25, ↓j29, ↓j30, j32, j33, ↓j38, ↓j40, ↓j48, ↓j53, j83, ↓j89, ↓j145, ↓j146, ↓j147, ↓j150, j157, j163, j164, j171, j172, j173, j174, j175, ↓reduceIte, Nat.reduceEqDiff, j185, Int.reduceBEq]
  refine CallTo.gen (args := [.ptr 2 0 []]) (orH b) (orH b) 3 rfl fok18 (by simp -dsimp -implicitDefEqProofs only [↓j25, ↓j29, j173, j174, ↓reduceIte]) (notup1 fun vs h => by cases h) hh (SubH.of (by simp -dsimp -implicitDefEqProofs only [↓j27, ↓reduceIte, Nat.reduceEqDiff, j182, j204, j205])) ⟨by simp, put_or⟩ ?_
  simp -dsimp -implicitDefEqProofs only [↓j0, ↓j1, ↓j2, ↓j10, j17, j18, j20, j21, j22, j23, ↓j25, ↓j29, ↓j30, j32, j33, ↓j39, ↓j40, ↓j48, j83, ↓j89, ↓j145, ↓j146, ↓j147, ↓j150, j157, j163, j164, j171, j172, j173, j174, j175, ↓reduceIte, Nat.reduceEqDiff, j185]
  exact Final.one (.inr rfl) (r := .tmp 0) rfl ⟨rfl, fun vs h => by cases h⟩ (fun vs h => by cases h) (fun vs h => by cases h) (.same _ trivial)
end Go.Proofs.Ytiolhncfnoafeaa
