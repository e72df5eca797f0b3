/- The disk's contracts, wherever it lies; the watchman. -/
import Derived.Test.YtpnjllemklindaaD10
set_option linter.unusedVariables false
set_option linter.unusedSimpArgs false
namespace Go.Proofs.Ytpnjllemklindaa
open Go Go.RowKit

structure Six (a b s q m x : Nat) : Prop where
  nd : [a, b, s, q, m, x].Nodup
section
variable {a b s q m x : Nat} (h6 : Six a b s q m x) (d : DS)
include h6
theorem size_at : ACall Try.prog 29 [.ptr a 0 []] (diskG d a b s q m) (.int .i64 d.n) (diskG d a b s q m) := ACall.disk a b s q m x h6.nd (args := []) (size_spec d) trivial trivial
theorem ops_at : ACall Try.prog 20 [.ptr a 0 []] (diskG d a b s q m) (.int .i64 d.ops) (diskG d a b s q m) := ACall.disk a b s q m x h6.nd (args := []) (ops_spec d) trivial trivial
theorem down_at : ACall Try.prog 21 [.ptr a 0 []] (diskG d a b s q m) (.bool d.down) (diskG d a b s q m) := ACall.disk a b s q m x h6.nd (args := []) (down_spec d) trivial trivial
theorem pending_at : ACall Try.prog 17 [.ptr a 0 []] (diskG d a b s q m) (.int .i64 d.pend.length) (diskG d a b s q m) := ACall.disk a b s q m x h6.nd (args := []) (pending_spec d) trivial trivial
theorem seen_at (hd : d.Ok) (k : Int) : ACall Try.prog 13 [.ptr a 0 [], .int .i64 k] (diskG d a b s q m) (arrAV (d.readL d.seen k)) (diskG d a b s q m) := ACall.disk a b s q m x h6.nd (args := [.int .i64 k]) (seen_spec d hd k) ⟨trivial, trivial⟩ (on_bytes _ _)
theorem sure_at (hd : d.Ok) (k : Int) : ACall Try.prog 16 [.ptr a 0 [], .int .i64 k] (diskG d a b s q m) (arrAV (d.readL d.sure k)) (diskG d a b s q m) := ACall.disk a b s q m x h6.nd (args := [.int .i64 k]) (sure_spec d hd k) ⟨trivial, trivial⟩ (on_bytes _ _)
theorem read_at (hd : d.Ok) (ho : d.ops < 1000000) (k : Int) : ACall Try.prog 23 [.ptr a 0 [], .int .i64 k] (diskG d a b s q m) (readAV (d.readP k)) (diskG (d.readP k).2.2 a b s q m) :=
  ACall.disk a b s q m x h6.nd (args := [.int .i64 k]) (read_spec d hd ho k) ⟨trivial, trivial⟩ ⟨on_bytes _ _, trivial, trivial⟩
theorem sync_at (hd : d.Ok) (ho : d.ops < 1000000) : ACall Try.prog 12 [.ptr a 0 []] (diskG d a b s q m) (.int .i64 (d.syncP.1 : Nat)) (diskG d.syncP.2 a b s q m) := ACall.disk a b s q m x h6.nd (args := []) (sync_spec d hd ho) trivial trivial
theorem write_at (hd : d.Ok) (ho : d.ops < 1000000) (hp : d.pend.length + 4 ≤ 1000000) (k : Int) (l : List UInt8) (hl : l.length = 256) :
    ACall Try.prog 10 [.ptr a 0 [], .int .i64 k, arrAV l] (diskG d a b s q m) (.int .i64 ((d.writeP k l).1 : Nat)) (diskG (d.writeP k l).2 a b s q (if (d.writeP k l).2.pend = d.pend then m else x)) := by
  have h1 := ACall.swap 17 (by omega) (write_spec d hd ho hp k l hl) ⟨trivial, on_bytes _ _, trivial⟩ trivial
  have h2 := ACall.disk a b s q m x h6.nd (args := [.int .i64 k, arrAV l]) h1 ⟨trivial, on_bytes _ _, trivial⟩ trivial
  by_cases h : (d.writeP k l).2.pend = d.pend
  · simp only [h, if_true] at h2 ⊢; exact h2
  · simp only [h, if_false] at h2 ⊢; exact h2
theorem plan_at (hd : d.Ok) (fs : List Int) (hf : ∀ f, f ∈ fs → flOk f) (hl : fs.length ≤ 9223372036854775807) (fuse : Int) : ACall Try.prog 19 [.ptr a 0 [], intsAV fs, .int .i64 fuse] (diskG d a b s q m) (.tuple []) (diskG (d.planP fs fuse) a b s x m) :=
  ACall.disk a b s q m x h6.nd (args := [intsAV fs, .int .i64 fuse]) (plan_spec d hd fs hf hl fuse) ⟨on_ints _ _, trivial, trivial⟩ trivial
theorem crash_at (hd : d.Ok) (keep : List Bool) (hk : keep.length ≤ 9223372036854775807) : ACall Try.prog 14 [.ptr a 0 [], boolsAV keep] (diskG d a b s q m) (.tuple []) (diskG (d.crashP keep) a b x q m) := by
  have h1 := ACall.swap 100 (by omega) (crash_spec d hd keep hk) ⟨on_bools _ _, trivial⟩ trivial
  exact ACall.disk a b s q m x h6.nd (args := [boolsAV keep]) h1 ⟨on_bools _ _, trivial⟩ trivial
end
theorem fok9 : fnOk Try.prog 9 = true := by kernel_rfl
theorem fok29 : fnOk Try.prog 29 = true := by kernel_rfl
theorem fok20 : fnOk Try.prog 20 = true := by kernel_rfl
theorem fok21 : fnOk Try.prog 21 = true := by kernel_rfl
theorem fok17 : fnOk Try.prog 17 = true := by kernel_rfl
theorem fok23 : fnOk Try.prog 23 = true := by kernel_rfl
theorem new_at (n : Nat) (h1 : 1 ≤ n) (h2 : n ≤ 2048) : ACall Try.prog 9 [.int .i64 n] [] (.ptr 100 0 []) (diskG (DS.new n) 100 101 102 103 104) :=
  ACall.perm [101, 102, 100] (by decide) (new_spec n h1 h2)
theorem six (x : Nat) (h : 105 ≤ x) : Six 100 101 102 103 104 x := ⟨by simp; omega⟩
theorem six' (m x : Nat) (h : 104 ≤ m) (h2 : 104 ≤ x) (h3 : m ≠ x) : Six 100 101 102 103 m x := ⟨by simp; omega⟩
theorem new_put {n : Nat} : ∀ k x, Heap.get (diskG (DS.new n) 100 101 102 103 104) k = some x → k ∉ ([] : Heap).map (·.1) → 100 ≤ k ∧ k < 105 := by
  intro k x h _
  rcases names_diskG.1 (get_map h) with h | h | h | ⟨h, _⟩ | ⟨h, _⟩ <;> omega

theorem sec_get {l : List UInt8} {j k : Nat} (hk : k < 64) : (sec l j)[k]? = l[64 * j + k]? := by
  unfold sec
  rw [List.getElem?_take, if_pos hk, List.getElem?_drop]
theorem sec_all {b c : List UInt8} (hb : b.length = 256) (hc : c.length = 256) (h : ∀ j, j < 4 → sec b j = sec c j) : b = c := by
  apply List.ext_getElem?
  intro i
  rcases Nat.lt_or_ge i 256 with hi | hi
  · have e : i = 64 * (i / 64) + i % 64 := by omega
    rw [e, ← sec_get (by omega), ← sec_get (by omega), h _ (by omega)]
  · rw [List.getElem?_eq_none (by omega), List.getElem?_eq_none (by omega)]
theorem sec_layL {b s : List UInt8} {i j : Nat} (hb : b.length = 256) (hs : s.length = 64) (hi : i < 4) (hj : j < 4) : sec (layL b i s) j = if j = i then s else sec b j := by
  apply List.ext_getElem?
  intro k
  rcases Nat.lt_or_ge k 64 with hk | hk
  · rw [sec_get hk]
    unfold layL
    by_cases h : j = i
    · subst h
      rw [if_pos rfl, List.append_assoc, List.getElem?_append_right (by simp; omega), List.getElem?_append_left (by simp; omega)]
      congr 1
      rw [List.length_take]; omega
    · rw [if_neg h, sec_get hk]
      rcases Nat.lt_or_ge j i with h1 | h1
      · rw [List.append_assoc, List.getElem?_append_left (by simp; omega), List.getElem?_take, if_pos (by omega)]
      · rw [List.getElem?_append_right (by simp; omega), List.getElem?_drop]
        congr 1
        simp only [List.length_append, List.length_take]; omega
  · have h1 : (sec (layL b i s) j).length = 64 := sec_len (layL_len hb hs hi) hj
    rw [List.getElem?_eq_none (by omega), List.getElem?_eq_none]
    split
    · omega
    · rw [sec_len hb hj]; exact hk
theorem sec_gatN {n : Nat} {l : List Wr} (hl : ∀ w, w ∈ l → wrOk n w) (b : Nat) : ∀ i, i ≤ 4 → ∀ j, j < i → sec (gatN l b i) j = secOf l (b, j)
  | 0, _, j, h => by omega
  | i + 1, hi, j, h => by
    rw [gatN, sec_layL (gatN_len hl b i (by omega)) (secOf_len hl _) (by omega) (by omega)]
    by_cases hj : j = i
    · subst hj; rw [if_pos rfl]
    · rw [if_neg hj]; exact sec_gatN hl b i (by omega) j (by omega)
theorem gat_eq {n : Nat} {l : List Wr} (hl : ∀ w, w ∈ l → wrOk n w) {b : Nat} {x : List UInt8} (hx : x.length = 256) (h : ∀ j, j < 4 → secOf l (b, j) = sec x j) : gatherP l b = x :=
  sec_all (gatN_len hl b 4 (by omega)) hx fun j hj => by rw [sec_gatN hl b 4 (by omega) j hj, h j hj]
theorem gat_congr {n n' : Nat} {l l' : List Wr} (hl : ∀ w, w ∈ l → wrOk n w) (hl' : ∀ w, w ∈ l' → wrOk n' w) {b : Nat} (h : ∀ j, j < 4 → aGet l (b, j) = aGet l' (b, j)) : gatherP l b = gatherP l' b :=
  gat_eq hl (gatN_len hl' b 4 (by omega)) fun j hj => by rw [sec_gatN hl' b 4 (by omega) j hj, secOf, secOf, h j hj]
theorem aGet_wrSN (l : List Wr) (b : Nat) (x : List UInt8) : ∀ i k, aGet (wrSN l b x i) k = if k.1 = b ∧ k.2 < i then some (sec x k.2) else aGet l k
  | 0, k => by simp [wrSN]
  | i + 1, k => by
    obtain ⟨k1, k2⟩ := k
    rw [wrSN, aGet_put, aGet_wrSN l b x i]
    by_cases h : (b, i) = (k1, k2)
    · cases h; simp
    · rw [if_neg h]
      by_cases h2 : k1 = b ∧ k2 < i
      · rw [if_pos h2, if_pos ⟨h2.1, by have := h2.2; show k2 < i + 1; omega⟩]
      · rw [if_neg h2, if_neg]
        rintro ⟨h3, h4⟩
        have h3 : k1 = b := h3
        have h4 : k2 < i + 1 := h4
        apply h2
        refine ⟨h3, ?_⟩
        rcases Nat.lt_or_ge k2 i with h5 | h5
        · exact h5
        · exact absurd (show (b, i) = (k1, k2) by rw [h3, show k2 = i by omega]) h
theorem gat_wr {d : DS} (hd : d.Ok) {b : Nat} {x : List UInt8} (hb : b < d.n) (hx : x.length = 256) (hp : d.pend.length + 4 ≤ 1000000) (c : Nat) : gatherP (d.wr b x 4).seen c = if c = b then x else gatherP d.seen c := by
  have hw := wr_ok hd hb hx 4 (by omega) (by omega)
  by_cases h : c = b
  · rw [if_pos h]
    refine gat_eq hw.seen hx fun j hj => ?_
    show (aGet (wrSN d.seen b x 4) (c, j)).getD _ = _
    rw [aGet_wrSN, if_pos ⟨h, hj⟩]; rfl
  · rw [if_neg h]
    refine gat_congr hw.seen hd.seen fun j hj => ?_
    show aGet (wrSN d.seen b x 4) (c, j) = _
    rw [aGet_wrSN, if_neg fun h2 => h h2.1]

/-- What a disk of two blocks is behind one write. -/
theorem awake_spec : ACall Try.prog 18 [] [] (.bool true) [] := by
  refine ACall.run (Z := Z) (N := 30) mixed hZ Try.func18 rfl rfl (by kernel_rfl) (by simp) no_args 100 ?_
  simp -dsimp -implicitDefEqProofs only [↓j0, ↓j1, ↓j7, ↓j12, ↓j15, j17, j18, j20, ↓j30, j32, ↓j39, ↓j53, ↓j145, argEnv, j172]
  refine CallTo.gen (args := [.int .i64 ((2 : Nat) : Int)]) [] (diskG (DS.new 2) 100 101 102 103 104) 105 rfl fok9 (by simp -dsimp -implicitDefEqProofs only [↓j30, j33, j173, j174]; rfl) (fun x hx => (args_i x hx).2) (new_at 2 (by omega) (by omega)) (fun n b h => by simp [Heap.get] at h) ⟨by show 100 ≤ 105; omega, new_put⟩ ?_
  simp -dsimp -implicitDefEqProofs only [↓j0, ↓j1, ↓j2, ↓j7, ↓j12, ↓j15, j17, j18, j20, ↓j25, ↓j29, ↓j30, j35, ↓j38, ↓j39, ↓j48, ↓j53, ↓j145, ↓j146, ↓j148, ↓j151, j163, j164, j171, j172, j174, j175, ↓reduceIte, Nat.reduceEqDiff, j211, ↓j235, j271]
  refine CallTo.pure (args := [.int .u8 ((9 : Nat) : Int)]) rfl fok11 (by simp -dsimp -implicitDefEqProofs only [↓j30, j33, j173, j174]; rfl) (fun x hx => (args_i x hx).2) (filled_spec 9 (by omega)) ?_
  simp -dsimp -implicitDefEqProofs only [↓j2, j17, j18, j20, ↓j25, ↓j53, ↓j145, ↓j148, ↓j151, j163, j164, j171, j175, ↓reduceIte, Nat.reduceEqDiff]
  have hd0 := new_ok (n := 2) (by omega) (by omega)
  have hw := write_at (six 105 (by omega)) (DS.new 2) hd0 (by decide) (by decide) 1 (filL 9 256) (filL_len 9 256)
  obtain ⟨w, hw0, hw1⟩ : ∃ w, (DS.new 2).writeP 1 (filL 9 256) = (0, w) ∧ w = (DS.new 2).opP.2.wr 1 (filL 9 256) 4 := ⟨_, by rfl, rfl⟩
  have hwo : w.Ok := by rw [hw1]; exact wr_ok (opP_ok hd0 (by decide)) (by decide) (filL_len 9 256) 4 (by omega) (by decide)
  rw [hw0] at hw
  have hwp : ¬ (w.pend = (DS.new 2).pend) := by rw [hw1]; exact fun h => by have := congrArg List.length h; simp [wrPN_len, DS.wr, DS.new] at this
  simp only [hwp, if_false] at hw
  have z0 : (((0 : Nat) : Int) != 0) = false := rfl
  have z1 : (((0 : Nat) : Int) == 0) = true := rfl
  have hr := read_at (six' 105 106 (by omega) (by omega) (by omega)) w hwo (by rw [hw1]; decide) 1
  have hr0 : w.readP 1 = (gatherP w.seen 1, 0, w.opP.2) := by rw [hw1]; rfl
  have hg : gatherP w.seen 1 = filL 9 256 := by
    have := gat_wr (d := (DS.new 2).opP.2) (opP_ok hd0 (by decide)) (b := 1) (x := filL 9 256) (by decide) (filL_len 9 256) (by decide) 1
    rw [← hw1, if_pos rfl] at this
    exact this
  rw [hr0, hg] at hr
  have hso := size_at (six' 105 106 (by omega) (by omega) (by omega)) w.opP.2
  have hn2 : w.opP.2.n = 2 := by rw [hw1]; rfl
  have hfe : w.opP.2.fails = none := by rw [hw1]; rfl
  have hpe : w.opP.2.pend = w.pend := (opP_same w).2.2.2.1
  have hlen := filL_len 9 256
  rw [hn2] at hso
  refine CallTo.disk 106 rfl fok10 (by simp -dsimp -implicitDefEqProofs only [↓j25, ↓j29, ↓j30, j33, j173, j174, ↓reduceIte, Nat.reduceEqDiff]) (fun y hy => (args_pbx y hy).2) hw sub0 (by omega) (.inl rfl) (.inl ?_) (.inr (.inr ⟨by omega, by omega⟩)) ?_
  · rw [hw1]; rfl
  simp -dsimp -implicitDefEqProofs only [↓j0, ↓j1, ↓j2, ↓j7, ↓j9, ↓j12, ↓j13, ↓j15, j17, j18, j20, ↓j25, ↓j29, ↓j30, j32, j33, ↓j38, ↓j40, ↓j48, ↓j53, j83, ↓j89, ↓j145, ↓j146, ↓j148, ↓j149, ↓j151, j158, j163, j164, j171, j172, j175, ↓reduceIte, Nat.reduceEqDiff, j185, j195, dels_dg0, z0]
  refine CallTo.disk1 rfl fok23 (by simp -dsimp -implicitDefEqProofs only [↓j25, ↓j29, ↓j30, j33, j173, j174, ↓reduceIte]) (fun y hy => (args_i y hy).2) hr sub0 (by rw [hfe]; exact fun h => absurd rfl h) (by rw [hpe]; exact fun h => h) ?_
  simp -dsimp -implicitDefEqProofs only [↓j0, ↓j1, ↓j4, ↓j5, ↓j8, ↓j12, ↓j15, j17, j18, j19, j20, j21, j23, j24, ↓j25, ↓j27, ↓j29, ↓j30, j33, ↓j38, ↓j39, ↓j41, ↓j43, ↓j44, ↓j48, ↓j53, ↓j57, ↓j76, ↓j78, j85, ↓j89, j129, ↓j145, ↓j146, ↓j147, ↓j150, ↓j153, j157, AV.proj, AV.offOf, AV.upd, AV.size, AV.layable, j163, j164, j170, j171, j172, j174, j175, ↓reduceIte, Nat.reduceAdd, Nat.reduceEqDiff, j182, j185, j188, j189, j240, j243, j280, j281, j441, dels_dg0, del_dg0, hlen, z1]
  refine CallTo.pure (args := [.int .u8 ((9 : Nat) : Int)]) rfl fok11 (by simp -dsimp -implicitDefEqProofs only [↓j30, j33, j173, j174]; rfl) (fun x hx => (args_i x hx).2) (filled_spec 9 (by omega)) ?_
  have hce := cellsEq_bytes (l := filL 9 256) (k := filL 9 256) rfl
  have hkb := kinds_bytes hlen
  have hbb : (filL 9 256 == filL 9 256) = true := beq_self_eq_true _
  rw [hbb] at hce
  simp -dsimp -implicitDefEqProofs only [↓j4, ↓j5, j17, j18, j20, j24, ↓j25, ↓j29, ↓j30, j32, ↓j38, ↓j40, ↓j48, ↓j53, j83, ↓j91, ↓j145, ↓j146, ↓j147, ↓j150, j163, j164, j170, j171, j172, j174, j175, ↓reduceIte, Nat.reduceEqDiff, j182, j195, j211, j241, j281, j283, j284, hce, hkb]
  refine CallTo.disk1 rfl fok29 (by simp -dsimp -implicitDefEqProofs only [↓j25, ↓j29, j173, j174, ↓reduceIte]) (fun y hy => by simp at hy) hso (subC (by omega) sub0) (by exact fun h => h) (by exact fun h => h) ?_
  have z2 : (((2 : Nat) : Int) == 2) = true := rfl
  simp -dsimp -implicitDefEqProofs only [↓j3, ↓j4, ↓j5, j17, j18, j20, j24, ↓j25, ↓j29, ↓j30, j32, j33, ↓j39, ↓j40, ↓j48, j83, ↓j89, ↓j145, ↓j146, ↓j147, ↓j150, j157, j163, j164, j170, j171, j172, j174, j175, ↓reduceIte, Nat.reduceEqDiff, j182, j185, j188, j189, dels_cons_dg, dels_dg0, z2]
  refine ⟨confOk_sub [([],[]), ([],[]), ([],[]), ([106],[]), ([],[]), ([],[]), ([],[]), ([],[]), ([],[]), ([], [100, 101, 102, 103, 105, 102, 103, 105]), ([],[]), ([],[]), ([],[])] ⟨fsub_refl _, fsub_refl _, fsub_refl _, fsub_refl _, fsub_refl _, fsub_refl _, fsub_refl _, fsub_refl _, fsub_refl _, fsub_disk, fsub_refl _, fsub_refl _, fsub_refl _, trivial⟩ (by kernel_rfl), ?_⟩
  simp -dsimp -implicitDefEqProofs only [↓j10]
  exact Final.one (.inr rfl) (r := .tmp 0) rfl ⟨rfl, fun vs h => by cases h⟩ (fun vs h => by cases h) (fun vs h => by cases h) (.same _ trivial)
end Go.Proofs.Ytpnjllemklindaa
