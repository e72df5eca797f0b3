/- A call of a script. -/
import Derived.Test.YtpnjllemklindaaD11
set_option linter.unusedVariables false
set_option linter.unusedSimpArgs false
namespace Go.Proofs.Ytpnjllemklindaa
open Go Go.RowKit

structure DOp where
  kind : Int
  block : Int
  byte : Nat
  fails : List Int
  keep : List Bool
abbrev DOp.av (o : DOp) : AV := .agg [.int .i64 o.kind, .int .i64 o.block, .int .u8 o.byte, intsAV o.fails, boolsAV o.keep]
structure DOp.Ok (o : DOp) : Prop where
  byte : o.byte < 256
  fails : ∀ f, f ∈ o.fails → flOk f
  flen : o.kind = 3 → o.fails.length * 8 ≤ 140737488355328
  klen : o.kind = 4 → o.keep.length ≤ 140737488355328
theorem on_op (S : Nat → Prop) (o : DOp) : AV.on S o.av := ⟨trivial, trivial, trivial, on_ints _ _, on_bools _ _, trivial⟩
theorem args_o {o : DOp} : ∀ y, y ∈ [o.av] → AV.on (fun _ => False) y ∧ ∀ vs, y ≠ .tuple vs := fun y hy => by
  simp only [List.mem_singleton] at hy; subst hy; exact ⟨on_op _ _, fun vs h => by cases h⟩
def DS.doP (d : DS) (o : DOp) : List UInt8 × Nat × DS :=
  if o.kind = 0 then d.readP o.block
  else if o.kind = 1 then (zb 256, (d.writeP o.block (filL o.byte 256)).1, (d.writeP o.block (filL o.byte 256)).2)
  else if o.kind = 2 then (zb 256, d.syncP.1, d.syncP.2)
  else if o.kind = 3 then (zb 256, 0, d.planP o.fails o.block)
  else if o.kind = 4 then (zb 256, 0, d.crashP o.keep)
  else (zb 256, 0, d)
/-- The names behind it: of what is seen, of what fails, of what is pending. -/
def DS.doS (d : DS) (o : DOp) : Nat := if o.kind = 4 then 5 else 2
def DS.doQ (d : DS) (o : DOp) : Nat := if o.kind = 3 then 5 else 3
def DS.doM (d : DS) (o : DOp) : Nat := if o.kind = 1 ∧ (d.writeP o.block (filL o.byte 256)).2.pend ≠ d.pend then 5 else 4
theorem readP_len {d : DS} (hd : d.Ok) (b : Int) : (d.readP b).1.length = 256 := by
  unfold DS.readP
  split
  · exact zb_len 256
  · split
    · exact zb_len 256
    · split
      · exact zb_len 256
      · exact gatN_len hd.seen _ 4 (by omega)
theorem readP_same {d : DS} (b : Int) : (d.readP b).2.2.fails = d.fails ∧ (d.readP b).2.2.pend = d.pend := by
  have h := opP_same d
  unfold DS.readP
  split
  · exact ⟨rfl, rfl⟩
  · split
    · exact ⟨rfl, rfl⟩
    · split <;> exact ⟨h.2.2.2.2.1, h.2.2.2.1⟩
theorem writeP_fails (d : DS) (b : Int) (x : List UInt8) : (d.writeP b x).2.fails = d.fails := by
  have h := opP_same d
  unfold DS.writeP
  split
  · rfl
  · split
    · rfl
    · split <;> exact h.2.2.2.2.1
theorem syncP_fails (d : DS) : d.syncP.2.fails = d.fails := by
  have h := opP_same d
  unfold DS.syncP
  split
  · rfl
  · split <;> exact h.2.2.2.2.1
theorem syncP_pend (d : DS) (h : d.syncP.2.pend ≠ []) : d.pend ≠ [] := by
  have h2 := opP_same d
  revert h
  unfold DS.syncP
  split
  · exact fun h => h
  · split
    · rw [h2.2.2.2.1]; exact fun h => h
    · exact fun h => absurd rfl h
theorem fok22 : fnOk Try.prog 22 = true := by kernel_rfl
theorem six0 (x : Nat) (h : 5 ≤ x) : Six 0 1 2 3 4 x := ⟨by simp; omega⟩
theorem do_spec (d : DS) (hd : d.Ok) (ho : d.ops < 1000000) (hp : d.pend.length + 4 ≤ 1000000) (o : DOp) (hk : o.Ok) : ACall Try.prog 22 [.ptr 0 0 [], o.av] (diskH0 d) (readAV (d.doP o)) (diskH (d.doP o).2.2 (d.doS o) (d.doQ o) (d.doM o)) := by
  suffices h : ∃ k, 5 ≤ k ∧ ∃ s' q' m', swapN 5 k s' = d.doS o ∧ swapN 5 k q' = d.doQ o ∧ swapN 5 k m' = d.doM o ∧ ACall Try.prog 22 [.ptr 0 0 [], o.av] (diskH0 d) (readAV (d.doP o)) (diskH (d.doP o).2.2 s' q' m') by
    obtain ⟨k, hk5, s', q', m', h1, h2, h3, h4⟩ := h
    rw [← h1, ← h2, ← h3]
    exact ACall.swap k hk5 (args := [o.av]) h4 ⟨on_op _ _, trivial⟩ ⟨on_bytes _ _, trivial, trivial⟩
  have run : ∀ (s' q' m' : Nat) (c : Code), Try.f22.body = some c → codeOk 49 c = true → Run Try.prog Z c ⟨49, argEnv [.ptr 0 0 [], o.av] 0, diskG d 0 1 2 3 4, 10⟩ (Final Try.prog Try.f22 (readAV (d.doP o)) (diskG (d.doP o).2.2 0 1 s' q' m')) → ACall Try.prog 22 [.ptr 0 0 [], o.av] (diskH0 d) (readAV (d.doP o)) (diskH (d.doP o).2.2 s' q' m') := fun s' q' m' c hc hck h =>
    ACall.runH (Z := Z) (N := 49) mixed hZ Try.func22 hc rfl hck (by simp) (disk_args args_o) (disk_on fun _ h => h) 10 (fun n h => by have := disk_lt n h; omega) h
  have fin : ∀ (x : List UInt8) (c : Nat) (e : DS) (s' q' m' : Nat) (t : Env) (H : Heap) (m : Nat), (x, c, e) = d.doP o → Nm s' q' m' → x.length = 256 → look t 4 = some (.ptr 11 0 []) → look t 5 = some (.int .i64 (c : Nat)) → Heap.get H 11 = some (.cells (arrAV x)) → (∀ n b, Heap.get (diskG e 0 1 s' q' m') n = some b → Heap.get H n = some b) →
      Final Try.prog Try.f22 (readAV (d.doP o)) (diskG (d.doP o).2.2 0 1 s' q' m') .ret ⟨49, t, H, m⟩ := by
    intro x c e s' q' m' t H m hx hn hl h4 h5 h11 hH
    rw [← hx]
    exact Final.manyH (.inr rfl) (rs := [.cell 4 29, .tmp 5]) (us := [arrAV x, .int .i64 (c : Nat)]) rfl ⟨⟨11, 0, [], _, h4, h11, rfl, rfl, by simp -dsimp -implicitDefEqProofs only [j129, j182, j240, j280, j281, hl]⟩, ⟨h5, fun vs h => by cases h⟩, trivial⟩ (by simp) ⟨.same _ (on_bytes _ _), .same _ trivial, trivial⟩
      (disk_keep (hH _ _ rfl) (hH _ _ rfl) (hH _ _ (get_seen hn)) (fun f hf => hH _ _ (get_fail hn hf)) (fun hp => hH _ _ (get_pend hn hp)))
  have hz := zb_len 256
  have hdg : ∀ (e : DS) (s' q' m' : Nat) (c : ABlk) (X : Heap), Nm s' q' m' → s' ≠ 11 ∧ q' ≠ 11 ∧ m' ≠ 11 → ∀ n b, Heap.get (diskG e 0 1 s' q' m') n = some b → Heap.get ((11, c) :: (diskG e 0 1 s' q' m' ++ X)) n = some b := fun e s' q' m' c X _ h11 => subC ⟨by omega, by omega, Ne.symm h11.1, Ne.symm h11.2.1, Ne.symm h11.2.2⟩ subX
  by_cases k0 : o.kind = 0
  · refine ⟨5, Nat.le_refl _, 2, 3, 4, ?_, ?_, ?_, run 2 3 4 _ rfl (by kernel_rfl) ?_⟩
    · simp [DS.doS, k0, swapN]
    · simp [DS.doQ, k0, swapN]
    · simp [DS.doM, k0, swapN]
    have hdo : d.doP o = d.readP o.block := by simp [DS.doP, k0]
    have hr := read_at (six0 12 (by omega)) d hd ho o.block
    have hrl := readP_len hd o.block
    obtain ⟨hrf, hrp⟩ := readP_same (d := d) o.block
    rw [hdo] at fin ⊢
    obtain ⟨r, hr0⟩ : ∃ r, d.readP o.block = r := ⟨_, rfl⟩
    rw [hr0] at hr hrl hrf hrp fin ⊢
    obtain ⟨x, c, e⟩ := r
    have z0 : decide ((0 : Int) = 0) = true := rfl
    simp -dsimp -implicitDefEqProofs only [↓j0, ↓j1, ↓j7, ↓j12, ↓j13, ↓j14, ↓j15, j17, j18, j20, ↓j25, ↓j27, ↓j29, ↓j30, j33, ↓j38, ↓j39, ↓j41, ↓j42, ↓j43, ↓j45, ↓j48, ↓j53, ↓j76, ↓j79, ↓j89, j130, ↓j145, ↓j146, ↓j147, ↓j149, ↓j153, j157, AV.proj, AV.offOf, AV.size, AV.sizeL, AV.layable, argEnv, j163, j164, j166, j167, j170, j171, reduceCtorEq, ↓reduceIte, Nat.reduceAdd, Nat.reduceEqDiff, j182, j185, j196, j197, Int.reduceBEq, j250, j296, j299, j441, k0]
    refine CallTo.disk1 rfl fok23 (by simp -dsimp -implicitDefEqProofs only [↓j25, ↓j29, j173, j174, ↓reduceIte, Nat.reduceEqDiff]) (fun y hy => (args_i y hy).2) hr (subC (by omega) (subC (by omega) sub0)) (by rw [hrf]; exact fun h => h) (by rw [hrp]; exact fun h => h) ?_
    simp -dsimp -implicitDefEqProofs only [↓j0, ↓j1, ↓j10, j17, j18, j19, j20, j21, j22, j23, ↓j25, ↓j27, ↓j29, ↓j39, ↓j44, ↓j57, ↓j78, j85, ↓j145, ↓j146, ↓j153, AV.proj, AV.offOf, AV.upd, AV.size, AV.layable, j163, j164, j170, j171, reduceCtorEq, ↓reduceIte, Nat.reduceEqDiff, j182, j188, j189, j240, j280, hrl, hz, dels_cons_dg, dels_dg0, get_dg, del_dg]
    exact fin x c e 2 3 4 _ _ _ rfl nm0 hrl rfl rfl rfl (hdg e 2 3 4 _ _ nm0 (by omega))
  by_cases k1 : o.kind = 1
  · have hdo : d.doP o = (zb 256, (d.writeP o.block (filL o.byte 256)).1, (d.writeP o.block (filL o.byte 256)).2) := by simp [DS.doP, k1]
    have hw := write_at (six0 12 (by omega)) d hd ho hp o.block (filL o.byte 256) (filL_len _ _)
    have hwf := writeP_fails d o.block (filL o.byte 256)
    have hdm : d.doM o = if (d.writeP o.block (filL o.byte 256)).2.pend = d.pend then 4 else 5 := by
      by_cases h : (d.writeP o.block (filL o.byte 256)).2.pend = d.pend <;> simp [DS.doM, k1, h]
    obtain ⟨r, hr0⟩ : ∃ r, d.writeP o.block (filL o.byte 256) = r := ⟨_, rfl⟩
    rw [hr0] at hw hwf hdo hdm
    obtain ⟨c, e⟩ := r
    obtain ⟨mm, hmm⟩ : ∃ mm, (if e.pend = d.pend then 4 else 12) = mm := ⟨_, rfl⟩
    have hm1 : mm = 4 ∧ e.pend = d.pend ∨ mm = 12 := by
      by_cases h : e.pend = d.pend
      · left; rw [← hmm, if_pos h]; exact ⟨rfl, h⟩
      · right; rw [← hmm, if_neg h]
    have hw : ACall Try.prog 10 [.ptr 0 0 [], .int .i64 o.block, arrAV (filL o.byte 256)] (diskG d 0 1 2 3 4) (.int .i64 (c : Nat)) (diskG e 0 1 2 3 mm) := by rw [← hmm]; exact hw
    have hnm : Nm 2 3 mm := ⟨by omega, by omega, by omega, by omega, by omega, by omega⟩
    refine ⟨12, by omega, 2, 3, mm, ?_, ?_, ?_, run 2 3 mm _ rfl (by kernel_rfl) ?_⟩
    · simp [DS.doS, k1, swapN]
    · simp [DS.doQ, k1, swapN]
    · rw [hdm, ← hmm]
      by_cases h : e.pend = d.pend
      · rw [if_pos h, if_pos h]; rfl
      · rw [if_neg h, if_neg h]; rfl
    rw [hdo] at fin ⊢
    have hfl := filL_len o.byte 256
    simp -dsimp -implicitDefEqProofs only [↓j0, ↓j1, ↓j4, ↓j7, ↓j8, ↓j12, ↓j13, ↓j14, ↓j15, j17, j18, j20, j24, ↓j25, ↓j27, ↓j29, ↓j30, j33, ↓j38, ↓j39, ↓j41, ↓j42, ↓j43, ↓j45, ↓j48, ↓j53, ↓j54, ↓j76, ↓j79, ↓j89, ↓j124, j125, j127, j130, ↓j145, ↓j146, ↓j147, ↓j148, ↓j149, ↓j153, j157, partsAV, AV.proj, AV.offOf, AV.size, AV.sizeL, AV.layable, argEnv, j163, j164, j166, j167, j170, j171, j172, j174, reduceCtorEq, ↓reduceIte, Nat.reduceAdd, Nat.reduceEqDiff, j182, j185, j196, j197, j214, j218, j219, Int.reduceBEq, j250, j255, j296, j299, j302, j441, j466, k1]
    refine CallTo.pure (args := [.int .u8 (o.byte : Nat)]) rfl fok11 (by simp -dsimp -implicitDefEqProofs only [↓j25, ↓j29, j173, j174, ↓reduceIte]) (fun x hx => (args_i x hx).2) (filled_spec o.byte hk.byte) ?_
    simp -dsimp -implicitDefEqProofs only [↓j4, j17, j18, j20, j24, ↓j53, j170, j171, j172, j174]
    refine CallTo.disk 13 rfl fok10 (by simp -dsimp -implicitDefEqProofs only [↓j25, ↓j29, j173, j174, ↓reduceIte, Nat.reduceEqDiff]) (fun y hy => (args_pbx y hy).2) hw (subC (by omega) (subC (by omega) sub0)) (by omega) (.inl rfl) ?_ ?_ ?_
    · by_cases h : e.fails = none
      · exact .inl h
      · exact .inr (.inl ⟨rfl, fun h2 => h (hwf.trans h2)⟩)
    · by_cases h : e.pend = []
      · exact .inl h
      · rcases hm1 with ⟨h1, h2⟩ | h1
        · exact .inr (.inl ⟨h1, fun h3 => h (h2.trans h3)⟩)
        · exact .inr (.inr (by omega))
    have g11 : ∀ (X : Heap), Heap.get (diskG e 0 1 2 3 mm ++ X) 11 = Heap.get X 11 := fun X => get_dg (by omega)
    have l11 : ∀ (X : Heap), Heap.del (diskG e 0 1 2 3 mm ++ X) 11 = diskG e 0 1 2 3 mm ++ Heap.del X 11 := fun X => del_dg (by omega)
    simp -dsimp -implicitDefEqProofs only [↓j3, ↓j4, j17, j18, j19, j20, j21, j22, j23, j24, ↓j25, ↓j27, ↓j29, ↓j39, ↓j44, ↓j78, ↓j145, ↓j146, ↓j153, AV.proj, AV.offOf, AV.upd, AV.size, AV.layable, j170, j171, j172, j173, j174, reduceCtorEq, ↓reduceIte, Nat.reduceEqDiff, j182, j188, j189, j240, j280, hz, g11, l11, dels_cons_dg, dels_dg0]
    refine ⟨confOk_sub [([],[]),([],[]),([],[]),([10],[]),([],[]),([10],[]),([],[]),([],[0, 1, 2, 3, 4, 2, 3, mm]),([],[11, 11]),([],[])] ⟨fsub_refl _, fsub_refl _, fsub_refl _, fsub_refl _, fsub_refl _, fsub_refl _, fsub_refl _, fsub_disk, fsub_refl _, fsub_refl _, trivial⟩ ?_, ?_⟩
    · rcases hm1 with ⟨rfl, _⟩ | rfl <;> kernel_rfl
    simp -dsimp -implicitDefEqProofs only [↓j10]
    exact fin (zb 256) c e 2 3 mm _ _ _ rfl hnm hz rfl rfl rfl (hdg e 2 3 mm _ _ hnm (by omega))
  by_cases k2 : o.kind = 2
  · refine ⟨5, Nat.le_refl _, 2, 3, 4, ?_, ?_, ?_, run 2 3 4 _ rfl (by kernel_rfl) ?_⟩
    · simp [DS.doS, k2, swapN]
    · simp [DS.doQ, k2, swapN]
    · simp [DS.doM, k2, swapN]
    have hdo : d.doP o = (zb 256, d.syncP.1, d.syncP.2) := by simp [DS.doP, k2]
    have hr := sync_at (six0 12 (by omega)) d hd ho
    have hsf := syncP_fails d
    have hsp := syncP_pend d
    rw [hdo] at fin ⊢
    obtain ⟨r, hr0⟩ : ∃ r, d.syncP = r := ⟨_, rfl⟩
    rw [hr0] at hr hsf hsp fin ⊢
    obtain ⟨c, e⟩ := r
    simp -dsimp -implicitDefEqProofs only [↓j0, ↓j1, ↓j7, ↓j12, ↓j13, ↓j14, ↓j15, j17, j18, j20, ↓j25, ↓j27, ↓j29, ↓j30, j33, ↓j38, ↓j39, ↓j41, ↓j42, ↓j43, ↓j45, ↓j48, ↓j53, ↓j54, ↓j76, ↓j79, ↓j89, ↓j124, j125, j127, j130, ↓j145, ↓j146, ↓j147, ↓j148, ↓j149, ↓j153, j157, partsAV, AV.proj, AV.offOf, AV.sizeL, AV.layable, argEnv, j163, j167, j170, j171, reduceCtorEq, ↓reduceIte, Nat.reduceAdd, Nat.reduceEqDiff, j182, j185, j196, j197, j214, j218, j219, Int.reduceBEq, j250, j296, j441, j466, k2]
    refine CallTo.disk1 rfl fok12 (by simp -dsimp -implicitDefEqProofs only [↓j25, ↓j29, j173, j174, ↓reduceIte]) (fun y hy => by simp at hy) hr (subC (by omega) (subC (by omega) sub0)) (by rw [hsf]; exact fun h => h) hsp ?_
    simp -dsimp -implicitDefEqProofs only [↓j0, ↓j1, ↓j10, j17, j18, j19, j20, j21, j22, j23, ↓j25, ↓j27, ↓j29, ↓j39, ↓j44, ↓j78, ↓j145, ↓j146, ↓j153, AV.proj, AV.offOf, AV.upd, AV.size, AV.layable, j170, j171, reduceCtorEq, ↓reduceIte, Nat.reduceEqDiff, j182, j188, j189, j240, j280, hz, dels_cons_dg, dels_dg0, get_dg, del_dg]
    exact fin (zb 256) c e 2 3 4 _ _ _ rfl nm0 hz rfl rfl rfl (hdg e 2 3 4 _ _ nm0 (by omega))
  by_cases k3 : o.kind = 3
  · have hfl3 := hk.flen k3
    have hdo : d.doP o = (zb 256, 0, d.planP o.fails o.block) := by simp [DS.doP, k3]
    have hr := plan_at (six0 14 (by omega)) d hd o.fails hk.fails (by omega) o.block
    have hnm : Nm 2 14 4 := ⟨by omega, by omega, by omega, by omega, by omega, by omega⟩
    refine ⟨14, by omega, 2, 14, 4, ?_, ?_, ?_, run 2 14 4 _ rfl (by kernel_rfl) ?_⟩
    · simp [DS.doS, k3, swapN]
    · simp [DS.doQ, k3, swapN]
    · simp [DS.doM, k3, swapN]
    rw [hdo] at fin ⊢
    have hu := unif_ints o.fails
    have hu0 : Unif 1 [] := fun x hx => by simp at hx
    have hT : List.take o.fails.length (o.fails.map (AV.int .i64)) = o.fails.map (.int .i64) := List.take_of_length_le (by simp)
    simp -dsimp -implicitDefEqProofs only [↓j0, ↓j1, ↓j4, ↓j7, ↓j8, ↓j12, ↓j13, ↓j14, ↓j15, j17, j18, j20, j24, ↓j25, ↓j27, ↓j29, ↓j30, j33, ↓j38, ↓j39, ↓j41, ↓j42, ↓j43, ↓j45, ↓j48, ↓j51, ↓j74, ↓j76, ↓j79, ↓j89, j125, j127, j130, j133, ↓j145, ↓j146, ↓j147, ↓j148, ↓j149, ↓j153, j157, partsAV, AV.proj, AV.offOf, AV.size, AV.sizeL, AV.layable, argEnv, j163, j164, j166, j167, j170, j171, j172, j173, j174, reduceCtorEq, ↓reduceIte, Nat.reduceAdd, Nat.reduceEqDiff, j182, j185, j196, j197, j214, j218, j219, j226, Nat.reducePow, List.replicate, Int.reduceBEq, j234, j250, j290, j296, j305, j441, j470, k3]
    refine DoAppend_of rfl rfl at41 ?_
    simp -dsimp -implicitDefEqProofs only [↓j27, ↓j101, ↓j102, ↓j104, ↓j146, ↓j153, ↓reduceIte, Nat.reduceEqDiff, j182, j184, j188, j189, j196, j197, j214, j222, j223, j231, j234, hu, hu0, hT]
    refine ⟨⟨by omega, by omega⟩, ?_⟩
    simp -dsimp -implicitDefEqProofs only [↓j4, j17, j18, j20, j21, j23, j24, ↓j25, ↓j27, ↓j29, ↓j43, ↓j45, ↓j53, ↓j76, ↓j79, j130, ↓j145, ↓j146, ↓j153, AV.proj, AV.offOf, AV.size, AV.sizeL, j163, j164, j166, j167, j170, j171, j172, j173, j174, reduceCtorEq, ↓reduceIte, Nat.reduceAdd, Nat.reduceEqDiff, j182, j188, j189, j196, j197, j222, j228, j229, j250, j299, hT, del_dg0]
    have hfz := Frz.sl (K := fun n => n ∈ (diskG d 0 1 2 3 4).map (·.1)) (H := [(13, .cells (.agg (o.fails.map (.int .i64))))]) 13 0 [] 0 o.fails.length o.fails.length 1 _ (o.fails.map (.int .i64)) rfl (fun h => by have := disk_lt 13 h; omega) rfl rfl (by simp) hu (fun x hx => AV.onL_iff.1 (on_ints _ o.fails) x (List.mem_of_mem_drop (List.mem_of_mem_take hx)))
    rw [List.drop_zero, hT] at hfz
    have hl := hr.lendH [(13, .cells (.agg (o.fails.map (.int .i64))))] (args' := [.ptr 0 0 [], .sl 13 0 [] 0 o.fails.length o.fails.length 1, .int .i64 o.block]) ⟨.same _ (names_diskG.2 (.inl rfl)), hfz, .same _ trivial, trivial⟩ (fun n hn => by
      simp only [List.map_cons, List.map_nil, List.mem_singleton] at hn
      subst hn
      exact ⟨fun h => by have := disk_lt 13 h; omega, get_dg0 (show _ ≠ _ ∧ _ by decide)⟩)
    refine CallTo.gen (args := [.ptr 0 0 [], .sl 13 0 [] 0 o.fails.length o.fails.length 1, .int .i64 o.block]) ((13, .cells (.agg (o.fails.map (.int .i64)))) :: diskG d 0 1 2 3 4) (diskG (d.planP o.fails o.block) 0 1 2 14 4) 15 rfl fok19 (by simp -dsimp -implicitDefEqProofs only [↓j25, ↓j29, j173, j174, ↓reduceIte, Nat.reduceEqDiff]) (fun x hx vs h => ?_) hl (fun n b h => ?_) ⟨by show (14 : Nat) ≤ 15; omega, fun n x h hn => ?_⟩ ?_
    · subst h; simp at hx
    · simp only [Heap.get] at h ⊢
      by_cases h13 : n = 13
      · rw [if_pos h13] at h ⊢; exact h
      · rw [if_neg h13] at h ⊢
        have h4 : n < 5 := disk_lt n (get_map h)
        rw [if_neg (by omega), if_neg (by omega)]; exact h
    · simp only [List.map_cons, List.mem_cons, not_or] at hn
      rcases names_diskG.1 (get_map h) with h | h | h | ⟨h, _⟩ | ⟨h, h2⟩
      · exact absurd (names_diskG.2 (.inl h)) hn.2
      · exact absurd (names_diskG.2 (.inr (.inl h))) hn.2
      · exact absurd (names_diskG.2 (.inr (.inr (.inl h)))) hn.2
      · show 14 ≤ n ∧ n < 15; omega
      · have h2' : d.pend ≠ [] := h2
        exact absurd ((names_diskG (d := d)).2 (.inr (.inr (.inr (.inr ⟨h, h2'⟩))))) hn.2
    simp -dsimp -implicitDefEqProofs only [↓j3, j17, j18, j21, j23, j24, j170, j171, j173, reduceCtorEq, ↓reduceIte, Nat.reduceEqDiff, j182, j188, j189, dels_cons_dg, dels_dg0, del_dg0]
    refine ⟨confOk_sub [([],[]),([],[12]),([],[]),([10],[]),([],[12,13]),([],[]),([10],[]),([],[13, 0, 1, 2, 3, 4, 2, 14, 4])] ⟨fsub_refl _, fsub_refl _, fsub_refl _, fsub_refl _, fsub_refl _, fsub_refl _, fsub_refl _, ?_, trivial⟩ (by kernel_rfl), ?_⟩
    · refine ⟨fun _ h => h, fun x hx => ?_⟩
      rcases List.mem_cons.1 hx with rfl | hx
      · simp
      · exact List.mem_cons_of_mem _ (fsub_disk.2 x hx)
    simp -dsimp -implicitDefEqProofs only [↓j0, ↓j1, ↓j7, ↓j10, ↓j12, ↓j15, j17, j18, j19, j20, j21, j22, j23, ↓j25, ↓j27, ↓j29, ↓j30, j33, ↓j39, ↓j44, ↓j54, ↓j78, ↓j124, j125, j127, ↓j145, ↓j146, ↓j153, partsAV, AV.proj, AV.offOf, AV.upd, AV.size, AV.layable, j170, j171, reduceCtorEq, ↓reduceIte, Nat.reduceEqDiff, j182, j188, j189, j214, j218, j219, j240, j280, j466, hz, get_dg, del_dg]
    exact fin (zb 256) 0 (d.planP o.fails o.block) 2 14 4 _ _ _ rfl hnm hz rfl rfl rfl (hdg _ 2 14 4 _ _ hnm (by omega))
  by_cases k4 : o.kind = 4
  · have hkl := hk.klen k4
    have hdo : d.doP o = (zb 256, 0, d.crashP o.keep) := by simp [DS.doP, k4]
    have hr := crash_at (six0 12 (by omega)) d hd o.keep (by omega)
    have hnm : Nm 12 3 4 := ⟨by omega, by omega, by omega, by omega, by omega, by omega⟩
    refine ⟨12, by omega, 12, 3, 4, ?_, ?_, ?_, run 12 3 4 _ rfl (by kernel_rfl) ?_⟩
    · simp [DS.doS, k4, swapN]
    · simp [DS.doQ, k4, swapN]
    · simp [DS.doM, k4, swapN]
    rw [hdo] at fin ⊢
    simp -dsimp -implicitDefEqProofs only [↓j0, ↓j1, ↓j7, ↓j12, ↓j13, ↓j14, ↓j15, j17, j18, j20, ↓j25, ↓j27, ↓j29, ↓j30, j33, ↓j38, ↓j39, ↓j41, ↓j42, ↓j43, ↓j45, ↓j48, ↓j53, ↓j76, ↓j79, ↓j89, j130, j133, ↓j145, ↓j146, ↓j147, ↓j148, ↓j149, ↓j153, j157, AV.proj, AV.offOf, AV.size, AV.sizeL, AV.layable, argEnv, j163, j164, j166, j167, j170, j171, reduceCtorEq, ↓reduceIte, Nat.reduceAdd, Nat.reduceEqDiff, j182, j185, j196, j197, Int.reduceBEq, j250, j266, j296, j308, j441, k4]
    refine CallTo.pure (args := [boolsAV o.keep]) rfl fok15 (by simp -dsimp -implicitDefEqProofs only [↓j25, ↓j29, j173, j174, ↓reduceIte]) (fun y hy => (args_bl y hy).2) (copied_spec o.keep hkl) ?_
    simp -dsimp -implicitDefEqProofs only [↓j1, j17, j18, j20, ↓j53, j171]
    refine CallTo.disk 13 rfl fok14 (by simp -dsimp -implicitDefEqProofs only [↓j25, ↓j29, j173, j174, ↓reduceIte, Nat.reduceEqDiff]) (fun y hy => (args_bl y hy).2) hr (subC (by omega) (subC (by omega) sub0)) (by omega) (.inr (by omega)) (.inl rfl) (.inl rfl) ?_
    simp -dsimp -implicitDefEqProofs only [↓j0, ↓j1, ↓j7, ↓j10, ↓j12, ↓j15, j17, j18, j19, j20, j21, j22, j23, ↓j25, ↓j27, ↓j29, ↓j30, j33, ↓j39, ↓j44, ↓j54, ↓j78, ↓j124, j125, j127, ↓j145, ↓j146, ↓j153, partsAV, AV.proj, AV.offOf, AV.upd, AV.size, AV.layable, j170, j171, reduceCtorEq, ↓reduceIte, Nat.reduceEqDiff, j182, j188, j189, j214, j218, j219, j240, j280, j466, hz, dels_cons_dg, dels_dg0, get_dg, del_dg]
    exact fin (zb 256) 0 (d.crashP o.keep) 12 3 4 _ _ _ rfl hnm hz rfl rfl rfl (hdg _ 12 3 4 _ _ hnm (by omega))
  · have hdo : d.doP o = (zb 256, 0, d) := by simp [DS.doP, k0, k1, k2, k3, k4]
    refine ⟨5, Nat.le_refl _, 2, 3, 4, ?_, ?_, ?_, run 2 3 4 _ rfl (by kernel_rfl) ?_⟩
    · simp [DS.doS, k4, swapN]
    · simp [DS.doQ, k3, swapN]
    · simp [DS.doM, k1, swapN]
    rw [hdo] at fin ⊢
    have e0 : (o.kind == 0) = false := by simpa using k0
    have e1 : (o.kind == 1) = false := by simpa using k1
    have e2 : (o.kind == 2) = false := by simpa using k2
    have e3 : (o.kind == 3) = false := by simpa using k3
    have e4 : (o.kind == 4) = false := by simpa using k4
    simp -dsimp -implicitDefEqProofs only [↓j0, ↓j1, ↓j7, ↓j9, ↓j10, ↓j12, ↓j13, ↓j14, ↓j15, j17, j18, j19, j20, j21, j23, ↓j25, ↓j27, ↓j29, ↓j30, j33, ↓j39, ↓j41, ↓j42, ↓j43, ↓j44, ↓j45, ↓j48, ↓j54, ↓j76, ↓j78, ↓j79, ↓j89, ↓j124, j125, j127, j130, ↓j145, ↓j146, ↓j148, ↓j149, ↓j153, j157, partsAV, AV.proj, AV.offOf, AV.upd, AV.size, AV.sizeL, AV.layable, argEnv, j163, j167, j170, j171, reduceCtorEq, ↓reduceIte, Nat.reduceAdd, Nat.reduceEqDiff, j182, j185, j188, j189, j196, j197, j214, j218, j219, j240, j250, j280, j296, j441, j466, e0, e1, e2, e3, e4, hz, del_dg0]
    exact fin (zb 256) 0 d 2 3 4 _ _ _ rfl nm0 hz rfl rfl rfl (subC (by omega) (subC (by omega) sub0))
end Go.Proofs.Ytpnjllemklindaa
