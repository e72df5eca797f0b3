/- The law DiskFuse. -/
import Derived.Test.YtpnjllemklindaaD16
set_option linter.unusedVariables false
set_option linter.unusedSimpArgs false
namespace Go.Proofs.Ytpnjllemklindaa
open Go Go.RowKit

/-- A disk with a fuse of n operations, behind i calls. -/
structure Fz (n i : Nat) (d : DS) : Prop where
  ok : d.Ok
  n8 : d.n = 8
  ops : d.ops ≤ i
  pend : d.pend.length ≤ 4 * i
  fails : d.fails = some []
  fuse : d.fuse = n
  pos : 1 ≤ n
  down : d.down = decide (n ≤ d.ops)
theorem fz_new {n : Nat} (h : 1 ≤ n) : Fz n 0 ((DS.new 8).planP [] n) :=
  ⟨plan_ok (new_ok (by omega) (by omega)) (fun f hf => by simp at hf) _, rfl, Nat.le_refl _, Nat.le_refl _, rfl, rfl, h, by show false = decide (n ≤ 0); exact (decide_eq_false (by omega)).symm⟩
theorem fz_mono {n i j : Nat} {d : DS} (h : Fz n i d) (hij : i ≤ j) : Fz n j d := ⟨h.ok, h.n8, Nat.le_trans h.ops hij, by have := h.pend; omega, h.fails, h.fuse, h.pos, h.down⟩
theorem fz_op {n i : Nat} {d : DS} (h : Fz n i d) : d.opP = if d.ops + 1 = n then (4, { d with ops := d.ops + 1, down := true }) else (0, { d with ops := d.ops + 1 }) := by
  unfold DS.opP
  have h1 := h.pos
  by_cases e : d.ops + 1 = n
  · rw [if_pos e, h.fuse, if_pos ⟨by omega, by omega⟩]
  · rw [if_neg e, h.fuse, if_neg (by rintro ⟨_, h2⟩; exact e (by omega)), h.fails]; rfl
structure Opd (o : DOp) : Prop where
  k : 0 ≤ o.kind ∧ o.kind ≤ 2
  b : o.kind < 2 → 0 ≤ o.block ∧ o.block ≤ 7
theorem fz_down {n i : Nat} {d : DS} (h : Fz n i d) (hd : d.down = true) {o : DOp} (ho : Opd o) : (d.doP o).2.1 = 4 ∧ (d.doP o).2.2 = d := by
  have hk := ho.k
  unfold DS.doP
  split
  · unfold DS.readP; rw [hd]; exact ⟨rfl, rfl⟩
  · split
    · unfold DS.writeP; rw [hd]; exact ⟨rfl, rfl⟩
    · rw [if_pos (by omega)]; unfold DS.syncP; rw [hd]; exact ⟨rfl, rfl⟩
theorem fz_up {n i : Nat} {d : DS} (h : Fz n i d) (hd : d.down = false) {o : DOp} (ho : Opd o) : (d.doP o).2.1 = (if d.ops + 1 = n then 4 else 0) ∧ (d.doP o).2.2.ops = d.ops + 1 ∧ (d.doP o).2.2.down = decide (d.ops + 1 = n) ∧ (d.doP o).2.2.fuse = n ∧ (d.doP o).2.2.fails = some [] := by
  have hk := ho.k
  have hb := ho.b
  have hop := fz_op h
  have h1 := h.fuse
  have h2 := h.fails
  have h3 := h.n8
  have hne : ¬ (d.ops + 1 = n) → d.down = decide (d.ops + 1 = n) := fun e => by rw [hd]; exact (decide_eq_false e).symm
  by_cases e : d.ops + 1 = n
  · rw [if_pos e] at hop ⊢
    have hde : true = decide (d.ops + 1 = n) := (decide_eq_true e).symm
    unfold DS.doP
    split
    · unfold DS.readP
      rw [hd, if_neg (by decide), if_neg (by omega), hop]
      exact ⟨rfl, rfl, hde, h1, h2⟩
    · split
      · unfold DS.writeP
        rw [hd, if_neg (by decide), if_neg (by omega), hop]
        exact ⟨rfl, rfl, hde, h1, h2⟩
      · rw [if_pos (by omega)]
        unfold DS.syncP
        rw [hd, if_neg (by decide), hop]
        exact ⟨rfl, rfl, hde, h1, h2⟩
  · rw [if_neg e] at hop ⊢
    have hde := hne e
    unfold DS.doP
    split
    · unfold DS.readP
      rw [hd, if_neg (by decide), if_neg (by omega), hop]
      exact ⟨rfl, rfl, hde, h1, h2⟩
    · split
      · unfold DS.writeP
        rw [hd, if_neg (by decide), if_neg (by omega), hop]
        exact ⟨rfl, rfl, hde, h1, h2⟩
      · rw [if_pos (by omega)]
        unfold DS.syncP
        rw [hd, if_neg (by decide), hop]
        exact ⟨rfl, rfl, hde, h1, h2⟩
theorem fz_do {n i : Nat} {d : DS} (h : Fz n i d) (hi : i < 1000) {o : DOp} (hk : o.Ok) (ho : Opd o) : Fz n (i + 1) (d.doP o).2.2 := by
  have h1 := h.ops
  have h2 := h.pend
  cases hd : d.down
  · obtain ⟨q1, q2, q3, q4⟩ := doP_ok h.ok (by omega) (by omega) hk
    obtain ⟨_, a1, a2, a3, a4⟩ := fz_up h hd ho
    refine ⟨q1, q2.trans h.n8, by omega, by omega, a4, a3, h.pos, ?_⟩
    have hn : ¬ n ≤ d.ops := by have := h.down; rw [hd] at this; exact of_decide_eq_false this.symm
    rw [a2, a1, decide_eq_decide]; omega
  · rw [(fz_down h hd ho).2]; exact fz_mono h (by omega)
theorem doP_failsOk {d : DS} {o : DOp} (h : o.kind ≠ 3) (h4 : o.kind ≠ 4) {q : Nat} : (d.doP o).2.2.fails = none ∨ (q = q ∧ d.fails ≠ none) ∨ (0 ≤ q ∧ q < 0) := by
  rw [doP_fails h h4]
  by_cases e : d.fails = none
  · exact .inl e
  · exact .inr (.inl ⟨rfl, e⟩)
theorem doP_len {d : DS} (hd : d.Ok) (o : DOp) : (d.doP o).1.length = 256 := by
  unfold DS.doP
  split
  · exact readP_len hd _
  · split
    · exact zb_len 256
    · split
      · exact zb_len 256
      · split
        · exact zb_len 256
        · split <;> exact zb_len 256
theorem Wk.disk0 {n nx : Nat} {t : Env} {d : DS} {s q m : Nat} (hnd : s ≠ q ∧ s ≠ m ∧ q ≠ m) (hge : 102 ≤ s ∧ 102 ≤ q ∧ 102 ≤ m) (ht : onTL (fun k => k < 102) t) :
    Wk ⟨n, t, diskG d 100 101 s q m, nx⟩ ⟨n, t, diskG d 100 101 102 103 104, 105⟩ := by
  have := Wk.disk (n := n) (nx := nx) (d := d) (X := []) hnd hge ht onHL_nil
  rw [List.append_nil, List.append_nil] at this
  exact this
def fzT (l : List DOp) (n i : Nat) : Env := [(7, .int .i64 i), (6, .int .i64 n), (5, .ptr 100 0 []), (1, opsAV l), (4, .bool false)]
def fzSt (l : List DOp) (n : Nat) (d : DS) (i : Nat) : St := ⟨128, fzT l n i, diskG d 100 101 102 103 104, 105⟩
theorem fz_on {l : List DOp} {n i : Nat} : onTL (fun k => k < 102) (fzT l n i) :=
  onTL_cons trivial (onTL_cons trivial (onTL_cons (show (100 : Nat) < 102 by decide) (onTL_cons (on_ops _ _) (onTL_cons trivial onTL_nil))))
theorem args_us {f : Int} {l : List DOp} : ∀ y, y ∈ [AV.int .u8 f, opsAV l] → AV.on (fun _ => False) y ∧ ∀ vs, y ≠ .tuple vs := fun y hy => by
  simp only [List.mem_cons, List.not_mem_nil, or_false] at hy
  rcases hy with rfl | rfl
  · exact ⟨trivial, fun vs h => by cases h⟩
  · exact ⟨on_ops _ _, fun vs h => by cases h⟩
theorem args_ni {k : Int} : ∀ y, y ∈ [AV.nilsl, AV.int .i64 k] → ∀ vs, y ≠ .tuple vs := fun y hy vs h => by
  subst h; simp at hy
theorem diskFuse_spec (f : Nat) (hf : f < 256) (l : List DOp) (hl : l.length ≤ 9223372036854775807) (hlk : ∀ x, x ∈ l → x.Pre) : ACall Try.prog 4 [.int .u8 f, opsAV l] [] (.bool true) [] := by
  refine ACall.run (Z := Z) (N := 128) mixed hZ Try.func4 rfl rfl (by kernel_rfl) (by simp) args_us 100 ?_
  have ret : ∀ (t : Env) (H : Heap) (m : Nat), look t 4 = some (.bool true) → Final Try.prog Try.f4 (.bool true) [] .ret ⟨128, t, H, m⟩ := fun t H m h =>
    Final.one (.inr rfl) (r := .tmp 4) rfl ⟨h, fun vs h => by cases h⟩ (fun vs h => by cases h) (fun vs h => by cases h) (.same _ trivial)
  have h999 : ∀ x, 105 ≤ x → Six 100 101 102 103 104 x := six
  have nil0 : ∀ x : AV, x ∈ ([] : List AV) → ∀ vs, x ≠ .tuple vs := fun x hx => by simp at hx
  have v1 : (f : Int).tmod 40 = ((f % 40 : Nat) : Int) := by rw [Int.tmod_eq_emod_of_nonneg (by omega)]; omega
  have v2 : IntKind.i64.wrap ((f % 40 : Nat) : Int) = ((f % 40 : Nat) : Int) := wrap_i64 (by omega) (by omega)
  have v3 : IntKind.i64.wrap (1 + ((f % 40 : Nat) : Int)) = ((1 + f % 40 : Nat) : Int) := by rw [wrap_i64 (by omega) (by omega)]; omega
  have hn1 : 1 ≤ 1 + f % 40 := by omega
  have hn2 : 1 + f % 40 ≤ 40 := by omega
  obtain ⟨n, hn⟩ : ∃ n, 1 + f % 40 = n := ⟨_, rfl⟩
  rw [hn] at hn1 hn2 v3
  simp -dsimp -implicitDefEqProofs only [↓j0, ↓j1, ↓j7, ↓j12, ↓j15, j17, j18, j20, ↓j30, j32, ↓j39, ↓j53, ↓j145, argEnv, j172, j196]
  refine CallTo.gen (args := [.int .i64 ((8 : Nat) : Int)]) [] (diskG (DS.new 8) 100 101 102 103 104) 105 rfl fok9 (by simp -dsimp -implicitDefEqProofs only [↓j30, j33, j173, j174]; rfl) (fun x hx => (args_i x hx).2) (new_at 8 (by omega) (by omega)) (fun n b h => by simp [Heap.get] at h) ⟨by show 100 ≤ 105; omega, new_put⟩ ?_
  simp -dsimp -implicitDefEqProofs only [↓j0, ↓j1, ↓j7, ↓j9, ↓j12, ↓j13, ↓j15, j17, j18, j20, ↓j25, ↓j29, ↓j30, j33, j35, ↓j38, ↓j39, ↓j48, ↓j50, ↓j53, ↓j89, j109, ↓j145, ↓j146, ↓j148, ↓j149, j154, j171, j172, j174, reduceCtorEq, ↓reduceIte, Nat.reduceEqDiff, Int.reduceEq, j185, j211, ↓j225, ↓j235, j251, j271, j492, v1, v2, v3]
  have hpl := (plan_at (h999 105 (by omega)) (DS.new 8) (new_ok (by omega) (by omega)) [] (fun f hf => by simp at hf) (by decide) (n : Int)).nilArgs (args' := [.ptr 100 0 [], .nilsl, .int .i64 n]) ⟨.same _ (names_diskG.2 (.inl rfl)), .nil, .same _ trivial, trivial⟩
  refine CallTo.disk 106 rfl fok19 (by simp -dsimp -implicitDefEqProofs only [↓j25, ↓j29, ↓j30, j36, j173, j174, ↓reduceIte, Nat.reduceEqDiff]) (fun y hy => args_ni y hy) hpl sub0 (by omega) (.inl rfl) (.inr (.inr (by omega))) (.inl rfl) ?_
  simp -dsimp -implicitDefEqProofs only [↓j0, ↓j1, ↓j7, ↓j12, ↓j14, ↓j15, ↓j16, j17, j18, j20, ↓j30, j33, ↓j39, ↓j145, j171, j172, dels_dg0]
  refine AWp.loopR (Z := Z) mixed hZ (by kernel_rfl) (fun k s => ∃ i d, i + k = min l.length 60 ∧ Fz n i d ∧ s = fzSt l n d i) (n0 := min l.length 60) (s0 := fzSt l n ((DS.new 8).planP [] n) 0) ?_ ⟨0, _, by omega, fz_new hn1, rfl⟩ ?_ rfl
  · exact Wk.trans (wkT (t0 := fzT l n 0) (by simp -dsimp -implicitDefEqProofs only [↓j25, j179, reduceCtorEq, ↓reduceIte, Nat.reduceEqDiff, j182, j183, j184, j202, j203, j209, fzT] <;> simp) (Nat.le_refl _)) (Wk.disk0 (by omega) (by omega) fz_on)
  rintro k s ⟨i, d, hi, hd, rfl⟩
  refine ⟨rfl, ?_⟩
  by_cases hlt : i < l.length ∧ i < 60
  · have d1 : decide ((i : Int) < (l.length : Int)) = true := decide_eq_true (by omega)
    have d2 : decide ((i : Int) < 60) = true := decide_eq_true (by omega)
    have hlt1 : (i : Int) < (l.length : Int) := by omega
    have hw : IntKind.i64.wrap ((i : Int) + 1) = ((i + 1 : Nat) : Int) := by rw [wrap_i64 (by omega) (by omega)]; omega
    obtain ⟨y, hy⟩ := list_get (xs := l) (i := i) (by omega)
    have hyp := hlk y (List.mem_of_getElem? hy)
    have hsz : AV.sizeL ((l.map DOp.av).take i) = i * 5 := (unif_op l).sizeL_take (by simp; omega)
    have skip : ∀ (t : Env), SubT (fzT l n (i + 1)) t → ∃ m s'', m < k ∧ (∃ i d, i + m = min l.length 60 ∧ Fz n i d ∧ s'' = fzSt l n d i) ∧ Wk ⟨128, t, (105, .cells y.av) :: diskG d 100 101 102 103 104, 106⟩ s'' := fun t ht =>
      ⟨k - 1, fzSt l n d (i + 1), by omega, ⟨i + 1, d, by omega, fz_mono hd (by omega), rfl⟩, Wk.trans (Wk.mk (s' := ⟨128, fzT l n (i + 1), diskG d 100 101 102 103 104, 106⟩) ht.spec (subC (by omega) sub0) (Nat.le_refl _) rfl) (Wk.disk0 (by omega) (by omega) fz_on)⟩
    by_cases e1 : y.kind < 0
    · have b1 : decide (y.kind < 0) = true := decide_eq_true e1
      simp -dsimp -implicitDefEqProofs only [↓j0, ↓j1, ↓j2, ↓j7, ↓j9, ↓j11, ↓j12, ↓j13, ↓j14, ↓j15, j17, j18, j19, j20, j21, j23, ↓j25, ↓j27, ↓j29, ↓j30, j32, j33, ↓j38, ↓j39, ↓j40, ↓j41, ↓j43, ↓j44, ↓j45, ↓j46, ↓j48, ↓j58, ↓j62, ↓j76, ↓j77, ↓j78, ↓j79, j81, j83, ↓j89, ↓j92, j129, j130, j142, ↓j145, ↓j146, ↓j147, ↓j149, ↓j150, ↓j151, ↓j152, ↓j153, j154, j159, AV.proj, AV.offOf, AV.upd, AV.size, AV.sizeL, AV.layable, j163, j164, j167, j170, j171, j175, j177, ↓reduceIte, Nat.reduceAdd, Nat.reduceEqDiff, j182, j185, j188, j189, j191, j197, j206, j207, j208, j250, j287, j293, j294, j296, j444, j500, fzSt, fzT, d2, hlt1, hy, hsz, b1, del_dg0]
      exact skip _ (by simp -dsimp -implicitDefEqProofs only [↓j25, ↓reduceIte, Nat.reduceEqDiff, j182, j202, j203, fzT, hw] <;> simp)
    have b1 : decide (y.kind < 0) = false := decide_eq_false e1
    by_cases e2 : 2 < y.kind
    · have b2 : decide (2 < y.kind) = true := decide_eq_true e2
      simp -dsimp -implicitDefEqProofs only [↓j0, ↓j1, ↓j2, ↓j7, ↓j9, ↓j11, ↓j12, ↓j13, ↓j14, ↓j15, j17, j18, j19, j20, j21, j23, ↓j25, ↓j27, ↓j29, ↓j30, j32, j33, ↓j38, ↓j39, ↓j40, ↓j41, ↓j43, ↓j44, ↓j45, ↓j46, ↓j48, ↓j58, ↓j62, ↓j76, ↓j77, ↓j78, ↓j79, j81, j83, ↓j89, ↓j92, j129, j130, j142, ↓j145, ↓j146, ↓j147, ↓j148, ↓j149, ↓j150, ↓j151, ↓j152, ↓j153, j154, j159, j161, AV.proj, AV.offOf, AV.upd, AV.size, AV.sizeL, AV.layable, j163, j164, j167, j170, j171, j175, j177, ↓reduceIte, Nat.reduceAdd, Nat.reduceEqDiff, j182, j185, j188, j189, j191, j195, j197, j206, j207, j208, j250, j287, j293, j294, j296, j444, j500, fzSt, fzT, d2, hlt1, hy, hsz, b1, b2, del_dg0]
      exact skip _ (by simp -dsimp -implicitDefEqProofs only [↓j25, ↓reduceIte, Nat.reduceEqDiff, j182, j202, j203, fzT, hw] <;> simp)
    have b2 : decide (2 < y.kind) = false := decide_eq_false e2
    have two : (decide (y.kind < 2) = true ∧ (decide (y.block < 0) = true ∨ decide (y.block < 0) = false ∧ decide (7 < y.block) = true)) ∨ (Opd y ∧ ((decide (y.kind < 2) = false ∧ decide (y.kind < 2) = false ∧ decide (y.kind < 2) = false) ∨ (decide (y.kind < 2) = true ∧ decide (y.block < 0) = false ∧ decide (7 < y.block) = false))) := by
      by_cases q1 : y.kind < 2
      · by_cases q2 : y.block < 0
        · exact .inl ⟨decide_eq_true q1, .inl (decide_eq_true q2)⟩
        · by_cases q3 : 7 < y.block
          · exact .inl ⟨decide_eq_true q1, .inr ⟨decide_eq_false q2, decide_eq_true q3⟩⟩
          · exact .inr ⟨⟨⟨by omega, by omega⟩, fun _ => ⟨by omega, by omega⟩⟩, .inr ⟨decide_eq_true q1, decide_eq_false q2, decide_eq_false q3⟩⟩
      · exact .inr ⟨⟨⟨by omega, by omega⟩, fun h => absurd h q1⟩, .inl ⟨decide_eq_false q1, decide_eq_false q1, decide_eq_false q1⟩⟩
    rcases two with ⟨b3, b4 | ⟨b4, b5⟩⟩ | ⟨hop, two⟩
    · simp -dsimp -implicitDefEqProofs only [↓j0, ↓j1, ↓j2, ↓j7, ↓j9, ↓j11, ↓j12, ↓j13, ↓j14, ↓j15, j17, j18, j19, j20, j21, j23, ↓j25, ↓j27, ↓j29, ↓j30, j32, j33, ↓j38, ↓j39, ↓j40, ↓j41, ↓j43, ↓j44, ↓j45, ↓j46, ↓j48, ↓j58, ↓j62, ↓j76, ↓j77, ↓j78, ↓j79, j81, j83, ↓j89, ↓j92, j129, j130, j142, ↓j145, ↓j146, ↓j147, ↓j148, ↓j149, ↓j150, ↓j151, ↓j153, j154, j159, j161, AV.proj, AV.offOf, AV.upd, AV.size, AV.sizeL, AV.layable, j163, j164, j166, j167, j170, j171, j175, j177, ↓reduceIte, Nat.reduceAdd, Nat.reduceEqDiff, j182, j185, j188, j189, j191, j195, j196, j197, j206, j207, j208, j250, j287, j293, j294, j296, j299, j444, j500, fzSt, fzT, d2, hlt1, hy, hsz, b1, b2, b3, b4, del_dg0]
      exact skip _ (by simp -dsimp -implicitDefEqProofs only [↓j25, ↓reduceIte, Nat.reduceEqDiff, j182, j202, j203, fzT, hw] <;> simp)
    · simp -dsimp -implicitDefEqProofs only [↓j0, ↓j1, ↓j2, ↓j7, ↓j9, ↓j11, ↓j12, ↓j13, ↓j14, ↓j15, j17, j18, j19, j20, j21, j23, ↓j25, ↓j27, ↓j29, ↓j30, j32, j33, ↓j38, ↓j39, ↓j40, ↓j41, ↓j43, ↓j44, ↓j45, ↓j46, ↓j48, ↓j58, ↓j62, ↓j76, ↓j77, ↓j78, ↓j79, j83, ↓j89, ↓j92, j129, j130, j142, ↓j145, ↓j146, ↓j147, ↓j148, ↓j149, ↓j150, ↓j151, ↓j153, j154, j159, j161, AV.proj, AV.offOf, AV.upd, AV.size, AV.sizeL, AV.layable, j163, j164, j166, j167, j170, j171, j175, j177, ↓reduceIte, Nat.reduceAdd, Nat.reduceEqDiff, j182, j185, j188, j189, j191, j195, j196, j197, j206, j207, j208, j250, j287, j293, j294, j296, j299, j444, j500, fzSt, fzT, d2, hlt1, hy, hsz, b1, b2, b3, b4, b5, del_dg0]
      exact skip _ (by simp -dsimp -implicitDefEqProofs only [↓j25, ↓reduceIte, Nat.reduceEqDiff, j182, j202, j203, fzT, hw] <;> simp)
    have hok := hop.k
    have hk : y.Ok := hyp.ok (by omega) (by omega)
    have hops := hd.ops
    have hpen := hd.pend
    have hdo := do_at (h999 106 (by omega)) d hd.ok (by omega) (by omega) y hk
    rw [if_neg (show ¬ y.kind = 4 by omega), if_neg (show ¬ y.kind = 3 by omega)] at hdo
    obtain ⟨m', hm⟩ : ∃ m', (if y.kind = 1 ∧ (d.writeP y.block (filL y.byte 256)).2.pend ≠ d.pend then 106 else 104) = m' := ⟨_, rfl⟩
    have hnm := doP_names (nx := 107) (by omega) hm
    have hmm : m' = 104 ∨ m' = 106 := by rw [← hm]; split <;> simp
    rw [hm] at hdo
    have hnx := fz_do hd (by omega) hk hop
    have hfl := doP_fails (d := d) (show y.kind ≠ 3 by omega) (show y.kind ≠ 4 by omega)
    have hup := fun h => fz_up hd h hop
    have hdw := fun h => fz_down hd h hop
    have hxl := doP_len hd.ok y
    obtain ⟨⟨x, c, e⟩, hr⟩ : ∃ r, d.doP y = r := ⟨_, rfl⟩
    rw [hr] at hdo hnx hnm hfl hup hdw hxl
    have hef : e.fails ≠ none := by rw [show e.fails = d.fails from hfl, hd.fails]; simp
    have h108 : Six 100 101 102 103 m' 108 := ⟨by rcases hmm with rfl | rfl <;> decide⟩
    have hxl : x.length = 256 := hxl
    have hod := ops_at h108 e
    have hdd := down_at h108 e
    have g7 : ∀ X : Heap, Heap.get (diskG e 100 101 102 103 m' ++ X) 107 = Heap.get X 107 := fun X => get_dg (by omega)
    have l7 : ∀ X : Heap, Heap.del (diskG e 100 101 102 103 m' ++ X) 107 = diskG e 100 101 102 103 m' ++ Heap.del X 107 := fun X => del_dg (by omega)
    rcases two with ⟨b3, b4, b5⟩ | ⟨b3, b4, b5⟩
    all_goals
      simp -dsimp -implicitDefEqProofs only [↓j0, ↓j1, ↓j2, ↓j7, ↓j9, ↓j12, ↓j13, ↓j14, ↓j15, j17, j18, j19, j20, j21, j23, ↓j25, ↓j27, ↓j29, ↓j30, j32, j33, ↓j38, ↓j40, ↓j41, ↓j43, ↓j44, ↓j45, ↓j46, ↓j48, ↓j53, ↓j58, ↓j62, ↓j76, ↓j77, ↓j78, ↓j79, j82, j83, ↓j89, ↓j92, j129, j130, j142, ↓j145, ↓j146, ↓j147, ↓j148, ↓j149, ↓j150, ↓j151, ↓j152, ↓j153, j159, j161, AV.proj, AV.offOf, AV.upd, AV.size, AV.sizeL, AV.layable, j163, j164, j166, j167, j170, j171, j175, j177, ↓reduceIte, Nat.reduceAdd, Nat.reduceEqDiff, j182, j185, j188, j189, j191, j195, j196, j197, j206, j207, j208, j250, j287, j293, j294, j296, j299, j444, j500, fzSt, fzT, d2, hlt1, hy, hsz, b1, b2, b3, b4, b5, del_dg0]
      refine CallTo.disk1 rfl fok20 (by simp -dsimp -implicitDefEqProofs only [↓j25, ↓j29, j173, j174, ↓reduceIte]) (fun y hy => by simp at hy) (ops_at (h999 106 (by omega)) d) (subC (by omega) sub0) (fun h => h) (fun h => h) ?_
      simp -dsimp -implicitDefEqProofs only [↓j0, ↓j1, ↓j7, ↓j12, ↓j15, j17, j18, j20, ↓j25, ↓j29, ↓j38, ↓j39, ↓j53, ↓j145, j171, ↓reduceIte, Nat.reduceEqDiff, j182, j188, j189, dels_cons_dg, dels_dg0]
      refine CallTo.disk1 rfl fok21 (by simp -dsimp -implicitDefEqProofs only [↓j25, ↓j29, j173, j174, ↓reduceIte]) (fun y hy => by simp at hy) (down_at (h999 106 (by omega)) d) subX (fun h => h) (fun h => h) ?_
      simp -dsimp -implicitDefEqProofs only [↓j0, ↓j1, ↓j7, ↓j12, ↓j15, j17, j18, j20, ↓j25, ↓j27, ↓j29, ↓j38, ↓j39, ↓j43, ↓j53, ↓j76, j129, ↓j145, ↓j146, ↓j153, AV.proj, AV.offOf, AV.size, AV.sizeL, j171, ↓reduceIte, Nat.reduceAdd, Nat.reduceEqDiff, j182, j188, j189, j197, j293, j294, dels_cons_dg, dels_dgX, dels_empty, get_dg]
      refine CallTo.disk 107 rfl fok22 (by simp -dsimp -implicitDefEqProofs only [↓j25, ↓j29, j173, j174, ↓reduceIte, Nat.reduceEqDiff]) (fun z hz => (args_o z hz).2) hdo subX (by omega) (.inl rfl) (.inr (.inl ⟨rfl, by rw [hd.fails]; simp⟩)) hnm ?_
      simp -dsimp -implicitDefEqProofs only [↓j0, ↓j1, ↓j2, ↓j7, ↓j12, ↓j15, j17, j18, j19, j20, j21, j22, j23, ↓j25, ↓j27, ↓j29, ↓j38, ↓j39, ↓j41, ↓j44, ↓j57, ↓j78, j85, ↓j145, ↓j146, ↓j150, ↓j153, AV.proj, AV.offOf, AV.upd, AV.size, AV.layable, j163, j164, j170, j171, j175, ↓reduceIte, Nat.reduceAdd, Nat.reduceEqDiff, j182, j188, j189, j240, j243, j280, j441, hxl, l7, dels_cons_dg, dels_dgX, dels_empty]
      by_cases hdn : d.down = true
      · obtain ⟨c4, ed⟩ := hdw hdn
        have c4 : c = 4 := c4
        have ed : e = d := ed
        have hod2 : ACall Try.prog 20 [.ptr 100 0 []] (diskG e 100 101 102 103 m') (.int .i64 d.ops) (diskG e 100 101 102 103 m') := by
          rw [show (d.ops : Int) = (e.ops : Int) by rw [ed]]; exact hod
        have z1 : ((c : Int) != 4) = false := by rw [c4]; rfl
        have z2 : ((d.ops : Int) != (d.ops : Int)) = false := by simp
        simp -dsimp -implicitDefEqProofs only [↓j2, j17, j18, j20, ↓j25, ↓j29, ↓j30, j33, ↓j38, ↓j48, ↓j53, ↓j89, ↓j145, ↓j146, ↓j147, ↓j148, ↓j150, ↓j151, j158, j163, j164, j171, j175, ↓reduceIte, Nat.reduceEqDiff, j185, hdn, z1]
        refine CallTo.disk1 rfl fok20 (by simp -dsimp -implicitDefEqProofs only [↓j25, ↓j29, j173, j174, ↓reduceIte]) (fun y hy => by simp at hy) hod2 (subC (by omega) subX) (fun h => h) (fun h => h) ?_
        simp -dsimp -implicitDefEqProofs only [↓j0, ↓j1, ↓j2, ↓j7, ↓j9, ↓j13, ↓j15, j17, j18, j20, ↓j25, ↓j29, ↓j30, j32, j33, ↓j38, ↓j39, ↓j40, ↓j48, ↓j55, j82, j83, j84, ↓j89, ↓j145, ↓j146, ↓j147, ↓j148, ↓j149, ↓j150, ↓j151, ↓j152, j154, j158, j163, j164, j171, j175, ↓reduceIte, Nat.reduceEqDiff, j185, j193, j195, z2]
        refine ⟨k - 1, fzSt l n e (i + 1), by omega, ⟨i + 1, e, by omega, hnx, rfl⟩, Wk.trans (Wk.mk (s' := ⟨128, fzT l n (i + 1), diskG e 100 101 102 103 m', 108⟩) (SubT.spec (by simp -dsimp -implicitDefEqProofs only [↓j25, ↓reduceIte, Nat.reduceEqDiff, j182, j202, j203, fzT, hw] <;> simp)) (subX) (Nat.le_refl _) rfl) (Wk.disk0 (by omega) (by omega) fz_on)⟩
      · have hdn : d.down = false := by simpa using hdn
        obtain ⟨u1, u2, u3, _, _⟩ := hup hdn
        have u1 : c = if d.ops + 1 = n then 4 else 0 := u1
        have u2 : e.ops = d.ops + 1 := u2
        have u3 : e.down = decide (d.ops + 1 = n) := u3
        have hlt2 : d.ops < n := by have := hd.down; rw [hdn] at this; have := of_decide_eq_false this.symm; omega
        rw [u2] at hod
        rw [u3] at hdd
        have w1 : IntKind.i64.wrap ((d.ops : Int) + 1) = ((d.ops + 1 : Nat) : Int) := by rw [wrap_i64 (by omega) (by omega)]; omega
        have z2 : (((d.ops + 1 : Nat) : Int) != ((d.ops + 1 : Nat) : Int)) = false := by simp
        have z3 : (((c : Nat) : Int) == 0) = decide (((d.ops + 1 : Nat) : Int) < (n : Int)) := by
          rw [u1]
          by_cases q : d.ops + 1 = n
          · rw [if_pos q]
            have : decide (((d.ops + 1 : Nat) : Int) < (n : Int)) = false := decide_eq_false (by omega)
            rw [this]; rfl
          · rw [if_neg q]
            have : decide (((d.ops + 1 : Nat) : Int) < (n : Int)) = true := decide_eq_true (by omega)
            rw [this]; rfl
        have z4 : (((d.ops + 1 : Nat) : Int) == (n : Int)) = decide (d.ops + 1 = n) := by
          by_cases q : d.ops + 1 = n
          · rw [q, decide_eq_true rfl]; simp
          · rw [decide_eq_false q]; simpa using (fun h => q (by omega) : ¬ (((d.ops + 1 : Nat) : Int) = (n : Int)))
        obtain ⟨b7, hb7⟩ : ∃ b, decide (((d.ops + 1 : Nat) : Int) < (n : Int)) = b := ⟨_, rfl⟩
        obtain ⟨b8, hb8⟩ : ∃ b, decide (d.ops + 1 = n) = b := ⟨_, rfl⟩
        rw [hb7] at z3
        rw [hb8] at z4 hdd
        have z5 : (b7 != b7) = false := by cases b7 <;> rfl
        have z6 : (b8 != b8) = false := by cases b8 <;> rfl
        simp -dsimp -implicitDefEqProofs only [↓j1, ↓j2, j17, j18, j20, ↓j25, ↓j29, ↓j30, j32, ↓j38, ↓j40, ↓j53, ↓j55, j82, j84, ↓j145, ↓j147, ↓j148, ↓j150, ↓j151, ↓j152, j163, j164, j171, j175, ↓reduceIte, Nat.reduceEqDiff, j194, hdn]
        refine CallTo.disk1 rfl fok20 (by simp -dsimp -implicitDefEqProofs only [↓j25, ↓j29, j173, j174, ↓reduceIte]) (fun y hy => by simp at hy) hod (subC (by omega) subX) (fun h => h) (fun h => h) ?_
        simp -dsimp -implicitDefEqProofs only [↓j2, j17, j18, j20, ↓j25, ↓j29, ↓j30, j32, j33, ↓j38, ↓j40, ↓j48, ↓j53, j83, ↓j89, ↓j90, ↓j145, ↓j146, ↓j147, ↓j148, ↓j150, ↓j151, j154, j157, j158, j159, j163, j164, j171, j175, ↓reduceIte, Nat.reduceEqDiff, j185, j195, j212, j491, w1, z2, z3, hb7, z5]
        refine CallTo.disk1 rfl fok21 (by simp -dsimp -implicitDefEqProofs only [↓j25, ↓j29, j173, j174, ↓reduceIte]) (fun y hy => by simp at hy) hdd subX (fun h => h) (fun h => h) ?_
        simp -dsimp -implicitDefEqProofs only [↓j0, ↓j1, ↓j2, ↓j7, ↓j9, ↓j13, ↓j15, j17, j18, j20, ↓j25, ↓j29, ↓j30, j32, j33, ↓j38, ↓j39, ↓j40, ↓j48, j83, ↓j89, ↓j90, ↓j145, ↓j146, ↓j147, ↓j148, ↓j149, ↓j150, ↓j151, j154, j157, j163, j164, j171, j175, ↓reduceIte, Nat.reduceEqDiff, j185, j195, j212, j491, w1, z4, z6, dels_dgX]
        refine ⟨k - 1, fzSt l n e (i + 1), by omega, ⟨i + 1, e, by omega, hnx, rfl⟩, Wk.trans (Wk.mk (s' := ⟨128, fzT l n (i + 1), diskG e 100 101 102 103 m', 108⟩) (SubT.spec (by simp -dsimp -implicitDefEqProofs only [↓j25, ↓reduceIte, Nat.reduceEqDiff, j182, j202, j203, fzT, hw] <;> simp)) (subX) (Nat.le_refl _) rfl) (Wk.disk0 (by omega) (by omega) fz_on)⟩
  · have hi60 : i ≤ 60 := by omega
    have hex : decide ((i : Int) < (l.length : Int)) = false ∧ decide ((i : Int) < 61) = true ∨ decide ((i : Int) < (l.length : Int)) = true ∧ decide ((i : Int) < 60) = false := by
      by_cases h : i < l.length
      · exact .inr ⟨decide_eq_true (by omega), decide_eq_false (by omega)⟩
      · exact .inl ⟨decide_eq_false (by omega), decide_eq_true (by omega)⟩
    have hcr := (crash_at (h999 105 (by omega)) d hd.ok [] (by decide)).nilArgs (args' := [.ptr 100 0 [], .nilsl]) ⟨.same _ (names_diskG.2 (.inl rfl)), .nil, trivial⟩
    have heo := crash_ok hd.ok []
    have hef : (d.crashP []).fails = none := rfl
    have hep : (d.crashP []).pend = [] := rfl
    have hfu : (d.crashP []).fuse = 0 := rfl
    have hdn : (d.crashP []).down = false := rfl
    have hops : (d.crashP []).ops = 0 := rfl
    obtain ⟨e, he⟩ : ∃ e, d.crashP [] = e := ⟨_, rfl⟩
    rw [he] at hcr heo hef hep hfu hdn hops
    have h106 : Six 100 101 105 103 104 106 := ⟨by decide⟩
    have hdd := down_at h106 e
    have hod := ops_at h106 e
    have hsy := sync_at h106 e heo (by rw [hops]; decide)
    have hs0 : e.syncP.1 = 0 := by
      unfold DS.syncP DS.opP
      rw [hdn, hfu, hef, hops]; rfl
    have hsf : e.syncP.2.fails = none := by rw [syncP_fails, hef]
    have hsp : e.syncP.2.pend = [] := Classical.byContradiction fun h => syncP_pend e h hep
    rw [hs0] at hsy
    rw [hops] at hod
    rw [hdn] at hdd
    obtain ⟨e2, he2⟩ : ∃ e2, e.syncP.2 = e2 := ⟨_, rfl⟩
    rw [he2] at hsy hsf hsp
    have z0 : (((0 : Nat) : Int) == 0) = true := rfl
    have aa : ∀ y : AV, y ∈ [AV.nilsl] → ∀ vs, y ≠ .tuple vs := fun y hy vs h => by subst h; simp at hy
    rcases hex with ⟨d1, d2⟩ | ⟨d1, d2⟩
    all_goals
      simp -dsimp -implicitDefEqProofs only [↓j0, ↓j1, ↓j2, ↓j7, ↓j11, ↓j12, ↓j13, ↓j15, j17, j18, j20, ↓j25, ↓j29, ↓j30, j32, j33, ↓j38, ↓j40, ↓j48, ↓j53, ↓j58, ↓j62, j82, j83, ↓j89, j142, ↓j145, ↓j146, ↓j147, ↓j148, ↓j149, ↓j150, j159, j163, j164, j171, j175, ↓reduceIte, Nat.reduceEqDiff, j185, j500, fzSt, fzT, d1, d2]
      refine CallTo.disk 106 rfl fok14 (by simp -dsimp -implicitDefEqProofs only [↓j25, ↓j29, ↓j30, j36, j173, j174, ↓reduceIte]) aa hcr sub0 (by omega) (.inr (by omega)) (.inl hef) (.inl hep) ?_
      simp -dsimp -implicitDefEqProofs only [↓j0, ↓j1, ↓j7, ↓j12, ↓j15, j17, j18, j20, ↓j25, ↓j29, ↓j38, ↓j53, ↓j145, j171, j172, ↓reduceIte, Nat.reduceEqDiff, dels_dg0]
      refine CallTo.disk1 rfl fok21 (by simp -dsimp -implicitDefEqProofs only [↓j25, ↓j29, j173, j174, ↓reduceIte]) (fun y hy => by simp at hy) hdd sub0 (fun h => h) (fun h => h) ?_
      simp -dsimp -implicitDefEqProofs only [↓j1, ↓j2, j17, j18, j20, ↓j25, ↓j29, ↓j38, ↓j53, ↓j55, j84, ↓j145, ↓j147, ↓j150, j163, j164, j171, j172, j175, ↓reduceIte, Nat.reduceEqDiff, j194, dels_dg0]
      refine CallTo.disk1 rfl fok20 (by simp -dsimp -implicitDefEqProofs only [↓j25, ↓j29, j173, j174, ↓reduceIte]) (fun y hy => by simp at hy) hod sub0 (fun h => h) (fun h => h) ?_
      simp -dsimp -implicitDefEqProofs only [↓j1, ↓j2, j17, j18, j20, ↓j25, ↓j29, ↓j30, j32, j33, ↓j38, ↓j40, ↓j48, ↓j53, j83, ↓j89, ↓j145, ↓j146, ↓j147, ↓j150, j157, j163, j164, j171, j172, j175, ↓reduceIte, Nat.reduceEqDiff, j185, z0, dels_dg0]
      refine CallTo.disk1 rfl fok12 (by simp -dsimp -implicitDefEqProofs only [↓j25, ↓j29, j173, j174, ↓reduceIte]) (fun y hy => by simp at hy) hsy sub0 (fun h => absurd hsf h) (fun h => absurd hsp h) ?_
      simp -dsimp -implicitDefEqProofs only [↓j1, ↓j2, j17, j18, j20, ↓j25, ↓j29, ↓j30, j32, j33, ↓j38, ↓j40, ↓j48, ↓j53, j83, ↓j89, ↓j145, ↓j146, ↓j147, ↓j150, j157, j163, j164, j171, j172, j175, ↓reduceIte, Nat.reduceEqDiff, j185, z0, dels_dg0]
      refine CallTo.pure (args := []) rfl fok18 rfl nil0 awake_spec ?_
      simp -dsimp -implicitDefEqProofs only [↓j0, ↓j1, ↓j10, j17, j18, j20, ↓j25, ↓j29, ↓j30, j32, ↓j39, ↓j40, j83, ↓j145, j171, ↓reduceIte, Nat.reduceEqDiff]
      exact ret _ _ _ rfl
end Go.Proofs.Ytpnjllemklindaa
