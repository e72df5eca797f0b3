/- The law DiskFails: the script. -/
import Derived.Test.YtpnjllemklindaaD15
set_option linter.unusedVariables false
set_option linter.unusedSimpArgs false
namespace Go.Proofs.Ytpnjllemklindaa
open Go Go.RowKit

abbrev opsAV (l : List DOp) : AV := .vsl (l.map DOp.av) l.length
theorem unif_op (l : List DOp) : Unif 5 (l.map DOp.av) := fun x hx => by
  obtain ⟨o, _, rfl⟩ := List.mem_map.1 hx; rfl
theorem on_ops (S : Nat → Prop) (l : List DOp) : AV.on S (opsAV l) := AV.onL_iff.2 fun x hx => by
  obtain ⟨o, _, rfl⟩ := List.mem_map.1 hx; exact on_op S o
theorem args_so {l : List DOp} {o : DOp} : ∀ y, y ∈ [opsAV l, o.av] → AV.on (fun _ => False) y ∧ ∀ vs, y ≠ .tuple vs := fun y hy => by
  simp only [List.mem_cons, List.not_mem_nil, or_false] at hy
  rcases hy with rfl | rfl
  · exact ⟨on_ops _ _, fun vs h => by cases h⟩
  · exact ⟨on_op _ _, fun vs h => by cases h⟩
theorem wkT {n m m0 : Nat} {t t0 : Env} {H : Heap} (h : SubT t0 t) (hm : m ≤ m0) : Wk ⟨n, t, H, m⟩ ⟨n, t0, H, m0⟩ := Wk.mk h.spec (fun n b h => h) hm rfl
theorem doP_pend {d : DS} {o : DOp} (h : ¬ (o.kind = 1 ∧ (d.writeP o.block (filL o.byte 256)).2.pend ≠ d.pend)) : (d.doP o).2.2.pend ≠ [] → d.pend ≠ [] := by
  unfold DS.doP
  split
  · rw [(readP_same _).2]; exact fun h => h
  · split
    · rename_i h1
      have e : (d.writeP o.block (filL o.byte 256)).2.pend = d.pend := Classical.byContradiction fun e => h ⟨h1, e⟩
      rw [show (zb 256, (d.writeP o.block (filL o.byte 256)).1, (d.writeP o.block (filL o.byte 256)).2).2.2 = (d.writeP o.block (filL o.byte 256)).2 from rfl, e]; exact fun h => h
    · split
      · exact syncP_pend d
      · split
        · exact fun h => h
        · split
          · exact fun h => absurd rfl h
          · exact fun h => h
/-- The names that do leaves lie where they may. -/
theorem doP_names {d : DS} {o : DOp} {m m' x nx : Nat} (hx : x < nx) (hm : (if o.kind = 1 ∧ (d.writeP o.block (filL o.byte 256)).2.pend ≠ d.pend then x else m) = m') : (d.doP o).2.2.pend = [] ∨ (m' = m ∧ d.pend ≠ []) ∨ (x ≤ m' ∧ m' < nx) := by
  by_cases h : o.kind = 1 ∧ (d.writeP o.block (filL o.byte 256)).2.pend ≠ d.pend
  · rw [if_pos h] at hm; subst hm; exact .inr (.inr ⟨Nat.le_refl _, hx⟩)
  · rw [if_neg h] at hm; subst hm
    by_cases h2 : (d.doP o).2.2.pend = []
    · exact .inl h2
    · exact .inr (.inl ⟨rfl, doP_pend h h2⟩)
theorem plan_one {o : Oper} {d : DS} {n : Nat} {t : Env} {X : Heap} {K : Eff → Nat → Prop} {ars : Array Operand} {ts : Array TypeId} (hd : d.Ok) (hf : d.fails = none)
    (ho : o.op = .call { callee := .value (.func 19), args := ars, argTypes := ts }) (hargs : ars.toList.map (St.ev ⟨n, t, (107, .cells (.agg [.int .i64 1])) :: (diskG d 100 101 102 103 104 ++ X), 108⟩) = [some (.ptr 100 0 []), some (.sl 107 0 [] 0 1 1 1), some (.int .i64 0)])
    (hK : K ⟨.tuple [], [], 107 :: (diskG d 100 101 102 103 104).map (·.1), diskG (d.planP [1] 0) 100 101 102 108 104⟩ 109) : CallTo Try.prog o ⟨n, t, (107, .cells (.agg [.int .i64 1])) :: (diskG d 100 101 102 103 104 ++ X), 108⟩ K := by
  have hr := plan_at (a := 100) (b := 101) (s := 102) (q := 103) (m := 104) (x := 108) ⟨by decide⟩ d hd [1] (fun f hf => by simp at hf; subst hf; exact ⟨by omega, by omega⟩) (by decide) 0
  have n107 : 107 ∉ (diskG d 100 101 102 103 104).map (·.1) := fun h => by
    rcases names_diskG.1 h with h | h | h | ⟨h, _⟩ | ⟨h, _⟩ <;> omega
  have hfz := Frz.sl (K := fun n => n ∈ (diskG d 100 101 102 103 104).map (·.1)) (H := [(107, .cells (.agg [AV.int .i64 1]))]) 107 0 [] 0 1 1 1 _ [AV.int .i64 1] rfl n107 rfl rfl (by decide) (unif_ints [1]) (fun x hx => by simp at hx; subst hx; trivial)
  have hl := hr.lendH [(107, .cells (.agg [AV.int .i64 1]))] (args' := [.ptr 100 0 [], .sl 107 0 [] 0 1 1 1, .int .i64 0]) ⟨.same _ (names_diskG.2 (.inl rfl)), hfz, .same _ trivial, trivial⟩ (fun n hn => by
    simp only [List.map_cons, List.map_nil, List.mem_singleton] at hn
    subst hn
    exact ⟨n107, get_dg0 (show _ ≠ _ ∧ _ by decide)⟩)
  refine CallTo.gen (args := [.ptr 100 0 [], .sl 107 0 [] 0 1 1 1, .int .i64 0]) ((107, .cells (.agg [AV.int .i64 1])) :: diskG d 100 101 102 103 104) (diskG (d.planP [1] 0) 100 101 102 108 104) 109 ho fok19 hargs (fun x hx vs h => by subst h; simp at hx) hl (fun n b h => ?_) ⟨by show (108 : Nat) ≤ 109; omega, fun n x h hn => ?_⟩ hK
  · simp only [Heap.get] at h ⊢
    by_cases h13 : n = 107
    · rw [if_pos h13] at h ⊢; exact h
    · rw [if_neg h13] at h ⊢
      rw [get_append, h]
  · simp only [List.map_cons, List.mem_cons, not_or] at hn
    rcases names_diskG.1 (get_map h) with h | h | h | ⟨h, _⟩ | ⟨h, h2⟩
    · exact absurd (names_diskG.2 (.inl h)) hn.2
    · exact absurd (names_diskG.2 (.inr (.inl h))) hn.2
    · exact absurd (names_diskG.2 (.inr (.inr (.inl h)))) hn.2
    · show 108 ≤ n ∧ n < 109; omega
    · have h2' : d.pend ≠ [] := h2
      exact absurd ((names_diskG (d := d)).2 (.inr (.inr (.inr (.inr ⟨h, h2'⟩))))) hn.2
/-- What holds of any call of a script. -/
structure DOp.Pre (o : DOp) : Prop where
  byte : o.byte < 256
  fails : ∀ f, f ∈ o.fails → flOk f
theorem DOp.Pre.ok {o : DOp} (h : o.Pre) (h3 : o.kind ≠ 3) (h4 : o.kind ≠ 4) : o.Ok := ⟨h.byte, h.fails, fun e => absurd e h3, fun e => absurd e h4⟩
/-- A disk in a script. -/
structure Scr (i : Nat) (d : DS) : Prop where
  ok : d.Ok
  n : d.n = 8
  ops : d.ops ≤ i
  pend : d.pend.length ≤ 4 * i
  fails : d.fails = none
  fuse : d.fuse = 0
  down : d.down = false
theorem scr_new : Scr 0 (DS.new 8) := ⟨new_ok (by omega) (by omega), rfl, Nat.le_refl _, Nat.le_refl _, rfl, rfl, rfl⟩
theorem scr_mono {i j : Nat} {d : DS} (h : Scr i d) (hij : i ≤ j) : Scr j d := ⟨h.ok, h.n, Nat.le_trans h.ops hij, by have := h.pend; omega, h.fails, h.fuse, h.down⟩
theorem doP_quiet {d : DS} (hf : d.fuse = 0) (hd : d.down = false) {o : DOp} (h3 : o.kind ≠ 3) (h4 : o.kind ≠ 4) : (d.doP o).2.2.fuse = 0 ∧ (d.doP o).2.2.down = false := by
  obtain ⟨h1, h2⟩ := opP_fuse hf hd
  unfold DS.doP
  split
  · unfold DS.readP
    split
    · exact ⟨hf, hd⟩
    · split
      · exact ⟨hf, hd⟩
      · split <;> exact ⟨h2, h1⟩
  · split
    · unfold DS.writeP
      split
      · exact ⟨hf, hd⟩
      · split
        · exact ⟨hf, hd⟩
        · split <;> exact ⟨h2, h1⟩
    · split
      · unfold DS.syncP
        split
        · exact ⟨hf, hd⟩
        · split <;> exact ⟨h2, h1⟩
      · exact ⟨hf, hd⟩
theorem doP_failP {i : Nat} {d : DS} (h : Scr i d) {o : DOp} (hk : 0 ≤ o.kind ∧ o.kind ≤ 2) (h1 : 0 ≤ o.block) (h2 : o.block ≤ 7) : (d.planP [1] 0).doP o = (zb 256, 3, { d.planP [1] 0 with ops := 1 }) := by
  have hop : (d.planP [1] 0).opP = (3, { d.planP [1] 0 with ops := 1 }) := rfl
  have hdn : (d.planP [1] 0).down = false := h.down
  have hn : (d.planP [1] 0).n = 8 := h.n
  unfold DS.doP
  split
  · unfold DS.readP
    rw [hdn, hn, if_neg (by decide), if_neg (by omega), hop]; rfl
  · split
    · unfold DS.writeP
      rw [hdn, hn, if_neg (by decide), if_neg (by omega), hop]; rfl
    · rw [if_pos (by omega)]
      unfold DS.syncP
      rw [hdn, if_neg (by decide), hop]; rfl
theorem scr_do {i : Nat} {d : DS} (h : Scr i d) (hi : i < 1000) {o : DOp} (hk : o.Ok) (h3 : o.kind ≠ 3) (h4 : o.kind ≠ 4) : Scr (i + 1) (d.doP o).2.2 := by
  have h1 := h.ops
  have h2 := h.pend
  obtain ⟨q1, q2, q3, q4⟩ := doP_ok h.ok (by omega) (by omega) hk
  obtain ⟨q5, q6⟩ := doP_quiet h.fuse h.down h3 h4
  exact ⟨q1, q2.trans h.n, by omega, by omega, (doP_fails h3 h4).trans h.fails, q5, q6⟩
def dfT (l : List DOp) (i : Nat) : Env := [(6, .int .i64 i), (5, .ptr 100 0 []), (3, .ptr 99 0 []), (0, opsAV l), (4, .bool false)]
def dfSt (l : List DOp) (o : DOp) (d : DS) (i : Nat) : St := ⟨129, dfT l i, diskG d 100 101 102 103 104 ++ [(99, .cells o.av)], 105⟩
theorem df_on {l : List DOp} {i : Nat} : onTL (fun k => k < 102) (dfT l i) :=
  onTL_cons trivial (onTL_cons (show (100 : Nat) < 102 by decide) (onTL_cons (show (99 : Nat) < 102 by decide) (onTL_cons (on_ops _ _) (onTL_cons trivial onTL_nil))))
theorem df_onH {o : DOp} : onHL (fun k => k < 100) [(99, .cells o.av)] := onHL_cons (show (99 : Nat) < 100 by decide) (on_op _ _) onHL_nil
def bl (m : List Wr) (d : DS) (k : Nat) : List (List UInt8) := (List.range k).map (fun b => d.readL m ((b : Nat) : Int)) ++ List.replicate (8 - k) (zb 256)
theorem bl_len (m : List Wr) (d : DS) {k : Nat} (h : k ≤ 8) : (bl m d k).length = 8 := by simp [bl]; omega
theorem bl_set (m : List Wr) (d : DS) {k : Nat} (h : k < 8) : (bl m d k).set k (d.readL m ((k : Nat) : Int)) = bl m d (k + 1) := by
  unfold bl
  rw [List.set_append_right _ _ (by simp), List.length_map, List.length_range, Nat.sub_self, show 8 - k = (8 - (k + 1)) + 1 by omega, List.replicate_succ, List.range_succ]
  simp
theorem bl_get (m : List Wr) (d : DS) {b : Nat} (h : b < 8) : (bl m d 8)[b]? = some (d.readL m ((b : Nat) : Int)) := by
  unfold bl
  rw [List.getElem?_append_left (by simpa using h)]
  simp [h]
theorem readL_256 {n : Nat} {m : List Wr} (hm : ∀ w, w ∈ m → wrOk n w) (d : DS) (k : Int) : (d.readL m k).length = 256 := by
  unfold DS.readL
  split
  · exact zb_len 256
  · exact gatN_len hm _ 4 (by omega)
theorem bl_256 {n : Nat} {m : List Wr} (hm : ∀ w, w ∈ m → wrOk n w) (d : DS) {k : Nat} : ∀ x, x ∈ bl m d k → x.length = 256 := by
  intro x hx
  simp only [bl, List.mem_append, List.mem_map, List.mem_replicate] at hx
  rcases hx with ⟨b, _, rfl⟩ | ⟨_, rfl⟩
  · exact readL_256 hm d _
  · exact zb_len 256
theorem unif_blk {l : List (List UInt8)} (h : ∀ x, x ∈ l → x.length = 256) : Unif 256 (l.map arrAV) := fun x hx => by
  obtain ⟨y, hy, rfl⟩ := List.mem_map.1 hx
  show AV.sizeL (y.map byteAV) = 256
  rw [(unif_bytes y).sizeL, List.length_map, h y hy]
theorem on_blk (S : Nat → Prop) (l : List (List UInt8)) : AV.on S (.agg (l.map arrAV)) := AV.onL_iff.2 fun x hx => by
  obtain ⟨y, _, rfl⟩ := List.mem_map.1 hx; exact on_bytes _ _
def dgT (k : Nat) : Env := [(9, .int .i64 k), (8, .ptr 106 0 []), (7, .ptr 105 0 []), (5, .ptr 100 0 []), (3, .ptr 99 0 []), (4, .bool false)]
theorem get_front {G X : Heap} {k n : Nat} {c : ABlk} (h : Heap.get G k = none) : Heap.get ((k, c) :: (G ++ X)) n = Heap.get (G ++ (k, c) :: X) n := by
  rw [get_append]
  simp only [Heap.get]
  by_cases hn : n = k
  · subst hn; rw [h]; simp
  · rw [if_neg hn, if_neg hn, get_append]
theorem get_front2 {G X : Heap} {k j n : Nat} {c b : ABlk} (h : Heap.get G k = none) (h2 : Heap.get G j = none) : Heap.get ((k, c) :: (j, b) :: (G ++ X)) n = Heap.get (G ++ (k, c) :: (j, b) :: X) n := by
  rw [← get_front h]
  show (if n = k then some c else Heap.get ((j, b) :: (G ++ X)) n) = (if n = k then some c else Heap.get (G ++ (j, b) :: X) n)
  rw [get_front h2]
def dgX (o : DOp) (a b : List (List UInt8)) : Heap := [(106, .cells (.agg (b.map arrAV))), (105, .cells (.agg (a.map arrAV))), (99, .cells o.av)]
def dgSt (o : DOp) (d : DS) (k : Nat) : St := ⟨129, dgT k, diskG d 100 101 102 103 104 ++ dgX o (bl d.seen d k) (bl d.sure d k), 107⟩
def dhT (d : DS) (k : Nat) : Env := [(13, .int .i64 k), (12, .int .i64 3), (11, .ptr 109 0 []), (10, .int .i64 d.pend.length), (8, .ptr 106 0 []), (7, .ptr 105 0 []), (5, .ptr 100 0 []), (4, .bool false)]
def dhSt (o : DOp) (d e : DS) (k : Nat) : St := ⟨129, dhT d k, diskG e 100 101 102 108 104 ++ (109, .cells (arrAV (zb 256))) :: dgX o (bl d.seen d 8) (bl d.sure d 8), 110⟩
theorem diskFails_spec (l : List DOp) (o : DOp) (hl : l.length ≤ 9223372036854775807) (hlk : ∀ x, x ∈ l → x.Pre) (hpk : o.Pre) : ACall Try.prog 7 [opsAV l, o.av] [] (.bool true) [] := by
  refine ACall.run (Z := Z) (N := 129) mixed hZ Try.func7 rfl rfl (by kernel_rfl) (by simp) args_so 99 ?_
  have ret : ∀ (t : Env) (H : Heap) (m : Nat), look t 4 = some (.bool true) → Final Try.prog Try.f7 (.bool true) [] .ret ⟨129, t, H, m⟩ := fun t H m h =>
    Final.one (.inr rfl) (r := .tmp 4) rfl ⟨h, fun vs h => by cases h⟩ (fun vs h => by cases h) (fun vs h => by cases h) (.same _ trivial)
  simp -dsimp -implicitDefEqProofs only [↓j0, ↓j1, ↓j7, ↓j12, ↓j15, j17, j18, j20, ↓j25, ↓j29, ↓j30, j32, ↓j39, ↓j42, ↓j53, ↓j145, ↓j146, AV.layable, argEnv, j171, j172, reduceCtorEq, ↓reduceIte, Nat.reduceAdd, j196]
  refine CallTo.gen (args := [.int .i64 ((8 : Nat) : Int)]) [] (diskG (DS.new 8) 100 101 102 103 104) 105 rfl fok9 (by simp -dsimp -implicitDefEqProofs only [↓j30, j33, j173, j174]; rfl) (fun x hx => (args_i x hx).2) (new_at 8 (by omega) (by omega)) (fun n b h => by simp [Heap.get] at h) ⟨by show 100 ≤ 105; omega, new_put⟩ ?_
  simp -dsimp -implicitDefEqProofs only [↓j0, ↓j1, ↓j7, ↓j9, ↓j12, ↓j13, ↓j14, ↓j15, ↓j16, j17, j18, j20, ↓j25, ↓j29, ↓j30, j33, j35, ↓j38, ↓j39, ↓j48, ↓j145, ↓j146, ↓j148, ↓j149, j171, j174, ↓reduceIte, j211, ↓j235, j271]
  refine AWp.loopR (Z := Z) mixed hZ (by kernel_rfl) (fun n s => ∃ i d, i + n = min l.length 30 ∧ Scr i d ∧ s = dfSt l o d i) (n0 := min l.length 30) (s0 := dfSt l o (DS.new 8) 0) ?_ ⟨0, DS.new 8, by omega, scr_new, rfl⟩ ?_ rfl
  · exact wkT (by simp -dsimp -implicitDefEqProofs only [↓j25, j179, reduceCtorEq, ↓reduceIte, Nat.reduceEqDiff, j182, j183, j184, j202, j203, j209, dfT] <;> simp) (by omega)
  rintro n s ⟨i, d, hi, hd, rfl⟩
  refine ⟨rfl, ?_⟩
  by_cases hlt : i < l.length ∧ i < 30
  · have d1 : decide ((i : Int) < (l.length : Int)) = true := decide_eq_true (by omega)
    have d2 : decide ((i : Int) < 30) = true := decide_eq_true (by omega)
    have hlt1 : (i : Int) < (l.length : Int) := by omega
    have hw : IntKind.i64.wrap ((i : Int) + 1) = ((i + 1 : Nat) : Int) := by rw [wrap_i64 (by omega) (by omega)]; omega
    obtain ⟨y, hy⟩ := list_get (xs := l) (i := i) (by omega)
    have hsz : AV.sizeL ((l.map DOp.av).take i) = i * 5 := (unif_op l).sizeL_take (by simp; omega)
    simp -dsimp -implicitDefEqProofs only [↓j0, ↓j1, ↓j2, ↓j7, ↓j9, ↓j12, ↓j13, ↓j14, ↓j15, j17, j18, j20, ↓j25, ↓j29, ↓j30, j32, j33, ↓j38, ↓j40, ↓j43, ↓j45, ↓j46, ↓j48, ↓j58, ↓j62, ↓j77, ↓j80, j83, ↓j89, ↓j92, j130, j142, ↓j145, ↓j146, ↓j147, ↓j149, ↓j150, j159, AV.proj, AV.offOf, AV.sizeL, j163, j164, j167, j170, j171, j175, j177, reduceCtorEq, ↓reduceIte, Nat.reduceEqDiff, j182, j185, j191, j197, j206, j207, j208, j250, j287, j296, j500, dfSt, dfT, d2, hlt1, hy, hsz]
    refine ⟨fun hc => ?_, fun hc => ?_⟩
    · have hc' := of_decide_eq_true hc
      have hyk := (hlk y (List.mem_of_getElem? hy)).ok (by omega) (by omega)
      have ho := hd.ops
      have hp := hd.pend
      have hdo := do_at (six 105 (by omega)) d hd.ok (by omega) (by omega) y hyk
      have hnx := scr_do hd (by omega) hyk (by omega) (by omega)
      rw [if_neg (show ¬ y.kind = 4 by omega), if_neg (show ¬ y.kind = 3 by omega)] at hdo
      obtain ⟨m', hm⟩ : ∃ m', (if y.kind = 1 ∧ (d.writeP y.block (filL y.byte 256)).2.pend ≠ d.pend then 105 else 104) = m' := ⟨_, rfl⟩
      have hnm := doP_names (nx := 106) (by omega) hm
      have hmm : m' = 104 ∨ m' = 105 := by rw [← hm]; split <;> simp
      rw [hm] at hdo
      obtain ⟨⟨x, c, e⟩, hr⟩ : ∃ r, d.doP y = r := ⟨_, rfl⟩
      rw [hr] at hdo hnx hnm
      simp -dsimp -implicitDefEqProofs only [↓j1, ↓j7, ↓j15, j17, j18, j20, ↓j25, ↓j29, ↓j38, ↓j43, ↓j46, ↓j53, ↓j77, ↓j92, j129, ↓j145, ↓j146, AV.proj, AV.offOf, AV.size, AV.sizeL, j171, j177, reduceCtorEq, ↓reduceIte, Nat.reduceAdd, Nat.reduceEqDiff, j182, j197, j206, j207, j208, j287, j293, j294, hlt1, hy, hsz, hc]
      refine CallTo.disk 106 rfl fok22 (by simp -dsimp -implicitDefEqProofs only [↓j25, ↓j29, j173, j174, ↓reduceIte, Nat.reduceEqDiff]) (fun z hz => (args_o z hz).2) hdo subX (by omega) (.inl rfl) (.inl hnx.fails) hnm ?_
      simp -dsimp -implicitDefEqProofs only [↓j0, ↓j1, ↓j7, ↓j15, j17, j18, j20, ↓j25, ↓j29, ↓j30, j33, ↓j38, ↓j39, ↓j48, ↓j89, ↓j145, ↓j146, j154, j171, ↓reduceIte, Nat.reduceEqDiff, j182, j185, j188, j189, dels_cons_dg, dels_dgX, dels_empty]
      refine ⟨n - 1, dfSt l o e (i + 1), by omega, ⟨i + 1, e, by omega, hnx, rfl⟩, Wk.trans (wkT (t0 := dfT l (i + 1)) (by simp -dsimp -implicitDefEqProofs only [↓j25, reduceCtorEq, ↓reduceIte, Nat.reduceEqDiff, j182, j202, j203, dfT, hw] <;> simp) (Nat.le_refl _)) (Wk.disk (by omega) (by omega) df_on df_onH)⟩
    · simp -dsimp -implicitDefEqProofs only [↓j0, ↓j1, ↓j7, ↓j9, ↓j15, j17, j18, j20, ↓j25, ↓j29, ↓j30, j33, ↓j38, ↓j39, ↓j48, ↓j89, ↓j145, ↓j146, j154, j171, ↓reduceIte, Nat.reduceEqDiff, j185, hc]
      exact ⟨n - 1, dfSt l o d (i + 1), by omega, ⟨i + 1, d, by omega, scr_mono hd (by omega), rfl⟩, wkT (by simp -dsimp -implicitDefEqProofs only [↓j25, reduceCtorEq, ↓reduceIte, Nat.reduceEqDiff, j182, j202, j203, dfT, hw] <;> simp) (by omega)⟩
  have hi30 : i ≤ 30 := by omega
  have h999 : ∀ x, 105 ≤ x → Six 100 101 102 103 104 x := six
  have hex : decide ((i : Int) < (l.length : Int)) = false ∧ decide ((i : Int) < 31) = true ∨ decide ((i : Int) < (l.length : Int)) = true ∧ decide ((i : Int) < 30) = false := by
    by_cases h : i < l.length
    · exact .inr ⟨decide_eq_true (by omega), decide_eq_false (by omega)⟩
    · exact .inl ⟨decide_eq_false (by omega), decide_eq_true (by omega)⟩
  have nil0 : ∀ x : AV, x ∈ ([] : List AV) → ∀ vs, x ≠ .tuple vs := fun x hx => by simp at hx
  rcases hex with ⟨d1, d2⟩ | ⟨d1, d2⟩
  all_goals
    simp -dsimp -implicitDefEqProofs only [↓j0, ↓j1, ↓j2, ↓j7, ↓j11, ↓j12, ↓j13, ↓j15, j17, j18, j20, ↓j25, ↓j27, ↓j29, ↓j30, j32, j33, ↓j38, ↓j40, ↓j43, ↓j45, ↓j48, ↓j58, ↓j62, ↓j76, ↓j79, j82, j83, ↓j89, j130, j142, ↓j145, ↓j146, ↓j147, ↓j148, ↓j149, ↓j150, ↓j151, ↓j153, j159, AV.proj, AV.offOf, AV.sizeL, j163, j164, j167, j171, j175, reduceCtorEq, ↓reduceIte, Nat.reduceEqDiff, j182, j185, j188, j189, j197, j250, j296, j500, dfSt, dfT, d1, d2, get_dg]
    by_cases e1 : o.kind < 0
    · have b1 : decide (o.kind < 0) = true := decide_eq_true e1
      simp -dsimp -implicitDefEqProofs only [↓j0, ↓j1, ↓j2, ↓j7, ↓j12, ↓j13, ↓j15, j17, j18, j20, ↓j25, ↓j29, ↓j30, j32, ↓j38, ↓j40, ↓j53, j81, ↓j145, ↓j147, ↓j149, ↓j151, j163, j164, j171, j175, ↓reduceIte, Nat.reduceEqDiff, b1]
      refine CallTo.pure (args := []) rfl fok18 rfl nil0 awake_spec ?_
      simp -dsimp -implicitDefEqProofs only [↓j0, ↓j1, ↓j10, j17, j18, j20, ↓j25, ↓j29, ↓j39, ↓j145, j171, ↓reduceIte]
      exact ret _ _ _ rfl
    have b1 : decide (o.kind < 0) = false := decide_eq_false e1
    by_cases e2 : 2 < o.kind
    · have b2 : decide (2 < o.kind) = true := decide_eq_true e2
      simp -dsimp -implicitDefEqProofs only [↓j0, ↓j1, ↓j2, ↓j7, ↓j12, ↓j13, ↓j15, j17, j18, j20, ↓j25, ↓j27, ↓j29, ↓j30, j32, j33, ↓j38, ↓j40, ↓j43, ↓j45, ↓j48, ↓j53, ↓j76, ↓j79, j81, j83, ↓j89, j130, ↓j145, ↓j146, ↓j147, ↓j148, ↓j149, ↓j151, ↓j153, j161, AV.proj, AV.offOf, AV.sizeL, j163, j164, j167, j171, j175, ↓reduceIte, Nat.reduceEqDiff, j182, j185, j188, j189, j195, j197, j250, j296, b1, b2, get_dg]
      refine CallTo.pure (args := []) rfl fok18 rfl nil0 awake_spec ?_
      simp -dsimp -implicitDefEqProofs only [↓j0, ↓j1, ↓j10, j17, j18, j20, ↓j25, ↓j29, ↓j39, ↓j145, j171, ↓reduceIte]
      exact ret _ _ _ rfl
    have b2 : decide (2 < o.kind) = false := decide_eq_false e2
    by_cases e3 : o.block < 0
    · have b3 : decide (o.block < 0) = true := decide_eq_true e3
      simp -dsimp -implicitDefEqProofs only [↓j0, ↓j1, ↓j2, ↓j7, ↓j12, ↓j13, ↓j15, j17, j18, j20, ↓j25, ↓j27, ↓j29, ↓j30, j32, j33, ↓j38, ↓j40, ↓j43, ↓j45, ↓j48, ↓j53, ↓j76, ↓j79, j81, j83, ↓j89, j130, ↓j145, ↓j146, ↓j147, ↓j148, ↓j149, ↓j151, ↓j153, j159, j161, AV.proj, AV.offOf, AV.size, AV.sizeL, j163, j164, j166, j167, j171, j175, ↓reduceIte, Nat.reduceEqDiff, j182, j185, j188, j189, j195, j196, j197, j250, j296, j299, b1, b2, b3, get_dg]
      refine CallTo.pure (args := []) rfl fok18 rfl nil0 awake_spec ?_
      simp -dsimp -implicitDefEqProofs only [↓j0, ↓j1, ↓j10, j17, j18, j20, ↓j25, ↓j29, ↓j39, ↓j145, j171, ↓reduceIte]
      exact ret _ _ _ rfl
    have b3 : decide (o.block < 0) = false := decide_eq_false e3
    by_cases e4 : 7 < o.block
    · have b4 : decide (7 < o.block) = true := decide_eq_true e4
      simp -dsimp -implicitDefEqProofs only [↓j0, ↓j1, ↓j2, ↓j7, ↓j12, ↓j13, ↓j15, j17, j18, j20, ↓j25, ↓j27, ↓j29, ↓j30, j32, j33, ↓j38, ↓j40, ↓j43, ↓j45, ↓j48, ↓j53, ↓j76, ↓j79, j83, ↓j89, j130, ↓j145, ↓j146, ↓j147, ↓j148, ↓j149, ↓j151, ↓j153, j159, j161, AV.proj, AV.offOf, AV.size, AV.sizeL, j163, j164, j166, j167, j171, j175, ↓reduceIte, Nat.reduceEqDiff, j182, j185, j188, j189, j195, j196, j197, j250, j296, j299, b1, b2, b3, b4, get_dg]
      refine CallTo.pure (args := []) rfl fok18 rfl nil0 awake_spec ?_
      simp -dsimp -implicitDefEqProofs only [↓j0, ↓j1, ↓j10, j17, j18, j20, ↓j25, ↓j29, ↓j39, ↓j145, j171, ↓reduceIte]
      exact ret _ _ _ rfl
    have b4 : decide (7 < o.block) = false := decide_eq_false e4
    have hk : o.Ok := hpk.ok (by omega) (by omega)
    simp -dsimp -implicitDefEqProofs only [↓j0, ↓j1, ↓j2, ↓j7, ↓j9, ↓j12, ↓j13, ↓j14, ↓j15, ↓j16, j17, j18, j20, ↓j25, ↓j27, ↓j29, ↓j30, j32, j33, ↓j38, ↓j39, ↓j40, ↓j41, ↓j43, ↓j45, ↓j48, ↓j76, ↓j79, j83, ↓j89, j130, ↓j145, ↓j146, ↓j148, ↓j149, ↓j151, ↓j153, j159, j161, AV.proj, AV.offOf, AV.size, AV.sizeL, j163, j164, j166, j167, j170, j171, j175, ↓reduceIte, Nat.reduceAdd, Nat.reduceEqDiff, j182, j185, j188, j189, j195, j196, j197, List.replicate, j250, j296, j299, j445, b1, b2, b3, b4, get_dg]
    refine AWp.loopR (Z := Z) mixed hZ (by kernel_rfl) (fun n s => ∃ b, b + n = 8 ∧ s = dgSt o d b) (n0 := 8) (s0 := dgSt o d 0) ?_ ⟨0, by omega, rfl⟩ ?_ rfl
    · refine Wk.mk (SubT.spec (t0 := dgT 0) (by simp -dsimp -implicitDefEqProofs only [↓j25, j179, reduceCtorEq, ↓reduceIte, Nat.reduceEqDiff, j182, j183, j184, j202, j203, j209, dgT] <;> rfl)) (fun n c h => ?_) (Nat.le_refl _) rfl
      rw [← h]
      exact get_front2 (get_dg0 (show _ ≠ _ ∧ _ by decide)) (get_dg0 (show _ ≠ _ ∧ _ by decide))
    rintro n2 s ⟨b, hb, rfl⟩
    refine ⟨rfl, ?_⟩
    have hl1 := bl_len d.seen d (show b ≤ 8 by omega)
    have hl2 := bl_len d.sure d (show b ≤ 8 by omega)
    have hu1 := unif_blk (bl_256 hd.ok.seen d (k := b))
    have hu2 := unif_blk (bl_256 hd.ok.sure d (k := b))
    rcases Nat.lt_or_ge b 8 with hb8 | hb8
    · have hs1 := bl_set d.seen d hb8
      have hs2 := bl_set d.sure d hb8
      have hw2 : IntKind.i64.wrap ((b : Int) + 1) = ((b + 1 : Nat) : Int) := by rw [wrap_i64 (by omega) (by omega)]; omega
      have f1 : decide ((b : Int) < 8) = true := decide_eq_true (by omega)
      have hse := seen_at (h999 107 (by omega)) d hd.ok ((b : Nat) : Int)
      have hsu := sure_at (h999 107 (by omega)) d hd.ok ((b : Nat) : Int)
      have hrl1 := readL_256 hd.ok.seen d ((b : Nat) : Int)
      have hrl2 := readL_256 hd.ok.sure d ((b : Nat) : Int)
      have hb9 : (b : Int) < ((8 : Nat) : Int) := by omega
      obtain ⟨s1, hs1e⟩ : ∃ x, bl d.seen d b = x := ⟨_, rfl⟩
      obtain ⟨s2, hs2e⟩ : ∃ x, bl d.sure d b = x := ⟨_, rfl⟩
      rw [hs1e] at hl1 hu1 hs1
      rw [hs2e] at hl2 hu2 hs2
      obtain ⟨y1, hy1⟩ := list_get (xs := s1) (i := b) (by omega)
      obtain ⟨y2, hy2⟩ := list_get (xs := s2) (i := b) (by omega)
      have hz1 : AV.sizeL ((s1.map arrAV).take b) = b * 256 := hu1.sizeL_take (by simp; omega)
      have hz2 : AV.sizeL ((s2.map arrAV).take b) = b * 256 := hu2.sizeL_take (by simp; omega)
      simp -dsimp -implicitDefEqProofs only [↓j0, ↓j1, ↓j7, ↓j9, ↓j12, ↓j13, ↓j14, ↓j15, j17, j18, j20, ↓j25, ↓j29, ↓j30, j33, ↓j38, ↓j48, ↓j53, ↓j89, ↓j145, ↓j146, ↓j147, ↓j149, j159, j171, ↓reduceIte, Nat.reduceEqDiff, j185, dgSt, dgT, dgX, hs1e, hs2e, f1]
      refine CallTo.disk1 rfl fok13 (by simp -dsimp -implicitDefEqProofs only [↓j25, ↓j29, j173, j174, ↓reduceIte, Nat.reduceEqDiff]) (fun y hy => (args_i y hy).2) hse subX (fun h => h) (fun h => h) ?_
      have hyl1 : y1.length = 256 := bl_256 hd.ok.seen d (k := b) y1 (by rw [hs1e]; exact List.mem_of_getElem? hy1)
      have hyl2 : y2.length = 256 := bl_256 hd.ok.sure d (k := b) y2 (by rw [hs2e]; exact List.mem_of_getElem? hy2)
      have hst1 : (s1.map arrAV).set b (arrAV (d.readL d.seen ((b : Nat) : Int))) = (bl d.seen d (b + 1)).map arrAV := by rw [← hs1, List.map_set]
      have hst2 : (s2.map arrAV).set b (arrAV (d.readL d.sure ((b : Nat) : Int))) = (bl d.sure d (b + 1)).map arrAV := by rw [← hs2, List.map_set]
      simp -dsimp -implicitDefEqProofs only [↓j0, ↓j1, ↓j7, ↓j15, j17, j18, j19, j20, j21, j22, j23, ↓j25, ↓j27, ↓j29, ↓j38, ↓j44, ↓j46, ↓j53, ↓j78, ↓j94, ↓j145, ↓j146, ↓j153, AV.proj, AV.offOf, AV.upd, AV.size, AV.layable, j170, j171, j177, ↓reduceIte, Nat.reduceEqDiff, j182, j188, j189, j196, j197, j206, j207, j208, j240, j280, j320, hb9, hy1, hz1, hyl1, hrl1, hst1, dels_cons_dg, dels_dgX, dels_empty, get_dg, del_dg]
      refine CallTo.disk1 rfl fok16 (by simp -dsimp -implicitDefEqProofs only [↓j25, ↓j29, j173, j174, ↓reduceIte, Nat.reduceEqDiff]) (fun y hy => (args_i y hy).2) hsu (subC (by omega) subX) (fun h => h) (fun h => h) ?_
      simp -dsimp -implicitDefEqProofs only [↓j0, ↓j1, ↓j7, ↓j15, j17, j18, j19, j20, j21, j22, j23, ↓j25, ↓j27, ↓j29, ↓j30, j33, ↓j38, ↓j39, ↓j44, ↓j46, ↓j48, ↓j78, ↓j89, ↓j94, ↓j145, ↓j146, ↓j153, j154, AV.proj, AV.offOf, AV.upd, AV.size, AV.layable, j170, j171, j177, ↓reduceIte, Nat.reduceEqDiff, j182, j185, j188, j189, j196, j197, j206, j207, j208, j240, j280, j320, hb9, hy2, hz2, hyl2, hrl2, hst2, dels_cons_dg, dels_dgX, dels_empty, get_dg, del_dg]
      refine ⟨n2 - 1, dgSt o d (b + 1), by omega, ⟨b + 1, by omega, rfl⟩, Wk.mk (SubT.spec (t0 := dgT (b + 1)) (by simp -dsimp -implicitDefEqProofs only [↓j25, ↓reduceIte, Nat.reduceEqDiff, j182, j202, j203, dgT, hw2] <;> rfl)) (fun n c h => ?_) (Nat.le_refl _) rfl⟩
      rw [← h]
      exact get_front (get_dg0 (show _ ≠ _ ∧ _ by decide))
    have hb8' : b = 8 := by omega
    subst hb8'
    have f1 : decide (((8 : Nat) : Int) < 8) = false := rfl
    have hpe := pending_at (h999 107 (by omega)) d
    simp -dsimp -implicitDefEqProofs only [↓j0, ↓j1, ↓j7, ↓j11, ↓j12, ↓j13, ↓j15, j17, j18, j20, ↓j25, ↓j29, ↓j30, j33, ↓j38, ↓j48, ↓j53, ↓j89, ↓j145, ↓j146, ↓j148, ↓j149, j159, j171, ↓reduceIte, Nat.reduceEqDiff, j185, dgSt, dgT, dgX, f1]
    refine CallTo.disk1 rfl fok17 (by simp -dsimp -implicitDefEqProofs only [↓j25, ↓j29, j173, j174, ↓reduceIte]) (fun y hy => by simp at hy) hpe subX (fun h => h) (fun h => h) ?_
    simp -dsimp -implicitDefEqProofs only [↓j0, ↓j1, ↓j7, ↓j12, ↓j15, j17, j18, j20, ↓j25, ↓j29, ↓j30, j33, ↓j38, ↓j39, ↓j53, ↓j74, j125, j126, j127, j128, ↓j145, ↓j146, partsAV, AV.size, AV.sizeL, AV.layable, j163, j167, j169, j170, j171, j179, j180, ↓reduceIte, Nat.reduceAdd, Nat.reduceMul, Nat.reduceEqDiff, Nat.reduceLeDiff, j182, j183, j188, j189, j213, j214, j215, j217, Nat.reducePow, List.replicate, j234, j470, dels_cons_dg, dels_dgX, dels_empty]
    refine plan_one hd.ok hd.fails rfl (by simp -dsimp -implicitDefEqProofs only [↓j25, ↓j29, ↓j30, j33, j173, j174, ↓reduceIte, Nat.reduceEqDiff]) ?_
    obtain ⟨d', hd'⟩ : ∃ d', d.planP [1] 0 = d' := ⟨_, rfl⟩
    have hd0 : d'.Ok := by rw [← hd']; exact plan_ok hd.ok (fun f hf => by simp at hf; subst hf; exact ⟨by omega, by omega⟩) 0
    have hdo := do_at (a := 100) (b := 101) (s := 102) (q := 108) (m := 104) (x := 109) ⟨by decide⟩ d' hd0 (by rw [← hd']; show (0 : Nat) < _; decide) (by rw [← hd']; have := hd.pend; show d.pend.length + 4 ≤ _; omega) o hk
    have hf3 := doP_failP hd (o := o) (by omega) (by omega) (by omega)
    rw [hd'] at hf3
    obtain ⟨e, he⟩ : ∃ e, ({ d' with ops := 1 } : DS) = e := ⟨_, rfl⟩
    rw [he] at hf3
    have hm4 : ¬ (o.kind = 1 ∧ (d'.writeP o.block (filL o.byte 256)).2.pend ≠ d'.pend) := fun h => by
      have := hf3
      unfold DS.doP at this
      rw [if_neg (by omega), if_pos h.1] at this
      have h2 := congrArg (fun r => r.2.2.pend) this
      exact h.2 (by show _ = _; rw [show (d'.writeP o.block (filL o.byte 256)).2.pend = e.pend from h2, ← he])
    rw [if_neg (show ¬ o.kind = 4 by omega), if_neg (show ¬ o.kind = 3 by omega), if_neg hm4, hf3] at hdo
    have heo : e.Ok := by
      have := (doP_ok hd0 (by rw [← hd']; show (0 : Nat) < _; decide) (by rw [← hd']; have := hd.pend; show d.pend.length + 4 ≤ _; omega) hk).1
      rw [hf3] at this
      exact this
    have hzl := zb_len 256
    simp -dsimp -implicitDefEqProofs only [↓j0, ↓j1, ↓j7, ↓j12, ↓j15, j17, j18, j20, j21, j22, j23, ↓j25, ↓j27, ↓j29, ↓j38, ↓j43, ↓j53, ↓j76, j129, ↓j145, ↓j146, ↓j153, AV.proj, AV.offOf, AV.size, AV.sizeL, j171, ↓reduceIte, Nat.reduceAdd, Nat.reduceEqDiff, j182, j188, j189, j197, j293, j294, hd', dels_cons_dg, dels_dgX, dels_empty, get_dg, del_dg]
    refine CallTo.disk1 rfl fok22 (by simp -dsimp -implicitDefEqProofs only [↓j25, ↓j29, j173, j174, ↓reduceIte, Nat.reduceEqDiff]) (fun y hy => (args_o y hy).2) hdo subX (by rw [← he]; exact fun h => h) (by rw [← he]; exact fun h => h) ?_
    simp -dsimp -implicitDefEqProofs only [↓j0, ↓j1, ↓j7, ↓j12, ↓j14, ↓j15, ↓j16, j17, j18, j19, j20, j21, j22, j23, ↓j25, ↓j27, ↓j29, ↓j30, j33, ↓j38, ↓j39, ↓j41, ↓j44, ↓j57, ↓j78, j85, ↓j145, ↓j146, ↓j153, AV.proj, AV.offOf, AV.upd, AV.size, AV.layable, j163, j164, j170, j171, ↓reduceIte, Nat.reduceAdd, Nat.reduceEqDiff, j182, j188, j189, j240, j280, j441, hzl, dels_cons_dg, dels_dgX, dels_empty, del_dg]
    refine AWp.loopR (Z := Z) mixed hZ (by kernel_rfl) (fun n s => ∃ b, b + n = 8 ∧ s = dhSt o d e b) (n0 := 8) (s0 := dhSt o d e 0) ?_ ⟨0, by omega, rfl⟩ ?_ rfl
    · refine Wk.mk (SubT.spec (t0 := dhT d 0) (by simp -dsimp -implicitDefEqProofs only [↓j25, j179, ↓reduceIte, Nat.reduceEqDiff, j182, j183, j184, j202, j203, j209, dhT] <;> exact ⟨rfl, rfl⟩)) (fun n c h => ?_) (Nat.le_refl _) rfl
      rw [← h]
      exact get_front (get_dg0 (show _ ≠ _ ∧ _ by decide))
    rintro n3 s ⟨b, hb, rfl⟩
    refine ⟨rfl, ?_⟩
    rcases Nat.lt_or_ge b 8 with hb8 | hb8
    · have hw2 : IntKind.i64.wrap ((b : Int) + 1) = ((b + 1 : Nat) : Int) := by rw [wrap_i64 (by omega) (by omega)]; omega
      have f1 : decide ((b : Int) < 8) = true := decide_eq_true (by omega)
      have hse := seen_at (a := 100) (b := 101) (s := 102) (q := 108) (m := 104) (x := 110) ⟨by decide⟩ e heo ((b : Nat) : Int)
      have hsu := sure_at (a := 100) (b := 101) (s := 102) (q := 108) (m := 104) (x := 110) ⟨by decide⟩ e heo ((b : Nat) : Int)
      rw [show e.readL e.seen ((b : Nat) : Int) = d.readL d.seen ((b : Nat) : Int) by rw [← he, ← hd']; rfl] at hse
      rw [show e.readL e.sure ((b : Nat) : Int) = d.readL d.sure ((b : Nat) : Int) by rw [← he, ← hd']; rfl] at hsu
      have hrl1 := readL_256 hd.ok.seen d ((b : Nat) : Int)
      have hrl2 := readL_256 hd.ok.sure d ((b : Nat) : Int)
      have hb9 : (b : Int) < ((8 : Nat) : Int) := by omega
      have hy1 := bl_get d.seen d hb8
      have hy2 := bl_get d.sure d hb8
      have hl1 := bl_len d.seen d (show 8 ≤ 8 by omega)
      have hl2 := bl_len d.sure d (show 8 ≤ 8 by omega)
      have hu1 := unif_blk (bl_256 hd.ok.seen d (k := 8))
      have hu2 := unif_blk (bl_256 hd.ok.sure d (k := 8))
      have hz1 : AV.sizeL (((bl d.seen d 8).map arrAV).take b) = b * 256 := hu1.sizeL_take (by simp; omega)
      have hz2 : AV.sizeL (((bl d.sure d 8).map arrAV).take b) = b * 256 := hu2.sizeL_take (by simp; omega)
      obtain ⟨x1, hx1⟩ : ∃ x, d.readL d.seen ((b : Nat) : Int) = x := ⟨_, rfl⟩
      obtain ⟨x2, hx2⟩ : ∃ x, d.readL d.sure ((b : Nat) : Int) = x := ⟨_, rfl⟩
      rw [hx1] at hse hrl1 hy1
      rw [hx2] at hsu hrl2 hy2
      have hce1 := cellsEq_bytes (l := x1) (k := x1) rfl
      have hkb1 := kinds_bytes hrl1
      have hbb1 : (x1 == x1) = true := beq_self_eq_true _
      rw [hbb1] at hce1
      have hce2 := cellsEq_bytes (l := x2) (k := x2) rfl
      have hkb2 := kinds_bytes hrl2
      have hbb2 : (x2 == x2) = true := beq_self_eq_true _
      rw [hbb2] at hce2
      simp -dsimp -implicitDefEqProofs only [↓j0, ↓j1, ↓j4, ↓j7, ↓j8, ↓j9, ↓j12, ↓j13, ↓j14, ↓j15, j17, j18, j20, j24, ↓j25, ↓j29, ↓j30, j33, ↓j38, ↓j48, ↓j53, ↓j89, ↓j145, ↓j146, ↓j147, ↓j149, j159, j170, j171, j172, j174, ↓reduceIte, Nat.reduceEqDiff, j185, dhSt, dhT, dgX, f1]
      refine CallTo.disk1 rfl fok13 (by simp -dsimp -implicitDefEqProofs only [↓j25, ↓j29, j173, j174, ↓reduceIte, Nat.reduceEqDiff]) (fun y hy => (args_i y hy).2) hse subX (fun h => h) (fun h => h) ?_
      simp -dsimp -implicitDefEqProofs only [↓j4, ↓j5, j17, j18, j20, j24, ↓j25, ↓j27, ↓j29, ↓j38, ↓j43, ↓j46, ↓j48, ↓j53, ↓j76, ↓j91, ↓j94, j129, ↓j145, ↓j146, ↓j148, ↓j151, ↓j153, AV.proj, AV.offOf, j163, j164, j170, j171, j172, j174, j175, j177, ↓reduceIte, Nat.reduceEqDiff, j182, j188, j189, j193, j196, j197, j206, j207, j208, j212, j240, j241, j280, j281, j283, j284, j320, hb9, hy1, hz1, hrl1, hce1, hkb1, dels_cons_dg, dels_dgX, dels_empty, get_dg]
      refine CallTo.disk1 rfl fok16 (by simp -dsimp -implicitDefEqProofs only [↓j25, ↓j29, j173, j174, ↓reduceIte, Nat.reduceEqDiff]) (fun y hy => (args_i y hy).2) hsu subX (fun h => h) (fun h => h) ?_
      simp -dsimp -implicitDefEqProofs only [↓j3, ↓j4, ↓j5, j17, j18, j20, j24, ↓j25, ↓j27, ↓j29, ↓j30, j32, ↓j38, ↓j40, ↓j43, ↓j46, ↓j48, ↓j76, j83, ↓j91, ↓j94, j129, ↓j145, ↓j146, ↓j148, ↓j151, ↓j153, AV.proj, AV.offOf, j163, j164, j170, j171, j172, j174, j175, j177, ↓reduceIte, Nat.reduceEqDiff, j182, j188, j189, j193, j195, j196, j197, j206, j207, j208, j212, j240, j241, j280, j281, j283, j284, j320, hb9, hy2, hz2, hrl2, hce2, hkb2, dels_cons_dg, dels_dgX, dels_empty, get_dg]
      refine ⟨confOk_sub [([],[]),([],[]),([],[100, 101, 102, 108, 104, 102, 108, 104]),([],[]),([],[]),([105],[]),([],[]),([],[]),([],[]),([],[]),([],[100, 101, 102, 108, 104, 102, 108, 104]),([],[]),([],[]),([106],[]),([],[]),([],[])] ⟨fsub_refl _, fsub_refl _, fsub_disk, fsub_refl _, fsub_refl _, fsub_refl _, fsub_refl _, fsub_refl _, fsub_refl _, fsub_refl _, fsub_disk, fsub_refl _, fsub_refl _, fsub_refl _, fsub_refl _, fsub_refl _, trivial⟩ (by kernel_rfl), ?_⟩
      simp -dsimp -implicitDefEqProofs only [↓j0, ↓j1, ↓j7, ↓j9, ↓j13, ↓j15, j17, j18, j20, ↓j25, ↓j29, ↓j30, j33, ↓j38, ↓j39, ↓j48, ↓j89, ↓j145, ↓j146, ↓j148, ↓j149, j154, j171, ↓reduceIte, Nat.reduceEqDiff, j185]
      exact ⟨n3 - 1, dhSt o d e (b + 1), by omega, ⟨b + 1, by omega, rfl⟩, Wk.mk (SubT.spec (t0 := dhT d (b + 1)) (by simp -dsimp -implicitDefEqProofs only [↓j25, ↓reduceIte, Nat.reduceEqDiff, j182, j202, j203, dhT, hw2] <;> rfl)) (fun n c h => h) (Nat.le_refl _) rfl⟩
    have hb8' : b = 8 := by omega
    subst hb8'
    have f1 : decide (((8 : Nat) : Int) < 8) = false := rfl
    have h110 : Six 100 101 102 108 104 110 := ⟨by decide⟩
    have hop := ops_at h110 e
    have hpe2 := pending_at h110 e
    have hdn := down_at h110 e
    rw [show e.ops = 1 by rw [← he]] at hop
    rw [show e.pend.length = d.pend.length by rw [← he, ← hd']; rfl] at hpe2
    rw [show e.down = false by rw [← he, ← hd']; exact hd.down] at hdn
    have hcz := cellsEq_bytes (l := zb 256) (k := zb 256) rfl
    have hkz := kinds_bytes hzl
    have hbz : (zb 256 == zb 256) = true := beq_self_eq_true _
    rw [hbz] at hcz
    simp -dsimp -implicitDefEqProofs only [↓j0, ↓j1, ↓j2, ↓j7, ↓j11, ↓j12, ↓j13, ↓j15, j17, j18, j20, ↓j25, ↓j27, ↓j29, ↓j30, j32, j33, ↓j38, ↓j40, ↓j43, ↓j48, ↓j53, ↓j54, ↓j76, j83, ↓j89, ↓j91, ↓j124, j125, j127, j129, ↓j145, ↓j146, ↓j147, ↓j148, ↓j149, ↓j150, ↓j153, j157, j159, partsAV, AV.proj, AV.offOf, AV.layable, j163, j164, j171, j175, ↓reduceIte, Nat.reduceEqDiff, j182, j185, j188, j189, j195, j211, j214, j218, j219, Int.reduceBEq, j240, j241, j280, j281, j283, j284, j466, dhSt, dhT, dgX, f1, hzl, hcz, hkz, get_dg]
    refine CallTo.disk1 rfl fok20 (by simp -dsimp -implicitDefEqProofs only [↓j25, ↓j29, j173, j174, ↓reduceIte]) (fun y hy => by simp at hy) hop subX (fun h => h) (fun h => h) ?_
    simp -dsimp -implicitDefEqProofs only [↓j1, ↓j2, j17, j18, j20, ↓j25, ↓j29, ↓j30, j32, j33, ↓j38, ↓j40, ↓j48, j83, ↓j89, ↓j145, ↓j146, ↓j147, ↓j150, j157, j163, j164, j171, j175, ↓reduceIte, Nat.reduceEqDiff, j182, j185, j188, j189, dels_cons_dg, dels_dgX, dels_empty]
    have t1 : (((1 : Nat) : Int) == 1) = true := rfl
    have t2 : ((d.pend.length : Int) == (d.pend.length : Int)) = true := beq_self_eq_true _
    simp -dsimp -implicitDefEqProofs only [↓j2, j17, j18, j20, ↓j25, ↓j29, ↓j38, ↓j53, ↓j145, ↓j147, ↓j150, j163, j164, j171, j175, ↓reduceIte, Nat.reduceEqDiff, t1]
    refine CallTo.disk1 rfl fok17 (by simp -dsimp -implicitDefEqProofs only [↓j25, ↓j29, j173, j174, ↓reduceIte]) (fun y hy => by simp at hy) hpe2 subX (fun h => h) (fun h => h) ?_
    simp -dsimp -implicitDefEqProofs only [↓j1, ↓j2, j17, j18, j20, ↓j25, ↓j29, ↓j30, j32, ↓j38, ↓j40, ↓j48, ↓j53, j83, ↓j89, ↓j145, ↓j146, ↓j147, ↓j150, j157, j163, j164, j171, j175, ↓reduceIte, Nat.reduceEqDiff, j182, j185, j188, j189, t2, dels_cons_dg, dels_dgX, dels_empty]
    refine CallTo.disk1 rfl fok21 (by simp -dsimp -implicitDefEqProofs only [↓j25, ↓j29, j173, j174, ↓reduceIte]) (fun y hy => by simp at hy) hdn subX (fun h => h) (fun h => h) ?_
    simp -dsimp -implicitDefEqProofs only [↓j1, ↓j2, j17, j18, j20, ↓j25, ↓j29, ↓j30, j32, ↓j38, ↓j40, ↓j53, ↓j55, j83, j84, ↓j145, ↓j147, ↓j150, j163, j164, j171, j175, ↓reduceIte, Nat.reduceEqDiff, j182, j188, j189, j194, dels_cons_dg, dels_dgX, dels_empty]
    refine CallTo.pure (args := []) rfl fok18 rfl nil0 awake_spec ?_
    simp -dsimp -implicitDefEqProofs only [↓j0, ↓j1, ↓j10, j17, j18, j20, ↓j25, ↓j29, ↓j30, j32, ↓j39, ↓j40, j83, ↓j145, j171, ↓reduceIte, Nat.reduceEqDiff]
    exact ret _ _ _ rfl
end Go.Proofs.Ytpnjllemklindaa
