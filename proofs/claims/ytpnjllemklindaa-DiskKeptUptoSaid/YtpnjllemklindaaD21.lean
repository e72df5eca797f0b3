/- The law DiskKept. -/
import Derived.Test.YtpnjllemklindaaD20
set_option linter.unusedVariables false
set_option linter.unusedSimpArgs false
namespace Go.Proofs.Ytpnjllemklindaa
open Go Go.RowKit

def kpT (l : List DOp) (a : Bool) (i : Nat) : Env := [(6, .int .i64 i), (5, .ptr 100 0 []), (0, opsAV l), (1, .bool a), (4, .bool false)]
def kpSt (l : List DOp) (a : Bool) (d : DS) (i : Nat) : St := ⟨103, kpT l a i, diskG d 100 101 102 103 104, 105⟩
theorem kp_on {l : List DOp} {a : Bool} {i : Nat} : onTL (fun k => k < 102) (kpT l a i) :=
  onTL_cons trivial (onTL_cons (show (100 : Nat) < 102 by decide) (onTL_cons (on_ops _ _) (onTL_cons trivial (onTL_cons trivial onTL_nil))))
theorem args_sb {l : List DOp} {a : Bool} : ∀ y, y ∈ [opsAV l, AV.bool a] → AV.on (fun _ => False) y ∧ ∀ vs, y ≠ .tuple vs := fun y hy => by
  simp only [List.mem_cons, List.not_mem_nil, or_false] at hy
  rcases hy with rfl | rfl
  · exact ⟨on_ops _ _, fun vs h => by cases h⟩
  · exact ⟨trivial, fun vs h => by cases h⟩
def keX (a b : List (List UInt8)) : Heap := [(106, .cells (.agg (b.map arrAV))), (105, .cells (.agg (a.map arrAV)))]
def keT (a : Bool) (k : Nat) : Env := [(9, .int .i64 k), (8, .ptr 106 0 []), (7, .ptr 105 0 []), (5, .ptr 100 0 []), (1, .bool a), (4, .bool false)]
def keSt (a : Bool) (d : DS) (k : Nat) : St := ⟨103, keT a k, diskG d 100 101 102 103 104 ++ keX (bl d.seen d k) (bl d.sure d k), 107⟩
def kfT (a : Bool) (n k : Nat) : Env := [(53, .int .i64 k), (52, .int .i64 n), (10, .sl 107 0 [] 0 n n 1), (8, .ptr 106 0 []), (7, .ptr 105 0 []), (5, .ptr 100 0 []), (1, .bool a), (4, .bool false)]
def kfL (a : Bool) (n k : Nat) : List AV := List.replicate k (AV.bool a) ++ List.replicate (n - k) (AV.bool false)
def kfSt (a : Bool) (d : DS) (n k : Nat) : St := ⟨103, kfT a n k, (107, .cells (.agg (kfL a n k))) :: (diskG d 100 101 102 103 104 ++ keX (bl d.seen d 8) (bl d.sure d 8)), 108⟩
def kgT (a : Bool) (k : Nat) : Env := [(12, .int .i64 k), (8, .ptr 106 0 []), (7, .ptr 105 0 []), (5, .ptr 100 0 []), (1, .bool a), (4, .bool false)]
def kgD (d : DS) (a : Bool) (k : Nat) : DS := { d.crashP (List.replicate d.pend.length a) with ops := k }
def kgSt (a : Bool) (d : DS) (k : Nat) : St := ⟨103, kgT a k, diskG (kgD d a k) 100 101 108 103 104 ++ keX (bl d.seen d 8) (bl d.sure d 8), 109⟩
theorem kfL_unif (a : Bool) (n k : Nat) : Unif 1 (kfL a n k) := fun x hx => by
  simp only [kfL, List.mem_append, List.mem_replicate] at hx
  rcases hx with ⟨_, rfl⟩ | ⟨_, rfl⟩ <;> rfl
theorem kfL_len (a : Bool) {n k : Nat} (h : k ≤ n) : (kfL a n k).length = n := by simp [kfL]; omega
theorem kfL_set (a : Bool) {n k : Nat} (h : k < n) : (kfL a n k).set k (AV.bool a) = kfL a n (k + 1) := by
  unfold kfL
  rw [List.set_append_right _ _ (by simp), List.length_replicate, Nat.sub_self, show n - k = (n - (k + 1)) + 1 by omega, List.replicate_succ, List.replicate_succ']
  simp
theorem crash_one {o : Oper} {d : DS} {k : Nat} {a : Bool} {t : Env} {X : Heap} {K : Eff → Nat → Prop} {ars : Array Operand} {ts : Array TypeId} (hd : d.Ok) (hk : d.pend.length ≤ 1000000)
    (ho : o.op = .call { callee := .value (.func 14), args := ars, argTypes := ts }) (hargs : ars.toList.map (St.ev ⟨k, t, (107, .cells (.agg (kfL a d.pend.length d.pend.length))) :: (diskG d 100 101 102 103 104 ++ X), 108⟩) = [some (.ptr 100 0 []), some (.sl 107 0 [] 0 d.pend.length d.pend.length 1)])
    (hK : K ⟨.tuple [], [], 107 :: (diskG d 100 101 102 103 104).map (·.1), diskG (kgD d a 0) 100 101 108 103 104⟩ 109) : CallTo Try.prog o ⟨k, t, (107, .cells (.agg (kfL a d.pend.length d.pend.length))) :: (diskG d 100 101 102 103 104 ++ X), 108⟩ K := by
  have hr := crash_at (a := 100) (b := 101) (s := 102) (q := 103) (m := 104) (x := 108) ⟨by decide⟩ d hd (List.replicate d.pend.length a) (by rw [List.length_replicate]; omega)
  have n107 : 107 ∉ (diskG d 100 101 102 103 104).map (·.1) := fun h => by
    rcases names_diskG.1 h with h | h | h | ⟨h, _⟩ | ⟨h, _⟩ <;> omega
  have hkf : kfL a d.pend.length d.pend.length = (List.replicate d.pend.length a).map AV.bool := by simp [kfL]
  have hfz := Frz.sl (K := fun n => n ∈ (diskG d 100 101 102 103 104).map (·.1)) (H := [(107, .cells (.agg (kfL a d.pend.length d.pend.length)))]) 107 0 [] 0 d.pend.length d.pend.length 1 _ (kfL a d.pend.length d.pend.length) rfl n107 rfl rfl (by rw [kfL_len a (Nat.le_refl _)]; omega) (kfL_unif _ _ _) (fun x hx => by
    have := List.mem_of_mem_drop (List.mem_of_mem_take hx)
    rw [hkf] at this
    obtain ⟨_, _, rfl⟩ := List.mem_map.1 this
    trivial)
  rw [List.drop_zero, List.take_of_length_le (by rw [kfL_len a (Nat.le_refl _)]; omega), hkf] at hfz
  rw [hkf] at hargs ⊢
  have hbv : AV.vsl ((List.replicate d.pend.length a).map AV.bool) d.pend.length = boolsAV (List.replicate d.pend.length a) := by rw [boolsAV, List.length_replicate]
  rw [hbv] at hfz
  have hl := hr.lendH [(107, .cells (.agg ((List.replicate d.pend.length a).map AV.bool)))] (args' := [.ptr 100 0 [], .sl 107 0 [] 0 d.pend.length d.pend.length 1]) ⟨.same _ (names_diskG.2 (.inl rfl)), hfz, trivial⟩ (fun n hn => by
    simp only [List.map_cons, List.map_nil, List.mem_singleton] at hn
    subst hn
    exact ⟨n107, get_dg0 (show _ ≠ _ ∧ _ by decide)⟩)
  refine CallTo.gen (args := [.ptr 100 0 [], .sl 107 0 [] 0 d.pend.length d.pend.length 1]) ((107, .cells (.agg ((List.replicate d.pend.length a).map AV.bool))) :: diskG d 100 101 102 103 104) (diskG (kgD d a 0) 100 101 108 103 104) 109 ho fok14 hargs (fun x hx vs h => by subst h; simp at hx) hl (fun n b h => ?_) ⟨by show (108 : Nat) ≤ 109; omega, fun n x h hn => ?_⟩ hK
  · simp only [Heap.get] at h ⊢
    by_cases h13 : n = 107
    · rw [if_pos h13] at h ⊢; exact h
    · rw [if_neg h13] at h ⊢
      rw [get_append, h]
  · simp only [List.map_cons, List.mem_cons, not_or] at hn
    rcases names_diskG.1 (get_map h) with h | h | h | ⟨h, h2⟩ | ⟨h, h2⟩
    · exact absurd (names_diskG.2 (.inl h)) hn.2
    · exact absurd (names_diskG.2 (.inr (.inl h))) hn.2
    · show 108 ≤ n ∧ n < 109; omega
    · exact absurd rfl h2
    · exact absurd rfl h2
theorem kg_read {i : Nat} {d : DS} (h : Kp i d) (a : Bool) {b : Nat} (hb : b < 8) : (kgD d a b).readP ((b : Nat) : Int) = ((kgD d a b).readL (if a then d.seen else d.sure) ((b : Nat) : Int), 0, kgD d a (b + 1)) := by
  have hn : (kgD d a b).n = 8 := h.n8
  have hop : (kgD d a b).opP = (0, kgD d a (b + 1)) := rfl
  have hdn : (kgD d a b).down = false := rfl
  unfold DS.readP
  rw [hdn, hn, if_neg (by decide), if_neg (by omega), hop]
  unfold DS.readL
  rw [hn, if_neg (by omega)]
  show (gatherP (d.crashP (List.replicate d.pend.length a)).seen _, 0, _) = _
  rw [kp_read h, if_neg (show ¬ (((b : Nat) : Int) < 0 ∨ ((8 : Nat) : Int) ≤ ((b : Nat) : Int)) by omega)]
theorem kg_drop {e : DS} {A B : List (List UInt8)} {x : ABlk} {n : Nat} {c : ABlk} (h : Heap.get (diskG e 100 101 108 103 104 ++ keX A B) n = some c) : Heap.get ((109, x) :: (diskG e 100 101 108 103 104 ++ keX A B)) n = some c := by
  by_cases hn : n = 109
  · subst hn
    rw [get_append, get_dg0 (show _ ≠ _ ∧ _ by decide)] at h
    simp [keX, Heap.get] at h
  · simp only [Heap.get, if_neg hn]; exact h
theorem kg_onT {a : Bool} {k : Nat} : onT (fun m => m < 109) (kgT a k) :=
  (onTL_cons trivial (onTL_cons (show (106 : Nat) < 109 by decide) (onTL_cons (show (105 : Nat) < 109 by decide) (onTL_cons (show (100 : Nat) < 109 by decide) (onTL_cons trivial (onTL_cons trivial onTL_nil))))) : onTL (fun m => m < 109) (kgT a k)).onT
theorem kg_onH {e : DS} {A B : List (List UInt8)} : onH (fun m => m < 109) (diskG e 100 101 108 103 104 ++ keX A B) := fun k c hc => by
  rw [get_append] at hc
  cases hg : Heap.get (diskG e 100 101 108 103 104) k with
  | some x =>
    rw [hg] at hc; cases hc
    exact diskG_on (S := fun m => m < 109) (by decide) (by decide) (by decide) (by decide) (by decide) k _ hg
  | none =>
    rw [hg] at hc
    exact (onHL_cons (show (106 : Nat) < 109 by decide) (on_blk _ _) (onHL_cons (show (105 : Nat) < 109 by decide) (on_blk _ _) onHL_nil) : onHL (fun m => m < 109) (keX A B)).onH k c hc
theorem diskKept_spec (l : List DOp) (a : Bool) (hl : l.length ≤ 9223372036854775807) (hlk : ∀ x, x ∈ l → x.Ok) : ACall Try.prog 5 [opsAV l, .bool a] [] (.bool true) [] := by
  refine ACall.run (Z := Z) (N := 103) mixed hZ Try.func5 rfl rfl (by kernel_rfl) (by simp) args_sb 100 ?_
  have ret : ∀ (t : Env) (H : Heap) (m : Nat), look t 4 = some (.bool true) → Final Try.prog Try.f5 (.bool true) [] .ret ⟨103, t, H, m⟩ := fun t H m h =>
    Final.one (.inr rfl) (r := .tmp 4) rfl ⟨h, fun vs h => by cases h⟩ (fun vs h => by cases h) (fun vs h => by cases h) (.same _ trivial)
  have h999 : ∀ x, 105 ≤ x → Six 100 101 102 103 104 x := six
  have nil0 : ∀ x : AV, x ∈ ([] : List AV) → ∀ vs, x ≠ .tuple vs := fun x hx => by simp at hx
  simp -dsimp -implicitDefEqProofs only [↓j0, ↓j1, ↓j7, ↓j12, ↓j15, j17, j18, j20, ↓j30, j32, ↓j39, ↓j53, ↓j145, argEnv, j172, j196]
  refine CallTo.gen (args := [.int .i64 ((8 : Nat) : Int)]) [] (diskG (DS.new 8) 100 101 102 103 104) 105 rfl fok9 (by simp -dsimp -implicitDefEqProofs only [↓j30, j33, j173, j174]; rfl) (fun x hx => (args_i x hx).2) (new_at 8 (by omega) (by omega)) (fun n b h => by simp [Heap.get] at h) ⟨by show 100 ≤ 105; omega, new_put⟩ ?_
  simp -dsimp -implicitDefEqProofs only [↓j0, ↓j1, ↓j7, ↓j9, ↓j12, ↓j13, ↓j14, ↓j15, ↓j16, j17, j18, j20, ↓j25, ↓j29, ↓j30, j33, j35, ↓j38, ↓j39, ↓j48, ↓j145, ↓j146, ↓j148, ↓j149, j171, j172, j174, ↓reduceIte, j211, ↓j235, j271]
  refine AWp.loopR (Z := Z) mixed hZ (by kernel_rfl) (fun n s => ∃ i d, i + n = min l.length 40 ∧ Kp i d ∧ s = kpSt l a d i) (n0 := min l.length 40) (s0 := kpSt l a (DS.new 8) 0) ?_ ⟨0, DS.new 8, by omega, kp_new, rfl⟩ ?_ rfl
  · exact wkT (by simp -dsimp -implicitDefEqProofs only [↓j25, j179, reduceCtorEq, ↓reduceIte, Nat.reduceEqDiff, j182, j183, j184, j202, j203, j209, kpT] <;> simp) (by omega)
  rintro n s ⟨i, d, hi, hd, rfl⟩
  refine ⟨rfl, ?_⟩
  by_cases hlt : i < l.length ∧ i < 40
  · have d1 : decide ((i : Int) < (l.length : Int)) = true := decide_eq_true (by omega)
    have d2 : decide ((i : Int) < 40) = true := decide_eq_true (by omega)
    have hlt1 : (i : Int) < (l.length : Int) := by omega
    have hw : IntKind.i64.wrap ((i : Int) + 1) = ((i + 1 : Nat) : Int) := by rw [wrap_i64 (by omega) (by omega)]; omega
    obtain ⟨y, hy⟩ := list_get (xs := l) (i := i) (by omega)
    have hyk := hlk y (List.mem_of_getElem? hy)
    have hsz : AV.sizeL ((l.map DOp.av).take i) = i * 5 := (unif_op l).sizeL_take (by simp; omega)
    have ho := hd.ops
    have hp := hd.pend
    have hdo := do_at (six 105 (by omega)) d hd.ok (by omega) (by omega) y hyk
    have hnx := kp_do hd (by omega) hyk
    obtain ⟨s', hs⟩ : ∃ s', (if y.kind = 4 then 105 else 102) = s' := ⟨_, rfl⟩
    obtain ⟨q', hq⟩ : ∃ q', (if y.kind = 3 then 105 else 103) = q' := ⟨_, rfl⟩
    obtain ⟨m', hm⟩ : ∃ m', (if y.kind = 1 ∧ (d.writeP y.block (filL y.byte 256)).2.pend ≠ d.pend then 105 else 104) = m' := ⟨_, rfl⟩
    obtain ⟨n1, n2, n3, n4, n5⟩ := doP_names3 hs hq hm (by omega)
    rw [hs, hq, hm] at hdo
    obtain ⟨⟨x, c, e⟩, hr⟩ : ∃ r, d.doP y = r := ⟨_, rfl⟩
    rw [hr] at hdo hnx n2 n3
    simp -dsimp -implicitDefEqProofs only [↓j0, ↓j1, ↓j2, ↓j7, ↓j9, ↓j12, ↓j13, ↓j14, ↓j15, j17, j18, j20, ↓j25, ↓j29, ↓j30, j32, j33, ↓j38, ↓j40, ↓j43, ↓j46, ↓j48, ↓j53, ↓j58, ↓j62, ↓j77, j83, ↓j89, ↓j92, j129, j142, ↓j145, ↓j146, ↓j147, ↓j149, ↓j150, j159, AV.proj, AV.offOf, AV.size, AV.sizeL, j163, j164, j171, j175, j177, reduceCtorEq, ↓reduceIte, Nat.reduceAdd, Nat.reduceEqDiff, j182, j185, j191, j197, j206, j207, j208, j287, j293, j294, j500, kpSt, kpT, d2, hlt1, hy, hsz]
    refine CallTo.disk 106 rfl fok22 (by simp -dsimp -implicitDefEqProofs only [↓j25, ↓j29, j173, j174, ↓reduceIte, Nat.reduceEqDiff]) (fun z hz => (args_o z hz).2) hdo sub0 (by omega) n1 n2 n3 ?_
    simp -dsimp -implicitDefEqProofs only [↓j0, ↓j1, ↓j7, ↓j15, j17, j18, j20, ↓j25, ↓j29, ↓j30, j33, ↓j38, ↓j39, ↓j48, ↓j89, ↓j145, ↓j146, j154, j171, j172, ↓reduceIte, Nat.reduceEqDiff, j185, dels_dg0]
    refine ⟨n - 1, kpSt l a e (i + 1), by omega, ⟨i + 1, e, by omega, hnx, rfl⟩, Wk.trans (wkT (t0 := kpT l a (i + 1)) (by simp -dsimp -implicitDefEqProofs only [↓j25, reduceCtorEq, ↓reduceIte, Nat.reduceEqDiff, j182, j202, j203, kpT, hw] <;> simp) (Nat.le_refl _)) (Wk.disk0 n4 n5 kp_on)⟩
  have hi30 : i ≤ 40 := by omega
  have hex : decide ((i : Int) < (l.length : Int)) = false ∧ decide ((i : Int) < 41) = true ∨ decide ((i : Int) < (l.length : Int)) = true ∧ decide ((i : Int) < 40) = false := by
    by_cases h : i < l.length
    · exact .inr ⟨decide_eq_true (by omega), decide_eq_false (by omega)⟩
    · exact .inl ⟨decide_eq_false (by omega), decide_eq_true (by omega)⟩
  rcases hex with ⟨d1, d2⟩ | ⟨d1, d2⟩
  all_goals
    simp -dsimp -implicitDefEqProofs only [↓j0, ↓j1, ↓j2, ↓j7, ↓j11, ↓j12, ↓j13, ↓j14, ↓j15, ↓j16, j17, j18, j20, ↓j25, ↓j29, ↓j30, j32, j33, ↓j38, ↓j39, ↓j40, ↓j41, ↓j48, ↓j58, ↓j62, j82, j83, ↓j89, j142, ↓j145, ↓j146, ↓j147, ↓j148, ↓j149, ↓j150, j159, j163, j164, j170, j171, j175, reduceCtorEq, ↓reduceIte, Nat.reduceAdd, Nat.reduceEqDiff, j185, List.replicate, j445, j500, kpSt, kpT, d1, d2]
    refine AWp.loopR (Z := Z) mixed hZ (by kernel_rfl) (fun n s => ∃ b, b + n = 8 ∧ s = keSt a d b) (n0 := 8) (s0 := keSt a d 0) ?_ ⟨0, by omega, rfl⟩ ?_ rfl
    · refine Wk.mk (SubT.spec (t0 := keT a 0) (by simp -dsimp -implicitDefEqProofs only [↓j25, j179, reduceCtorEq, ↓reduceIte, Nat.reduceEqDiff, j182, j183, j184, j202, j203, j209, keT] <;> rfl)) (fun n c h => ?_) (Nat.le_refl _) rfl
      rw [← h]
      have := get_front2 (X := []) (n := n) (c := .cells (.agg ((bl d.sure d 0).map arrAV))) (b := .cells (.agg ((bl d.seen d 0).map arrAV))) (get_dg0 (d := d) (a := 100) (b := 101) (s := 102) (q := 103) (m := 104) (n := 106) (show _ ≠ _ ∧ _ by decide)) (get_dg0 (d := d) (a := 100) (b := 101) (s := 102) (q := 103) (m := 104) (n := 105) (show _ ≠ _ ∧ _ by decide))
      rw [List.append_nil] at this
      exact this
    rintro n2 s ⟨b, hb, rfl⟩
    refine ⟨rfl, ?_⟩
    have hl1 := bl_len d.seen d (show b ≤ 8 by omega)
    have hl2 := bl_len d.sure d (show b ≤ 8 by omega)
    have hu1 := unif_blk (bl_256 hd.ok.seen d (k := b))
    have hu2 := unif_blk (bl_256 hd.ok.sure d (k := b))
    rcases Nat.lt_or_ge b 8 with hb8 | hb8
    · have hs1 := bl_set d.seen d hb8
      have hs2 := bl_set d.sure d hb8
      have hw2 : IntKind.i64.wrap ((b : Int) + 1) = ((b + 1 : Nat) : Int) := by rw [wrap_i64 (by omega) (by omega)]; omega
      have f1 : decide ((b : Int) < 8) = true := decide_eq_true (by omega)
      have hse := seen_at (h999 107 (by omega)) d hd.ok ((b : Nat) : Int)
      have hsu := sure_at (h999 107 (by omega)) d hd.ok ((b : Nat) : Int)
      have hrl1 := readL_256 hd.ok.seen d ((b : Nat) : Int)
      have hrl2 := readL_256 hd.ok.sure d ((b : Nat) : Int)
      have hb9 : (b : Int) < ((8 : Nat) : Int) := by omega
      obtain ⟨s1, hs1e⟩ : ∃ x, bl d.seen d b = x := ⟨_, rfl⟩
      obtain ⟨s2, hs2e⟩ : ∃ x, bl d.sure d b = x := ⟨_, rfl⟩
      rw [hs1e] at hl1 hu1 hs1
      rw [hs2e] at hl2 hu2 hs2
      obtain ⟨y1, hy1⟩ := list_get (xs := s1) (i := b) (by omega)
      obtain ⟨y2, hy2⟩ := list_get (xs := s2) (i := b) (by omega)
      have hz1 : AV.sizeL ((s1.map arrAV).take b) = b * 256 := hu1.sizeL_take (by simp; omega)
      have hz2 : AV.sizeL ((s2.map arrAV).take b) = b * 256 := hu2.sizeL_take (by simp; omega)
      simp -dsimp -implicitDefEqProofs only [↓j0, ↓j1, ↓j7, ↓j9, ↓j12, ↓j13, ↓j14, ↓j15, j17, j18, j20, ↓j25, ↓j29, ↓j30, j33, ↓j38, ↓j48, ↓j53, ↓j89, ↓j145, ↓j146, ↓j147, ↓j149, j159, j171, ↓reduceIte, Nat.reduceEqDiff, j185, keSt, keT, keX, hs1e, hs2e, f1]
      refine CallTo.disk1 rfl fok13 (by simp -dsimp -implicitDefEqProofs only [↓j25, ↓j29, j173, j174, ↓reduceIte, Nat.reduceEqDiff]) (fun y hy => (args_i y hy).2) hse subX (fun h => h) (fun h => h) ?_
      have hyl1 : y1.length = 256 := bl_256 hd.ok.seen d (k := b) y1 (by rw [hs1e]; exact List.mem_of_getElem? hy1)
      have hyl2 : y2.length = 256 := bl_256 hd.ok.sure d (k := b) y2 (by rw [hs2e]; exact List.mem_of_getElem? hy2)
      have hst1 : (s1.map arrAV).set b (arrAV (d.readL d.seen ((b : Nat) : Int))) = (bl d.seen d (b + 1)).map arrAV := by rw [← hs1, List.map_set]
      have hst2 : (s2.map arrAV).set b (arrAV (d.readL d.sure ((b : Nat) : Int))) = (bl d.sure d (b + 1)).map arrAV := by rw [← hs2, List.map_set]
      simp -dsimp -implicitDefEqProofs only [↓j0, ↓j1, ↓j7, ↓j15, j17, j18, j19, j20, j21, j22, j23, ↓j25, ↓j27, ↓j29, ↓j38, ↓j44, ↓j46, ↓j53, ↓j78, ↓j94, ↓j145, ↓j146, ↓j153, AV.proj, AV.offOf, AV.upd, AV.size, AV.layable, j170, j171, j177, ↓reduceIte, Nat.reduceEqDiff, j182, j188, j189, j196, j197, j206, j207, j208, j240, j280, j320, hb9, hy1, hz1, hyl1, hrl1, hst1, dels_cons_dg, dels_dgX, dels_empty, get_dg, del_dg]
      refine CallTo.disk1 rfl fok16 (by simp -dsimp -implicitDefEqProofs only [↓j25, ↓j29, j173, j174, ↓reduceIte, Nat.reduceEqDiff]) (fun y hy => (args_i y hy).2) hsu (subC (by omega) subX) (fun h => h) (fun h => h) ?_
      simp -dsimp -implicitDefEqProofs only [↓j0, ↓j1, ↓j7, ↓j15, j17, j18, j19, j20, j21, j22, j23, ↓j25, ↓j27, ↓j29, ↓j30, j33, ↓j38, ↓j39, ↓j44, ↓j46, ↓j48, ↓j78, ↓j89, ↓j94, ↓j145, ↓j146, ↓j153, j154, AV.proj, AV.offOf, AV.upd, AV.size, AV.layable, j170, j171, j177, ↓reduceIte, Nat.reduceEqDiff, j182, j185, j188, j189, j196, j197, j206, j207, j208, j240, j280, j320, hb9, hy2, hz2, hyl2, hrl2, hst2, dels_cons_dg, dels_dgX, dels_empty, get_dg, del_dg]
      refine ⟨n2 - 1, keSt a d (b + 1), by omega, ⟨b + 1, by omega, rfl⟩, Wk.mk (SubT.spec (t0 := keT a (b + 1)) (by simp -dsimp -implicitDefEqProofs only [↓j25, ↓reduceIte, Nat.reduceEqDiff, j182, j202, j203, keT, hw2] <;> rfl)) (fun n c h => ?_) (Nat.le_refl _) rfl⟩
      rw [← h]
      exact get_front (get_dg0 (show _ ≠ _ ∧ _ by decide))
    have hb8' : b = 8 := by omega
    subst hb8'
    have f1 : decide (((8 : Nat) : Int) < 8) = false := rfl
    have hpe := pending_at (h999 107 (by omega)) d
    have hpl := hd.pend
    have hbd : d.pend.length ≤ 1000000 := by omega
    obtain ⟨pn, hpn⟩ : ∃ pn, d.pend.length = pn := ⟨_, rfl⟩
    simp -dsimp -implicitDefEqProofs only [↓j0, ↓j1, ↓j7, ↓j11, ↓j12, ↓j13, ↓j15, j17, j18, j20, ↓j25, ↓j29, ↓j30, j33, ↓j38, ↓j48, ↓j53, ↓j89, ↓j145, ↓j146, ↓j148, ↓j149, j159, j171, ↓reduceIte, Nat.reduceEqDiff, j185, keSt, keT, keX, f1]
    refine CallTo.disk1 rfl fok17 (by simp -dsimp -implicitDefEqProofs only [↓j25, ↓j29, j173, j174, ↓reduceIte]) (fun y hy => by simp at hy) hpe subX (fun h => h) (fun h => h) ?_
    simp -dsimp -implicitDefEqProofs only [↓j1, j17, j18, ↓j25, ↓j29, ↓j75, j88, ↓j145, ↓reduceIte, Nat.reduceEqDiff, j182, j184, j188, j189, j208, j232, j463, hpn, dels_cons_dg, dels_dgX, dels_empty]
    refine ⟨⟨by omega, by omega⟩, ?_⟩
    simp -dsimp -implicitDefEqProofs only [↓j0, ↓j1, ↓j7, ↓j12, ↓j14, ↓j15, ↓j16, j17, j18, j20, ↓j25, ↓j29, ↓j30, j33, ↓j38, ↓j39, ↓j58, ↓j61, j143, ↓j145, j170, j171, ↓reduceIte, Nat.reduceAdd, j207, j495]
    refine AWp.loopR (Z := Z) mixed hZ (by kernel_rfl) (fun n s => ∃ b, b + n = pn ∧ s = kfSt a d pn b) (n0 := pn) (s0 := kfSt a d pn 0) ?_ ⟨0, by omega, rfl⟩ ?_ rfl
    · refine Wk.mk (SubT.spec (t0 := kfT a pn 0) (by simp -dsimp -implicitDefEqProofs only [↓j25, j179, ↓reduceIte, Nat.reduceEqDiff, j182, j183, j184, j202, j203, j209, kfT] <;> rfl)) (fun n c h => ?_) (Nat.le_refl _) rfl
      rw [← h, kfSt, show kfL a pn 0 = List.replicate pn (AV.bool false) by simp [kfL]]
      rfl
    rintro n3 s ⟨b, hb, rfl⟩
    refine ⟨rfl, ?_⟩
    have hkl := kfL_len a (n := pn) (k := b) (by omega)
    have hku := kfL_unif a pn b
    rcases Nat.lt_or_ge b pn with hbp | hbp
    · have hw2 : IntKind.i64.wrap ((b : Int) + 1) = ((b + 1 : Nat) : Int) := by rw [wrap_i64 (by omega) (by omega)]; omega
      have f1 : decide ((b : Int) < (pn : Int)) = true := decide_eq_true (by omega)
      have hb9 : (b : Int) < (pn : Int) := by omega
      have hks := kfL_set a hbp
      obtain ⟨q, hq⟩ : ∃ q, kfL a pn b = q := ⟨_, rfl⟩
      rw [hq] at hkl hku hks
      obtain ⟨z, hz⟩ := list_get (xs := q) (i := b) (by omega)
      have hsz : AV.sizeL (q.take b) = b * 1 := hku.sizeL_take (by omega)
      have hzs : z.size = 1 := hku z (List.mem_of_getElem? hz)
      simp -dsimp -implicitDefEqProofs only [↓j0, ↓j1, ↓j7, ↓j9, ↓j12, ↓j13, ↓j14, ↓j15, j17, j18, j19, j20, j21, j22, j23, ↓j25, ↓j27, ↓j29, ↓j30, j33, ↓j38, ↓j39, ↓j44, ↓j46, ↓j48, ↓j78, ↓j89, ↓j93, ↓j145, ↓j146, ↓j147, ↓j149, ↓j153, j154, j159, AV.proj, AV.offOf, AV.upd, AV.size, AV.layable, j170, j171, ↓reduceIte, Nat.reduceEqDiff, j182, j185, j188, j189, j191, j196, j197, j207, j208, j252, j267, kfSt, kfT, keX, hq, hb9, hz, hsz, hks, hzs, del_dg]
      exact ⟨n3 - 1, kfSt a d pn (b + 1), by omega, ⟨b + 1, by omega, rfl⟩, Wk.mk (SubT.spec (t0 := kfT a pn (b + 1)) (by simp -dsimp -implicitDefEqProofs only [↓j25, ↓reduceIte, Nat.reduceEqDiff, j182, j202, j203, kfT, hw2] <;> rfl)) (fun n c h => h) (Nat.le_refl _) rfl⟩
    have hbpn : b = pn := by omega
    subst hbpn
    subst hpn
    have f1 : decide ((d.pend.length : Int) < (d.pend.length : Int)) = false := decide_eq_false (by omega)
    simp -dsimp -implicitDefEqProofs only [↓j0, ↓j1, ↓j7, ↓j11, ↓j12, ↓j13, ↓j15, j17, j18, j20, ↓j25, ↓j29, ↓j38, ↓j48, ↓j53, ↓j89, ↓j145, ↓j146, ↓j148, ↓j149, j159, j171, ↓reduceIte, Nat.reduceEqDiff, j185, kfSt, kfT, keX, f1]
    refine crash_one (X := keX (bl d.seen d 8) (bl d.sure d 8)) hd.ok hbd rfl (by simp -dsimp -implicitDefEqProofs only [↓j25, ↓j29, j173, j174, ↓reduceIte, Nat.reduceEqDiff]) ?_
    simp -dsimp -implicitDefEqProofs only [↓j0, ↓j1, ↓j7, ↓j12, ↓j14, ↓j15, ↓j16, j17, j18, j20, j21, j22, j23, ↓j30, j33, ↓j39, ↓j145, j171, ↓reduceIte, Nat.reduceEqDiff, j182, j188, j189, dels_cons_dg, dels_dgX, dels_empty, del_dg]
    refine AWp.loopR (Z := Z) mixed hZ (by kernel_rfl) (fun n s => ∃ b, b + n = 8 ∧ s = kgSt a d b) (n0 := 8) (s0 := kgSt a d 0) ?_ ⟨0, by omega, rfl⟩ ?_ rfl
    · refine Wk.mk (SubT.spec (t0 := kgT a 0) (by simp -dsimp -implicitDefEqProofs only [↓j25, j179, ↓reduceIte, Nat.reduceEqDiff, j182, j183, j184, j202, j203, j209, kgT] <;> rfl)) (fun n c h => ?_) (Nat.le_refl _) rfl
      rw [← h]
      rfl
    rintro n4 s ⟨b, hb, rfl⟩
    refine ⟨rfl, ?_⟩
    have hko : ∀ k, k ≤ 8 → (kgD d a k).Ok := fun k hk => by
      have h := crash_ok hd.ok (List.replicate d.pend.length a)
      exact ⟨h.n1, h.n2, h.sure, h.seen, h.pend, h.sureN, h.seenN, h.few, h.fails, by show k ≤ 1000000; omega⟩
    have h110 : Six 100 101 108 103 104 110 := ⟨by decide⟩
    rcases Nat.lt_or_ge b 8 with hb8 | hb8
    · have hw2 : IntKind.i64.wrap ((b : Int) + 1) = ((b + 1 : Nat) : Int) := by rw [wrap_i64 (by omega) (by omega)]; omega
      have f1 : decide ((b : Int) < 8) = true := decide_eq_true (by omega)
      have hrd := read_at h110 (kgD d a b) (hko b (by omega)) (by show b < 1000000; omega) ((b : Nat) : Int)
      rw [kg_read hd a hb8] at hrd
      have hrr : (kgD d a b).readL (if a then d.seen else d.sure) ((b : Nat) : Int) = if a then d.readL d.seen ((b : Nat) : Int) else d.readL d.sure ((b : Nat) : Int) := by cases a <;> rfl
      rw [hrr] at hrd
      have hb9 : (b : Int) < ((8 : Nat) : Int) := by omega
      have hy1 := bl_get d.seen d hb8
      have hy2 := bl_get d.sure d hb8
      have hl1 := bl_len d.seen d (show 8 ≤ 8 by omega)
      have hl2 := bl_len d.sure d (show 8 ≤ 8 by omega)
      have hu1 := unif_blk (bl_256 hd.ok.seen d (k := 8))
      have hu2 := unif_blk (bl_256 hd.ok.sure d (k := 8))
      have hz1 : AV.sizeL (((bl d.seen d 8).map arrAV).take b) = b * 256 := hu1.sizeL_take (by simp; omega)
      have hz2 : AV.sizeL (((bl d.sure d 8).map arrAV).take b) = b * 256 := hu2.sizeL_take (by simp; omega)
      have hrl1 := readL_256 hd.ok.seen d ((b : Nat) : Int)
      have hrl2 := readL_256 hd.ok.sure d ((b : Nat) : Int)
      obtain ⟨x1, hx1⟩ : ∃ x, d.readL d.seen ((b : Nat) : Int) = x := ⟨_, rfl⟩
      obtain ⟨x2, hx2⟩ : ∃ x, d.readL d.sure ((b : Nat) : Int) = x := ⟨_, rfl⟩
      rw [hx1] at hrl1 hy1
      rw [hx2] at hrl2 hy2
      rw [hx1, hx2] at hrd
      have hce1 := cellsEq_bytes (l := x1) (k := x1) rfl
      have hkb1 := kinds_bytes hrl1
      have hbb1 : (x1 == x1) = true := beq_self_eq_true _
      rw [hbb1] at hce1
      have hce2 := cellsEq_bytes (l := x2) (k := x2) rfl
      have hkb2 := kinds_bytes hrl2
      have hbb2 : (x2 == x2) = true := beq_self_eq_true _
      rw [hbb2] at hce2
      have z0 : (((0 : Nat) : Int) != 0) = false := rfl
      have hpnf : (kgD d a (b + 1)).fails = none := rfl
      have hpnp : (kgD d a (b + 1)).pend = [] := rfl
      cases a
      all_goals
        simp -dsimp -implicitDefEqProofs only [↓j0, ↓j1, ↓j7, ↓j9, ↓j12, ↓j13, ↓j14, ↓j15, j17, j18, j20, ↓j25, ↓j29, ↓j30, j33, ↓j38, ↓j48, ↓j53, ↓j89, ↓j145, ↓j146, ↓j147, ↓j149, j159, j171, ↓reduceIte, Nat.reduceEqDiff, j185, kgSt, kgT, keX, f1]
        refine CallTo.disk1 rfl fok23 (by simp -dsimp -implicitDefEqProofs only [↓j25, ↓j29, j173, j174, ↓reduceIte, Nat.reduceEqDiff]) (fun y hy => (args_i y hy).2) hrd subX (fun h => absurd rfl h) (fun h => absurd rfl h) ?_
        simp -dsimp -implicitDefEqProofs only [↓j0, ↓j1, ↓j3, ↓j4, ↓j5, ↓j8, ↓j12, ↓j15, j17, j18, j19, j20, j21, j22, j23, j24, ↓j25, ↓j27, ↓j29, ↓j30, j32, j33, ↓j38, ↓j39, ↓j40, ↓j41, ↓j43, ↓j44, ↓j46, ↓j48, ↓j55, ↓j57, ↓j76, ↓j78, j82, j83, j84, j85, ↓j89, ↓j91, ↓j94, j129, ↓j145, ↓j146, ↓j147, ↓j148, ↓j150, ↓j151, ↓j153, j158, AV.proj, AV.offOf, AV.upd, AV.size, AV.layable, j163, j164, j170, j171, j172, j174, j175, j177, ↓reduceIte, Nat.reduceAdd, Nat.reduceEqDiff, j182, j185, j188, j189, j193, j194, j195, j196, j197, j206, j207, j208, j212, j240, j241, j243, j280, j281, j283, j284, j320, j441, hb9, hy1, hz1, hrl1, hce1, hkb1, hy2, hz2, hrl2, hce2, hkb2, z0, dels_cons_dg, dels_dgX, dels_empty, get_dg, del_dg]
        refine ⟨by kernel_rfl, ?_⟩
        simp -dsimp -implicitDefEqProofs only [↓j0, ↓j1, ↓j7, ↓j9, ↓j13, ↓j15, j17, j18, j20, ↓j25, ↓j29, ↓j30, j33, ↓j38, ↓j39, ↓j48, ↓j89, ↓j145, ↓j146, ↓j148, ↓j149, j154, j171, ↓reduceIte, Nat.reduceEqDiff, j185]
        refine ⟨n4 - 1, kgSt _ d (b + 1), by omega, ⟨b + 1, by omega, rfl⟩, Wk.trans (Wk.mk (s' := ⟨103, kgT _ (b + 1), diskG (kgD d _ (b + 1)) 100 101 108 103 104 ++ keX (bl d.seen d 8) (bl d.sure d 8), 110⟩) (SubT.spec (by simp -dsimp -implicitDefEqProofs only [↓j25, ↓reduceIte, Nat.reduceEqDiff, j182, j202, j203, kgT, hw2] <;> rfl)) (fun n c h => kg_drop h) (Nat.le_refl _) rfl) (Wk.gc (by omega) kg_onT kg_onH)⟩
    have hb8' : b = 8 := by omega
    subst hb8'
    have f1 : decide (((8 : Nat) : Int) < 8) = false := rfl
    have hdn := down_at h110 (kgD d a 8)
    rw [show (kgD d a 8).down = false from rfl] at hdn
    simp -dsimp -implicitDefEqProofs only [↓j0, ↓j1, ↓j7, ↓j11, ↓j12, ↓j13, ↓j15, j17, j18, j20, ↓j25, ↓j29, ↓j30, j33, ↓j38, ↓j48, ↓j53, ↓j89, ↓j145, ↓j146, ↓j148, ↓j149, j159, j171, ↓reduceIte, Nat.reduceEqDiff, j185, kgSt, kgT, f1]
    refine CallTo.disk1 rfl fok21 (by simp -dsimp -implicitDefEqProofs only [↓j25, ↓j29, j173, j174, ↓reduceIte]) (fun y hy => by simp at hy) hdn subX (fun h => h) (fun h => h) ?_
    simp -dsimp -implicitDefEqProofs only [↓j1, ↓j2, j17, j18, j20, ↓j25, ↓j29, ↓j38, ↓j53, ↓j55, j84, ↓j145, ↓j147, ↓j150, j163, j164, j171, j175, ↓reduceIte, j194, dels_dgX]
    refine CallTo.pure (args := []) rfl fok18 rfl nil0 awake_spec ?_
    simp -dsimp -implicitDefEqProofs only [↓j0, ↓j1, ↓j10, j17, j18, j20, ↓j25, ↓j29, ↓j30, j32, ↓j39, ↓j40, j83, ↓j145, j171, ↓reduceIte, Nat.reduceEqDiff]
    exact ret _ _ _ rfl
end Go.Proofs.Ytpnjllemklindaa
