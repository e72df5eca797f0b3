/- Behind an image what stood there makes no difference; lists of one's own lent to Replay. -/
import Derived.Test.YtimdepgenefkmaaQ11
import Derived.Test.YtimdepgenefkmaaF40
set_option maxRecDepth 8000
set_option linter.unusedVariables false
set_option linter.unusedSimpArgs false
namespace Go.Proofs.Ytimdepgenefkmaa
open Go Go.RowKit

def imgR (uu : Bool) (no : Nat) (im : List UInt8) : Rc := ⟨1, uu, no, im, 0, 0, 0, [], 0, .zero⟩
def imgE (uu : Bool) (no : Nat) (im : List UInt8) : En := ⟨1, imgR uu no im⟩
theorem imgE_ok {uu : Bool} {no : Nat} (hno : no < 65536) {im : List UInt8} (hi : im.length = 224) : (imgE uu no im).Ok :=
  ⟨show (1 : Nat) < _ by decide, ⟨show (1 : Nat) < _ by decide, hno, hi, show (0 : Nat) < _ by decide, show (0 : Nat) < _ by decide, show (0 : Nat) ≤ _ by omega, show (0 : Nat) < _ by decide, od_zero_ok⟩⟩
theorem imgR_may {uu : Bool} {no : Nat} {im : List UInt8} : mayR (imgR uu no im) = true := by
  have h : bareP (imgR uu no im) = imgR uu no im := by unfold bareP; rw [if_pos (show (imgR uu no im).kind = 1 from rfl)]; rfl
  have h2 := Rc.eqb_iff.2 h
  unfold mayR
  rw [h2]
  rfl
theorem img_redo {uu : Bool} {no : Nat} (hno : no < 65536) {im : List UInt8} (hi : im.length = 224) (hr : rightP uu no im = true) (p q : List UInt8) : redoP uu no p (imgE uu no im) = redoP uu no q (imgE uu no im) ∧ (redoP uu no p (imgE uu no im)).2 = 0 := by
  have h1 : ¬ (mayR (imgE uu no im).rc = false ∨ (imgE uu no im).rc.kind = 6 ∨ ¬ ((imgE uu no im).rc.undo = uu ∧ (imgE uu no im).rc.no = no)) := by
    rintro (h | h | h)
    · have := imgR_may (uu := uu) (no := no) (im := im)
      rw [show (imgE uu no im).rc = imgR uu no im from rfl, this] at h; cases h
    · cases h
    · exact h ⟨rfl, rfl⟩
  have k1 : ∀ x : List UInt8, (if (imgE uu no im).rc.kind = 1 then (imgE uu no im).rc.image else x) = im := fun x => if_pos rfl
  have k2 : ¬ (imgE uu no im).rc.kind = 2 := by show ¬ (1 : Nat) = 2; decide
  cases uu
  · have hg : (getData no im).2 = true := by
      unfold rightP at hr
      rw [if_neg Bool.false_ne_true] at hr
      unfold getData; rw [hr]; rfl
    have e : ∀ x, redoP false no x (imgE false no im) = (putData no { (getData no im).1 with lsn := (imgE false no im).lsn }, 0) := fun x => by
      unfold redoP
      rw [if_neg h1, if_neg Bool.false_ne_true, k1, if_neg (by rw [hg]; simp), if_neg k2]
    rw [e, e]; exact ⟨rfl, rfl⟩
  · have e : ∀ x, redoP true no x (imgE true no im) = undoP no im (imgE true no im) := fun x => by
      unfold redoP
      rw [if_neg h1, if_pos rfl, k1]
    rw [e, e]
    refine ⟨rfl, ?_⟩
    unfold rightP at hr
    rw [if_pos rfl] at hr
    cases hg : getUndo no im with
    | none => rw [hg] at hr; cases hr
    | some u =>
      have hm := (getUndo_ok hi hg).2.1
      have hs : stepU u (imgE true no im).rc = some u := by
        unfold stepU
        rw [if_neg (show ¬ (imgE true no im).rc.kind = 3 from (by decide : ¬ (1 : Nat) = 3)), if_neg (show ¬ (imgE true no im).rc.kind = 4 from (by decide : ¬ (1 : Nat) = 4)), if_neg (show ¬ (imgE true no im).rc.kind = 5 from (by decide : ¬ (1 : Nat) = 5))]
      unfold undoP
      rw [hg]
      simp only [hs]
      have hm2 : mayP ⟨(imgE true no im).lsn, u.olds⟩ = true := hm
      rw [if_pos hm2]
theorem img_step {uu : Bool} {no : Nat} {im p : List UInt8} (h : ¬ (rightP uu no p = true ∧ 0 < lsnOf p)) : stepR uu no p (imgE uu no im) = appR uu no p (imgE uu no im) := by
  unfold stepR
  rw [if_neg (by rintro (h | h); (· cases h); exact h ⟨rfl, rfl⟩)]
  by_cases hr : rightP uu no p = true
  · rw [if_pos hr, if_neg]
    intro h2
    have h3 : 1 ≤ lsnOf p := h2
    exact h ⟨hr, by omega⟩
  · rw [if_neg hr, if_pos (show (imgE uu no im).rc.kind = 1 from rfl)]
theorem img_same {uu : Bool} {no : Nat} (hno : no < 65536) {im p q : List UInt8} (hi : im.length = 224) (hr : rightP uu no im = true) (hp : ¬ (rightP uu no p = true ∧ 0 < lsnOf p)) (hq : ¬ (rightP uu no q = true ∧ 0 < lsnOf q)) (l : List En) : replayP uu no p (imgE uu no im :: l) = replayP uu no q (imgE uu no im :: l) := by
  show replayP uu no (stepR uu no p _) l = replayP uu no (stepR uu no q _) l
  obtain ⟨h1, h2⟩ := img_redo hno hi hr p q
  rw [img_step hp, img_step hq, appR, appR, ← h1, if_pos h2, if_pos h2]
theorem step_right {uu : Bool} {no : Nat} (hno : no < 65536) {p : List UInt8} (hp : p.length = 224) {e : En} (he : e.Ok) (h : rightP uu no p = true) : rightP uu no (stepR uu no p e) = true := by
  rcases stepR_two uu no p e with h1 | h1
  · rw [h1]; exact h
  · rw [h1]
    unfold appR
    split
    · rename_i h0; exact (redo_good hno hp he h0).1
    · exact h
theorem replay_right {uu : Bool} {no : Nat} (hno : no < 65536) : ∀ {l : List En} {p : List UInt8}, p.length = 224 → (∀ e, e ∈ l → e.Ok) → rightP uu no p = true → rightP uu no (replayP uu no p l) = true
  | [], p, _, _, h => h
  | e :: l, p, hp, hl, h => replay_right (l := l) hno (stepR_len hp (hl e (List.mem_cons_self ..))) (fun x hx => hl x (List.mem_cons_of_mem _ hx)) (step_right hno hp (hl e (List.mem_cons_self ..)) h)
theorem img_right {uu : Bool} {no : Nat} (hno : no < 65536) {im p : List UInt8} (hi : im.length = 224) (hpl : p.length = 224) (hr : rightP uu no im = true) (hp : ¬ (rightP uu no p = true ∧ 0 < lsnOf p)) {l : List En} (hl : ∀ e, e ∈ l → e.Ok) : rightP uu no (replayP uu no p (imgE uu no im :: l)) = true := by
  show rightP uu no (replayP uu no (stepR uu no p _) l) = true
  obtain ⟨h1, h2⟩ := img_redo hno hi hr p p
  refine replay_right hno (stepR_len hpl (imgE_ok hno hi)) hl ?_
  rw [img_step hp, appR, if_pos h2]
  exact (redo_good hno hpl (imgE_ok hno hi) h2).1

theorem steady_arr (l : List UInt8) : Steady (arrAV l) := Steady.agg fun x hx => by
  rw [flatL_bytes] at hx
  obtain ⟨b, _, rfl⟩ := List.mem_map.1 hx; rfl
theorem frz_ens {K : Nat → Prop} {H : Heap} {n L : Nat} {l : List En} {es : List AV} (hL : l.length = L) (he : es = l.map En.av) (hok : ∀ e, e ∈ l → e.Ok) (hk : ¬ K n) (h : Heap.get H n = some (.cells (.agg es))) : Frz K H (.sl n 0 [] 0 L L 239) (ensAV l) := by
  subst hL he
  have := Frz.sl (K := K) (H := H) n 0 [] 0 l.length l.length 239 _ (l.map En.av) h hk rfl rfl (by simp) (unif_en l hok) (fun x hx => by
    obtain ⟨o, _, rfl⟩ := List.mem_map.1 (List.mem_of_mem_drop (List.mem_of_mem_take hx)); exact on_en _ _)
  rw [List.drop_zero, take_ens] at this
  exact this
/-- Replay over a log in memory of one's own. -/
theorem replay_own (m L : Nat) (uu : Bool) (no : Nat) (hno : no < 65536) (p : List UInt8) (hp : p.length = 224) (l : List En) (es : List AV) (hL : l.length = L) (he : es = l.map En.av) (hl : ∀ e, e ∈ l → e.Ok) (hn : L ≤ 9223372036854775807) : ACall Try.prog 11 [idAV uu no, arrAV p, .sl m 0 [] 0 L L 239] [(m, .cells (.agg es))] (arrAV (replayP uu no p l)) [(m, .cells (.agg es))] := by
  refine ACall.borrowS (replay_spec uu no hno p hp l hl (by omega)) (steady_arr _) ⟨.same _ ⟨trivial, trivial, trivial⟩, .same _ (on_bytes _ _), frz_ens hL he hl (fun h => h) (by simp [Heap.get]), trivial⟩
theorem args_own (m L : Nat) (uu : Bool) (no : Nat) (p : List UInt8) : ∀ x, x ∈ [idAV uu no, arrAV p, .sl m 0 [] 0 L L 239] → ∀ vs, x ≠ .tuple vs := fun x hx vs h => by
  simp only [List.mem_cons, List.not_mem_nil, or_false] at hx
  rcases hx with rfl | rfl | rfl <;> cases h
theorem put_sub {l : Heap} {m k : Nat} : ∀ n x, Heap.get l n = some x → n ∉ l.map (·.1) → m ≤ n ∧ n < k := fun n x h h2 => absurd (get_map h) h2
/-- Names taken back, of memory and of what is held. -/
theorem Wk.rensE {n nx K : Nat} {t t' : Env} {H H' : Heap} (ps : List (Nat × Nat)) (hK : 100 ≤ K) (h1 : ∀ q, q ∈ ps → K ≤ q.1 ∧ 100 ≤ q.2 ∧ q.2 < K) (hn : (ps.map (·.2)).Nodup)
    (ht : onTL (okN ps K) t) (hH : onHL (okN ps K) H) (het : t.ren (rnL ps) = t') (heH : H.ren (rnL ps) = H') : Wk ⟨n, t, H, nx⟩ ⟨n, t', H', K⟩ := by
  subst het heH
  exact Wk.rens ps hK h1 hn ht hH
theorem ren_ens (π : Nat → Nat) (l : List En) : AV.ren π (ensAV l) = ensAV l := AV.ren_fix (S := fun _ => False) (fun _ h => h.elim) (on_ens _ l)
theorem ren_arr (π : Nat → Nat) (l : List UInt8) : AV.ren π (arrAV l) = arrAV l := AV.ren_fix (S := fun _ => False) (fun _ h => h.elim) (on_bytes _ l)
theorem ren_list (π : Nat → Nat) (l : List En) : AV.ren π (.agg (l.map En.av)) = .agg (l.map En.av) := AV.ren_fix (S := fun _ => False) (fun _ h => h.elim) (on_ens _ l)
theorem ren_id (π : Nat → Nat) (uu : Bool) (no : Nat) : AV.ren π (idAV uu no) = idAV uu no := AV.ren_fix (S := fun _ => False) (fun _ h => h.elim) ⟨trivial, trivial, trivial⟩
end Go.Proofs.Ytimdepgenefkmaa
