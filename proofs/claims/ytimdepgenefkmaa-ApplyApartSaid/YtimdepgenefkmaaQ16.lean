/- Records about other pages, and commits, change nothing. -/
import Derived.Test.YtimdepgenefkmaaQ13
set_option maxRecDepth 8000
set_option linter.unusedVariables false
set_option linter.unusedSimpArgs false
namespace Go.Proofs.Ytimdepgenefkmaa
open Go Go.RowKit

def otherE (ou : Bool) (on : Nat) (e : En) : En := ⟨e.lsn, { e.rc with undo := ou, no := on }⟩
def comE (i : Nat) : En := ⟨i, ⟨6, false, 0, zb 224, 7, 0, 0, [], 0, .zero⟩⟩
def isMix (uu : Bool) (no : Nat) (e : En) : Bool := decide (e.rc.kind = 6 ∨ (e.rc.undo = uu ∧ e.rc.no = no))
def isSel (uu : Bool) (no : Nat) (e : En) : Bool := decide (e.rc.kind ≠ 6 ∧ (e.rc.undo = uu ∧ e.rc.no = no))
def mixF (uu : Bool) (no : Nat) (ou : Bool) (on : Nat) : Nat → List En → List En
  | _, [] => []
  | i, e :: r => (if isMix uu no e then [e] else []) ++ [otherE ou on e, comE i] ++ mixF uu no ou on (i + 1) r
def selF (uu : Bool) (no : Nat) (l : List En) : List En := l.filter (isSel uu no)
theorem mixF_append (uu : Bool) (no : Nat) (ou : Bool) (on : Nat) : ∀ (i : Nat) (a b : List En), mixF uu no ou on i (a ++ b) = mixF uu no ou on i a ++ mixF uu no ou on (i + a.length) b
  | i, [], b => by simp [mixF]
  | i, e :: a, b => by
    rw [List.cons_append, mixF, mixF, mixF_append uu no ou on (i + 1) a b, List.length_cons, show i + 1 + a.length = i + (a.length + 1) by omega]
    simp only [List.append_assoc]
theorem mixF_take {uu : Bool} {no : Nat} {ou : Bool} {on : Nat} {l : List En} {i : Nat} {e : En} (h : l[i]? = some e) : mixF uu no ou on 0 (l.take (i + 1)) = mixF uu no ou on 0 (l.take i) ++ ((if isMix uu no e then [e] else []) ++ [otherE ou on e, comE i]) := by
  have hi : i < l.length := by
    rcases Nat.lt_or_ge i l.length with h1 | h1
    · exact h1
    · rw [List.getElem?_eq_none h1] at h; cases h
  rw [take_succ h, mixF_append, List.length_take, Nat.min_eq_left (by omega)]
  simp [mixF]
theorem selF_take {uu : Bool} {no : Nat} {l : List En} {i : Nat} {e : En} (h : l[i]? = some e) : selF uu no (l.take (i + 1)) = selF uu no (l.take i) ++ (if isSel uu no e then [e] else []) := by
  rw [take_succ h, selF, selF, List.filter_append]
  cases hs : isSel uu no e <;> simp [hs]
theorem mixF_len (uu : Bool) (no : Nat) (ou : Bool) (on : Nat) : ∀ (i : Nat) (l : List En), (mixF uu no ou on i l).length ≤ 3 * l.length
  | _, [] => by simp [mixF]
  | i, e :: r => by
    have := mixF_len uu no ou on (i + 1) r
    rw [mixF, List.length_append, List.length_append, List.length_cons]
    split <;> simp <;> omega
theorem comE_ok {i : Nat} (h : i < 18446744073709551616) : (comE i).Ok := ⟨h, show (6 : Nat) < _ by decide, show (0 : Nat) < _ by decide, zb_len 224, show (7 : Nat) < _ by decide, show (0 : Nat) < _ by decide, show (0 : Nat) ≤ _ by omega, show (0 : Nat) < _ by decide, od_zero_ok⟩
theorem otherE_ok {ou : Bool} {on : Nat} (hon : on < 65536) {e : En} (h : e.Ok) : (otherE ou on e).Ok := ⟨h.lsn, h.rc.kind, hon, h.rc.image, h.rc.ts, h.rc.ppg, h.rc.delta, h.rc.slot, h.rc.old⟩
theorem mixF_ok {uu : Bool} {no : Nat} {ou : Bool} {on : Nat} (hon : on < 65536) : ∀ (i : Nat) (l : List En), i + l.length < 18446744073709551616 → (∀ e, e ∈ l → e.Ok) → ∀ e, e ∈ mixF uu no ou on i l → e.Ok
  | _, [], _, _, e, h => by simp [mixF] at h
  | i, x :: r, hi, hl, e, h => by
    rw [List.length_cons] at hi
    have hx := hl x (List.mem_cons_self ..)
    rw [mixF] at h
    rcases List.mem_append.1 h with h | h
    · rcases List.mem_append.1 h with h | h
      · split at h
        · rw [List.mem_singleton.1 h]; exact hx
        · cases h
      · simp only [List.mem_cons, List.not_mem_nil, or_false] at h
        rcases h with rfl | rfl
        · exact otherE_ok hon hx
        · exact comE_ok (by omega)
    · exact mixF_ok hon (i + 1) r (by omega) (fun y hy => hl y (List.mem_cons_of_mem _ hy)) e h
theorem step_com (uu : Bool) (no : Nat) (p : List UInt8) (i : Nat) : stepR uu no p (comE i) = p := by
  unfold stepR
  rw [if_pos (.inl rfl)]
theorem step_other {uu : Bool} {no : Nat} {ou : Bool} {on : Nat} (h : ¬ (ou = uu ∧ on = no)) (p : List UInt8) (e : En) : stepR uu no p (otherE ou on e) = p := by
  unfold stepR
  rw [if_pos (.inr h)]
theorem apart {uu : Bool} {no : Nat} {ou : Bool} {on : Nat} (h : ¬ (ou = uu ∧ on = no)) : ∀ (l : List En) (i : Nat) (p : List UInt8), replayP uu no p (mixF uu no ou on i l) = replayP uu no p (selF uu no l)
  | [], _, _ => rfl
  | e :: r, i, p => by
    rw [mixF, replay_append, replay_append]
    have h2 : ∀ q, replayP uu no q [otherE ou on e, comE i] = q := fun q => by
      show stepR uu no (stepR uu no q (otherE ou on e)) (comE i) = q
      rw [step_other h, step_com]
    rw [h2, apart h r (i + 1)]
    have h3 : selF uu no (e :: r) = (if isSel uu no e then [e] else []) ++ selF uu no r := by
      unfold selF
      rw [List.filter_cons]
      split <;> rfl
    rw [h3, replay_append]
    congr 1
    by_cases k6 : e.rc.kind = 6
    · have hm : isMix uu no e = true := decide_eq_true (.inl k6)
      have hs : isSel uu no e = false := decide_eq_false (fun h => h.1 k6)
      rw [hm, hs, if_pos rfl, if_neg Bool.false_ne_true]
      show stepR uu no p e = p
      unfold stepR; rw [if_pos (.inl k6)]
    · by_cases hid : e.rc.undo = uu ∧ e.rc.no = no
      · have hm : isMix uu no e = true := decide_eq_true (.inr hid)
        have hs : isSel uu no e = true := decide_eq_true ⟨k6, hid⟩
        rw [hm, hs]
      · have hm : isMix uu no e = false := decide_eq_false (fun h => h.elim k6 hid)
        have hs : isSel uu no e = false := decide_eq_false (fun h => hid h.2)
        rw [hm, hs]
end Go.Proofs.Ytimdepgenefkmaa
