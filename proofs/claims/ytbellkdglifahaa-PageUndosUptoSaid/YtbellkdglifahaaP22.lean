/- What stands in an undo page that was put. -/
import Derived.Test.YtbellkdglifahaaP17
set_option linter.unusedVariables false
set_option linter.unusedSimpArgs false
namespace Go.Proofs.Ytbellkdglifahaa
open Go Go.RowKit

theorem textL_split {l : List Od} {i : Nat} {o : Od} (h : l[i]? = some o) : textL l = textL (l.take i) ++ (o.text ++ textL (l.drop (i + 1))) := by
  have hi : i < l.length := by
    rcases Nat.lt_or_ge i l.length with h1 | h1
    · exact h1
    · rw [List.getElem?_eq_none h1] at h; cases h
  have e : l = l.take i ++ (o :: l.drop (i + 1)) := by
    have h2 : l[i] = o := by rw [List.getElem?_eq_getElem hi] at h; exact Option.some.inj h
    rw [← h2, ← List.drop_eq_getElem_cons hi, List.take_append_drop]
  conv => lhs; rw [e]
  rw [textL_append, textL]
/-- The page's bytes from a record on. -/
theorem put_drop {no : Nat} (hno : no < 65536) {u : Ud} (hl : u.lsn < 18446744073709551616) (hm : mayP u = true) {i : Nat} {o : Od} (h : u.olds[i]? = some o) :
    (putUndo no u).drop (16 + sumS (u.olds.take i)) = o.text ++ (textL (u.olds.drop (i + 1)) ++ zb (208 - sumS u.olds)) := by
  have hp : putUndo no u = sealP 2 no u.lsn (undoRest u ++ zb (208 - sumS u.olds)) := by unfold putUndo; rw [hm]; rfl
  have h15 := (seal_parts (k := 2) (no := no) (lsn := u.lsn) (t := undoRest u ++ zb (208 - sumS u.olds)) hno hl).2.2.2.2
  have e : 16 + sumS (u.olds.take i) = 15 + (1 + sumS (u.olds.take i)) := by omega
  rw [hp, e, ← List.drop_drop, h15]
  unfold undoRest
  rw [List.cons_append, show 1 + sumS (u.olds.take i) = sumS (u.olds.take i) + 1 by omega, List.drop_succ_cons, textL_split h, List.append_assoc, ← textL_len, List.drop_left, List.append_assoc]
theorem put_tail {no : Nat} (hno : no < 65536) {u : Ud} (hl : u.lsn < 18446744073709551616) (hm : mayP u = true) : (putUndo no u).drop (16 + sumS u.olds) = zb (208 - sumS u.olds) := by
  have hp : putUndo no u = sealP 2 no u.lsn (undoRest u ++ zb (208 - sumS u.olds)) := by unfold putUndo; rw [hm]; rfl
  have h15 := (seal_parts (k := 2) (no := no) (lsn := u.lsn) (t := undoRest u ++ zb (208 - sumS u.olds)) hno hl).2.2.2.2
  have e : 16 + sumS u.olds = 15 + (1 + sumS u.olds) := by omega
  rw [hp, e, ← List.drop_drop, h15]
  unfold undoRest
  rw [List.cons_append, show 1 + sumS u.olds = sumS u.olds + 1 by omega, List.drop_succ_cons, ← textL_len, List.drop_left]
end Go.Proofs.Ytbellkdglifahaa
