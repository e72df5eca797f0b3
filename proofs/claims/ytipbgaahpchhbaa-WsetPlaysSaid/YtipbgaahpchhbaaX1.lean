/- The document's set: its memory. -/
import Derived.Test.YtipbgaahpchhbaaW8
set_option maxRecDepth 8000
set_option linter.unusedVariables false
set_option linter.unusedSimpArgs false
namespace Go.Proofs.Ytipbgaahpchhbaa
open Go Go.RowKit

def wlV (l : List Wo) (m : Nat) : AV := match l with
  | [] => .nilsl
  | _ :: r => .sl m 0 [] 0 (r.length + 1) (r.length + 1) 67
def wlB (l : List Wo) (m : Nat) : Heap := match l with
  | [] => []
  | k :: r => [(m, .cells (.agg ((k :: r).map Wo.av)))]
abbrev rsC (l : List Wo) (m : Nat) : ABlk := .cells (.agg [wlV l m])
def rsH (l : List Wo) (m : Nat) : Heap := (99, rsC l m) :: wlB l m
theorem wlV_ne {l : List Wo} (h : 0 < l.length) (m : Nat) : wlV l m = .sl m 0 [] 0 l.length l.length 67 ∧ wlB l m = [(m, .cells (.agg (l.map Wo.av)))] := by
  cases l with
  | nil => simp at h
  | cons t r => exact ⟨rfl, rfl⟩
theorem on_wlV {S : Nat → Prop} {l : List Wo} {m : Nat} (h : S m) : AV.on S (wlV l m) := by
  cases l with
  | nil => trivial
  | cons x r => exact h
theorem get_rs {l : List Wo} {m n : Nat} {b : ABlk} (h : Heap.get (rsH l m) n = some b) : (n = 99 ∧ b = rsC l m) ∨ (n = m ∧ b = .cells (.agg (l.map Wo.av)) ∧ 0 < l.length) := by
  simp only [rsH, Heap.get] at h
  by_cases h1 : n = 99
  · rw [if_pos h1] at h; cases h; exact .inl ⟨h1, rfl⟩
  rw [if_neg h1] at h
  cases l with
  | nil => cases h
  | cons t r =>
    simp only [wlB, Heap.get] at h
    by_cases h2 : n = m
    · rw [if_pos h2] at h; cases h; exact .inr ⟨h2, rfl, by simp⟩
    · rw [if_neg h2] at h; cases h
theorem rs_on {l : List Wo} {m : Nat} {S : Nat → Prop} (h1 : 0 < l.length → S m) : ∀ n b, Heap.get (rsH l m) n = some b → b.on S := fun n b h => by
  rcases get_rs h with ⟨_, rfl⟩ | ⟨_, rfl, _⟩
  · refine ⟨?_, trivial⟩
    cases l with
    | nil => trivial
    | cons t r => exact h1 (by simp)
  · exact on_wos _ _
theorem rs_mem {l : List Wo} {m n : Nat} (h : n ∈ (rsH l m).map (·.1)) : n = 99 ∨ n = m := by
  cases l with
  | nil => left; simpa [rsH, wlB] using h
  | cons t r => simpa [rsH, wlB] using h
theorem rs_lt {l : List Wo} {m : Nat} (h : m < 100) : ∀ n, n ∈ (rsH l m).map (·.1) → n < 100 := fun n hn => by
  rcases rs_mem hn with h | h <;> omega
theorem rs_on' {l : List Wo} {m : Nat} : ∀ n b, Heap.get (rsH l m) n = some b → b.on (fun n => n ∈ (rsH l m).map (·.1)) := rs_on fun h => by
  rw [rsH, (wlV_ne h m).2]; simp
theorem rs_args {l : List Wo} {m : Nat} {es : List AV} (hl : ∀ x, x ∈ es → AV.on (fun _ => False) x ∧ ∀ vs, x ≠ .tuple vs) : ∀ x, x ∈ AV.ptr 99 0 [] :: es → AV.on (fun n => n ∈ (rsH l m).map (·.1)) x ∧ ∀ vs, x ≠ .tuple vs := fun x hx => by
  rcases List.mem_cons.1 hx with rfl | hx
  · exact ⟨by show 99 ∈ _; simp [rsH], fun vs h => by cases h⟩
  · exact ⟨on_mono (fun _ h => h.elim) (hl x hx).1, (hl x hx).2⟩
theorem rs_keep {l : List Wo} {m : Nat} {H : Heap} (h0 : Heap.get H 99 = some (rsC l m)) (h1 : 0 < l.length → Heap.get H m = some (.cells (.agg (l.map Wo.av)))) : ∀ n b, Heap.get (rsH l m) n = some b → ∃ b0, Heap.get H n = some b0 ∧ BFrz (fun n => Heap.get (rsH l m) n ≠ none) H b0 b := fun n b hb => by
  rcases get_rs hb with ⟨rfl, rfl⟩ | ⟨rfl, rfl, hp⟩
  · refine ⟨_, h0, .same _ ⟨?_, trivial⟩⟩
    cases l with
    | nil => trivial
    | cons t r =>
      show Heap.get _ _ ≠ none
      simp only [rsH, wlB, Heap.get]
      split <;> simp
  · exact ⟨_, h1 hp, .same _ (on_wos _ _)⟩
theorem put_rs {l : List Wo} {m : Nat} {a b : Nat} : ∀ n x, Heap.get (rsH l m) n = some x → n ∉ (rsH l m).map (·.1) → a ≤ n ∧ n < b := fun n x h h2 => by
  refine absurd ?_ h2
  rcases get_rs h with ⟨rfl, _⟩ | ⟨rfl, _, hp⟩
  · simp [rsH]
  · rw [rsH, (wlV_ne hp _).2]; simp
end Go.Proofs.Ytipbgaahpchhbaa
