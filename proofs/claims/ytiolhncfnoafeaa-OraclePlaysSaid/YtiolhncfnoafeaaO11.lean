/- The document's oracle: its memory; live, At, Horizon, lives. -/
import Derived.Test.YtiolhncfnoafeaaO6
set_option maxRecDepth 8000
set_option linter.unusedVariables false
set_option linter.unusedSimpArgs false
namespace Go.Proofs.Ytiolhncfnoafeaa
open Go Go.RowKit

structure Tx where
  n : Nat
  s : Nat
  live : Bool
abbrev Tx.av (t : Tx) : AV := .agg [.int .u64 t.n, .int .u32 t.s, .bool t.live]
def txV (l : List Tx) (m : Nat) : AV := match l with
  | [] => .nilsl
  | _ :: r => .sl m 0 [] 0 (r.length + 1) (r.length + 1) 3
def txB (l : List Tx) (m : Nat) : Heap := match l with
  | [] => []
  | k :: r => [(m, .cells (.agg ((k :: r).map Tx.av)))]
abbrev roC (last max : Nat) (l : List Tx) (m : Nat) : ABlk := .cells (.agg [.int .u32 last, .int .u32 max, txV l m])
def roH (last max : Nat) (l : List Tx) (m : Nat) : Heap := (99, roC last max l m) :: txB l m
theorem txV_ne {l : List Tx} (h : 0 < l.length) (m : Nat) : txV l m = .sl m 0 [] 0 l.length l.length 3 ∧ txB l m = [(m, .cells (.agg (l.map Tx.av)))] := by
  cases l with
  | nil => simp at h
  | cons t r => exact ⟨rfl, rfl⟩
theorem unif_tx (l : List Tx) : Unif 3 (l.map Tx.av) := fun x hx => by
  obtain ⟨o, _, rfl⟩ := List.mem_map.1 hx; rfl
theorem on_txs (S : Nat → Prop) (l : List Tx) : AV.onL S (l.map Tx.av) := by
  rw [AV.onL_iff]
  intro x hx
  obtain ⟨o, _, rfl⟩ := List.mem_map.1 hx; exact ⟨trivial, trivial, trivial, trivial⟩
theorem on_txV {S : Nat → Prop} {l : List Tx} {m : Nat} (h : S m) : AV.on S (txV l m) := by
  cases l with
  | nil => trivial
  | cons x r => exact h
theorem get_ro {last max : Nat} {l : List Tx} {m n : Nat} {b : ABlk} (h : Heap.get (roH last max l m) n = some b) : (n = 99 ∧ b = roC last max l m) ∨ (n = m ∧ b = .cells (.agg (l.map Tx.av)) ∧ 0 < l.length) := by
  simp only [roH, Heap.get] at h
  by_cases h1 : n = 99
  · rw [if_pos h1] at h; cases h; exact .inl ⟨h1, rfl⟩
  rw [if_neg h1] at h
  cases l with
  | nil => cases h
  | cons t r =>
    simp only [txB, Heap.get] at h
    by_cases h2 : n = m
    · rw [if_pos h2] at h; cases h; exact .inr ⟨h2, rfl, by simp⟩
    · rw [if_neg h2] at h; cases h
theorem ro_on {last max : Nat} {l : List Tx} {m : Nat} {S : Nat → Prop} (h1 : 0 < l.length → S m) : ∀ n b, Heap.get (roH last max l m) n = some b → b.on S := fun n b h => by
  rcases get_ro h with ⟨_, rfl⟩ | ⟨_, rfl, _⟩
  · refine ⟨trivial, trivial, ?_, trivial⟩
    cases l with
    | nil => trivial
    | cons t r => exact h1 (by simp)
  · exact on_txs _ _
theorem ro_mem {last max : Nat} {l : List Tx} {m n : Nat} (h : n ∈ (roH last max l m).map (·.1)) : n = 99 ∨ n = m := by
  cases l with
  | nil => left; simpa [roH, txB] using h
  | cons t r => simpa [roH, txB] using h
theorem ro_lt {last max : Nat} {l : List Tx} {m : Nat} (h : m < 100) : ∀ n, n ∈ (roH last max l m).map (·.1) → n < 100 := fun n hn => by
  rcases ro_mem hn with h | h <;> omega
theorem ro_on' {last max : Nat} {l : List Tx} {m : Nat} : ∀ n b, Heap.get (roH last max l m) n = some b → b.on (fun n => n ∈ (roH last max l m).map (·.1)) := ro_on fun h => by
  rw [roH, (txV_ne h m).2]; simp
theorem ro_args {last max : Nat} {l : List Tx} {m : Nat} {es : List AV} (hl : ∀ x, x ∈ es → AV.on (fun _ => False) x ∧ ∀ vs, x ≠ .tuple vs) : ∀ x, x ∈ AV.ptr 99 0 [] :: es → AV.on (fun n => n ∈ (roH last max l m).map (·.1)) x ∧ ∀ vs, x ≠ .tuple vs := fun x hx => by
  rcases List.mem_cons.1 hx with rfl | hx
  · exact ⟨by show 99 ∈ _; simp [roH], fun vs h => by cases h⟩
  · exact ⟨on_mono (fun _ h => h.elim) (hl x hx).1, (hl x hx).2⟩
theorem ro_keep {last max : Nat} {l : List Tx} {m : Nat} {H : Heap} (h0 : Heap.get H 99 = some (roC last max l m)) (h1 : 0 < l.length → Heap.get H m = some (.cells (.agg (l.map Tx.av)))) : ∀ n b, Heap.get (roH last max l m) n = some b → ∃ b0, Heap.get H n = some b0 ∧ BFrz (fun n => Heap.get (roH last max l m) n ≠ none) H b0 b := fun n b hb => by
  rcases get_ro hb with ⟨rfl, rfl⟩ | ⟨rfl, rfl, hp⟩
  · refine ⟨_, h0, .same _ ⟨trivial, trivial, ?_, trivial⟩⟩
    cases l with
    | nil => trivial
    | cons t r =>
      show Heap.get _ _ ≠ none
      simp only [roH, txB, Heap.get]
      split <;> simp
  · exact ⟨_, h1 hp, .same _ (on_txs _ _)⟩
theorem put_ro {last max : Nat} {l : List Tx} {m : Nat} {a b : Nat} : ∀ n x, Heap.get (roH last max l m) n = some x → n ∉ (roH last max l m).map (·.1) → a ≤ n ∧ n < b := fun n x h h2 => by
  refine absurd ?_ h2
  rcases get_ro h with ⟨rfl, _⟩ | ⟨rfl, _, hp⟩
  · simp [roH]
  · rw [roH, (txV_ne hp _).2]; simp
end Go.Proofs.Ytiolhncfnoafeaa
