/- The disk's contracts under other names. -/
import Derived.Test.YthfaldoagmkllaaD9
set_option linter.unusedVariables false
set_option linter.unusedSimpArgs false
namespace Go.Proofs.Ythfaldoagmkllaa
open Go Go.RowKit

def diskG (d : DS) (a b s q m : Nat) : Heap := (a, .cells (.agg [.int .i64 d.n, .mapv b, .mapv s, pendV d.pend m, failV d.fails q, .int .i64 d.fuse, .int .i64 d.ops, .bool d.down])) :: (b, mapB d.sure) :: (s, mapB d.seen) :: (failB d.fails q ++ pendB d.pend m)
theorem diskG_H (d : DS) (s q m : Nat) : diskG d 0 1 s q m = diskH d s q m := rfl
section
variable (π : Nat → Nat)
theorem ren_mapB (l : List Wr) : (mapB l).ren π = mapB l := by
  simp only [ABlk.ren]
  congr 1
  rw [List.map_map]
  apply List.map_congr_left
  intro x _
  simp only [Function.comp]
  rw [AV.ren_of_on (v := plAV x.1) ⟨trivial, trivial, trivial⟩, AV.ren_of_on (v := arrAV x.2) (on_bytes _ _)]
theorem ren_pendV (p : List Wr) (m : Nat) : (pendV p m).ren π = pendV p (π m) := by cases p <;> rfl
theorem ren_failV (f : Option (List (Int × Bool))) (q : Nat) : (failV f q).ren π = failV f (π q) := by cases f <;> rfl
theorem ren_failB (f : Option (List (Int × Bool))) (q : Nat) : Heap.ren π (failB f q) = failB f (π q) := by
  cases f with
  | none => rfl
  | some l =>
    simp only [failB, Heap.ren, List.map_cons, List.map_nil, ABlk.ren]
    congr 3
    rw [List.map_map]
    apply List.map_congr_left
    intro x _
    rfl
theorem ren_pendB (p : List Wr) (m : Nat) : Heap.ren π (pendB p m) = pendB p (π m) := by
  cases p with
  | nil => rfl
  | cons w r =>
    simp only [pendB, Heap.ren, List.map_cons, List.map_nil, ABlk.ren, AV.ren]
    congr 3
    exact congrArg AV.agg (AV.renL_of_on (on_wr _ (w :: r)))
theorem ren_disk (d : DS) (a b s q m : Nat) : Heap.ren π (diskG d a b s q m) = diskG d (π a) (π b) (π s) (π q) (π m) := by
  unfold diskG
  have h : ∀ x y : Heap, Heap.ren π (x ++ y) = Heap.ren π x ++ Heap.ren π y := fun x y => by simp [Heap.ren]
  show (π a, _) :: (π b, _) :: (π s, _) :: Heap.ren π (failB d.fails q ++ pendB d.pend m) = _
  rw [h, ren_failB, ren_pendB, ren_mapB, ren_mapB]
  simp only [ABlk.ren, AV.ren, AV.renL, ren_pendV, ren_failV]
end
theorem ACall.disk {P : Program} {f : FuncId} {args : List AV} {v : AV} {d d' : DS} {s' q' m' : Nat} (a b s q m x : Nat) (hnd : [a, b, s, q, m, x].Nodup) (hc : ACall P f (.ptr 0 0 [] :: args) (diskH0 d) v (diskH d' s' q' m')) (ha : AV.onL (fun _ => False) args) (hv : AV.on (fun _ => False) v) :
    ACall P f (.ptr a 0 [] :: args) (diskG d a b s q m) v (diskG d' a b (permN [a, b, s, q, m, x] s') (permN [a, b, s, q, m, x] q') (permN [a, b, s, q, m, x] m')) := by
  have hc : ACall P f (.ptr 0 0 [] :: args) (diskG d 0 1 2 3 4) v (diskG d' 0 1 s' q' m') := hc
  have h := ACall.perm _ hnd hc
  rw [ren_disk, ren_disk, AV.ren_of_on hv] at h
  have e : (AV.ptr 0 0 [] :: args).map (AV.ren (permN [a, b, s, q, m, x])) = .ptr a 0 [] :: args := by
    rw [List.map_cons, ← AV.renL_map, AV.renL_of_on ha]; rfl
  rw [e] at h
  exact h
/-- Two names change places. -/
def swapN (a b n : Nat) : Nat := if n = a then b else if n = b then a else n
theorem swapN_swap (a b n : Nat) : swapN a b (swapN a b n) = n := by
  unfold swapN
  by_cases h1 : n = a
  · by_cases h2 : b = a <;> simp [h1, h2]
  · by_cases h2 : n = b
    · simp [h1, h2]
    · simp [h1, h2]
theorem ACall.swap {P : Program} {f : FuncId} {args : List AV} {v : AV} {d d' : DS} {s' q' m' : Nat} (k : Nat) (hk : 5 ≤ k) (hc : ACall P f (.ptr 0 0 [] :: args) (diskH0 d) v (diskH d' s' q' m')) (ha : AV.onL (fun _ => False) args) (hv : AV.on (fun _ => False) v) :
    ACall P f (.ptr 0 0 [] :: args) (diskH0 d) v (diskH d' (swapN 5 k s') (swapN 5 k q') (swapN 5 k m')) := by
  have hc : ACall P f (.ptr 0 0 [] :: args) (diskG d 0 1 2 3 4) v (diskG d' 0 1 s' q' m') := hc
  have h := hc.ren (π := swapN 5 k) (σ := swapN 5 k) (swapN_swap 5 k)
  have hs : ∀ n, n < 5 → swapN 5 k n = n := fun n hn => by unfold swapN; rw [if_neg (by omega), if_neg (by omega)]
  rw [ren_disk, ren_disk, AV.ren_of_on hv, hs 0 (by omega), hs 1 (by omega), hs 2 (by omega), hs 3 (by omega), hs 4 (by omega)] at h
  have e : (AV.ptr 0 0 [] :: args).map (AV.ren (swapN 5 k)) = .ptr 0 0 [] :: args := by
    rw [List.map_cons, ← AV.renL_map, AV.renL_of_on ha, AV.ren, hs 0 (by omega)]
  rw [e] at h
  exact h

section
variable {d d' : DS} {a b s q m : Nat}
theorem names_diskG {n : Nat} : n ∈ (diskG d a b s q m).map (·.1) ↔ n = a ∨ n = b ∨ n = s ∨ (n = q ∧ d.fails ≠ none) ∨ (n = m ∧ d.pend ≠ []) := by
  simp only [diskG, List.map_cons, List.map_append, List.mem_cons, List.mem_append]
  cases d.fails <;> cases d.pend <;> simp [failB, pendB]
theorem get_no {H : Heap} {n : Nat} (h : n ∉ H.map (·.1)) : Heap.get H n = none := by
  cases hg : Heap.get H n with
  | none => rfl
  | some b => exact absurd (get_map hg) h
theorem get_dg {X : Heap} {n : Nat} (h : n ≠ a ∧ n ≠ b ∧ n ≠ s ∧ n ≠ q ∧ n ≠ m) : Heap.get (diskG d a b s q m ++ X) n = Heap.get X n := by
  rw [get_append, get_no fun hm => by rcases names_diskG.1 hm with h1 | h1 | h1 | ⟨h1, _⟩ | ⟨h1, _⟩ <;> omega]
theorem del_no : ∀ {H : Heap} {n : Nat}, n ∉ H.map (·.1) → Heap.del H n = H
  | [], n, _ => rfl
  | (k, b) :: r, n, h => by
    simp only [List.map_cons, List.mem_cons, not_or] at h
    simp only [Heap.del]
    rw [if_neg h.1, del_no h.2]
theorem del_dg {X : Heap} {n : Nat} (h : n ≠ a ∧ n ≠ b ∧ n ≠ s ∧ n ≠ q ∧ n ≠ m) : Heap.del (diskG d a b s q m ++ X) n = diskG d a b s q m ++ Heap.del X n := by
  rw [del_app, del_no fun hm => by rcases names_diskG.1 hm with h1 | h1 | h1 | ⟨h1, _⟩ | ⟨h1, _⟩ <;> omega]
theorem dels_all : ∀ (l : List Nat) (Y : Heap), (∀ k, k ∈ Y.map (·.1) → k ∈ l) → Heap.dels Y l = []
  | [], Y, h => by
    cases Y with
    | nil => rfl
    | cons x r => have := h x.1 (by simp); simp at this
  | c :: l, Y, h => by
    simp only [Heap.dels]
    refine dels_all l _ fun k hk => ?_
    have : ∀ Z : Heap, k ∈ (Heap.del Z c).map (·.1) → k ≠ c ∧ k ∈ Z.map (·.1) := by
      intro Z
      induction Z with
      | nil => intro h; simp [Heap.del] at h
      | cons x r ih =>
        obtain ⟨e, b⟩ := x
        intro h
        simp only [Heap.del] at h
        by_cases hc : c = e
        · rw [if_pos hc] at h
          exact ⟨(ih h).1, by simp [(ih h).2]⟩
        · rw [if_neg hc] at h
          simp only [List.map_cons, List.mem_cons] at h
          rcases h with rfl | h
          · exact ⟨Ne.symm hc, by simp⟩
          · exact ⟨(ih h).1, by simp [(ih h).2]⟩
    obtain ⟨h1, h2⟩ := this Y hk
    have := h k h2
    simp only [List.mem_cons] at this
    exact this.resolve_left h1
theorem dels_app : ∀ (l : List Nat) (Y W : Heap), Heap.dels (Y ++ W) l = Heap.dels Y l ++ Heap.dels W l
  | [], Y, W => rfl
  | c :: l, Y, W => by simp only [Heap.dels, del_app]; exact dels_app l _ _
theorem dels_no : ∀ (l : List Nat) (Y : Heap), (∀ k, k ∈ Y.map (·.1) → k ∉ l) → Heap.dels Y l = Y
  | [], Y, _ => rfl
  | c :: l, Y, h => by
    simp only [Heap.dels]
    rw [del_no fun hm => h c hm (by simp)]
    exact dels_no l Y fun k hk hl => h k hk (by simp [hl])
/-- The state behind a call that a disk was handed to. -/
theorem app_dg {n nx mm : Nat} {t : Env} {Y X put : Heap} {dst : Option Tmp} {v : AV} {rd : List Nat} (hY : ∀ k, k ∈ Y.map (·.1) → k ≠ a ∧ k ≠ b ∧ k ≠ s ∧ k ≠ q ∧ k ≠ m) (hX : ∀ k, k ∈ X.map (·.1) → k ≠ a ∧ k ≠ b ∧ k ≠ s ∧ k ≠ q ∧ k ≠ m) :
    St.app ⟨n, t, Y ++ (diskG d a b s q m ++ X), mm⟩ dst ⟨v, rd, (diskG d a b s q m).map (·.1), put⟩ nx = ⟨n, Env.put t dst v, put ++ (Y ++ X), nx⟩ := by
  have key : ∀ Z : Heap, (∀ k, k ∈ Z.map (·.1) → k ≠ a ∧ k ≠ b ∧ k ≠ s ∧ k ≠ q ∧ k ≠ m) → ∀ k, k ∈ Z.map (·.1) → k ∉ (diskG d a b s q m).map (·.1) := fun Z hZ k hk hm => by
    have := hZ k hk
    rcases names_diskG.1 hm with h1 | h1 | h1 | ⟨h1, _⟩ | ⟨h1, _⟩ <;> omega
  simp only [St.app, dels_app, dels_no _ Y (key Y hY), dels_no _ X (key X hX), dels_all _ _ fun k hk => hk, List.nil_append]
theorem get_dgs {Y X : Heap} (hY : ∀ k, k ∈ Y.map (·.1) → k ≠ a ∧ k ≠ b ∧ k ≠ s ∧ k ≠ q ∧ k ≠ m) : ∀ n c, Heap.get (diskG d a b s q m) n = some c → Heap.get (Y ++ (diskG d a b s q m ++ X)) n = some c := by
  intro n c h
  rw [get_append, get_no fun hm => ?_]
  · rw [get_append, h]
  · have := hY n hm
    rcases names_diskG.1 (get_map h) with h1 | h1 | h1 | ⟨h1, _⟩ | ⟨h1, _⟩ <;> omega
def SubD (d : DS) (a b s q m : Nat) (H : Heap) : Prop := ∀ n c, Heap.get (diskG d a b s q m) n = some c → Heap.get H n = some c
theorem sub0 : SubD d a b s q m (diskG d a b s q m) := fun n c h => h
theorem subX {X : Heap} : SubD d a b s q m (diskG d a b s q m ++ X) := fun n c h => by rw [get_append, h]
theorem subC {H : Heap} {k : Nat} {c : ABlk} (hk : k ≠ a ∧ k ≠ b ∧ k ≠ s ∧ k ≠ q ∧ k ≠ m) (h : SubD d a b s q m H) : SubD d a b s q m ((k, c) :: H) := fun n x hx => by
  have hne : n ≠ k := fun e => by
    subst e
    rcases names_diskG.1 (get_map hx) with h1 | h1 | h1 | ⟨h1, _⟩ | ⟨h1, _⟩ <;> omega
  simp only [Heap.get]
  rw [if_neg hne]
  exact h n x hx
theorem dels_cons_dg {H : Heap} {k : Nat} {c : ABlk} (hk : k ≠ a ∧ k ≠ b ∧ k ≠ s ∧ k ≠ q ∧ k ≠ m) : Heap.dels ((k, c) :: H) ((diskG d a b s q m).map (·.1)) = (k, c) :: Heap.dels H ((diskG d a b s q m).map (·.1)) := by
  have := dels_app ((diskG d a b s q m).map (·.1)) [(k, c)] H
  rw [dels_no _ [(k, c)] fun j hj hm => ?_] at this
  · exact this
  · simp at hj; subst hj
    rcases names_diskG.1 hm with h1 | h1 | h1 | ⟨h1, _⟩ | ⟨h1, _⟩ <;> omega
theorem dels_dgX {X : Heap} : Heap.dels (diskG d a b s q m ++ X) ((diskG d a b s q m).map (·.1)) = Heap.dels X ((diskG d a b s q m).map (·.1)) := by
  rw [dels_app, dels_all _ _ fun k hk => hk, List.nil_append]
theorem dels_dg0 : Heap.dels (diskG d a b s q m) ((diskG d a b s q m).map (·.1)) = [] := dels_all _ _ fun k hk => hk
theorem dels_empty {l : List Nat} : Heap.dels [] l = [] := dels_all l [] fun k hk => by simp at hk
theorem get_dg0 {n : Nat} (h : n ≠ a ∧ n ≠ b ∧ n ≠ s ∧ n ≠ q ∧ n ≠ m) : Heap.get (diskG d a b s q m) n = none :=
  get_no fun hm => by rcases names_diskG.1 hm with h1 | h1 | h1 | ⟨h1, _⟩ | ⟨h1, _⟩ <;> omega
theorem del_dg0 {n : Nat} (h : n ≠ a ∧ n ≠ b ∧ n ≠ s ∧ n ≠ q ∧ n ≠ m) : Heap.del (diskG d a b s q m) n = diskG d a b s q m :=
  del_no fun hm => by rcases names_diskG.1 hm with h1 | h1 | h1 | ⟨h1, _⟩ | ⟨h1, _⟩ <;> omega
/-- A call that a disk is handed to. -/
theorem CallTo.disk {P : Program} {o : Oper} {n mm : Nat} {t : Env} {H : Heap} {K : Eff → Nat → Prop} {f : FuncId} {ars : Array Operand} {ts : Array TypeId} {args : List AV} {v : AV} {s' q' m' : Nat} (nx : Nat)
    (ho : o.op = .call { callee := .value (.func f), args := ars, argTypes := ts }) (hok : fnOk P f = true) (hargs : ars.toList.map (St.ev ⟨n, t, H, mm⟩) = (AV.ptr a 0 [] :: args).map some) (hta : ∀ x, x ∈ args → ∀ vs, x ≠ .tuple vs)
    (hc : ACall P f (.ptr a 0 [] :: args) (diskG d a b s q m) v (diskG d' a b s' q' m')) (hH : SubD d a b s q m H)
    (hnx : mm ≤ nx) (hs : s' = s ∨ (mm ≤ s' ∧ s' < nx)) (hq : d'.fails = none ∨ (q' = q ∧ d.fails ≠ none) ∨ (mm ≤ q' ∧ q' < nx)) (hm : d'.pend = [] ∨ (m' = m ∧ d.pend ≠ []) ∨ (mm ≤ m' ∧ m' < nx))
    (hK : K ⟨v, [], (diskG d a b s q m).map (·.1), diskG d' a b s' q' m'⟩ nx) : CallTo P o ⟨n, t, H, mm⟩ K := by
  refine CallTo.gen (args := .ptr a 0 [] :: args) (diskG d a b s q m) (diskG d' a b s' q' m') nx ho hok hargs (fun x hx vs h => ?_) hc hH ⟨hnx, fun k x hk hnk => ?_⟩ hK
  · rcases List.mem_cons.1 hx with rfl | hx
    · cases h
    · exact hta x hx vs h
  · have h1 : ¬ (k = a ∨ k = b ∨ k = s ∨ (k = q ∧ d.fails ≠ none) ∨ (k = m ∧ d.pend ≠ [])) := fun h => hnk (names_diskG.2 h)
    rcases names_diskG.1 (get_map hk) with h2 | h2 | h2 | ⟨h2, h3⟩ | ⟨h2, h3⟩
    · exact absurd (.inl h2) h1
    · exact absurd (.inr (.inl h2)) h1
    · rcases hs with hs | hs
      · exact absurd (.inr (.inr (.inl (h2.trans hs)))) h1
      · rw [h2]; exact hs
    · rcases hq with hq | ⟨hq, hf⟩ | hq
      · exact absurd hq h3
      · exact absurd (.inr (.inr (.inr (.inl ⟨h2.trans hq, hf⟩)))) h1
      · rw [h2]; exact hq
    · rcases hm with hm | ⟨hm, hf⟩ | hm
      · exact absurd hm h3
      · exact absurd (.inr (.inr (.inr (.inr ⟨h2.trans hm, hf⟩)))) h1
      · rw [h2]; exact hm
/-- Names of a disk that stay. -/
theorem CallTo.disk1 {P : Program} {o : Oper} {n mm : Nat} {t : Env} {H : Heap} {K : Eff → Nat → Prop} {f : FuncId} {ars : Array Operand} {ts : Array TypeId} {args : List AV} {v : AV}
    (ho : o.op = .call { callee := .value (.func f), args := ars, argTypes := ts }) (hok : fnOk P f = true) (hargs : ars.toList.map (St.ev ⟨n, t, H, mm⟩) = (AV.ptr a 0 [] :: args).map some) (hta : ∀ x, x ∈ args → ∀ vs, x ≠ .tuple vs)
    (hc : ACall P f (.ptr a 0 [] :: args) (diskG d a b s q m) v (diskG d' a b s q m)) (hH : SubD d a b s q m H) (hq : d'.fails ≠ none → d.fails ≠ none) (hm : d'.pend ≠ [] → d.pend ≠ [])
    (hK : K ⟨v, [], (diskG d a b s q m).map (·.1), diskG d' a b s q m⟩ mm) : CallTo P o ⟨n, t, H, mm⟩ K := by
  refine CallTo.disk mm ho hok hargs hta hc hH (Nat.le_refl _) (.inl rfl) ?_ ?_ hK
  · by_cases h : d'.fails = none
    · exact .inl h
    · exact .inr (.inl ⟨rfl, hq h⟩)
  · by_cases h : d'.pend = []
    · exact .inl h
    · exact .inr (.inl ⟨rfl, hm h⟩)
end
/-- Fewer footprints meet less. -/
def subB (a b : List Nat) : Prop := ∀ x, x ∈ a → x ∈ b
theorem meets_sub {a a' b b' : List Nat} (h1 : subB a a') (h2 : subB b b') (h : meets a' b' = false) : meets a b = false := by
  rw [Bool.eq_false_iff] at h ⊢
  intro hm
  apply h
  simp only [meets, List.any_eq_true, List.contains_iff_mem] at hm ⊢
  obtain ⟨x, hx, hb⟩ := hm
  exact ⟨x, h1 x hx, h2 x hb⟩
theorem heapApart_sub {x x' y y' : Foot} (h1 : subB x.1 x'.1 ∧ subB x.2 x'.2) (h2 : subB y.1 y'.1 ∧ subB y.2 y'.2) (h : heapApart x' y' = true) : heapApart x y = true := by
  simp only [heapApart, Bool.and_eq_true, Bool.not_eq_true'] at h ⊢
  exact ⟨⟨meets_sub h1.2 h2.2 h.1.1, meets_sub h1.2 h2.1 h.1.2⟩, meets_sub h1.1 h2.2 h.2⟩
abbrev FSub (f f' : Foot) : Prop := subB f.1 f'.1 ∧ subB f.2 f'.2
theorem rowOk_sub {all : Array Oper} {m : Nat} {oj : Oper} {fj fj' : Foot} (hj : FSub fj fj') : ∀ (i : Nat) (os : List Oper) (fs fs' : List Foot), All2 FSub fs fs' → rowOk all m oj fj' i os fs' = true → rowOk all m oj fj i os fs = true
  | _, [], _, _, _, _ => by simp [rowOk]
  | _, _ :: _, [], [], _, _ => by simp [rowOk]
  | i, o :: os, f :: fs, f' :: fs', h, hk => by
    simp only [rowOk, Bool.and_eq_true, pairOk, Bool.or_eq_true] at hk ⊢
    refine ⟨hk.1.imp id fun h2 => ⟨h2.1, heapApart_sub h.1 hj h2.2⟩, rowOk_sub hj (i + 1) os fs fs' h.2 hk.2⟩
  | _, _ :: _, [], _ :: _, h, _ => h.elim
  | _, _ :: _, _ :: _, [], h, _ => h.elim
theorem All2.take {α β : Type} {R : α → β → Prop} : ∀ {xs : List α} {bs : List β} (n : Nat), All2 R xs bs → All2 R (xs.take n) (bs.take n)
  | [], [], n, _ => by cases n <;> exact trivial
  | a :: xs, b :: bs, 0, _ => trivial
  | a :: xs, b :: bs, n + 1, h => ⟨h.1, All2.take n h.2⟩
  | [], _ :: _, _, h => h.elim
  | _ :: _, [], _, h => h.elim
theorem confGo_sub {all : Array Oper} {ops0 : List Oper} {fs0 fs0' : List Foot} (h0 : All2 FSub fs0 fs0') : ∀ (j : Nat) (os : List Oper) (fs fs' : List Foot) (ms : List Nat), All2 FSub fs fs' → confGo all ops0 fs0' j os fs' ms = true → confGo all ops0 fs0 j os fs ms = true
  | _, [], _, _, _, _, _ => by simp [confGo]
  | _, _ :: _, [], [], _, _, _ => by simp [confGo]
  | _, _ :: _, _ :: _, _ :: _, [], _, _ => by simp [confGo]
  | j, o :: os, f :: fs, f' :: fs', m :: ms, h, hk => by
    simp only [confGo, Bool.and_eq_true] at hk ⊢
    exact ⟨⟨rowOk_sub h.1 0 _ _ _ (h0.take j) hk.1.1, hk.1.2⟩, confGo_sub h0 (j + 1) os fs fs' ms h.2 hk.2⟩
  | _, _ :: _, [], _ :: _, _, h, _ => h.elim
  | _, _ :: _, _ :: _, [], _, h, _ => h.elim
theorem confOk_sub {ops : List Oper} {fs : List Foot} (fs' : List Foot) (h : All2 FSub fs fs') (hk : confOk ops fs' = true) : confOk ops fs = true := confGo_sub h 0 ops fs fs' _ h hk
theorem fsub_refl (f : Foot) : FSub f f := ⟨fun _ h => h, fun _ h => h⟩
theorem fsub_disk {d d' : DS} {a b s q m s' q' m' : Nat} : FSub (([] : List Nat), (diskG d a b s q m).map (·.1) ++ (diskG d' a b s' q' m').map (·.1)) ([], [a, b, s, q, m, s', q', m']) :=
  ⟨fun _ h => h, fun x hx => by
    rcases List.mem_append.1 hx with h | h
    · rcases names_diskG.1 h with h | h | h | ⟨h, _⟩ | ⟨h, _⟩ <;> simp [h]
    · rcases names_diskG.1 h with h | h | h | ⟨h, _⟩ | ⟨h, _⟩ <;> simp [h]⟩
end Go.Proofs.Ythfaldoagmkllaa
