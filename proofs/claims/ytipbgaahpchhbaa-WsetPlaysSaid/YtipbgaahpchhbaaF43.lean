/- sort.Slice over a row of the caller's own, of at most twelve numbers, by a closure that holds the row's box. -/
import Derived.Test.YtipbgaahpchhbaaF42
import Derived.Shelf.GgSortFunc.Small
import Derived.Shelf.GgSortFunc.Tiny
set_option linter.unusedVariables false
set_option linter.unusedSimpArgs false
namespace Go.Proofs.Ytipbgaahpchhbaa
open Go Go.RowKit

theorem ints_sorted (d d' : Array Int) (hp : Sort.PermIn 0 d.size d d') (hs : Sort.SortedIn Sort.ltInt 0 d.size d') : d' = (d.toList.mergeSort fun x y => decide (x ≤ y)).toArray := by
  have h := Sort.sorted_unique_holds (lt := Sort.ltInt) Sort.swo_ltInt (fun x y h1 h2 => by simp only [Sort.ltInt, decide_eq_false_iff_not] at h1 h2; omega) d d' hp hs
  have e : (fun x y : Int => !Sort.ltInt y x) = fun x y => decide (x ≤ y) := by
    funext x y
    simp only [Sort.ltInt]
    by_cases h : x ≤ y
    · have h' : ¬ y < x := by omega
      simp [h, h']
    · have h' : y < x := by omega
      simp [h, h']
  rw [e] at h
  rw [← h]
theorem sort_one {xs : List Int} (h : xs.length ≤ 1) : (xs.mergeSort fun x y => decide (x ≤ y)) = xs := by
  match xs, h with
  | [], _ => simp
  | [x], _ => simp
  | x :: y :: r, h => simp at h
theorem frozen_of {w : World} {b o : Nat} {arr : Array Value} {T : TypeId} {fz : Nat × Nat} (h : w.heap[b]? = some (.cells arr T fz)) (hf : ∀ k, k < arr.size → ¬ (fz.1 ≤ k ∧ k < fz.2)) (ho : o < arr.size) : w.frozen? ⟨b, o, none⟩ = false := by
  have := hf o ho
  simp only [World.frozen?, h]
  simp only [Bool.and_eq_false_iff, decide_eq_false_iff_not]
  by_cases h1 : fz.1 ≤ o
  · exact .inr fun h2 => this ⟨h1, h2⟩
  · exact .inl h1
theorem putRow_at {α : Type} [Inhabited α] (enc : α → Value) {w : World} {b off : Nat} {d : Array α} {arr : Array Value} {T : TypeId} {fz : Nat × Nat} (h : w.heap[b]? = some (.cells arr T fz)) : (Sort.putRow enc w b off d).heap[b]? = some (.cells (Sort.putCells enc off d arr) T fz) := by
  simp only [Sort.putRow, Sort.mapBlock, Array.getElem?_modify, if_true, h, Option.map_some, Sort.onCells]
theorem putRow_not {α : Type} [Inhabited α] (enc : α → Value) {w : World} {b b' off : Nat} {d : Array α} (h : b' ≠ b) : (Sort.putRow enc w b off d).heap[b']? = w.heap[b']? := by
  simp only [Sort.putRow, Sort.mapBlock, Array.getElem?_modify, if_neg (Ne.symm h)]

theorem flat_ints (k : IntKind) : ∀ xs : List Int, (AV.agg (xs.map (AV.int k))).flat = xs.map (AV.int k)
  | [] => rfl
  | x :: xs => by
    have := flat_ints k xs
    simp only [AV.flat] at this
    simp only [List.map_cons, AV.flatL, AV.flat, this]; rfl
/-- What is asked of the closure: it reads the box and two of the row's cells. -/
def LessInts (P : Program) (k : IntKind) (g : Nat) : Prop := ∀ (blk off c bs os size : Nat) (W : World) (G : Nat → Int), W.cell? ⟨bs, os, none⟩ = some (.slice (some ⟨blk, off, none⟩) size c) →
  (∀ t, t < size → W.cell? ⟨blk, off + t, none⟩ = some (.int k (G t))) → ∀ i j : Nat, i < size → j < size →
  Calls P g #[.int .i64 i, .int .i64 j, .pointer (some ⟨bs, os, none⟩)] W fun e w' => e = .returned (.bool (decide (G i < G j))) ∧ ∃ q, w' = W.drewN q
def SortTiny (P : Program) (fs g T : Nat) : Prop := ∀ (p : Option Addr) (n c : Nat), n ≤ 1 → ∀ (la lb : Array Value) (w : World), Calls P fs #[.iface T (.slice p n c), .func (.func g) la lb] w fun e w' => e = .returned (.tuple #[]) ∧ ∃ os, w' = Sort.grow w os
def SortSmall (P : Program) (k : IntKind) (fs g T : Nat) : Prop := ∀ (lb : Array Value) (blk off c : Nat) (d : Array Int), 2 ≤ d.size → d.size ≤ 12 → ∀ w : World, LessReads P g lb (Value.int k) Sort.ltInt blk off d.size w → Sort.Holds (Value.int k) w blk off d → blk < w.heap.size →
  Calls P fs #[.iface T (.slice (some ⟨blk, off, none⟩) d.size c), .func (.func g) #[] lb] w fun e w' => e = .returned (.tuple #[]) ∧ ∃ d' n os, Sort.PermIn 0 d.size d d' ∧ Sort.SortedIn Sort.ltInt 0 d.size d' ∧ w' = Sort.grow (Sort.putRow (Value.int k) (Sort.ahead w n) blk off d') os

/-- A world that has grown alone. -/
theorem post_grow {w : World} {I : Nat → Prop} {ρ : Rho} {H : Heap} (os : Array Obj) (hbl : ∀ n b, Heap.get H n = some b → BRel w I ρ n b)
    (hinj : ∀ n m x y, n ≠ m → Heap.get H n = some x → Heap.get H m = some y → ∀ b o r b' o' r', ρ n = some (b, o, r) → ρ m = some (b', o', r') → b ≠ b') (himm : Imm (OwnW ρ (H.map (·.1))) w I) :
    LSPost w I ρ ⟨.tuple [], [], H.map (·.1), H⟩ (.tuple #[]) (Sort.grow w os) I ρ := by
  have hx : Ext (OwnW ρ (H.map (·.1))) w (Sort.grow w os) I I ρ ρ := ⟨rfl, rfl, rfl, by rw [Sort.size_grow]; omega, fun b hb _ => Sort.heap_grow_old w os hb, fun b h => h, fun b h => .inl h, fun n x h => h⟩
  refine ⟨⟨#[], rfl, rfl, fun k hk => absurd hk (Nat.not_lt_zero k)⟩, fun n b h => (hbl n b h).mono hx himm fun b' o r hr => ⟨Sort.heap_grow_old w os ((hbl n b h).lt hr), ?_⟩, hinj, fun n x h b o r hr => .inl ⟨n, get_map h, o, r, hr⟩, hx, fun b hb => by rw [Sort.size_grow]; have := (himm b hb).1; omega, fun n h _ => h⟩
  obtain ⟨b1, o1, r1, h1, h2⟩ := (hbl n b h).dom
  rw [hr] at h1; cases h1; exact h2

theorem sort_row {P : Program} {k : IntKind} {fs g T : Nat} (h0 : SortTiny P fs g T) (h1 : SortSmall P k fs g T) (hcl : LessInts P k g) (m q : Nat) (hmq : m ≠ q) (xs : List Int) (L : Nat) (hL : xs.length = L) (h12 : L ≤ 12) :
    ACall P fs [.iface T (.sl q 0 [] 0 L L 1), .func g [.ptr m 0 []]] [(m, .cells (.sl q 0 [] 0 L L 1)), (q, .cells (.agg (xs.map (AV.int k))))] (.tuple [])
      [(m, .cells (.sl q 0 [] 0 L L 1)), (q, .cells (.agg ((xs.mergeSort fun x y => decide (x ≤ y)).map (AV.int k))))] := by
  subst hL
  intro w I ρ cargs hsz hrel hbl hinj himm hfr
  obtain ⟨l⟩ := cargs
  match l, hsz with
  | [c0, c1], _ =>
  have r0 : CRel w I ρ (.iface T (.sl q 0 [] 0 xs.length xs.length 1)) c0 := hrel 0 (by simp)
  have r1 : CRel w I ρ (.func g [.ptr m 0 []]) c1 := hrel 1 (by simp)
  obtain ⟨c, rfl, hc⟩ : ∃ c, c0 = .iface T c ∧ CRel w I ρ (.sl q 0 [] 0 xs.length xs.length 1) c := by cases r0 with | iface _ _ c h => exact ⟨c, rfl, h⟩
  obtain ⟨cs, rfl, hcs, hck⟩ : ∃ cs : Array Value, c1 = .func (.func g) #[] cs ∧ cs.size = 1 ∧ CRel w I ρ (.ptr m 0 []) (cs.getD 0 Go.undef) := by
    cases r1 with | func _ _ cs h1 h2 => exact ⟨cs, rfl, h1, h2 0 (by simp)⟩
  have hm := hbl m (.cells (.sl q 0 [] 0 xs.length xs.length 1)) (by simp [Heap.get])
  have hq := hbl q (.cells (.agg (xs.map (AV.int k)))) (by simp [Heap.get, Ne.symm hmq])
  by_cases h2 : 2 ≤ xs.length
  case neg =>
    have he : (xs.mergeSort fun x y => decide (x ≤ y)) = xs := sort_one (by omega)
    rw [he]
    obtain ⟨p, n, c', rfl, hn⟩ : ∃ p n c', c = .slice p n c' ∧ n ≤ 1 := by
      generalize xs.length = LL at hc h2
      cases hc with
      | sl _ _ _ _ _ _ _ b o r c' _ _ _ _ => exact ⟨_, _, _, rfl, by omega⟩
      | sl0 => exact ⟨_, _, _, rfl, by omega⟩
    refine Calls.mono (h0 p n c' hn #[] cs w) ?_
    rintro e w' ⟨rfl, os, rfl⟩
    exact ⟨_, I, ρ, rfl, post_grow os hbl hinj himm⟩
  obtain ⟨b, o, r, c', rfl, hr, hcr⟩ : ∃ b o r c', c = .slice (some ⟨b, o, none⟩) xs.length c' ∧ ρ q = some (b, o, r) ∧ xs.length ≤ r := by
    generalize hLL : xs.length = LL at hc h2
    cases hc with
    | sl _ _ _ _ _ _ _ b o r c' hr _ h4 h5 => exact ⟨b, o, r, c', by simp [hLL], hr, by omega⟩
    | sl0 => omega
  obtain ⟨bm, om, rm, hpm, hrm⟩ : ∃ bm om rm, cs.getD 0 Go.undef = .pointer (some ⟨bm, om, none⟩) ∧ ρ m = some (bm, om, rm) := by
    generalize cs.getD 0 Go.undef = cv at hck
    cases hck with | ptr _ _ _ bm om rm h => exact ⟨bm, om, rm, by simp, h⟩
  have hcs' : cs = #[.pointer (some ⟨bm, om, none⟩)] := by
    obtain ⟨l⟩ := cs
    match l, hcs with
    | [v], _ => simp at hpm; rw [hpm]
  subst hcs'
  have hbb : b ≠ bm := hinj q m (.cells (.agg (xs.map (AV.int k)))) (.cells (.sl q 0 [] 0 xs.length xs.length 1)) (Ne.symm hmq) (by simp [Heap.get, Ne.symm hmq]) (by simp [Heap.get]) _ _ _ _ _ _ hr hrm
  obtain ⟨b1, o1, r1', e1, hnm, hlm⟩ := hm
  rw [hrm] at e1; cases e1
  obtain ⟨b2, o2, r2', e2, hnq, hlq⟩ := hq
  rw [hr] at e2; cases e2
  have hbs := hlq.lt
  have hms := hlm.lt
  obtain ⟨arr, T1, fz, g1, g2, g3, g4, g5⟩ := hlq.ex
  obtain ⟨arm, T2, fm, m1, m2, m3, m4, m5⟩ := hlm.ex
  have hfl := flat_ints k xs
  rw [hfl] at g4 g5
  rw [List.length_map] at g4 g5
  have hcell : ∀ j, (h : j < xs.length) → arr[o + j]? = some (.int k xs[j]) := fun j hj => by
    have h := g5 j hj
    rw [List.getD_eq_getElem?_getD, List.getElem?_map, List.getElem?_eq_getElem hj] at h
    have hlt : o + j < arr.size := by omega
    rw [Array.getD_eq_getD_getElem?, Array.getElem?_eq_getElem hlt] at h
    rw [Array.getElem?_eq_getElem hlt]
    simp only [Option.map_some, Option.getD_some] at h
    generalize arr[o + j] = v at h
    cases h; rfl
  have hH : Sort.Holds (Value.int k) w b o xs.toArray := fun j hj => by
    have hj : j < xs.length := by simpa using hj
    refine ⟨?_, frozen_of g1 g3 (by omega)⟩
    have := hcell j hj
    simp only [World.cell?, g1, this]
    simp [hj]
  have hbox : ∃ cb, w.cell? ⟨bm, om, none⟩ = some (.slice (some ⟨b, o, none⟩) xs.length cb) := by
    have h := m5 0 (by simp [AV.flat])
    have hlt : om < arm.size := by have : 1 ≤ rm := by simpa [AV.flat] using m4
                                   omega
    rw [Array.getD_eq_getD_getElem?, Nat.add_zero, Array.getElem?_eq_getElem hlt] at h
    have h : CRel w I ρ (.sl q 0 [] 0 xs.length xs.length 1) arm[om] := by simpa [AV.flat] using h
    generalize hv : arm[om] = v at h
    generalize hLL : xs.length = LL at h h2
    cases h with
    | sl _ _ _ _ _ _ _ b' o' r' cb hr' _ _ _ =>
      rw [hr] at hr'; cases hr'
      exact ⟨cb, by simp [World.cell?, m1, Array.getElem?_eq_getElem hlt, hv]⟩
    | sl0 => omega
  obtain ⟨cb, hbox⟩ := hbox
  have hd : xs.toArray.size = xs.length := by simp
  have hless : LessReads P g #[.pointer (some ⟨bm, om, none⟩)] (Value.int k) Sort.ltInt b o xs.toArray.size w := by
    intro mm os dk hs i j hi hj
    rw [hd] at hs hi hj
    refine hcl b o cb bm om xs.length _ (fun t => dk[t]!) ?_ (fun t ht => ?_) i j hi hj
    · unfold sortWorld
      rw [Sort.cell?_grow _ _ _ (by simpa using hms), Sort.cell?_putRow_other _ _ b o dk _ (Or.inl (by simpa using Ne.symm hbb))]
      exact hbox
    · unfold sortWorld
      rw [Sort.cell?_grow _ _ _ (by simpa using hbs)]
      exact Sort.cell?_putRow _ _ b o xs.toArray dk (Sort.holds_ahead _ _ _ _ _ _ hH) (by rw [hs, hd]) t (by omega)
  have hS := h1 #[.pointer (some ⟨bm, om, none⟩)] b o c' xs.toArray (by rw [hd]; exact h2) (by rw [hd]; exact h12) w hless hH hbs
  rw [hd] at hS
  refine Calls.mono hS ?_
  rintro e w' ⟨rfl, d', n, os, hp, hso, rfl⟩
  have hd' : d' = ((xs.mergeSort fun x y => decide (x ≤ y))).toArray := by
    have := ints_sorted xs.toArray d' (by rw [hd]; exact hp) (by rw [hd]; exact hso)
    simpa using this
  subst hd'
  obtain ⟨ys, hys⟩ : ∃ ys, (xs.mergeSort fun x y => decide (x ≤ y)) = ys := ⟨_, rfl⟩
  have hyl : ys.length = xs.length := by rw [← hys, List.length_mergeSort]
  rw [hys]
  have hwb : (Sort.grow (Sort.putRow (Value.int k) (Sort.ahead w n) b o ys.toArray) os).heap[b]? = some (.cells (Sort.putCells (Value.int k) o ys.toArray arr) T1 fz) := by
    rw [Sort.heap_grow_old _ _ (by simpa using hbs)]
    exact putRow_at (w := Sort.ahead w n) _ g1
  have hwo : ∀ b', b' < w.heap.size → b' ≠ b → (Sort.grow (Sort.putRow (Value.int k) (Sort.ahead w n) b o ys.toArray) os).heap[b']? = w.heap[b']? := fun b' hb hne => by
    rw [Sort.heap_grow_old _ _ (by simpa using hb)]
    exact putRow_not (w := Sort.ahead w n) _ hne
  have hx : Ext (OwnW ρ [m, q]) w (Sort.grow (Sort.putRow (Value.int k) (Sort.ahead w n) b o ys.toArray) os) I I ρ ρ := ⟨rfl, rfl, rfl, by rw [Sort.size_grow, Sort.size_putRow]; exact Nat.le_add_right _ _, fun b' hb hn => hwo b' hb fun h => hn ⟨q, by simp, o, r, h ▸ hr⟩, fun _ h => h, fun _ h => .inl h, fun _ _ h => h⟩
  have himm' : Imm (OwnW ρ [m, q]) w I := himm
  refine ⟨_, I, ρ, rfl, ⟨⟨#[], rfl, rfl, fun k hk => absurd hk (Nat.not_lt_zero k)⟩, fun n' b' h => ?_, fun n1 n2 x y hne h3 h4 => ?_, fun n' x h bb oo rr hrr => .inl ⟨n', by
      have := get_map h; simpa using this, oo, rr, hrr⟩, hx, fun bb hb => by
      rw [Sort.size_grow, Sort.size_putRow]; exact Nat.lt_of_lt_of_le (himm bb hb).1 (Nat.le_add_right _ _), fun n' h _ => h⟩⟩
  · simp only [Heap.get] at h
    by_cases hn1 : n' = m
    · subst hn1
      simp only [if_true, Option.some.injEq] at h
      subst h
      refine BRel.mono hx himm' ⟨bm, om, rm, hrm, hnm, hlm⟩ fun b3 o3 r3 h3 => ?_
      rw [hrm] at h3; cases h3
      exact ⟨hwo bm hms (Ne.symm hbb), hnm⟩
    · rw [if_neg hn1] at h
      by_cases hn2 : n' = q
      · subst hn2
        simp only [if_true, Option.some.injEq] at h
        subst h
        refine ⟨b, o, r, hr, hnq, _, T1, fz, hwb, by simp [Sort.putCells, g2], fun kk hk => g3 kk (by simpa [Sort.putCells] using hk), ?_, fun j hj => ?_⟩
        · rw [flat_ints, List.length_map, hyl]; exact g4
        · rw [flat_ints] at hj ⊢
          rw [List.length_map] at hj
          rw [List.getD_eq_getElem?_getD, List.getElem?_map, List.getElem?_eq_getElem hj]
          have hlt : o + j < arr.size := by omega
          have hlt2 : o + j < (Sort.putCells (Value.int k) o ys.toArray arr).size := by simpa [Sort.putCells] using hlt
          rw [Array.getD_eq_getD_getElem?, Array.getElem?_eq_getElem hlt2]
          have : (Sort.putCells (Value.int k) o ys.toArray arr)[o + j] = .int k ys[j] := by
            simp only [Sort.putCells, Array.getElem_mapIdx]
            rw [if_pos ⟨by omega, by simpa using hj⟩]
            simp [hj]
          rw [this]
          exact CRel.int _ _
      · rw [if_neg hn2] at h; cases h
  · have dom : ∀ z x, Heap.get [(m, ABlk.cells (.sl q 0 [] 0 xs.length xs.length 1)), (q, .cells (.agg (ys.map (AV.int k))))] z = some x → ∃ y, Heap.get [(m, ABlk.cells (.sl q 0 [] 0 xs.length xs.length 1)), (q, .cells (.agg (xs.map (AV.int k))))] z = some y := fun z x hz => by
      simp only [Heap.get] at hz ⊢
      by_cases hn1 : z = m
      · rw [if_pos hn1]; exact ⟨_, rfl⟩
      · rw [if_neg hn1] at hz ⊢
        by_cases hn2 : z = q
        · rw [if_pos hn2]; exact ⟨_, rfl⟩
        · rw [if_neg hn2] at hz; cases hz
    obtain ⟨x', hx'⟩ := dom _ _ h3
    obtain ⟨y', hy'⟩ := dom _ _ h4
    exact hinj n1 n2 x' y' hne hx' hy'
/-- No row at all. -/
theorem sort_nil {P : Program} {fs g T : Nat} (h0 : SortTiny P fs g T) (m : Nat) : ACall P fs [.iface T .nilsl, .func g [.ptr m 0 []]] [(m, .cells .nilsl)] (.tuple []) [(m, .cells .nilsl)] := by
  intro w I ρ cargs hsz hrel hbl hinj himm hfr
  obtain ⟨l⟩ := cargs
  match l, hsz with
  | [c0, c1], _ =>
  have r0 : CRel w I ρ (.iface T .nilsl) c0 := hrel 0 (by simp)
  have r1 : CRel w I ρ (.func g [.ptr m 0 []]) c1 := hrel 1 (by simp)
  obtain ⟨c, rfl, hc⟩ : ∃ c, c0 = .iface T c ∧ CRel w I ρ .nilsl c := by cases r0 with | iface _ _ c h => exact ⟨c, rfl, h⟩
  obtain ⟨cs, rfl⟩ : ∃ cs : Array Value, c1 = .func (.func g) #[] cs := by
    cases r1 with | func _ _ cs h1 h2 => exact ⟨cs, rfl⟩
  obtain rfl : c = .slice none 0 0 := by cases hc; rfl
  refine Calls.mono (h0 none 0 0 (by omega) #[] cs w) ?_
  rintro e w' ⟨rfl, os, rfl⟩
  exact ⟨_, I, ρ, rfl, post_grow os hbl hinj himm⟩
/-- Numbers in order. -/
def sortN (l : List Nat) : List Nat := l.mergeSort fun a b => decide (a ≤ b)
theorem sortN_len (l : List Nat) : (sortN l).length = l.length := List.length_mergeSort _
theorem sortN_perm (l : List Nat) : (sortN l).Perm l := List.mergeSort_perm _ _
theorem sortN_sorted (l : List Nat) : (sortN l).Pairwise (fun a b => a ≤ b) := by
  have h := List.pairwise_mergeSort (le := fun a b : Nat => decide (a ≤ b)) (fun a b c h1 h2 => by simp only [decide_eq_true_eq] at *; omega) (fun a b => by simp only [Bool.or_eq_true, decide_eq_true_eq]; omega) l
  exact h.imp fun h => by simpa using h
theorem sortN_eq {l l' : List Nat} (h : l.Perm l') : sortN l = sortN l' :=
  List.Perm.eq_of_pairwise (le := fun a b => a ≤ b) (fun a b _ _ h1 h2 => by omega) (sortN_sorted l) (sortN_sorted l') ((sortN_perm l).trans (h.trans (sortN_perm l').symm))
theorem sortN_ints (k : IntKind) (l : List Nat) : (((l.map (fun n : Nat => (n : Int))).mergeSort fun x y => decide (x ≤ y)).map (AV.int k)) = (sortN l).map (fun n : Nat => AV.int k n) := by
  have h := List.map_mergeSort (r := fun a b : Nat => decide (a ≤ b)) (s := fun x y : Int => decide (x ≤ y)) (f := fun n : Nat => (n : Int)) (l := l) (fun a _ b _ => by rw [decide_eq_decide]; omega)
  rw [← h, List.map_map]; rfl
end Go.Proofs.Ytipbgaahpchhbaa
