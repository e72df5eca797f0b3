/- Refs of a room. -/
import Derived.Test.YtlagoaggllhggaaB6
set_option linter.unusedVariables false
set_option linter.unusedSimpArgs false
namespace Go.Proofs.Ytlagoaggllhggaa
open Go Go.RowKit

def slots (i : Nat) : Nat → List Old → List (Nat × Nat)
  | _, [] => []
  | s, o :: r => (if o.live then [(i, s)] else []) ++ slots i (s + 1) r
def refs : Nat → List Pg → List (Nat × Nat)
  | _, [] => []
  | i, p :: r => slots i 0 p.2 ++ refs (i + 1) r
theorem slots_append (i : Nat) : ∀ (s : Nat) (xs ys : List Old), slots i s (xs ++ ys) = slots i s xs ++ slots i (s + xs.length) ys
  | s, [], ys => by simp [slots]
  | s, x :: xs, ys => by
    simp only [List.cons_append, slots, slots_append i (s + 1) xs ys, List.append_assoc, List.length_cons]
    have : s + 1 + xs.length = s + (xs.length + 1) := by omega
    rw [this]
theorem refs_append : ∀ (i : Nat) (xs ys : List Pg), refs i (xs ++ ys) = refs i xs ++ refs (i + xs.length) ys
  | i, [], ys => by simp [refs]
  | i, x :: xs, ys => by
    simp only [List.cons_append, refs, refs_append (i + 1) xs ys, List.append_assoc, List.length_cons]
    have : i + 1 + xs.length = i + (xs.length + 1) := by omega
    rw [this]
theorem slots_take {i j : Nat} {xs : List Old} {o : Old} (h : xs[j]? = some o) : slots i 0 (xs.take (j + 1)) = slots i 0 (xs.take j) ++ (if o.live then [(i, j)] else []) := by
  have hj : j < xs.length := by
    rcases Nat.lt_or_ge j xs.length with h1 | h1
    · exact h1
    · rw [List.getElem?_eq_none h1] at h; cases h
  rw [take_succ h, slots_append, List.length_take, Nat.min_eq_left (by omega)]
  simp [slots]
theorem refs_take {i : Nat} {L : List Pg} {p : Pg} (h : L[i]? = some p) : refs 0 (L.take (i + 1)) = refs 0 (L.take i) ++ slots i 0 p.2 := by
  have hj : i < L.length := by
    rcases Nat.lt_or_ge i L.length with h1 | h1
    · exact h1
    · rw [List.getElem?_eq_none h1] at h; cases h
  rw [take_succ h, refs_append, List.length_take, Nat.min_eq_left (by omega)]
  simp [refs]
theorem slots_len (i : Nat) : ∀ (s : Nat) (xs : List Old), (slots i s xs).length = liveN xs
  | _, [] => rfl
  | s, o :: r => by
    simp only [slots, List.length_append, slots_len i (s + 1) r, liveN, List.filter_cons]
    split <;> simp; omega
theorem refs_len : ∀ (i : Nat) (L : List Pg), (refs i L).length = liveAll L
  | _, [] => rfl
  | i, p :: r => by simp [refs, slots_len, refs_len (i + 1) r, liveAll]
theorem slots_mem (i : Nat) : ∀ (s : Nat) (xs : List Old) (a : Nat × Nat), a ∈ slots i s xs → a.1 = i ∧ ∃ k o, a.2 = s + k ∧ xs[k]? = some o ∧ o.live = true
  | _, [], a, h => by simp [slots] at h
  | s, o :: r, a, h => by
    simp only [slots, List.mem_append] at h
    rcases h with h | h
    · by_cases hl : o.live = true
      · rw [if_pos hl] at h
        simp only [List.mem_singleton] at h
        subst h
        exact ⟨rfl, 0, o, by simp, by simp, hl⟩
      · rw [if_neg hl] at h; simp at h
    · obtain ⟨h1, k, q, h2, h3, h4⟩ := slots_mem i (s + 1) r a h
      exact ⟨h1, k + 1, q, by omega, by simpa using h3, h4⟩
theorem refs_mem : ∀ (i : Nat) (L : List Pg) (a : Nat × Nat), a ∈ refs i L → ∃ k p o, a.1 = i + k ∧ L[k]? = some p ∧ p.2[a.2]? = some o ∧ o.live = true
  | _, [], a, h => by simp [refs] at h
  | i, p :: r, a, h => by
    simp only [refs, List.mem_append] at h
    rcases h with h | h
    · obtain ⟨h1, k, o, h2, h3, h4⟩ := slots_mem i 0 p.2 a h
      exact ⟨0, p, o, by omega, by simp, by rw [h2]; simpa using h3, h4⟩
    · obtain ⟨k, q, o, h1, h2, h3, h4⟩ := refs_mem (i + 1) r a h
      exact ⟨k + 1, q, o, by omega, by simpa using h2, h3, h4⟩

abbrev refAV (a : Nat × Nat) : AV := .agg [.int .u16 ((a.1 + 1 : Nat) : Int), .int .u8 (a.2 : Nat)]
abbrev refsAV (l : List (Nat × Nat)) : AV := .vsl (l.map refAV) l.length
theorem unif_ref (L : List (Nat × Nat)) : Unif 2 (L.map refAV) := fun x hx => by
  obtain ⟨o, _, rfl⟩ := List.mem_map.1 hx; rfl
theorem on_ref (S : Nat → Prop) (L : List (Nat × Nat)) : AV.onL S (L.map refAV) := by
  rw [AV.onL_iff]
  intro x hx
  obtain ⟨o, _, rfl⟩ := List.mem_map.1 hx
  simp [AV.on, AV.onL]
theorem take_ref (xs : List (Nat × Nat)) : (xs.map refAV).take xs.length = xs.map refAV := List.take_of_length_le (by simp)

/-- The list that is made: nil, or memory of its own by the name a + 2; names from a + (b + 3) on are free. -/
def outT (l : List (Nat × Nat)) (a : Nat) : Bool → AV
  | false => .nilsl
  | true => .sl (a + 2) 0 [] 0 l.length l.length 2
def outH (l : List (Nat × Nat)) (a : Nat) : Bool → Heap
  | false => []
  | true => [(a + 2, .cells (.agg (l.map refAV)))]
def OutOk (l : List (Nat × Nat)) (x : Bool) : Prop := x = false → l = []
def rfSt (L : List Pg) (last : Nat) (l : List (Nat × Nat)) (x : Bool) (i a c : Nat) : St := ⟨42, [(15, .int .i64 i), (14, .int .i64 L.length), (13, .sl 0 0 [] 0 L.length L.length 2), (2, .nilsl), (3, outT l a x)], roomH L last ++ outH l a x, c + 3⟩
def riSt (L : List Pg) (last : Nat) (xs : List Old) (l : List (Nat × Nat)) (x : Bool) (i j a c : Nat) : St := ⟨42, [(23, .int .i64 j), (22, .int .i64 xs.length), (21, rowAV xs), (4, .int .i64 i), (15, .int .i64 i), (14, .int .i64 L.length), (13, .sl 0 0 [] 0 L.length L.length 2), (2, .nilsl), (3, outT l a x)], roomH L last ++ outH l a x, c + 3⟩

theorem refs_spec (L : List Pg) (last : Nat) (hs : Small L) : ACall Try.prog 15 [.ptr 1 0 []] (roomH L last) (refsAV (refs 0 L)) (roomH L last) := by
  refine ACall.runH (Z := Z) (N := 42) mixed hZ Try.func15 rfl rfl (by kernel_rfl) (by simp) (room_args ptr_arg) (room_on _ (by simp)) 2 room_lt ?_
  have fin : ∀ (l : List (Nat × Nat)) (x : Bool) (a : Nat) (t : Env) (H : Heap) (m : Nat), l = refs 0 L → OutOk l x → look t 2 = some (outT l a x) → (x = true → Heap.get H (a + 2) = some (.cells (.agg (l.map refAV)))) → Heap.get H 1 = some (roomB 0 L last) → Heap.get H 0 = some (listB L) →
      Final Try.prog Try.f15 (refsAV (refs 0 L)) (roomH L last) .ret ⟨42, t, H, m⟩ := by
    intro l x a t H m hl hx h2 ho h1 h0
    subst hl
    cases x
    · rw [hx rfl]
      exact Final.oneH (.inr rfl) (r := .tmp 2) rfl ⟨h2, fun vs h => by cases h⟩ (fun vs h => by cases h) (fun vs h => by cases h) .nil (room_keep h1 h0)
    · refine Final.oneH (.inr rfl) (r := .tmp 2) rfl ⟨h2, fun vs h => by cases h⟩ (fun vs h => by cases h) (fun vs h => by cases h) ?_ (room_keep h1 h0)
      have := Frz.sl (K := fun n => Heap.get (roomH L last) n ≠ none) (H := H) (a + 2) 0 [] 0 (refs 0 L).length (refs 0 L).length 2 _ ((refs 0 L).map refAV) (ho rfl) (by simp [Heap.get]) rfl rfl (by simp) (unif_ref _) (fun x hx => AV.onL_iff.1 (on_ref _ (refs 0 L)) x (List.mem_of_mem_drop (List.mem_of_mem_take hx)))
      rw [List.drop_zero, take_ref] at this
      exact this
  simp -dsimp -implicitDefEqProofs only [↓j0, ↓j1, ↓j7, ↓j12, ↓j13, ↓j14, ↓j15, ↓j16, j17, j18, j20, ↓j25, ↓j27, ↓j29, ↓j30, j33, j35, j36, ↓j38, ↓j39, ↓j43, ↓j45, ↓j48, ↓j56, ↓j58, ↓j61, ↓j76, ↓j79, j135, j143, ↓j145, ↓j146, ↓j147, ↓j149, ↓j153, AV.proj, AV.offOf, AV.sizeL, argEnv, j163, j167, j171, reduceCtorEq, ↓reduceIte, j182, j197, j212, ↓j235, j266, j271, j358, j413]
  refine AWp.loopR (Z := Z) mixed hZ (by kernel_rfl) (fun n s => ∃ i x a c, i + n = L.length ∧ OutOk (refs 0 (L.take i)) x ∧ a ≤ c ∧ s = rfSt L last (refs 0 (L.take i)) x i a c) (n0 := L.length) (s0 := rfSt L last [] false 0 0 0) ?_ ⟨0, false, 0, 0, by omega, fun _ => rfl, Nat.le_refl _, rfl⟩ ?_ rfl
  · exact Wk.sub (by simp -dsimp -implicitDefEqProofs only [↓j25, ↓j27, j172, j179, reduceCtorEq, ↓reduceIte, Nat.reduceEqDiff, Nat.reduceLeDiff, j182, j183, j184, j196, j202, j203, j204, j205, j209, outT, outH] <;> simp)
  rintro n s ⟨i, x, a, c, hi, hx, hac, rfl⟩
  refine ⟨rfl, ?_⟩
  have f1 : (a = c + 1) = False := by simp; omega
  have f2 : (a = c + 2) = False := by simp; omega
  have f3 : (a = c + 3) = False := by simp; omega
  have f4 : (a = c + 4) = False := by simp; omega
  have g1 : (c + 1 = a) = False := by simp; omega
  have g2 : (c + 2 = a) = False := by simp; omega
  have g3 : (c + 3 = a) = False := by simp; omega
  have g4 : (c + 4 = a) = False := by simp; omega
  have hLe := hs.1
  rcases Nat.lt_or_ge i L.length with hlt | hge
  case inr =>
    have hd : decide ((i : Int) < (L.length : Int)) = false := decide_eq_false (by omega)
    have hT : L.take i = L := List.take_of_length_le hge
    rw [hT] at hx ⊢
    cases x
    all_goals
      simp -dsimp -implicitDefEqProofs only [↓j0, ↓j1, ↓j7, ↓j10, ↓j11, ↓j12, ↓j13, ↓j15, j17, j18, j20, ↓j25, ↓j29, ↓j38, ↓j39, ↓j48, ↓j89, ↓j145, ↓j146, ↓j148, ↓j149, j159, j170, j171, j172, ↓reduceIte, Nat.reduceEqDiff, j185, rfSt, outT, outH, hd]
    · exact fin _ false a _ _ _ rfl hx rfl (fun h => by cases h) rfl rfl
    · refine fin _ true a _ _ _ rfl hx rfl (fun _ => ?_) rfl rfl
      simp -dsimp -implicitDefEqProofs only [↓j27, reduceCtorEq, ↓reduceIte, Nat.reduceEqDiff]
  case inl =>
    have hd : decide ((i : Int) < (L.length : Int)) = true := decide_eq_true (by omega)
    have hlt' : (i : Int) < (L.length : Int) := by omega
    obtain ⟨p, hp⟩ := list_get (xs := L) hlt
    have hpm := hs.2 p (List.mem_of_getElem? hp)
    have hsz := sizeL_pg L i (by omega)
    have hw : IntKind.i64.wrap ((i : Int) + 1) = ((i + 1 : Nat) : Int) := by rw [wrap_i64 (by omega) (by omega)]; omega
    have hw16 : IntKind.u16.wrap ((i + 1 : Nat) : Int) = ((i + 1 : Nat) : Int) := wrap_id (by simp [IntKind.min, IntKind.signed]; omega) (by simp [IntKind.max, IntKind.bits, IntKind.signed]; omega)
    have hrt := refs_take hp
    obtain ⟨x', hx'⟩ : ∃ x', x' = x := ⟨x, rfl⟩
    rw [← hx'] at hx
    cases x
    all_goals
      simp -dsimp -implicitDefEqProofs only [↓j0, ↓j1, ↓j7, ↓j9, ↓j12, ↓j13, ↓j14, ↓j15, ↓j16, j17, j18, j19, j20, j21, j22, j23, ↓j25, ↓j27, ↓j29, ↓j30, j33, ↓j38, ↓j39, ↓j41, ↓j43, ↓j44, ↓j45, ↓j46, ↓j48, ↓j58, ↓j62, ↓j76, ↓j78, ↓j79, ↓j89, ↓j93, j129, j133, j142, ↓j145, ↓j146, ↓j147, ↓j149, ↓j153, j159, AV.proj, AV.offOf, AV.upd, AV.size, AV.sizeL, AV.layable, j163, j164, j166, j167, j170, j171, j172, j177, reduceCtorEq, ↓reduceIte, Nat.reduceAdd, Nat.reduceEqDiff, j182, j185, j191, j196, j197, j206, j207, j208, j224, j272, j286, j289, j290, j295, j374, j416, rfSt, outT, outH, hp, hlt', hsz, g1]
      refine AWp.loopR (Z := Z) mixed hZ (by kernel_rfl) (fun k s => ∃ j y a c, j + k = p.2.length ∧ OutOk (refs 0 (L.take i) ++ slots i 0 (p.2.take j)) y ∧ a ≤ c ∧ s = riSt L last p.2 (refs 0 (L.take i) ++ slots i 0 (p.2.take j)) y i j a c) (n0 := p.2.length) (s0 := riSt L last p.2 (refs 0 (L.take i)) x' i 0 a (c + 1)) ?_ ⟨0, x', a, c + 1, by omega, by simpa [slots] using hx, by omega, by simp [slots]⟩ ?_ rfl
      · exact Wk.sub (by subst hx'; simp -dsimp -implicitDefEqProofs only [↓j25, ↓j27, j170, j171, j172, j179, reduceCtorEq, ↓reduceIte, Nat.reduceAdd, Nat.reduceEqDiff, j182, j183, j184, j202, j203, j204, j205, j209, j223, j224, outT, outH, f1] <;> simp)
      clear f1 f2 f3 f4 g1 g2 g3 g4 hac hx hx' x'
      rintro k s ⟨j, y, a, c, hj, hy, hac, rfl⟩
      refine ⟨rfl, ?_⟩
      have f1 : (a = c + 1) = False := by simp; omega
      have f2 : (a = c + 2) = False := by simp; omega
      have f3 : (a = c + 3) = False := by simp; omega
      have f4 : (a = c + 4) = False := by simp; omega
      have g1 : (c + 1 = a) = False := by simp; omega
      have g2 : (c + 2 = a) = False := by simp; omega
      have g3 : (c + 3 = a) = False := by simp; omega
      have g4 : (c + 4 = a) = False := by simp; omega
      rcases Nat.lt_or_ge j p.2.length with hlt2 | hge2
      case inr =>
        have hd2 : decide ((j : Int) < (p.2.length : Int)) = false := decide_eq_false (by omega)
        have hT : p.2.take j = p.2 := List.take_of_length_le hge2
        rw [hT, ← hrt] at hy ⊢
        cases y
        all_goals
          simp -dsimp -implicitDefEqProofs only [↓j0, ↓j1, ↓j7, ↓j11, ↓j12, ↓j13, ↓j15, j17, j18, j20, ↓j25, ↓j29, ↓j30, j33, ↓j38, ↓j48, ↓j89, ↓j145, ↓j146, ↓j148, ↓j149, j154, j159, j170, j171, j172, ↓reduceIte, Nat.reduceEqDiff, j185, j242, riSt, outT, outH, hd2]
        · exact ⟨n - 1, rfSt L last (refs 0 (L.take (i + 1))) false (i + 1) a c, by omega, ⟨i + 1, false, a, c, by omega, hy, hac, rfl⟩, Wk.sub (by simp -dsimp -implicitDefEqProofs only [↓j25, ↓j27, j172, reduceCtorEq, ↓reduceIte, Nat.reduceEqDiff, j182, j202, j203, j204, j205, j223, outT, outH, hw] <;> simp)⟩
        · exact ⟨n - 1, rfSt L last (refs 0 (L.take (i + 1))) true (i + 1) a c, by omega, ⟨i + 1, true, a, c, by omega, hy, hac, rfl⟩, Wk.sub (by simp -dsimp -implicitDefEqProofs only [↓j25, ↓j27, j170, j171, reduceCtorEq, ↓reduceIte, Nat.reduceEqDiff, j182, j202, j203, j204, j205, j223, outT, outH, hw] <;> simp)⟩
      case inl =>
        have hd2 : decide ((j : Int) < (p.2.length : Int)) = true := decide_eq_true (by omega)
        have hlt3 : (j : Int) < (p.2.length : Int) := by omega
        obtain ⟨o, ho⟩ := list_get (xs := p.2) hlt2
        have hsz2 := sizeL_olds p.2 j (by omega)
        have hwj : IntKind.i64.wrap ((j : Int) + 1) = ((j + 1 : Nat) : Int) := by rw [wrap_i64 (by omega) (by omega)]; omega
        have hw8 : IntKind.u8.wrap (j : Int) = (j : Int) := wrap_id (by simp [IntKind.min, IntKind.signed]) (by simp [IntKind.max, IntKind.bits, IntKind.signed]; omega)
        have hst := slots_take (i := i) ho
        cases hlv : o.live
        · rw [hlv] at hst
          simp only [Bool.false_eq_true, if_false, List.append_nil] at hst
          cases y
          all_goals
            simp -dsimp -implicitDefEqProofs only [↓j0, ↓j1, ↓j7, ↓j9, ↓j12, ↓j13, ↓j14, ↓j15, j17, j18, j19, j20, j21, j22, j23, ↓j25, ↓j27, ↓j29, ↓j30, j33, ↓j38, ↓j39, ↓j41, ↓j43, ↓j44, ↓j45, ↓j46, ↓j48, ↓j76, ↓j77, ↓j78, ↓j79, ↓j89, ↓j92, j129, j131, ↓j145, ↓j146, ↓j147, ↓j148, ↓j149, ↓j153, j154, j159, AV.proj, AV.offOf, AV.upd, AV.size, AV.sizeL, AV.layable, j163, j167, j170, j171, j172, j177, reduceCtorEq, ↓reduceIte, Nat.reduceAdd, Nat.reduceEqDiff, j182, j185, j191, j197, j206, j207, j208, j224, j242, j253, j287, j328, j329, j331, j380, riSt, outT, outH, ho, hlt3, hsz2, hlv, g1]
          · exact ⟨k - 1, riSt L last p.2 (refs 0 (L.take i) ++ slots i 0 (p.2.take (j + 1))) false i (j + 1) a (c + 1), by omega, ⟨j + 1, false, a, c + 1, by omega, by rw [hst]; exact hy, by omega, rfl⟩, Wk.sub (by rw [hst]; simp -dsimp -implicitDefEqProofs only [↓j25, ↓j27, j172, reduceCtorEq, ↓reduceIte, Nat.reduceAdd, Nat.reduceEqDiff, j182, j202, j203, j204, j205, j223, j224, outT, outH, hwj] <;> simp)⟩
          · exact ⟨k - 1, riSt L last p.2 (refs 0 (L.take i) ++ slots i 0 (p.2.take (j + 1))) true i (j + 1) a (c + 1), by omega, ⟨j + 1, true, a, c + 1, by omega, by rw [hst]; exact hy, by omega, by simp [riSt, outT, outH]⟩, Wk.sub (by rw [hst]; simp -dsimp -implicitDefEqProofs only [↓j25, ↓j27, j170, j171, reduceCtorEq, ↓reduceIte, Nat.reduceAdd, Nat.reduceEqDiff, j182, j202, j203, j204, j205, j223, j224, j242, outT, outH, hwj, f1] <;> simp)⟩
        · rw [hlv] at hst
          simp only [if_true] at hst
          have hsm : (refs 0 (L.take i) ++ slots i 0 (p.2.take j)).length ≤ 100000 := by
            rw [List.length_append, refs_len, slots_len]
            have h1 := liveAll_le (L := L.take i) fun q hq => hs.2 q (List.mem_of_mem_take hq)
            have h2 := liveN_le (p.2.take j)
            rw [List.length_take] at h1 h2; omega
          have hu1 : Unif 2 [refAV (i, j)] := unif_ref [(i, j)]
          obtain ⟨l, hl⟩ : ∃ l, refs 0 (L.take i) ++ slots i 0 (p.2.take j) = l := ⟨_, rfl⟩
          have huL := unif_ref l
          have hla : (l ++ [(i, j)]).length = l.length + 1 := by simp
          have hma : (l ++ [(i, j)]).map refAV = l.map refAV ++ [refAV (i, j)] := by simp
          have hcl : l.length ≤ l.length + 1 := by omega
          have hst2 : refs 0 (L.take i) ++ slots i 0 (p.2.take (j + 1)) = l ++ [(i, j)] := by rw [hst, ← List.append_assoc, hl]
          rw [hl] at hy hsm ⊢
          cases y
          all_goals
            simp -dsimp -implicitDefEqProofs only [↓j0, ↓j1, ↓j7, ↓j9, ↓j12, ↓j13, ↓j14, ↓j15, j17, j18, j19, j20, j21, j22, j23, ↓j25, ↓j27, ↓j29, ↓j30, j33, ↓j38, ↓j39, ↓j41, ↓j43, ↓j44, ↓j45, ↓j46, ↓j48, ↓j50, ↓j51, ↓j54, ↓j74, ↓j76, ↓j77, ↓j78, ↓j79, ↓j89, ↓j92, ↓j124, j125, j126, j127, j128, j129, j131, ↓j145, ↓j146, ↓j147, ↓j149, ↓j153, j154, j159, partsAV, AV.proj, AV.offOf, AV.upd, AV.size, AV.sizeL, AV.layable, j163, j164, j166, j167, j168, j169, j170, j171, j172, j177, j179, j180, reduceCtorEq, ↓reduceIte, Nat.reduceAdd, Nat.reduceMul, Nat.reduceEqDiff, Nat.reduceLeDiff, j182, j183, j185, j191, j197, j206, j207, j208, j213, j214, j215, j216, j217, j224, ↓j225, Nat.reducePow, List.replicate, j234, j242, j253, j256, j287, j314, j322, j325, j328, j329, j331, j380, j396, j399, j406, riSt, outT, outH, ho, hlt3, hsz2, hlv, hw, hw16, hw8, g1]
            refine DoAppend_of rfl rfl at42 ?_
            simp -dsimp -implicitDefEqProofs only [↓j0, ↓j1, ↓j7, ↓j15, j17, j18, j20, ↓j25, ↓j27, ↓j29, ↓j30, j33, ↓j38, ↓j39, ↓j48, ↓j89, ↓j100, ↓j101, ↓j102, ↓j106, j107, ↓j145, ↓j146, ↓j148, ↓j153, j154, AV.proj, AV.offOf, j166, j170, j171, reduceCtorEq, ↓reduceIte, Nat.reduceAdd, Nat.reduceMul, Nat.reduceEqDiff, Nat.reduceLeDiff, j182, j184, j185, j188, j189, j196, j197, j213, j214, j215, j222, j223, j224, j227, j228, j230, j231, Nat.reduceBEq, j234, hu1, huL, f1, f2, f3]
          · have hl0 := hy rfl
            subst hl0
            exact ⟨k - 1, riSt L last p.2 (refs 0 (L.take i) ++ slots i 0 (p.2.take (j + 1))) true i (j + 1) (c + 3) (c + 3), by omega, ⟨j + 1, true, c + 3, c + 3, by omega, (fun h => by cases h), by omega, by simp [riSt, outT, outH]⟩, Wk.sub (by rw [hst2]; simp -dsimp -implicitDefEqProofs only [↓j25, ↓j27, j170, j171, j173, j174, reduceCtorEq, ↓reduceIte, Nat.reduceAdd, Nat.reduceEqDiff, j182, j196, j202, j203, j204, j205, j223, j224, j230, j231, outT, outH, hwj] <;> simp)⟩
          · refine ⟨⟨by omega, by omega⟩, ?_⟩
            simp -dsimp -implicitDefEqProofs only [↓j0, ↓j1, ↓j7, ↓j15, j17, j18, j20, j21, j22, j23, ↓j25, ↓j29, ↓j30, j33, ↓j38, ↓j39, ↓j48, ↓j89, ↓j145, ↓j146, j154, j166, j170, j171, reduceCtorEq, ↓reduceIte, Nat.reduceAdd, Nat.reduceEqDiff, j185, j196, j224, j227, j228, j230, j231, take_ref, f1, f2]
            exact ⟨k - 1, riSt L last p.2 (refs 0 (L.take i) ++ slots i 0 (p.2.take (j + 1))) true i (j + 1) (c + 3) (c + 3), by omega, ⟨j + 1, true, c + 3, c + 3, by omega, (fun h => by cases h), by omega, by simp [riSt, outT, outH]⟩, Wk.sub (by rw [hst2]; simp -dsimp -implicitDefEqProofs only [↓j25, ↓j27, j170, j171, reduceCtorEq, ↓reduceIte, Nat.reduceAdd, Nat.reduceEqDiff, j182, j202, j203, j204, j205, j223, j224, outT, outH, hwj, hla, hma] <;> simp)⟩
end Go.Proofs.Ytlagoaggllhggaa
