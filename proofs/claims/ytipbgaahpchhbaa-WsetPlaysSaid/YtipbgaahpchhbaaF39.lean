/- Maps told as lists of typed keys and values. -/
import Derived.Test.YtipbgaahpchhbaaM5
import Derived.DeepKeys4
set_option linter.unusedVariables false
set_option linter.unusedSimpArgs false
namespace Go.Proofs.Ytipbgaahpchhbaa
open Go Go.RowKit

section
variable {α β : Type} [DecidableEq α]
def aFind : List (α × β) → α → Option Nat
  | [], _ => none
  | e :: es, k => if e.1 = k then some 0 else (aFind es k).map (· + 1)
def aGet : List (α × β) → α → Option β
  | [], _ => none
  | e :: es, k => if e.1 = k then some e.2 else aGet es k
def aPut : List (α × β) → α → β → List (α × β)
  | [], k, v => [(k, v)]
  | e :: es, k, v => if e.1 = k then (k, v) :: es else e :: aPut es k v
def aDel : List (α × β) → α → List (α × β)
  | [], _ => []
  | e :: es, k => if e.1 = k then es else e :: aDel es k
theorem aGet_put (M : List (α × β)) (k : α) (v : β) (k' : α) : aGet (aPut M k v) k' = if k = k' then some v else aGet M k' := by
  induction M with
  | nil => simp [aPut, aGet]
  | cons e es ih =>
    simp only [aPut]
    by_cases h : e.1 = k
    · rw [if_pos h]
      simp only [aGet]
      by_cases h2 : k = k'
      · simp [h2]
      · rw [if_neg h2, if_neg h2, if_neg (fun h3 => h2 (h.symm.trans h3))]
    · rw [if_neg h]
      simp only [aGet, ih]
      by_cases h2 : e.1 = k'
      · rw [if_pos h2, if_pos h2, if_neg (fun h3 => h (h2.trans h3.symm))]
      · rw [if_neg h2, if_neg h2]
theorem aPut_keys (M : List (α × β)) (k : α) (v : β) : ∀ x, x ∈ (aPut M k v).map (·.1) ↔ x = k ∨ x ∈ M.map (·.1) := by
  intro x
  induction M with
  | nil => simp [aPut]
  | cons e es ih =>
    simp only [aPut]
    by_cases h : e.1 = k
    · rw [if_pos h]
      simp only [List.map_cons, List.mem_cons, h]
      constructor
      · rintro (h | h)
        · exact .inl h
        · exact .inr (.inr h)
      · rintro (h | h | h)
        · exact .inl h
        · exact .inl h
        · exact .inr h
    · rw [if_neg h]
      simp only [List.map_cons, List.mem_cons, ih]
      constructor
      · rintro (h | h | h)
        · exact .inr (.inl h)
        · exact .inl h
        · exact .inr (.inr h)
      · rintro (h | h | h)
        · exact .inr (.inl h)
        · exact .inl h
        · exact .inr (.inr h)
theorem aPut_nodup {M : List (α × β)} (k : α) (v : β) (h : (M.map (·.1)).Nodup) : ((aPut M k v).map (·.1)).Nodup := by
  induction M with
  | nil => simp [aPut]
  | cons e es ih =>
    simp only [List.map_cons, List.nodup_cons] at h
    simp only [aPut]
    by_cases he : e.1 = k
    · rw [if_pos he]
      simp only [List.map_cons, List.nodup_cons]
      exact ⟨he ▸ h.1, h.2⟩
    · rw [if_neg he]
      simp only [List.map_cons, List.nodup_cons]
      refine ⟨fun hm => ?_, ih h.2⟩
      rcases (aPut_keys es k v e.1).1 hm with h1 | h1
      · exact he h1
      · exact h.1 h1
theorem aPut_mem {M : List (α × β)} {k : α} {v : β} {x : α × β} (h : x ∈ aPut M k v) : x = (k, v) ∨ x ∈ M := by
  induction M with
  | nil => simp [aPut] at h; exact .inl h
  | cons e es ih =>
    simp only [aPut] at h
    by_cases he : e.1 = k
    · rw [if_pos he] at h
      rcases List.mem_cons.1 h with h | h
      · exact .inl h
      · exact .inr (List.mem_cons_of_mem _ h)
    · rw [if_neg he] at h
      rcases List.mem_cons.1 h with h | h
      · exact .inr (h ▸ List.mem_cons_self)
      · rcases ih h with h | h
        · exact .inl h
        · exact .inr (List.mem_cons_of_mem _ h)
theorem aPut_len {M : List (α × β)} {k : α} {v : β} : (aPut M k v).length ≤ M.length + 1 := by
  induction M with
  | nil => simp [aPut]
  | cons e es ih =>
    simp only [aPut]
    split <;> simp <;> omega
theorem aGet_mem {M : List (α × β)} {k : α} {v : β} (h : aGet M k = some v) : (k, v) ∈ M := by
  induction M with
  | nil => simp [aGet] at h
  | cons e es ih =>
    simp only [aGet] at h
    by_cases he : e.1 = k
    · rw [if_pos he] at h; cases h; rw [← he]; exact List.mem_cons_self
    · rw [if_neg he] at h; exact List.mem_cons_of_mem _ (ih h)
theorem aGet_of_mem {M : List (α × β)} {k : α} {v : β} (hn : (M.map (·.1)).Nodup) (h : (k, v) ∈ M) : aGet M k = some v := by
  induction M with
  | nil => simp at h
  | cons e es ih =>
    simp only [List.map_cons, List.nodup_cons] at hn
    simp only [aGet]
    rcases List.mem_cons.1 h with h | h
    · subst h; rw [if_pos rfl]
    · have hne : ¬ e.1 = k := fun he => hn.1 (by rw [he]; exact List.mem_map.2 ⟨(k, v), h, rfl⟩)
      rw [if_neg hne]
      exact ih hn.2 h
theorem aGet_none {M : List (α × β)} {k : α} : aGet M k = none ↔ k ∉ M.map (·.1) := by
  induction M with
  | nil => simp [aGet]
  | cons e es ih =>
    simp only [aGet, List.map_cons, List.mem_cons, not_or]
    by_cases he : e.1 = k
    · rw [if_pos he]; simp [he]
    · rw [if_neg he, ih]
      constructor
      · exact fun h => ⟨Ne.symm he, h⟩
      · exact fun h => h.2
theorem aGet_perm {M N : List (α × β)} (hp : M.Perm N) (hn : (M.map (·.1)).Nodup) (k : α) : aGet M k = aGet N k := by
  have hn2 : (N.map (·.1)).Nodup := (hp.map _).nodup_iff.1 hn
  cases h : aGet M k with
  | some v => exact (aGet_of_mem hn2 (hp.mem_iff.1 (aGet_mem h))).symm
  | none =>
    rw [aGet_none] at h
    exact (aGet_none.2 fun hm => h ((hp.map _).mem_iff.2 hm)).symm
theorem aPut_new {M : List (α × β)} {k : α} {v : β} (h : k ∉ M.map (·.1)) : aPut M k v = M ++ [(k, v)] := by
  induction M with
  | nil => rfl
  | cons e es ih =>
    simp only [List.map_cons, List.mem_cons, not_or] at h
    simp only [aPut]
    rw [if_neg (Ne.symm h.1), ih h.2]; rfl

variable {K : α → AV} {V : β → AV}
abbrev mapE (K : α → AV) (V : β → AV) (M : List (α × β)) : List (AV × AV) := M.map fun e => (K e.1, V e.2)
structure KeyInj (K : α → AV) (ok : α → Prop) : Prop where
  inj : ∀ a b, ok a → ok b → plainV (K a) = plainV (K b) → a = b
variable {ok : α → Prop}
theorem mfind_map (h : KeyInj K ok) {M : List (α × β)} {k : α} (hk : ok k) (hM : ∀ e, e ∈ M → ok e.1) : mfind (mapE K V M) (K k) = aFind M k := by
  induction M with
  | nil => rfl
  | cons e es ih =>
    simp only [mapE, List.map_cons, mfind, aFind]
    have he := hM e List.mem_cons_self
    have ih := ih fun x hx => hM x (List.mem_cons_of_mem _ hx)
    by_cases hek : e.1 = k
    · rw [if_pos (by rw [hek]), if_pos hek]
    · rw [if_neg (fun h1 => hek (h.inj _ _ he hk h1)), if_neg hek]
      rw [← ih]
theorem aFind_get {M : List (α × β)} {k : α} : (aFind M k = none ∧ aGet M k = none) ∨ ∃ j e, aFind M k = some j ∧ M[j]? = some e ∧ aGet M k = some e.2 ∧ e.1 = k := by
  induction M with
  | nil => exact .inl ⟨rfl, rfl⟩
  | cons e es ih =>
    simp only [aFind, aGet]
    by_cases he : e.1 = k
    · rw [if_pos he, if_pos he]; exact .inr ⟨0, e, rfl, rfl, rfl, he⟩
    · rw [if_neg he, if_neg he]
      rcases ih with ⟨h1, h2⟩ | ⟨j, x, h1, h2, h3, h4⟩
      · rw [h1, h2]; exact .inl ⟨rfl, rfl⟩
      · rw [h1]; exact .inr ⟨j + 1, x, rfl, by simpa using h2, h3, h4⟩
theorem mval_map (h : KeyInj K ok) {M : List (α × β)} {k : α} (hk : ok k) (hM : ∀ e, e ∈ M → ok e.1) (z : AV) : mval (mapE K V M) (K k) z = match aGet M k with
    | some v => V v
    | none => z := by
  rw [mval, mfind_map h hk hM]
  rcases aFind_get (M := M) (k := k) with ⟨h1, h2⟩ | ⟨j, e, h1, h2, h3, h4⟩
  · rw [h1, h2]
  · rw [h1, h3]
    simp only [List.getD_eq_getElem?_getD, mapE, List.getElem?_map, h2, Option.map_some, Option.getD_some]
theorem mhas_map (h : KeyInj K ok) {M : List (α × β)} {k : α} (hk : ok k) (hM : ∀ e, e ∈ M → ok e.1) : mhas (mapE K V M) (K k) = (aGet M k).isSome := by
  rw [mhas, mfind_map h hk hM]
  rcases aFind_get (M := M) (k := k) with ⟨h1, h2⟩ | ⟨j, e, h1, h2, h3, h4⟩
  · rw [h1, h2]; rfl
  · rw [h1, h3]; rfl
theorem aPut_find {M : List (α × β)} {k : α} {v : β} : aPut M k v = match aFind M k with
    | some j => M.set j (k, v)
    | none => M ++ [(k, v)] := by
  induction M with
  | nil => rfl
  | cons e es ih =>
    simp only [aPut, aFind]
    by_cases he : e.1 = k
    · rw [if_pos he, if_pos he]; rfl
    · rw [if_neg he, if_neg he, ih]
      cases aFind es k <;> rfl
theorem aDel_find {M : List (α × β)} {k : α} : aDel M k = match aFind M k with
    | some j => M.eraseIdx j
    | none => M := by
  induction M with
  | nil => rfl
  | cons e es ih =>
    simp only [aDel, aFind]
    by_cases he : e.1 = k
    · rw [if_pos he, if_pos he]; rfl
    · rw [if_neg he, if_neg he, ih]
      cases aFind es k <;> rfl
theorem mput_map (h : KeyInj K ok) {M : List (α × β)} {k : α} (hk : ok k) (hM : ∀ e, e ∈ M → ok e.1) (v : β) : mput (mapE K V M) (K k) (V v) = mapE K V (aPut M k v) := by
  rw [mput, mfind_map h hk hM, aPut_find]
  cases aFind M k with
  | none => simp [mapE]
  | some j => simp [mapE, List.map_set]
theorem mdel_map (h : KeyInj K ok) {M : List (α × β)} {k : α} (hk : ok k) (hM : ∀ e, e ∈ M → ok e.1) : mdel (mapE K V M) (K k) = mapE K V (aDel M k) := by
  rw [mdel, mfind_map h hk hM, aDel_find]
  cases aFind M k with
  | none => rfl
  | some j =>
    simp only [mapE]
    apply List.ext_getElem?
    intro i
    simp only [List.getElem?_map, List.getElem?_eraseIdx]
    split <;> rfl
theorem nodup_map_on {γ δ : Type} {f : γ → δ} : ∀ {l : List γ}, (∀ x, x ∈ l → ∀ y, y ∈ l → f x = f y → x = y) → l.Nodup → (l.map f).Nodup
  | [], _, _ => by simp
  | a :: l, h, hn => by
    simp only [List.nodup_cons] at hn
    simp only [List.map_cons, List.nodup_cons]
    refine ⟨fun hm => ?_, nodup_map_on (fun x hx y hy => h x (List.mem_cons_of_mem _ hx) y (List.mem_cons_of_mem _ hy)) hn.2⟩
    obtain ⟨y, hy, hya⟩ := List.mem_map.1 hm
    have := h y (List.mem_cons_of_mem _ hy) a List.mem_cons_self hya
    exact hn.1 (this ▸ hy)
theorem goodMap_map {γ δ : Type} {K : γ → AV} {V : δ → AV} {ok : γ → Prop} {P : Program} {kt : TypeId} (h : KeyInj K ok) (hi : ∀ a, ok a → IsKey P kt (K a)) {M : List (γ × δ)} (hM : ∀ e, e ∈ M → ok e.1) (hn : (M.map (·.1)).Nodup) : GoodMap P kt (mapE K V M) := by
  refine ⟨fun e he => ?_, ?_⟩
  · obtain ⟨x, hx, rfl⟩ := List.mem_map.1 he
    exact hi _ (hM x hx)
  · have e : (mapE K V M).map (fun e => plainV e.1) = (M.map (·.1)).map fun a => plainV (K a) := by simp [mapE]
    rw [e]
    refine nodup_map_on ?_ hn
    intro x hx y hy hxy
    obtain ⟨a, ha, rfl⟩ := List.mem_map.1 hx
    obtain ⟨b, hb, rfl⟩ := List.mem_map.1 hy
    exact h.inj _ _ (hM a ha) (hM b hb) hxy
theorem aDel_nodup {M : List (α × β)} (k : α) (h : (M.map (·.1)).Nodup) : ((aDel M k).map (·.1)).Nodup ∧ ∀ x, x ∈ aDel M k ↔ x ∈ M ∧ x.1 ≠ k := by
  induction M with
  | nil => simp [aDel]
  | cons e es ih =>
    simp only [List.map_cons, List.nodup_cons] at h
    obtain ⟨h1, h2⟩ := ih h.2
    simp only [aDel]
    by_cases he : e.1 = k
    · rw [if_pos he]
      refine ⟨h.2, fun x => ⟨fun hx => ⟨List.mem_cons_of_mem _ hx, fun hk => h.1 (by rw [he, ← hk]; exact List.mem_map.2 ⟨x, hx, rfl⟩)⟩, fun hx => ?_⟩⟩
      rcases List.mem_cons.1 hx.1 with rfl | h3
      · exact absurd he hx.2
      · exact h3
    · rw [if_neg he]
      refine ⟨?_, fun x => ?_⟩
      · simp only [List.map_cons, List.nodup_cons]
        refine ⟨fun hm => ?_, h1⟩
        obtain ⟨y, hy, hye⟩ := List.mem_map.1 hm
        exact h.1 (hye ▸ List.mem_map.2 ⟨y, ((h2 y).1 hy).1, rfl⟩)
      · simp only [List.mem_cons, h2]
        constructor
        · rintro (rfl | ⟨h3, h4⟩)
          · exact ⟨.inl rfl, he⟩
          · exact ⟨.inr h3, h4⟩
        · rintro ⟨rfl | h3, h4⟩
          · exact .inl rfl
          · exact .inr ⟨h3, h4⟩
end

/-- A renaming that is told by a list. -/
def permN (xs : List Nat) (n : Nat) : Nat := match xs[n]? with
  | some k => k
  | none => n + 1 + xs.sum
theorem mem_le_sum : ∀ {xs : List Nat} {x : Nat}, x ∈ xs → x ≤ xs.sum
  | y :: ys, x, h => by
    rcases List.mem_cons.1 h with rfl | h
    · simp
    · have := mem_le_sum h; simp; omega
theorem permN_inj {xs : List Nat} (h : xs.Nodup) : ∀ a b, permN xs a = permN xs b → a = b := by
  intro a b hab
  unfold permN at hab
  cases ha : xs[a]? with
  | some x =>
    cases hb : xs[b]? with
    | some y =>
      rw [ha, hb] at hab
      simp only at hab
      subst hab
      have h1 : a < xs.length := by
        rcases Nat.lt_or_ge a xs.length with h1 | h1
        · exact h1
        · rw [List.getElem?_eq_none h1] at ha; cases ha
      exact (List.getElem?_inj h1 h).1 (ha.trans hb.symm)
    | none =>
      rw [ha, hb] at hab
      simp only at hab
      have := mem_le_sum (List.mem_of_getElem? ha); omega
  | none =>
    cases hb : xs[b]? with
    | some y =>
      rw [ha, hb] at hab
      simp only at hab
      have := mem_le_sum (List.mem_of_getElem? hb); omega
    | none =>
      rw [ha, hb] at hab
      simp only at hab
      omega
open Classical in
theorem permN_left {xs : List Nat} (h : xs.Nodup) : ∃ σ : Nat → Nat, ∀ n, σ (permN xs n) = n :=
  ⟨fun m => if hm : ∃ n, permN xs n = m then Classical.choose hm else 0, fun n => by
    have hm : ∃ k, permN xs k = permN xs n := ⟨n, rfl⟩
    show (if hm : ∃ k, permN xs k = permN xs n then Classical.choose hm else 0) = n
    rw [dif_pos hm]
    exact permN_inj h _ _ (Classical.choose_spec hm)⟩
theorem ACall.perm {P : Program} {f : FuncId} {args : List AV} {v : AV} {H put : Heap} (xs : List Nat) (h : xs.Nodup) (hc : ACall P f args H v put) :
    ACall P f (args.map (AV.ren (permN xs))) (H.ren (permN xs)) (v.ren (permN xs)) (put.ren (permN xs)) := by
  obtain ⟨σ, hσ⟩ := permN_left h
  exact hc.ren hσ

/-- A loop that is gone through round by round, n rounds at most. -/
def UnrR (P : Program) (Z : TypeId → Option AV) (c : Code) (Q : Exit → St → Prop) : Nat → St → Prop
  | 0, _ => False
  | n + 1, s => Run P Z c s fun e s' => match e with
    | .normal => UnrR P Z c Q n s'
    | e => Q e s'
theorem UnrR.step {P : Program} {Z : TypeId → Option AV} {c : Code} {Q : Exit → St → Prop} {n : Nat} {s : St} (h : Run P Z c s fun e s' => match e with
    | .normal => UnrR P Z c Q n s'
    | e => Q e s') : UnrR P Z c Q (n + 1) s := h
@[congr] theorem UnrR_congr {P : Program} {Z : TypeId → Option AV} {c : Code} {Q : Exit → St → Prop} {n : Nat} {s s' : St} (h : s = s') : UnrR P Z c Q n s = UnrR P Z c Q n s' := by rw [h]
theorem AWp.unrollR {P : Program} {Z : TypeId → Option AV} {c : Code} {N : Nat} {s : St} {Q : Exit → St → Prop} (k : Nat) (hm : P.follows .mixedOrders = true) (hZ : ∀ T z, Z T = some z → ZeroIs P T z) (hc : codeOk N c = true) (hN : s.n = N) (h : UnrR P Z c Q k s) :
    AWp P (.loop c) s fun e s' => Q e s' ∧ s'.n = N := by
  refine AWp.loop (fun n s => s.n = N ∧ UnrR P Z c Q n s) (n0 := k) (s0 := s) (Wk.refl s) ⟨hN, h⟩ fun n s hI => ?_
  obtain ⟨h1, h2⟩ := hI
  cases n with
  | zero => exact h2.elim
  | succ n =>
    refine AWp.mono (Run.sound hm hZ c s _ hc h1 h2) fun e s' h => ?_
    obtain ⟨h3, h4⟩ := h
    cases e with
    | normal => exact ⟨n, s', by omega, ⟨h4, h3⟩, Wk.refl s'⟩
    | _ => exact ⟨h3, h4⟩

theorem AV.ren_id : ∀ (v : AV), AV.ren id v = v := fun v => by
  refine AV.rec (motive_1 := fun y => AV.ren id y = y) (motive_2 := fun ys => AV.renL id ys = ys) ?_ ?_ ?_ ?_ ?_ ?_ ?_ ?_ ?_ ?_ ?_ ?_ ?_ ?_ ?_ ?_ ?_ ?_ ?_ ?_ v
  all_goals intros
  all_goals simp only [AV.ren, AV.renL, id, *]
theorem Heap.ren_id (H : Heap) : H.ren id = H := by
  unfold Heap.ren
  conv => rhs; rw [← List.map_id H]
  apply List.map_congr_left
  rintro ⟨k, b⟩ _
  cases b with
  | cells v => simp only [ABlk.ren, AV.ren_id, id]
  | map es =>
    simp only [ABlk.ren, id, AV.ren_id]
    congr 2
    conv => rhs; rw [← List.map_id es]
    rfl
  | raw _ _ => rfl
theorem Env.ren_id (t : Env) : t.ren id = t := by
  unfold Env.ren
  conv => rhs; rw [← List.map_id t]
  apply List.map_congr_left
  rintro ⟨k, v⟩ _
  simp only [AV.ren_id, id]
/-- Names from K on are taken back. -/
theorem Wk.gc {n nx K : Nat} {t : Env} {H : Heap} (hK : 100 ≤ K) (ht : onT (fun m => m < K) t) (hH : onH (fun m => m < K) H) : Wk ⟨n, t, H, nx⟩ ⟨n, t, H, K⟩ := by
  have h := Wk.ren (n := n) (nx := nx) (K := K) (t := t) (H := H) id (List.range K) (fun m _ => rfl) (fun m hm h => ⟨h, by simpa using hm⟩) hK (fun a b _ _ h => h)
    (fun d v hv => on_mono (fun m hm => .inl (by simpa using hm)) (ht d v hv)) (fun k b hb => by
      obtain ⟨h1, h2⟩ := hH k b hb
      refine ⟨.inl (by simpa using h1), ?_⟩
      cases b with
      | cells v => exact on_mono (fun m hm => .inl (by simpa using hm)) h2
      | map es => exact fun x hx => ⟨on_mono (fun m hm => .inl (by simpa using hm)) (h2 x hx).1, on_mono (fun m hm => .inl (by simpa using hm)) (h2 x hx).2⟩
      | raw _ _ => trivial)
  rwa [Env.ren_id, Heap.ren_id] at h
theorem onT_nil {S : Nat → Prop} : onT S [] := fun d v h => by simp [look] at h
theorem onT_cons {S : Nat → Prop} {d : Nat} {v : AV} {t : Env} (h : AV.on S v) (ht : onT S t) : onT S ((d, v) :: t) := fun k u hk => by
  simp only [look] at hk
  split at hk
  · cases hk; exact h
  · exact ht k u hk
theorem onH_nil {S : Nat → Prop} : onH S [] := fun d v h => by simp [Heap.get] at h
theorem onH_cons {S : Nat → Prop} {d : Nat} {b : ABlk} {t : Heap} (h1 : S d) (h : b.on S) (ht : onH S t) : onH S ((d, b) :: t) := fun k u hk => by
  simp only [Heap.get] at hk
  split at hk
  · rename_i hkd; cases hk; exact ⟨hkd ▸ h1, h⟩
  · exact ht k u hk
/-- A list that is a mapped one in another order is mapped of such a one. -/
theorem perm_map_inv {α β : Type} {f : α → β} : ∀ {l : List β} {m : List α}, l.Perm (m.map f) → ∃ m' : List α, m'.Perm m ∧ l = m'.map f := by
  intro l m h
  generalize hm : m.map f = k at h
  induction h generalizing m with
  | nil =>
    refine ⟨[], ?_, rfl⟩
    cases m with
    | nil => exact .nil
    | cons a r => simp at hm
  | cons x _ ih =>
    cases m with
    | nil => simp at hm
    | cons a r =>
      simp only [List.map_cons, List.cons.injEq] at hm
      obtain ⟨m', h1, h2⟩ := ih hm.2
      exact ⟨a :: m', h1.cons a, by simp [hm.1, h2]⟩
  | swap x y l =>
    cases m with
    | nil => simp at hm
    | cons a r =>
      cases r with
      | nil => simp at hm
      | cons b r =>
        simp only [List.map_cons, List.cons.injEq] at hm
        exact ⟨b :: a :: r, .swap _ _ _, by simp [hm]⟩
  | trans _ _ ih1 ih2 =>
    obtain ⟨m1, h1, h2⟩ := ih2 hm
    obtain ⟨m2, h3, h4⟩ := ih1 h2.symm
    exact ⟨m2, h3.trans h1, h4⟩
/-- All places once each: the list in another order. -/
theorem all_perm {α : Type} {l : List α} {js : List Nat} (d : α) (hn : js.Nodup) (hl : ∀ j, j ∈ js → j < l.length) (ha : ∀ k, k < l.length → k ∈ js) : (js.map fun j => l.getD j d).Perm l := by
  have h1 : js.Perm (List.range l.length) := by
    rw [List.perm_iff_count]
    intro a
    rw [List.nodup_range.count, hn.count]
    by_cases h : a < l.length
    · rw [if_pos (ha a h), if_pos (List.mem_range.2 h)]
    · rw [if_neg (fun hm => h (hl a hm)), if_neg (fun hm => h (List.mem_range.1 hm))]
  have h2 : (List.range l.length).map (fun j => l.getD j d) = l := by
    apply List.ext_getElem?
    intro i
    rw [List.getElem?_map]
    rcases Nat.lt_or_ge i l.length with h | h
    · rw [List.getElem?_range h]; simp [List.getD_eq_getElem?_getD, h]
    · rw [List.getElem?_eq_none (by simp; omega), List.getElem?_eq_none h]; rfl
  rw [← h2]
  have := h1.map fun j => l.getD j d
  rw [h2] at this ⊢
  exact this

theorem AV.on_true {x : AV} : AV.on (fun _ => True) x := by
  have := AV.on_ren (π := id) (S := fun _ => True) (fun _ => trivial) (v := x)
  rwa [AV.ren_id] at this
/-- Memory that is lent beside what is handed on: it is immutable from then on. -/
theorem ACall.lendH {P : Program} {f : FuncId} {args args' : List AV} {v : AV} {H put : Heap} (HL : Heap) (hc : ACall P f args H v put) (hargs : All2 (Frz (fun n => n ∈ H.map (·.1)) HL) args' args)
    (h1 : ∀ n, n ∈ HL.map (·.1) → n ∉ H.map (·.1) ∧ Heap.get put n = none) : ACall P f args' (HL ++ H) v put := by
  intro w I ρ cargs hsz hrel hbl hinj himm hfr
  let I1 : Nat → Prop := fun b => I b ∨ ∃ n blk o r, Heap.get HL n = some blk ∧ ρ n = some (b, o, r)
  have gL : ∀ n b, Heap.get HL n = some b → Heap.get (HL ++ H) n = some b := fun n b h => by rw [get_append, h]
  have gH : ∀ n b, Heap.get H n = some b → Heap.get (HL ++ H) n = some b := fun n b h => by
    rw [get_append]
    cases hl : Heap.get HL n with
    | none => exact h
    | some x => exact absurd (get_map h) (h1 n (get_map hl)).1
  have hI : ∀ b, I b → I1 b := fun b h => .inl h
  have hlen := All2.length hargs
  have hbL : ∀ n blk, Heap.get HL n = some blk → BRel w I ρ n blk := fun n b h => hbl n b (gL n b h)
  have hnot : ∀ n b, Heap.get H n = some b → ∀ bb o r, ρ n = some (bb, o, r) → ¬ I1 bb := by
    intro n b hn bb o r hr hb
    rcases hb with hb | ⟨m, blk, o', r', hm, hr'⟩
    · exact (himm bb hb).2 ⟨n, by simp only [List.map_append, List.mem_append]; exact .inr (get_map hn), o, r, hr⟩
    · exact hinj n m b blk (fun h => (h1 m (get_map hm)).1 (h ▸ get_map hn)) (gH n b hn) (gL m blk hm) _ _ _ _ _ _ hr hr' rfl
  have hcall := hc w I1 ρ cargs (by omega)
    (fun k hk => Frz.rel hI (fun _ _ _ h => h) hbL (fun n blk b o r g1 _ g3 => .inr ⟨n, blk, o, r, g1, g3⟩) (All2.get .undef .undef hargs k (by omega)) (hrel k (by omega)))
    (fun n b h => (hbl n b (gH n b h)).on' (S := fun _ => True) hI (fun _ _ _ h => h) trivial (by
      cases b with
      | cells v => exact AV.on_true
      | map es => exact fun x _ => ⟨AV.on_true, AV.on_true⟩
      | raw _ _ => trivial) (hnot n b h))
    (fun n m x y hnm g1 g2 => hinj n m x y hnm (gH n x g1) (gH m y g2))
    (fun b hb => ⟨by
      rcases hb with hb | ⟨n, blk, o, r, g1, g2⟩
      · exact (himm b hb).1
      · exact (hbL n blk g1).lt g2, fun ⟨n, hn, o, r, hr⟩ => by
        obtain ⟨blk, hblk⟩ := get_mem hn
        exact hnot n blk hblk b o r hr hb⟩)
    (fun n x hx hn => hfr n x hx fun hm => by
      simp only [List.map_append, List.mem_append] at hm
      rcases hm with hm | hm
      · rw [(h1 n hm).2] at hx; cases hx
      · exact hn hm)
  refine Calls.mono hcall ?_
  rintro e w' ⟨c, I', ρ', rfl, hp⟩
  have hown : ∀ b, OwnW ρ (H.map (·.1)) b → OwnW ρ ((HL ++ H).map (·.1)) b := by
    rintro b ⟨n, hn, o, r, hr⟩
    exact ⟨n, by simp only [List.map_append, List.mem_append]; exact .inr hn, o, r, hr⟩
  refine ⟨c, I', ρ', rfl, ⟨hp.val, hp.blk, hp.inj, fun n x hn b o r hr => (hp.own n x hn b o r hr).imp (hown b) id, ⟨hp.ext.os, hp.ext.tape, hp.ext.output, hp.ext.size, fun b hb hn => hp.ext.keep b hb fun h => hn (hown b h), fun b hb => hp.ext.imm b (hI b hb), fun b hb => ?_, hp.ext.rho⟩, hp.lt, hp.fresh⟩⟩
  rcases hp.ext.new b hb with (h | ⟨n, blk, o, r, g1, g2⟩) | h | h
  · exact .inl h
  · exact .inr (.inl ⟨n, by simp only [List.map_append, List.mem_append]; exact .inl (get_map g1), o, r, g2⟩)
  · exact .inr (.inl (hown b h))
  · exact .inr (.inr h)
theorem ACall.nilArgs {P : Program} {f : FuncId} {args args' : List AV} {v : AV} {H put : Heap} (hc : ACall P f args H v put) (hargs : All2 (Frz (fun n => n ∈ H.map (·.1)) []) args' args) : ACall P f args' H v put :=
  hc.lendH [] hargs fun n h => by simp at h

/-- An end behind which the state is told in another way. -/
def FinalW (P : Program) (fn : Func) (v : AV) (put : Heap) (e : Exit) (s : St) : Prop := ∃ s', Wk s s' ∧ Final P fn v put e s'
theorem AWp.postWk {P : Program} {c : Code} {s : St} {Q : Exit → St → Prop} (h : AWp P c s fun e s' => ∃ s'', Wk s' s'' ∧ Q e s'') : AWp P c s Q := fun C a w ha =>
  wp_mono (h C a w ha) fun e a' w' ⟨s', ⟨s'', h1, h2⟩, h3⟩ => ⟨s'', h2, h1 C a' w' h3⟩
theorem ACall.runHW {P : Program} {Z : TypeId → Option AV} {f : FuncId} {fn : Func} {c : Code} {args : List AV} {v : AV} {H put : Heap} (hm : P.follows .mixedOrders = true) (hZ : ∀ T z, Z T = some z → ZeroIs P T z) (hf : P.funcs[f]? = some fn) (hb : fn.body = some c) {N : Nat} (hN : fn.ntmps = N) (hc : codeOk N c = true) (ht : args.length ≤ N)
    (hargs : ∀ x, x ∈ args → AV.on (fun n => n ∈ H.map (·.1)) x ∧ ∀ vs, x ≠ .tuple vs) (hH : ∀ n b, Heap.get H n = some b → b.on fun n => n ∈ H.map (·.1)) (nx : Nat) (hnx : ∀ n, n ∈ H.map (·.1) → n < nx)
    (h : Run P Z c ⟨N, argEnv args 0, H, nx⟩ (FinalW P fn v put)) (hnx' : nx ≤ 100 := by decide) : ACall P f args H v put := by
  subst hN
  exact ACall.intro hf hb ht hargs hH nx hnx (fun n hn => Nat.lt_of_lt_of_le (hnx n hn) hnx') (AWp.postWk (AWp.mono (Run.sound hm hZ c _ _ hc rfl h) fun e s h => h.1))

theorem nodup_len : ∀ (n : Nat) (l : List Nat), l.Nodup → (∀ j, j ∈ l → j < n) → l.length ≤ n
  | 0, l, _, h => by
    cases l with
    | nil => exact Nat.le_refl _
    | cons a r => have := h a List.mem_cons_self; omega
  | n + 1, l, hn, h => by
    have h1 := nodup_len n (l.erase n) (hn.erase n) fun j hj => by
      have h2 := (hn.mem_erase_iff).1 hj
      have := h j h2.2
      have := h2.1
      omega
    by_cases hm : n ∈ l
    · rw [List.length_erase_of_mem hm] at h1; omega
    · rw [List.erase_of_not_mem hm] at h1; omega
end Go.Proofs.Ytipbgaahpchhbaa
