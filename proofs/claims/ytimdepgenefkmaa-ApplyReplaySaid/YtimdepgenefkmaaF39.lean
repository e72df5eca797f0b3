import Derived.Test.YtimdepgenefkmaaM5
import Derived.DeepKeys4
set_option linter.unusedVariables false
set_option linter.unusedSimpArgs false
namespace Go.Proofs.Ytimdepgenefkmaa
open Go Go.RowKit

section
variable {α β : Type} [DecidableEq α]
variable {K : α → AV} {V : β → AV}
structure KeyInj (K : α → AV) (ok : α → Prop) : Prop where
  inj : ∀ a b, ok a → ok b → plainV (K a) = plainV (K b) → a = b
variable {ok : α → Prop}
end

def permN (xs : List Nat) (n : Nat) : Nat := match xs[n]? with
  | some k => k
  | none => n + 1 + xs.sum
theorem mem_le_sum : ∀ {xs : List Nat} {x : Nat}, x ∈ xs → x ≤ xs.sum
  | y :: ys, x, h => by
    rcases List.mem_cons.1 h with rfl | h
    · simp
    · have := mem_le_sum h; simp; omega
theorem permN_inj {xs : List Nat} (h : xs.Nodup) : ∀ a b, permN xs a = permN xs b → a = b := by
  intro a b hab
  unfold permN at hab
  cases ha : xs[a]? with
  | some x =>
    cases hb : xs[b]? with
    | some y =>
      rw [ha, hb] at hab
      simp only at hab
      subst hab
      have h1 : a < xs.length := by
        rcases Nat.lt_or_ge a xs.length with h1 | h1
        · exact h1
        · rw [List.getElem?_eq_none h1] at ha; cases ha
      exact (List.getElem?_inj h1 h).1 (ha.trans hb.symm)
    | none =>
      rw [ha, hb] at hab
      simp only at hab
      have := mem_le_sum (List.mem_of_getElem? ha); omega
  | none =>
    cases hb : xs[b]? with
    | some y =>
      rw [ha, hb] at hab
      simp only at hab
      have := mem_le_sum (List.mem_of_getElem? hb); omega
    | none =>
      rw [ha, hb] at hab
      simp only at hab
      omega
open Classical in
theorem permN_left {xs : List Nat} (h : xs.Nodup) : ∃ σ : Nat → Nat, ∀ n, σ (permN xs n) = n :=
  ⟨fun m => if hm : ∃ n, permN xs n = m then Classical.choose hm else 0, fun n => by
    have hm : ∃ k, permN xs k = permN xs n := ⟨n, rfl⟩
    show (if hm : ∃ k, permN xs k = permN xs n then Classical.choose hm else 0) = n
    rw [dif_pos hm]
    exact permN_inj h _ _ (Classical.choose_spec hm)⟩
theorem ACall.perm {P : Program} {f : FuncId} {args : List AV} {v : AV} {H put : Heap} (xs : List Nat) (h : xs.Nodup) (hc : ACall P f args H v put) :
    ACall P f (args.map (AV.ren (permN xs))) (H.ren (permN xs)) (v.ren (permN xs)) (put.ren (permN xs)) := by
  obtain ⟨σ, hσ⟩ := permN_left h
  exact hc.ren hσ

def UnrR (P : Program) (Z : TypeId → Option AV) (c : Code) (Q : Exit → St → Prop) : Nat → St → Prop
  | 0, _ => False
  | n + 1, s => Run P Z c s fun e s' => match e with
    | .normal => UnrR P Z c Q n s'
    | e => Q e s'
theorem UnrR.step {P : Program} {Z : TypeId → Option AV} {c : Code} {Q : Exit → St → Prop} {n : Nat} {s : St} (h : Run P Z c s fun e s' => match e with
    | .normal => UnrR P Z c Q n s'
    | e => Q e s') : UnrR P Z c Q (n + 1) s := h
@[congr] theorem UnrR_congr {P : Program} {Z : TypeId → Option AV} {c : Code} {Q : Exit → St → Prop} {n : Nat} {s s' : St} (h : s = s') : UnrR P Z c Q n s = UnrR P Z c Q n s' := by rw [h]
theorem AV.ren_id : ∀ (v : AV), AV.ren id v = v := fun v => by
  refine AV.rec (motive_1 := fun y => AV.ren id y = y) (motive_2 := fun ys => AV.renL id ys = ys) ?_ ?_ ?_ ?_ ?_ ?_ ?_ ?_ ?_ ?_ ?_ ?_ ?_ ?_ ?_ ?_ ?_ ?_ ?_ ?_ v
  all_goals intros
  all_goals simp only [AV.ren, AV.renL, id, *]
theorem Heap.ren_id (H : Heap) : H.ren id = H := by
  unfold Heap.ren
  conv => rhs; rw [← List.map_id H]
  apply List.map_congr_left
  rintro ⟨k, b⟩ _
  cases b with
  | cells v => simp only [ABlk.ren, AV.ren_id, id]
  | map es =>
    simp only [ABlk.ren, id, AV.ren_id]
    congr 2
    conv => rhs; rw [← List.map_id es]
    rfl
  | raw _ _ => rfl
theorem Env.ren_id (t : Env) : t.ren id = t := by
  unfold Env.ren
  conv => rhs; rw [← List.map_id t]
  apply List.map_congr_left
  rintro ⟨k, v⟩ _
  simp only [AV.ren_id, id]
theorem Wk.gc {n nx K : Nat} {t : Env} {H : Heap} (hK : 100 ≤ K) (ht : onT (fun m => m < K) t) (hH : onH (fun m => m < K) H) : Wk ⟨n, t, H, nx⟩ ⟨n, t, H, K⟩ := by
  have h := Wk.ren (n := n) (nx := nx) (K := K) (t := t) (H := H) id (List.range K) (fun m _ => rfl) (fun m hm h => ⟨h, by simpa using hm⟩) hK (fun a b _ _ h => h)
    (fun d v hv => on_mono (fun m hm => .inl (by simpa using hm)) (ht d v hv)) (fun k b hb => by
      obtain ⟨h1, h2⟩ := hH k b hb
      refine ⟨.inl (by simpa using h1), ?_⟩
      cases b with
      | cells v => exact on_mono (fun m hm => .inl (by simpa using hm)) h2
      | map es => exact fun x hx => ⟨on_mono (fun m hm => .inl (by simpa using hm)) (h2 x hx).1, on_mono (fun m hm => .inl (by simpa using hm)) (h2 x hx).2⟩
      | raw _ _ => trivial)
  rwa [Env.ren_id, Heap.ren_id] at h
theorem AV.on_true {x : AV} : AV.on (fun _ => True) x := by
  have := AV.on_ren (π := id) (S := fun _ => True) (fun _ => trivial) (v := x)
  rwa [AV.ren_id] at this
theorem ACall.lendH {P : Program} {f : FuncId} {args args' : List AV} {v : AV} {H put : Heap} (HL : Heap) (hc : ACall P f args H v put) (hargs : All2 (Frz (fun n => n ∈ H.map (·.1)) HL) args' args)
    (h1 : ∀ n, n ∈ HL.map (·.1) → n ∉ H.map (·.1) ∧ Heap.get put n = none) : ACall P f args' (HL ++ H) v put := by
  intro w I ρ cargs hsz hrel hbl hinj himm hfr
  let I1 : Nat → Prop := fun b => I b ∨ ∃ n blk o r, Heap.get HL n = some blk ∧ ρ n = some (b, o, r)
  have gL : ∀ n b, Heap.get HL n = some b → Heap.get (HL ++ H) n = some b := fun n b h => by rw [get_append, h]
  have gH : ∀ n b, Heap.get H n = some b → Heap.get (HL ++ H) n = some b := fun n b h => by
    rw [get_append]
    cases hl : Heap.get HL n with
    | none => exact h
    | some x => exact absurd (get_map h) (h1 n (get_map hl)).1
  have hI : ∀ b, I b → I1 b := fun b h => .inl h
  have hlen := All2.length hargs
  have hbL : ∀ n blk, Heap.get HL n = some blk → BRel w I ρ n blk := fun n b h => hbl n b (gL n b h)
  have hnot : ∀ n b, Heap.get H n = some b → ∀ bb o r, ρ n = some (bb, o, r) → ¬ I1 bb := by
    intro n b hn bb o r hr hb
    rcases hb with hb | ⟨m, blk, o', r', hm, hr'⟩
    · exact (himm bb hb).2 ⟨n, by simp only [List.map_append, List.mem_append]; exact .inr (get_map hn), o, r, hr⟩
    · exact hinj n m b blk (fun h => (h1 m (get_map hm)).1 (h ▸ get_map hn)) (gH n b hn) (gL m blk hm) _ _ _ _ _ _ hr hr' rfl
  have hcall := hc w I1 ρ cargs (by omega)
    (fun k hk => Frz.rel hI (fun _ _ _ h => h) hbL (fun n blk b o r g1 _ g3 => .inr ⟨n, blk, o, r, g1, g3⟩) (All2.get .undef .undef hargs k (by omega)) (hrel k (by omega)))
    (fun n b h => (hbl n b (gH n b h)).on' (S := fun _ => True) hI (fun _ _ _ h => h) trivial (by
      cases b with
      | cells v => exact AV.on_true
      | map es => exact fun x _ => ⟨AV.on_true, AV.on_true⟩
      | raw _ _ => trivial) (hnot n b h))
    (fun n m x y hnm g1 g2 => hinj n m x y hnm (gH n x g1) (gH m y g2))
    (fun b hb => ⟨by
      rcases hb with hb | ⟨n, blk, o, r, g1, g2⟩
      · exact (himm b hb).1
      · exact (hbL n blk g1).lt g2, fun ⟨n, hn, o, r, hr⟩ => by
        obtain ⟨blk, hblk⟩ := get_mem hn
        exact hnot n blk hblk b o r hr hb⟩)
    (fun n x hx hn => hfr n x hx fun hm => by
      simp only [List.map_append, List.mem_append] at hm
      rcases hm with hm | hm
      · rw [(h1 n hm).2] at hx; cases hx
      · exact hn hm)
  refine Calls.mono hcall ?_
  rintro e w' ⟨c, I', ρ', rfl, hp⟩
  have hown : ∀ b, OwnW ρ (H.map (·.1)) b → OwnW ρ ((HL ++ H).map (·.1)) b := by
    rintro b ⟨n, hn, o, r, hr⟩
    exact ⟨n, by simp only [List.map_append, List.mem_append]; exact .inr hn, o, r, hr⟩
  refine ⟨c, I', ρ', rfl, ⟨hp.val, hp.blk, hp.inj, fun n x hn b o r hr => (hp.own n x hn b o r hr).imp (hown b) id, ⟨hp.ext.os, hp.ext.tape, hp.ext.output, hp.ext.size, fun b hb hn => hp.ext.keep b hb fun h => hn (hown b h), fun b hb => hp.ext.imm b (hI b hb), fun b hb => ?_, hp.ext.rho⟩, hp.lt, hp.fresh⟩⟩
  rcases hp.ext.new b hb with (h | ⟨n, blk, o, r, g1, g2⟩) | h | h
  · exact .inl h
  · exact .inr (.inl ⟨n, by simp only [List.map_append, List.mem_append]; exact .inl (get_map g1), o, r, g2⟩)
  · exact .inr (.inl (hown b h))
  · exact .inr (.inr h)
theorem ACall.nilArgs {P : Program} {f : FuncId} {args args' : List AV} {v : AV} {H put : Heap} (hc : ACall P f args H v put) (hargs : All2 (Frz (fun n => n ∈ H.map (·.1)) []) args' args) : ACall P f args' H v put :=
  hc.lendH [] hargs fun n h => by simp at h

end Go.Proofs.Ytimdepgenefkmaa
