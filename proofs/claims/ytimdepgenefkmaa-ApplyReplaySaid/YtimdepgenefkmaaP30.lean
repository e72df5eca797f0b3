import Derived.Test.YtimdepgenefkmaaP29
set_option maxRecDepth 8000
set_option linter.unusedVariables false
set_option linter.unusedSimpArgs false
namespace Go.Proofs.Ytimdepgenefkmaa
open Go Go.RowKit

theorem decO_r {p : List UInt8} {a : Nat} {o : Od} (h : decO p a = some o) : a < 224 ∧ rdecO p a = some o := by
  unfold decO at h
  split at h
  · cases h
  rename_i ha
  refine ⟨by omega, ?_⟩
  unfold rdecO
  split at h
  · cases h
  rename_i h1
  split at h
  · rename_i h0
    cases h
    rw [h0, if_neg (fun e => absurd e.1 (by decide))]
  · rename_i h0
    split at h
    · cases h
    rename_i h2
    split at h
    · cases h
    rename_i h3
    cases h
    have hb : p.getD a 0 = 1 := by
      apply UInt8.toNat_inj.1
      have : (p.getD a 0).toNat ≠ 0 := fun e => h0 (UInt8.toNat_inj.1 (by rw [e]; rfl))
      show (p.getD a 0).toNat = 1
      omega
    rw [if_pos ⟨hb, by omega⟩, if_neg (by omega)]
theorem decL_r : ∀ {n a : Nat} {p : List UInt8} {l : List Od}, decL p n a = some l → rdecL p n a = some l
  | 0, _, _, _, h => h
  | n + 1, a, p, l, h => by
    rw [decL] at h
    cases ho : decO p a with
    | none => rw [ho] at h; cases h
    | some o =>
      rw [ho] at h
      have h : (decL p n (a + o.size)).map (o :: ·) = some l := h
      obtain ⟨h1, h2⟩ := decO_r ho
      rw [rdecL, if_pos h1, h2]
      cases hl : decL p n (a + o.size) with
      | none => rw [hl] at h; cases h
      | some l' =>
        rw [hl] at h
        show (rdecL p n (a + o.size)).map (o :: ·) = some l
        rw [decL_r hl]; exact h
theorem drop_split (p : List UInt8) (a k : Nat) : p.drop a = (p.drop a).take k ++ p.drop (a + k) := by
  rw [← List.drop_drop, List.take_append_drop]
theorem drop_one {p : List UInt8} {a : Nat} (h : a < p.length) : p.drop a = p.getD a 0 :: p.drop (a + 1) := by
  rw [List.drop_eq_getElem_cons h, List.getD_eq_getElem?_getD, List.getElem?_eq_getElem h]; rfl
theorem decO_text {p : List UInt8} (hp : p.length = 224) {a : Nat} {o : Od} (h : decO p a = some o) : p.drop a = o.text ++ p.drop (a + o.size) := by
  unfold decO at h
  split at h
  · cases h
  rename_i ha
  split at h
  · cases h
  rename_i h1
  split at h
  · rename_i h0
    cases h
    rw [drop_one (by omega), h0]; rfl
  · rename_i h0
    split at h
    · cases h
    rename_i h2
    split at h
    · cases h
    rename_i h3
    have hb : p.getD a 0 = 1 := by
      apply UInt8.toNat_inj.1
      have : (p.getD a 0).toNat ≠ 0 := fun e => h0 (UInt8.toNat_inj.1 (by rw [e]; rfl))
      show (p.getD a 0).toNat = 1
      omega
    obtain ⟨k, hk⟩ : ∃ k, (p.getD (a + 10) 0).toNat = k := ⟨_, rfl⟩
    rw [hk] at h h3
    have hl : ((p.drop (a + 11)).take k).length = k := by simp; omega
    have hkb : UInt8.ofNat k = p.getD (a + 10) 0 := by
      apply UInt8.toNat_inj.1
      rw [← hk]; simp
    have p1 := putL_num (p := p) (o := a + 1) (n := 2) (by omega)
    have p2 := putL_num (p := p) (o := a + 3) (n := 4) (by omega)
    have p3 := putL_num (p := p) (o := a + 7) (n := 2) (by omega)
    cases h
    have hs : Od.size ⟨true, numAt p (a + 1) 2, numAt p (a + 3) 4, numAt p (a + 7) 2, p.getD (a + 9) 0, (p.drop (a + 11)).take k⟩ = 11 + k := by
      show 11 + ((p.drop (a + 11)).take k).length = _
      rw [hl]
    have ht : Od.text ⟨true, numAt p (a + 1) 2, numAt p (a + 3) 4, numAt p (a + 7) 2, p.getD (a + 9) 0, (p.drop (a + 11)).take k⟩ =
        1 :: ((p.drop (a + 1)).take 2 ++ ((p.drop (a + 3)).take 4 ++ ((p.drop (a + 7)).take 2 ++ (p.getD (a + 9) 0 :: p.getD (a + 10) 0 :: (p.drop (a + 11)).take k)))) := by
      show 1 :: (putL (numAt p (a + 1) 2) 2 ++ (putL (numAt p (a + 3) 4) 4 ++ (putL (numAt p (a + 7) 2) 2 ++ (p.getD (a + 9) 0 :: UInt8.ofNat ((p.drop (a + 11)).take k).length :: (p.drop (a + 11)).take k)))) = _
      rw [p1, p2, p3, hl, hkb]
    rw [hs, ht]
    conv => lhs; rw [drop_one (by omega), hb, drop_split p (a + 1) 2, drop_split p (a + 1 + 2) 4, drop_split p (a + 1 + 2 + 4) 2, drop_one (a := a + 1 + 2 + 4 + 2) (by omega), drop_one (a := a + 1 + 2 + 4 + 2 + 1) (by omega), drop_split p (a + 1 + 2 + 4 + 2 + 1 + 1) k]
    simp only [Nat.add_assoc, Nat.reduceAdd, List.cons_append, List.append_assoc]
theorem decL_text : ∀ {n a : Nat} {p : List UInt8} {l : List Od}, p.length = 224 → decL p n a = some l → l.length = n ∧ p.drop a = textL l ++ p.drop (a + sumS l) ∧ ∀ o, o ∈ l → o.Ok
  | 0, a, p, l, _, h => by
    cases h
    exact ⟨rfl, rfl, fun o ho => by cases ho⟩
  | n + 1, a, p, l, hp, h => by
    rw [decL] at h
    cases ho : decO p a with
    | none => rw [ho] at h; cases h
    | some o =>
      rw [ho] at h
      have h : (decL p n (a + o.size)).map (o :: ·) = some l := h
      cases hl : decL p n (a + o.size) with
      | none => rw [hl] at h; cases h
      | some l' =>
        rw [hl] at h
        cases h
        obtain ⟨i1, i2, i3⟩ := decL_text hp hl
        refine ⟨by simp [i1], ?_, fun x hx => ?_⟩
        · rw [decO_text hp ho, i2, textL, sumS, List.append_assoc, Nat.add_assoc]
        · rcases List.mem_cons.1 hx with rfl | hx
          · exact (decO_ok ho).1
          · exact i3 x hx
theorem rdecL_ok : ∀ {n a : Nat} {p : List UInt8} {l : List Od}, rdecL p n a = some l → l.length ≤ n ∧ ∀ o, o ∈ l → o.Ok
  | 0, a, p, l, h => by
    cases h
    exact ⟨Nat.le_refl _, fun o ho => by cases ho⟩
  | n + 1, a, p, l, h => by
    rw [rdecL] at h
    split at h
    · rename_i ha
      cases ho : rdecO p a with
      | none => rw [ho] at h; cases h
      | some o =>
        rw [ho] at h
        have h : (rdecL p n (a + o.size)).map (o :: ·) = some l := h
        cases hl : rdecL p n (a + o.size) with
        | none => rw [hl] at h; cases h
        | some l' =>
          rw [hl] at h
          cases h
          obtain ⟨i1, i3⟩ := rdecL_ok hl
          refine ⟨by simp [i1], fun x hx => ?_⟩
          rcases List.mem_cons.1 hx with rfl | hx
          · exact (rdecO_ok ha ho).1
          · exact i3 x hx
    · cases h
      exact ⟨by simp, fun o ho => by cases ho⟩
theorem getUndo_some {no : Nat} (hno : no < 65536) {p : List UInt8} (hp : p.length = 224) {u : Ud} (h : getUndo no p = some u) :
    decL p (p.getD 15 0).toNat 16 = some u.olds ∧ u.lsn = lsnOf p ∧ u.Ok ∧ mayP u = true ∧ putUndo no u = p := by
  unfold getUndo at h
  split at h
  · rename_i ho
    cases hd : decL p (p.getD 15 0).toNat 16 with
    | none => rw [hd] at h; cases h
    | some l =>
      rw [hd] at h
      have h : (if (p.drop (16 + sumS l)).all (· == 0) && mayP ⟨lsnOf p, l⟩ then some (⟨lsnOf p, l⟩ : Ud) else none) = some u := h
      split at h
      · rename_i hc
        cases h
        rw [Bool.and_eq_true] at hc
        obtain ⟨hz, hm⟩ := hc
        obtain ⟨t1, t2, t3⟩ := decL_text hp hd
        have hnb := (p.getD 15 0).toNat_lt
        have hu : (⟨lsnOf p, l⟩ : Ud).Ok := ⟨Nat.lt_of_lt_of_le (numAt_lt (p := p) (o := 7) (n := 8)) (by decide), by show l.length ≤ _; omega, t3⟩
        refine ⟨rfl, rfl, hu, hm, ?_⟩
        have hm' := hm
        unfold mayP at hm'
        simp only [Bool.and_eq_true, decide_eq_true_eq] at hm'
        have hs : 16 + sumS l ≤ 224 := hm'.2
        have hzz : p.drop (16 + sumS l) = zb (208 - sumS l) := by
          rw [(zeros_iff _).1 hz, List.length_drop, hp]; congr 1; omega
        have hd15 : p.drop 15 = undoRest ⟨lsnOf p, l⟩ ++ zb (208 - sumS l) := by
          rw [drop_one (by omega), t2, hzz]
          show _ = (UInt8.ofNat l.length :: textL l) ++ _
          rw [t1]
          have : UInt8.ofNat (p.getD 15 0).toNat = p.getD 15 0 := by apply UInt8.toNat_inj.1; simp
          rw [this]; rfl
        have := (opens_iff hno hp).1 ho
        unfold putUndo
        rw [hm, if_pos rfl]
        rw [hd15] at this
        exact this.symm
      · cases h
  · cases h
theorem rget_getU {no : Nat} (hno : no < 65536) {p : List UInt8} (hp : p.length = 224) : rgetUndo no p = getUndo no p := by
  cases hg : getUndo no p with
  | some u =>
    obtain ⟨h1, h2, h3, h4, h5⟩ := getUndo_some hno hp hg
    obtain ⟨lsn, l⟩ := u
    have h2 : lsn = lsnOf p := h2
    subst h2
    unfold rgetUndo
    rw [decL_r h1]
    simp only [h4, h5, beq_self_eq_true, Bool.and_self, if_true]
  | none =>
    cases hr : rgetUndo no p with
    | none => rfl
    | some u =>
      unfold rgetUndo at hr
      cases hd : rdecL p (p.getD 15 0).toNat 16 with
      | none => rw [hd] at hr; cases hr
      | some l =>
        rw [hd] at hr
        have hr : (if mayP ⟨lsnOf p, l⟩ && (putUndo no ⟨lsnOf p, l⟩ == p) then some (⟨lsnOf p, l⟩ : Ud) else none) = some u := hr
        split at hr
        · rename_i hc
          rw [Bool.and_eq_true, beq_iff_eq] at hc
          obtain ⟨r1, r2⟩ := rdecL_ok hd
          have hnb := (p.getD 15 0).toNat_lt
          have hu : (⟨lsnOf p, l⟩ : Ud).Ok := ⟨Nat.lt_of_lt_of_le (numAt_lt (p := p) (o := 7) (n := 8)) (by decide), by show l.length ≤ _; omega, r2⟩
          have := getUndo_put hno hu hc.1
          rw [hc.2, hg] at this
          cases this
        · cases hr
end Go.Proofs.Ytimdepgenefkmaa
