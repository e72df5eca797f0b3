/- Rounds of storing and crashing. -/
import Derived.Test.YthfaldoagmkllaaE15
set_option linter.unusedVariables false
set_option linter.unusedSimpArgs false
namespace Go.Proofs.Ythfaldoagmkllaa
open Go Go.RowKit

theorem cr_end {keep : List Bool} {d : DS} {at_ : Nat} {old next : Ms} (hok : d.Ok) (hn : d.n = 3) (hdn : d.down = false) (hp : d.pend = []) (hfl : d.fails = none) (hfu : d.fuse = 0) (hop : d.ops = 0)
    (hsm : ∀ c, gatherP d.sure c = gatherP d.seen c) (ha : at_ < 2) (ho : old.Ok) (hyo : mayM old = true) (hx : next.Ok) (hyx : mayM next = true) (hs : old.seq < next.seq) (hh : gatherP d.seen at_ = packM old)
    (ht : gatherP d.seen (1 - at_) = packM next ∨ ((∀ m, unpackM (gatherP d.seen (1 - at_)) = some m → m.seq < old.seq) ∧ ∀ j, j < 4 → keep.getD j false = false → stampAt (gatherP d.seen (1 - at_)) j < old.seq)) :
    ∃ new : Bool, (gatherP d.seen (1 - at_) = packM next → new = true) ∧ d.loadP = ((if new then next else old, ((if new then 1 - at_ else at_ : Nat) : Int), 0), { d with ops := 2 }) ∧ Cr keep { d with ops := 2 } (if new then 1 - at_ else at_) (if new then next else old) := by
  have hc : d.Calm := ⟨hdn, hfu, fun k => by rw [hfl]; rfl⟩
  have hld := calm_load hc (by omega)
  rw [hop] at hld
  have hk2 : ({ d with ops := 2 } : DS).Ok := ⟨hok.n1, hok.n2, hok.sure, hok.seen, hok.pend, hok.sureN, hok.seenN, hok.few, hok.fails, by show 2 ≤ 1000000; omega⟩
  have hu := unpack_pack ho hyo
  by_cases h : gatherP d.seen (1 - at_) = packM next
  · have hu2 := unpack_pack hx hyx
    have hpk := pick_new (g := fun c => gatherP d.seen c) ha (by rw [hh]; exact hu) (by rw [h]; exact hu2) hs
    refine ⟨true, fun _ => rfl, ?_, ?_⟩
    · rw [hld, hpk]; rfl
    · have e : 1 - (1 - at_) = at_ := by omega
      refine ⟨hk2, hn, hdn, hp, hfl, hfu, Nat.le_refl _, hsm, by show 1 - at_ < 2; omega, hx, hyx, h, fun m hm => ?_, fun j hj _ => ?_⟩
      · show m.seq < next.seq
        have hm : unpackM (gatherP d.seen (1 - (1 - at_))) = some m := hm
        rw [e, hh, hu] at hm
        cases hm; exact hs
      · show stampAt (gatherP d.seen (1 - (1 - at_))) j < next.seq
        rw [e, hh, stamp_pack ho hyo hj]; exact hs
  · obtain ⟨t1, t2⟩ := ht.resolve_left h
    have hpk := pick_old (g := fun c => gatherP d.seen c) ha (by rw [hh]; exact hu) t1
    refine ⟨false, fun h2 => absurd h2 h, ?_, ?_⟩
    · rw [hld, hpk]; rfl
    · exact ⟨hk2, hn, hdn, hp, hfl, hfu, Nat.le_refl _, hsm, ha, ho, hyo, hh, t1, t2⟩
/-- The disk behind a store that the power may have ended. -/
def cutP (d : DS) (fu : Nat) (b : Nat) (next : Ms) : Nat × DS := (d.planP [] fu).storeP (b : Nat) next
theorem cr_round {keep : List Bool} {d : DS} {at_ : Nat} {old next : Ms} (h : Cr keep d at_ old) {fu : Nat} (h1 : 1 ≤ fu) (h4 : fu ≤ 4) (hx : next.Ok) (hyx : mayM next = true) (hs : old.seq < next.seq) :
    (cutP d fu (1 - at_) next).2.Ok ∧ (cutP d fu (1 - at_) next).2.fails = some [] ∧ ∃ new : Bool, ((cutP d fu (1 - at_) next).1 = 0 → new = true) ∧
      ((cutP d fu (1 - at_) next).2.crashP keep).loadP = ((if new then next else old, ((if new then 1 - at_ else at_ : Nat) : Int), 0), { (cutP d fu (1 - at_) next).2.crashP keep with ops := 2 }) ∧
      Cr keep { (cutP d fu (1 - at_) next).2.crashP keep with ops := 2 } (if new then 1 - at_ else at_) (if new then next else old) := by
  have hat := h.at2
  have hb : 1 - at_ < 3 := by omega
  have hne : at_ ≠ 1 - at_ := by omega
  have hdp := plan_ok h.ok (fs := []) (fun f hf => by simp at hf) (fu : Int)
  have hop : ∀ (k : Nat) (e : DS), e.fails = some [] → e.fuse = (fu : Int) → e.ops = k → e.opP = if k + 1 = fu then (4, { e with ops := k + 1, down := true }) else (0, { e with ops := k + 1 }) := fun k e h1 h2 h3 => by
    unfold DS.opP
    rw [h1, h2, h3]
    by_cases hq : k + 1 = fu
    · rw [if_pos ⟨by omega, by omega⟩, if_pos hq]
    · rw [if_neg (by omega), if_neg hq]; rfl
  have hl := packM_len next
  have hX : (gatherP d.seen (1 - at_)).length = 256 := gatN_len h.ok.seen _ 4 (by omega)
  by_cases f1 : fu = 1
  · have hw : cutP d fu (1 - at_) next = (4, { d.planP [] fu with ops := 1, down := true }) := by
      unfold cutP DS.storeP
      have hwr : (d.planP [] fu).writeP ((1 - at_ : Nat) : Int) (packM next) = (4, { d.planP [] fu with ops := 1, down := true }) := by
        unfold DS.writeP
        have ho := hop 0 (d.planP [] fu) rfl rfl rfl
        rw [if_pos (show 0 + 1 = fu by omega)] at ho
        rw [if_neg (by show ¬ d.down = true; rw [h.down]; decide), if_neg (by show ¬ (((1 - at_ : Nat) : Int) < 0 ∨ (d.n : Int) ≤ ((1 - at_ : Nat) : Int)); rw [h.n]; omega), ho]
        rfl
      rw [if_pos ⟨hyx, by omega, by omega⟩, hwr]
      rfl
    rw [hw]
    have hk1 : ({ d.planP [] fu with ops := 1, down := true } : DS).Ok := ⟨hdp.n1, hdp.n2, hdp.sure, hdp.seen, hdp.pend, hdp.sureN, hdp.seenN, hdp.few, hdp.fails, by show 1 ≤ 1000000; omega⟩
    have hsr : (({ d.planP [] fu with ops := 1, down := true } : DS).crashP keep).sure = d.sure := by
      show setN d.sure d.pend keep false d.pend.length = d.sure
      rw [h.pend]; rfl
    have hse : (({ d.planP [] fu with ops := 1, down := true } : DS).crashP keep).seen = d.sure := hsr
    obtain ⟨new, n1, n2, n3⟩ := cr_end (keep := keep) (next := next) (crash_ok hk1 keep) h.n rfl rfl rfl rfl rfl (fun c => by rw [hsr, hse]) hat h.mok h.may hx hyx hs (by rw [hse, h.same]; exact h.here)
      (.inr ⟨by rw [hse, h.same]; exact h.there, by rw [hse, h.same]; exact h.stamps⟩)
    exact ⟨hk1, rfl, new, (fun h0 => by cases h0), n2, n3⟩
  -- the write was done
  have hk0 : ({ d.planP [] fu with ops := 1 } : DS).Ok := ⟨hdp.n1, hdp.n2, hdp.sure, hdp.seen, hdp.pend, hdp.sureN, hdp.seenN, hdp.few, hdp.fails, by show 1 ≤ 1000000; omega⟩
  have hkw := wr_ok hk0 (b := 1 - at_) (x := packM next) (by show 1 - at_ < d.n; rw [h.n]; omega) hl 4 (by omega) (by show d.pend.length + 4 ≤ 1000000; rw [h.pend]; decide)
  have hwr : (d.planP [] fu).writeP ((1 - at_ : Nat) : Int) (packM next) = (0, ({ d.planP [] fu with ops := 1 } : DS).wr (1 - at_) (packM next) 4) := by
    unfold DS.writeP
    have ho := hop 0 (d.planP [] fu) rfl rfl rfl
    rw [if_neg (show ¬ 0 + 1 = fu by omega)] at ho
    rw [if_neg (by show ¬ d.down = true; rw [h.down]; decide), if_neg (by show ¬ (((1 - at_ : Nat) : Int) < 0 ∨ (d.n : Int) ≤ ((1 - at_ : Nat) : Int)); rw [h.n]; omega), ho]
    rfl
  have hpw : (({ d.planP [] fu with ops := 1 } : DS).wr (1 - at_) (packM next) 4).pend = wrPN [] (1 - at_) (packM next) 4 := by
    show wrPN d.pend (1 - at_) (packM next) 4 = _
    rw [h.pend]
  obtain ⟨W, hW⟩ : ∃ W, ({ d.planP [] fu with ops := 1 } : DS).wr (1 - at_) (packM next) 4 = W := ⟨_, rfl⟩
  have hWs : W.sure = d.sure := by rw [← hW]; rfl
  have hWo : W.ops = 1 := by rw [← hW]; rfl
  have hWf : W.fuse = (fu : Int) := by rw [← hW]; rfl
  have hWl : W.fails = some [] := by rw [← hW]; rfl
  have hWd : W.down = false := by rw [← hW]; exact h.down
  have hWn : W.n = 3 := by rw [← hW]; exact h.n
  rw [hW] at hkw hwr hpw
  have hsn : ∀ w, w ∈ d.sure → wrOk 3 w := by have := h.ok.sure; rw [h.n] at this; exact this
  have hcu : cutP d fu (1 - at_) next = W.syncP := by
    unfold cutP DS.storeP
    rw [if_pos ⟨hyx, by omega, by omega⟩, hwr]
    rfl
  by_cases f2 : fu = 2
  · have hw : W.syncP = (4, { W with ops := 2, down := true }) := by
      unfold DS.syncP
      have ho := hop 1 W hWl hWf hWo
      rw [if_pos (show 1 + 1 = fu by omega)] at ho
      rw [if_neg (by rw [hWd]; decide), ho]
      rfl
    rw [hcu, hw]
    have hk1 : ({ W with ops := 2, down := true } : DS).Ok := ⟨hkw.n1, hkw.n2, hkw.sure, hkw.seen, hkw.pend, hkw.sureN, hkw.seenN, hkw.few, hkw.fails, by show 2 ≤ 1000000; omega⟩
    have hck := crash_ok hk1 keep
    have hsr : (({ W with ops := 2, down := true } : DS).crashP keep).sure = setN d.sure (wrPN [] (1 - at_) (packM next) 4) keep false 4 := by
      show setN W.sure W.pend keep false W.pend.length = _
      rw [hpw, hWs, wrPN_len]; rfl
    have hse : (({ W with ops := 2, down := true } : DS).crashP keep).seen = setN d.sure (wrPN [] (1 - at_) (packM next) 4) keep false 4 := hsr
    have hsk : ∀ w, w ∈ setN d.sure (wrPN [] (1 - at_) (packM next) 4) keep false 4 → wrOk 3 w := by
      have := hck.sure
      rw [hsr] at this
      have hn3 : (({ W with ops := 2, down := true } : DS).crashP keep).n = 3 := hWn
      rw [hn3] at this
      exact this
    have hg := fun c => gat_settle hsn hl hsk (b := 1 - at_) c
    have hth : gatherP (({ W with ops := 2, down := true } : DS).crashP keep).seen (1 - at_) = mixP (fun j => false || keep.getD j false) (gatherP d.seen (1 - at_)) (packM next) 4 := by
      rw [hse, hg, if_pos rfl, h.same]
    obtain ⟨new, n1, n2, n3⟩ := cr_end (keep := keep) (next := next) hck hWn rfl rfl rfl rfl rfl (fun c => by rw [hsr, hse]) hat h.mok h.may hx hyx hs (by rw [hse, hg, if_neg hne, h.same]; exact h.here)
      (by
        rw [hth]
        rcases mix_torn hX hx hyx hs h.stamps with q | q | ⟨q1, q2⟩
        · exact .inl q
        · rw [q]; exact .inr ⟨h.there, h.stamps⟩
        · exact .inr ⟨fun m hm => (by rw [q1] at hm; cases hm), q2⟩)
    exact ⟨hk1, hWl, new, (fun h0 => by cases h0), n2, n3⟩
  · have hw : W.syncP = (0, ({ W with ops := 2 } : DS).settle [] true) := by
      unfold DS.syncP
      have ho := hop 1 W hWl hWf hWo
      rw [if_neg (show ¬ 1 + 1 = fu by omega)] at ho
      rw [if_neg (by rw [hWd]; decide), ho]
      rfl
    rw [hcu, hw]
    have hk0 : ({ W with ops := 2 } : DS).Ok := ⟨hkw.n1, hkw.n2, hkw.sure, hkw.seen, hkw.pend, hkw.sureN, hkw.seenN, hkw.few, hkw.fails, by show 2 ≤ 1000000; omega⟩
    have hk1 := settle_ok hk0 [] true
    have hck := crash_ok hk1 keep
    have hsr : ((({ W with ops := 2 } : DS).settle [] true).crashP keep).sure = setN d.sure (wrPN [] (1 - at_) (packM next) 4) [] true 4 := by
      show setN W.sure W.pend [] true W.pend.length = _
      rw [hpw, hWs, wrPN_len]; rfl
    have hse : ((({ W with ops := 2 } : DS).settle [] true).crashP keep).seen = setN d.sure (wrPN [] (1 - at_) (packM next) 4) [] true 4 := hsr
    have hsk : ∀ w, w ∈ setN d.sure (wrPN [] (1 - at_) (packM next) 4) [] true 4 → wrOk 3 w := by
      have := hck.sure
      rw [hsr] at this
      have hn3 : ((({ W with ops := 2 } : DS).settle [] true).crashP keep).n = 3 := hWn
      rw [hn3] at this
      exact this
    have hg := fun c => gat_settle hsn hl hsk (b := 1 - at_) c
    have hth : gatherP ((({ W with ops := 2 } : DS).settle [] true).crashP keep).seen (1 - at_) = packM next := by
      rw [hse, hg, if_pos rfl, h.same, mix_all (x := true) hX hl 4 (Nat.le_refl _) (fun j hj => by simp), if_pos rfl, List.take_of_length_le (by omega)]
    obtain ⟨new, n1, n2, n3⟩ := cr_end (keep := keep) (next := next) hck hWn rfl rfl rfl rfl rfl (fun c => by rw [hsr, hse]) hat h.mok h.may hx hyx hs (by rw [hse, hg, if_neg hne, h.same]; exact h.here) (.inl hth)
    exact ⟨hk1, hWl, new, fun _ => n1 hth, n2, n3⟩
/-- The first master. -/
theorem cr_first {keep : List Bool} {at_ : Nat} (ha : at_ < 2) {m : Ms} (hm : m.Ok) (hy : mayM m = true) (hs : 0 < m.seq) : Cr keep ((DS.new 3).stored at_ m) at_ m := by
  have hk := new_ok (n := 3) (by omega) (by omega)
  have hok := stored_ok hk (by decide) (by decide) (b := at_) (by show at_ < 3; omega) m
  have hg := fun c => stored_gat hk (by decide) (b := at_) (by show at_ < 3; omega) m c
  have z0 : ∀ c, gatherP (DS.new 3).seen c = zb 256 := fun c => by
    have h2 : ∀ j, j < 4 → secOf [] (c, j) = sec (zb 256) j := fun j hj => by
      show zb 64 = sec (zb 256) j
      have : j = 0 ∨ j = 1 ∨ j = 2 ∨ j = 3 := by omega
      rcases this with rfl | rfl | rfl | rfl <;> decide +kernel
    exact gat_eq (n := 3) (fun w hw => by cases hw) (zb_len 256) h2
  have hsr : ((DS.new 3).stored at_ m).sure = setN [] (wrPN [] at_ (packM m) 4) [] true 4 := by
    show setN [] (wrPN [] at_ (packM m) 4) [] true (wrPN [] at_ (packM m) 4).length = _
    rw [wrPN_len]; rfl
  have hsk : ∀ w, w ∈ setN [] (wrPN [] at_ (packM m) 4) [] true 4 → wrOk 3 w := by
    have := hok.sure
    rw [hsr] at this
    exact this
  have hgs := fun c => gat_settle (n := 3) (l := []) (fun w hw => by cases hw) (packM_len m) hsk (b := at_) c
  have ht : gatherP ((DS.new 3).stored at_ m).seen (1 - at_) = zb 256 := by rw [hg, if_neg (by omega), z0]
  refine ⟨hok, rfl, rfl, rfl, rfl, rfl, Nat.le_refl _, fun c => ?_, ha, hm, hy, ?_, fun k hk => ?_, fun j hj _ => ?_⟩
  · rw [hsr, hgs, hg]
    by_cases h : c = at_
    · rw [if_pos h, if_pos h]
      have hX : (gatherP [] at_).length = 256 := gatN_len (n := 3) (fun w hw => by cases hw) _ 4 (by omega)
      rw [mix_all (x := true) hX (packM_len m) 4 (Nat.le_refl _) (fun j hj => by simp), if_pos rfl, List.take_of_length_le (by rw [packM_len]; omega)]
    · rw [if_neg h, if_neg h]; rfl
  · rw [hg, if_pos rfl]
  · rw [ht, unpack_zero] at hk; cases hk
  · rw [ht]
    have : stampAt (zb 256) j = 0 := by
      have : j = 0 ∨ j = 1 ∨ j = 2 ∨ j = 3 := by omega
      rcases this with rfl | rfl | rfl | rfl <;> decide +kernel
    omega
end Go.Proofs.Ythfaldoagmkllaa
