/- Crash. -/
import Derived.Test.YthfaldoagmkllaaD8
set_option linter.unusedVariables false
set_option linter.unusedSimpArgs false
namespace Go.Proofs.Ythfaldoagmkllaa
open Go Go.RowKit

def DS.crashP (d : DS) (keep : List Bool) : DS := { d.settle keep false with seen := (d.settle keep false).sure, fails := none, fuse := 0, ops := 0, down := false }
theorem crash_ok {d : DS} (hd : d.Ok) (keep : List Bool) : (d.crashP keep).Ok := by
  have h := settle_ok hd keep false
  exact ⟨h.n1, h.n2, h.sure, h.sure, h.pend, h.sureN, h.sureN, h.few, (fun f hf => by cases hf), Nat.zero_le _⟩
theorem fok22 : fnOk Try.prog 22 = true := by kernel_rfl
theorem nm5s : Nm 5 3 4 := ⟨by omega, by omega, by omega, by omega, by omega, by omega⟩
def wr0 : Wr := ((0, 0), [])
def copyL (L : List Wr) (js : List Nat) : List Wr := js.map fun j => L.getD j wr0
abbrev crB (e : DS) : ABlk := .cells (.agg [.int .i64 e.n, .mapv 1, .mapv 100, .nilsl, failV e.fails 3, .int .i64 e.fuse, .int .i64 e.ops, .bool e.down])
def crSt (e : DS) (L : List Wr) (bi bm clock : Nat) (ents : Array MapEntry) (js : List Nat) : St :=
  ⟨43, [(19, .ptr 101 0 []), (0, .ptr 0 0 [])], (100, mapB (copyL L js)) :: (0, crB e) :: (101, iterB bi bm clock ents js) :: (1, rangB bm clock ents) :: failB e.fails 3, 102⟩
theorem plain_bytes (l : List UInt8) : ∃ v, plainV (arrAV l) = some v := by
  have h : ∀ l : List UInt8, (AV.flatL (l.map byteAV)).mapM scalarV = some (l.map fun b => Value.int .u8 (b.toNat : Int)) := by
    intro l
    induction l with
    | nil => rfl
    | cons b l ih => simp only [List.map_cons, AV.flatL, byteAV, AV.flat, List.cons_append, List.nil_append, List.mapM_cons, scalarV, ih]; rfl
  exact ⟨.agg (l.map fun b => Value.int .u8 (b.toNat : Int)).toArray, by simp only [plainV, h]; rfl⟩
theorem copyL_ok {n : Nat} {L : List Wr} {js : List Nat} (hL : ∀ w, w ∈ L → wrOk n w) (hj : ∀ j, j ∈ js → j < L.length) : ∀ w, w ∈ copyL L js → wrOk n w := by
  intro w hw
  obtain ⟨j, hj', rfl⟩ := List.mem_map.1 hw
  have := hj j hj'
  rw [List.getD_eq_getElem?_getD, List.getElem?_eq_getElem this]
  exact hL _ (List.getElem_mem this)
theorem copyL_nodup {L : List Wr} {js : List Nat} (hn : (L.map (·.1)).Nodup) (hd : js.Nodup) (hj : ∀ j, j ∈ js → j < L.length) : ((copyL L js).map (·.1)).Nodup := by
  rw [copyL, List.map_map]
  refine nodup_map_on (fun a ha b hb hab => ?_) hd
  have h1 := hj a ha
  have h2 := hj b hb
  simp only [Function.comp, List.getD_eq_getElem?_getD, List.getElem?_eq_getElem h1, List.getElem?_eq_getElem h2, Option.getD_some] at hab
  have e1 : (L.map (·.1))[a]? = some L[a].1 := by rw [List.getElem?_map, List.getElem?_eq_getElem h1]; rfl
  have e2 : (L.map (·.1))[b]? = some L[b].1 := by rw [List.getElem?_map, List.getElem?_eq_getElem h2]; rfl
  exact (List.getElem?_inj (by simpa using h1) hn).1 (e1.trans (hab ▸ e2.symm))
theorem onT_cr {e : DS} {L : List Wr} {bi bm clock : Nat} {ents : Array MapEntry} {js : List Nat} : onT (fun m => m < 102) (crSt e L bi bm clock ents js).t :=
  onT_cons (show (101 : Nat) < 102 by omega) (onT_cons (show (0 : Nat) < 102 by omega) onT_nil)
theorem onH_fail {S : Nat → Prop} {f : Option (List (Int × Bool))} {q : Nat} (h : S q) : onH S (failB f q) := by
  cases f with
  | none => exact onH_nil
  | some l => exact onH_cons h (on_mapF _ _) onH_nil
theorem onH_cr {e : DS} {L : List Wr} {bi bm clock : Nat} {ents : Array MapEntry} {js : List Nat} : onH (fun m => m < 102) (crSt e L bi bm clock ents js).H :=
  onH_cons (show (100 : Nat) < 102 by omega) (on_mapW _ _) (onH_cons (show (0 : Nat) < 102 by omega) ⟨trivial, show (1 : Nat) < 102 by omega, show (100 : Nat) < 102 by omega, trivial, on_failV fun _ => by omega, trivial, trivial, trivial, trivial⟩
    (onH_cons (show (101 : Nat) < 102 by omega) trivial (onH_cons (show (1 : Nat) < 102 by omega) trivial (onH_fail (by omega)))))
theorem crash_spec (d : DS) (hd : d.Ok) (keep : List Bool) (hk : keep.length ≤ 9223372036854775807) : ACall Try.prog 22 [.ptr 0 0 [], boolsAV keep] (diskH0 d) (.tuple []) (diskH (d.crashP keep) 100 3 4) := by
  refine ACall.runHW (Z := Z) (N := 43) mixed hZ Try.func22 rfl rfl (by kernel_rfl) (by simp) (disk_args args_bl) (disk_on fun _ h => h) 100 (fun n h => by have := disk_lt n h; omega) ?_
  have hse := settle_spec d hd keep false hk
  have hok := settle_ok hd keep false
  have hpe : (d.settle keep false).pend = [] := rfl
  have hcr : d.crashP keep = { d.settle keep false with seen := (d.settle keep false).sure, fails := none, fuse := 0, ops := 0, down := false } := rfl
  obtain ⟨e, he⟩ : ∃ e, d.settle keep false = e := ⟨_, rfl⟩
  have hput := put_settle (d := d) (keep := keep) (all := false) (a := 100) (b := 100)
  rw [he] at hse hok hpe hcr hput
  rw [hcr]
  simp -dsimp -implicitDefEqProofs only [↓j0, ↓j1, ↓j7, ↓j9, ↓j12, ↓j13, ↓j15, j17, j18, j20, ↓j25, ↓j29, ↓j30, j35, ↓j38, ↓j48, ↓j53, ↓j145, ↓j146, ↓j148, ↓j149, argEnv, j171, reduceCtorEq, ↓reduceIte, Nat.reduceEqDiff, j196, j211, ↓j235, j319]
  refine CallTo.gen (args := [.ptr 0 0 [], boolsAV keep, .bool false]) (diskH0 d) (diskH0 e) 100 rfl fok39 (by simp -dsimp -implicitDefEqProofs only [↓j25, ↓j29, ↓j30, j32, j173, j174, ↓reduceIte, Nat.reduceEqDiff]) (fun x hx vs h => ?_) hse (fun n b h => h) ⟨Nat.le_refl _, hput⟩ ?_
  · subst h; simp at hx
  rw [app_disk0]
  have hpV : pendV e.pend 4 = .nilsl := by rw [hpe]; rfl
  have hpB : pendB e.pend 4 = [] := by rw [hpe]; rfl
  simp -dsimp -implicitDefEqProofs only [↓j0, ↓j1, ↓j7, ↓j12, ↓j15, j17, j18, j19, j20, j21, j23, ↓j25, ↓j27, ↓j29, ↓j38, ↓j43, ↓j44, ↓j45, ↓j56, ↓j66, ↓j67, ↓j76, ↓j78, ↓j79, j138, ↓j145, ↓j146, ↓j153, AV.proj, AV.offOf, AV.upd, AV.size, AV.sizeL, AV.layable, j163, j164, j166, j167, j168, j169, j170, j171, j172, reduceCtorEq, ↓reduceIte, Nat.reduceAdd, Nat.reduceEqDiff, j182, j188, j189, j196, j197, j349, j350, j363, j366, hpV, hpB, del_failB]
  refine NStep.range (es := mapE plAV arrAV e.sure) rfl Try.underlying74 rfl rfl (fun x hx => ?_) ?_
  · obtain ⟨y, _, rfl⟩ := List.mem_map.1 hx
    exact ⟨⟨_, plainV_pl y.1⟩, plain_bytes y.2⟩
  intro bi bm clock ents es0 hpm hen
  obtain ⟨L, hL, rfl⟩ := perm_map_inv hpm
  simp -dsimp -implicitDefEqProofs only [↓j0, ↓j14, ↓j16, j17, j18, j20, j21, j23, j170, j171, reduceCtorEq, ↓reduceIte, Nat.reduceAdd, Nat.reduceEqDiff, j188, j189, del_failB]
  have hLo : ∀ w, w ∈ L → wrOk e.n w := fun w hw => hok.sure w (hL.mem_iff.1 hw)
  have hLn : (L.map (·.1)).Nodup := (hL.map _).nodup_iff.2 hok.sureN
  refine AWp.loopR (Z := Z) mixed hZ (by kernel_rfl) (fun k s => ∃ js, js.Nodup ∧ (∀ j, j ∈ js → j < L.length) ∧ js.length + k = L.length ∧ s = crSt e L bi bm clock ents js) (n0 := L.length) (s0 := crSt e L bi bm clock ents []) ?_ ⟨[], by simp, fun j h => by simp at h, by simp, rfl⟩ ?_ rfl
  · refine Wk.mk (SubT.spec (t0 := (crSt e L bi bm clock ents []).t) ?_) (fun n b h => ?_) (Nat.le_refl _) rfl
    · simp -dsimp -implicitDefEqProofs only [↓j25, reduceCtorEq, ↓reduceIte, j182, j202, j203, crSt]
    · simp only [crSt, Heap.get, copyL, List.map_nil] at h ⊢
      by_cases h0 : n = 100
      · subst h0; simp only [if_true] at h; cases h; simp
      · by_cases h1 : n = 0
        · subst h1; simpa using h
        · by_cases h2 : n = 101
          · subst h2; simpa using h
          · by_cases h3 : n = 1
            · subst h3; simpa using h
            · by_cases h4 : n = 2
              · subst h4
                simp only [h0, h1, h2, h3, if_false, get_failB (show (2 : Nat) ≠ 3 by omega)] at h
                cases h
              · simpa [h0, h1, h2, h3, h4] using h
  rintro k s ⟨js, hjn, hjl, hjk, rfl⟩
  refine ⟨rfl, ?_⟩
  simp -dsimp -implicitDefEqProofs only [↓j1, ↓j7, ↓j12, ↓j15, ↓j68, crSt]
  refine NStep.next (n := 1) (es := mapE plAV arrAV L) rfl rfl hen rfl rfl (fun j hj => by simpa using hjl j hj) (fun hall => ?_) (fun q x hq hnq => ?_)
  · have hall' : ∀ q, q < L.length → q ∈ js := fun q hq => hall q (by simpa using hq)
    have hpm2 : (copyL L js).Perm e.sure := (all_perm wr0 hjn hjl hall').trans hL
    simp -dsimp -implicitDefEqProofs only [↓j0, ↓j1, ↓j7, ↓j11, ↓j12, ↓j13, ↓j15, j17, j18, j19, j20, j21, j23, ↓j25, ↓j27, ↓j29, ↓j30, j32, j33, j37, ↓j38, ↓j44, ↓j45, ↓j56, ↓j57, ↓j78, ↓j79, j85, ↓j145, ↓j146, ↓j148, ↓j149, ↓j153, AV.proj, AV.offOf, AV.upd, AV.size, AV.sizeL, AV.layable, j163, j164, j166, j167, j168, j169, j170, j171, reduceCtorEq, ↓reduceIte, Nat.reduceAdd, Nat.reduceEqDiff, j182, j188, j189, j196, j197, j249, j252, j355, j372, j375, j378, j381, size_failV, del_failB]
    refine ⟨_, Wk.trans (Wk.blk (k := 100) (y := mapB e.sure) rfl (brel_perm (hpm2.map _))) (Wk.blk (k := 1) (y := mapB e.sure) rfl (brel_rang hen (hL.map _))), ?_⟩
    refine Final.manyH (.inl rfl) (rs := []) (us := []) rfl trivial (by simp) trivial (disk_keep ?_ rfl rfl (fun f hf => by cases hf) (fun hp => absurd hpe hp))
    simp [Heap.get, hpV]; rfl
  · obtain ⟨w, hw, rfl⟩ : ∃ w, L[q]? = some w ∧ (plAV w.1, arrAV w.2) = x := by
      rw [List.getElem?_map] at hq
      cases hL' : L[q]? with
      | none => rw [hL'] at hq; cases hq
      | some w => rw [hL'] at hq; exact ⟨w, rfl, Option.some.inj hq⟩
    have hql : q < L.length := by
      rcases Nat.lt_or_ge q L.length with h | h
      · exact h
      · rw [List.getElem?_eq_none h] at hw; cases hw
    have hwo := hLo w (List.mem_of_getElem? hw)
    have hwl := hwo.2.2
    have hky : IsKey Try.prog 81 (plAV w.1) := isKey67 (wrOk_pl hok.n2 hwo)
    have hco := copyL_ok hLo hjl
    have hcn := copyL_nodup hLn hjn hjl
    have hjl2 : ∀ j, j ∈ js ++ [q] → j < L.length := fun j hj => by
      rcases List.mem_append.1 hj with h | h
      · exact hjl j h
      · simp only [List.mem_singleton] at h; omega
    have hjn2 : (js ++ [q]).Nodup := by
      rw [List.nodup_append]
      exact ⟨hjn, by simp, fun a ha b hb => by simp only [List.mem_singleton] at hb; subst hb; exact fun h => hnq (h ▸ ha)⟩
    have hc2 : copyL L (js ++ [q]) = copyL L js ++ [w] := by
      simp only [copyL, List.map_append, List.map_cons, List.map_nil, List.getD_eq_getElem?_getD, hw, Option.getD_some]
    have hnew : w.1 ∉ (copyL L js).map (·.1) := by
      have := copyL_nodup hLn hjn2 hjl2
      rw [hc2, List.map_append, List.nodup_append] at this
      exact fun h => this.2.2 _ h w.1 (by simp) rfl
    have hup : mput (mapE plAV arrAV (copyL L js)) (plAV w.1) (arrAV w.2) = mapE plAV arrAV (copyL L (js ++ [q])) := by
      rw [mput_map keyInj67 (wrOk_pl hok.n2 hwo) (fun x hx => wrOk_pl hok.n2 (hco x hx)) w.2, aPut_new hnew, hc2]
    simp -dsimp -implicitDefEqProofs only [↓j0, ↓j1, ↓j7, ↓j9, ↓j12, ↓j13, ↓j14, ↓j15, j17, j18, j20, j21, j23, ↓j25, ↓j29, ↓j57, ↓j69, j85, ↓j145, ↓j147, ↓j149, j163, j170, j171, reduceCtorEq, ↓reduceIte, Nat.reduceEqDiff]
    refine CallTo.entry (n := 1) (es := mapE plAV arrAV L) (k := q) rfl rfl hen rfl rfl hq ?_
    simp -dsimp -implicitDefEqProofs only [↓j0, ↓j1, ↓j4, ↓j8, ↓j15, j17, j18, j19, j20, j21, j23, j24, ↓j25, ↓j27, ↓j29, ↓j38, ↓j41, ↓j43, ↓j44, ↓j45, ↓j56, ↓j57, ↓j65, ↓j76, ↓j78, ↓j79, j85, j129, j138, ↓j145, ↓j146, ↓j153, AV.proj, AV.offOf, AV.upd, AV.size, AV.sizeL, AV.layable, j163, j164, j166, j167, j170, j171, j172, j174, reduceCtorEq, ↓reduceIte, Nat.reduceAdd, Nat.reduceEqDiff, j182, j196, j197, j240, j243, j350, j366, j383, j384, j390, j391, j428, j429, hwl]
    refine DoMapUpdate_own (k := plAV w.1) Try.underlying74 rfl keyed67 hky (goodW hok.n2 hco hcn) (fun vs h => by cases h) hup ?_
    simp -dsimp -implicitDefEqProofs only [↓j3, j17, j19, j20, j21, j23, j24, j170, j171, j173, j174, reduceCtorEq, ↓reduceIte, Nat.reduceEqDiff, j188, j189, del_failB]
    have hlen := nodup_len L.length (js ++ [q]) hjn2 hjl2
    simp only [List.length_append, List.length_cons, List.length_nil] at hlen
    refine ⟨by kernel_rfl, ?_⟩
    refine ⟨k - 1, crSt e L bi bm clock ents (js ++ [q]), by omega, ⟨js ++ [q], hjn2, hjl2, by simp; omega, rfl⟩, ?_⟩
    refine Wk.trans (b := ⟨43, (crSt e L bi bm clock ents (js ++ [q])).t, (crSt e L bi bm clock ents (js ++ [q])).H, 104⟩) (Wk.mk (SubT.spec (by simp -dsimp -implicitDefEqProofs only [↓j25, reduceCtorEq, ↓reduceIte, Nat.reduceEqDiff, j182, j202, j203, crSt])) (fun n b h => ?_) (Nat.le_refl _) rfl) (Wk.gc (by omega) onT_cr onH_cr)
    simp only [crSt, Heap.get] at h ⊢
    by_cases g0 : n = 100
    · rw [if_pos g0] at h ⊢; exact h
    rw [if_neg g0] at h ⊢
    by_cases g1 : n = 0
    · subst g1; simpa using h
    rw [if_neg g1] at h
    by_cases g2 : n = 101
    · subst g2; simpa using h
    rw [if_neg g2] at h
    by_cases g3 : n = 1
    · subst g3; simpa using h
    rw [if_neg g3] at h
    have g4 : n = 3 := by
      by_cases h3 : n = 3
      · exact h3
      · rw [get_failB h3] at h; cases h
    subst g4
    simpa using h
end Go.Proofs.Ythfaldoagmkllaa
