/- settle, Sync. -/
import Derived.Test.YthfaldoagmkllaaD5
set_option linter.unusedVariables false
set_option linter.unusedSimpArgs false
namespace Go.Proofs.Ythfaldoagmkllaa
open Go Go.RowKit

def setN (l p : List Wr) (keep : List Bool) (all : Bool) : Nat → List Wr
  | 0 => l
  | i + 1 => match p[i]? with
    | some w => if all || keep.getD i false then aPut (setN l p keep all i) w.1 w.2 else setN l p keep all i
    | none => setN l p keep all i
def DS.settle (d : DS) (keep : List Bool) (all : Bool) : DS := { d with sure := setN d.sure d.pend keep all d.pend.length, pend := [] }
def DS.part (d : DS) (keep : List Bool) (all : Bool) (i : Nat) : DS := { d with sure := setN d.sure d.pend keep all i }
theorem part_pend (d : DS) (keep : List Bool) (all : Bool) (i : Nat) : (d.part keep all i).pend = d.pend := rfl
theorem part_fails (d : DS) (keep : List Bool) (all : Bool) (i : Nat) : (d.part keep all i).fails = d.fails := rfl
theorem part_ok {d : DS} (hd : d.Ok) (keep : List Bool) (all : Bool) : ∀ i, (d.part keep all i).Ok
  | 0 => hd
  | i + 1 => by
    have ih := part_ok hd keep all i
    have key : (∀ w, w ∈ setN d.sure d.pend keep all (i + 1) → wrOk d.n w) ∧ ((setN d.sure d.pend keep all (i + 1)).map (·.1)).Nodup := by
      simp only [setN]
      cases hp : d.pend[i]? with
      | none => exact ⟨ih.sure, ih.sureN⟩
      | some w =>
        simp only
        split
        · refine ⟨fun v hv => ?_, aPut_nodup _ _ ih.sureN⟩
          rcases aPut_mem hv with rfl | h
          · exact hd.pend w (List.mem_of_getElem? hp)
          · exact ih.sure v h
        · exact ⟨ih.sure, ih.sureN⟩
    exact ⟨hd.n1, hd.n2, key.1, hd.seen, hd.pend, key.2, hd.seenN, hd.few, hd.fails, hd.ops⟩
theorem settle_ok {d : DS} (hd : d.Ok) (keep : List Bool) (all : Bool) : (d.settle keep all).Ok := by
  have h := part_ok hd keep all d.pend.length
  exact ⟨h.n1, h.n2, h.sure, h.seen, fun w hw => (by simp [DS.settle] at hw), h.sureN, h.seenN, Nat.zero_le _, h.fails, h.ops⟩
abbrev boolsAV (l : List Bool) : AV := .vsl (l.map .bool) l.length
theorem on_bools (S : Nat → Prop) (l : List Bool) : AV.onL S (l.map .bool) := by
  rw [AV.onL_iff]
  intro x hx
  obtain ⟨o, _, rfl⟩ := List.mem_map.1 hx
  trivial
theorem unif_bools (l : List Bool) : Unif 1 (l.map .bool) := fun x hx => by
  obtain ⟨o, _, rfl⟩ := List.mem_map.1 hx; rfl
theorem args_kb {l : List Bool} {b : Bool} : ∀ y, y ∈ [boolsAV l, .bool b] → AV.on (fun _ => False) y ∧ ∀ vs, y ≠ .tuple vs := fun y hy => by
  simp only [List.mem_cons, List.not_mem_nil, or_false] at hy
  rcases hy with rfl | rfl
  · exact ⟨on_bools _ _, fun vs h => by cases h⟩
  · exact ⟨trivial, fun vs h => by cases h⟩
theorem fok39 : fnOk Try.prog 39 = true := by kernel_rfl
theorem disk_onH {d : DS} {s q m : Nat} {S : Nat → Prop} (hS : ∀ n, n = 0 ∨ n = 1 ∨ n = s ∨ n = q ∨ n = m → S n) : onH S (diskH d s q m) := fun n b h =>
  ⟨hS n (by rcases get_disk h with ⟨h, _⟩ | ⟨h, _⟩ | ⟨h, _⟩ | ⟨h, _⟩ | ⟨h, _⟩ <;> omega), disk_on (fun k hk => hS k (by rcases names_disk.1 hk with h | h | h | ⟨h, _⟩ | ⟨h, _⟩ <;> omega)) n b h⟩
def seSt (d : DS) (keep : List Bool) (all : Bool) (i : Nat) : St := ⟨43, [(13, .int .i64 i), (12, .int .i64 d.pend.length), (11, pendV d.pend 4), (0, .ptr 0 0 []), (1, boolsAV keep), (2, .bool all)], diskH0 (d.part keep all i), 100⟩
theorem onT_se (d : DS) (keep : List Bool) (all : Bool) (i : Nat) : onT (fun m => m < 100) (seSt d keep all i).t :=
  onT_cons trivial (onT_cons trivial (onT_cons (on_pendV fun _ => by omega) (onT_cons (show (0 : Nat) < 100 by omega) (onT_cons (on_bools _ _) (onT_cons trivial onT_nil)))))
theorem disk_in {d : DS} {s q m : Nat} {H : Heap} (h0 : Heap.get H 0 = some (dskC d s q m)) (h1 : Heap.get H 1 = some (mapB d.sure)) (h2 : Heap.get H s = some (mapB d.seen)) (h3 : ∀ f, d.fails = some f → Heap.get H q = some (.map (mapE flK flV f)))
    (h4 : d.pend ≠ [] → Heap.get H m = some (.cells (.agg (d.pend.map wrAV)))) : ∀ n b, Heap.get (diskH d s q m) n = some b → Heap.get H n = some b := by
  intro n b h
  rcases get_disk h with ⟨rfl, rfl⟩ | ⟨rfl, rfl⟩ | ⟨rfl, rfl⟩ | ⟨rfl, f, hf, rfl⟩ | ⟨rfl, hp, rfl⟩
  · exact h0
  · exact h1
  · exact h2
  · exact h3 f hf
  · exact h4 hp
theorem settle_spec (d : DS) (hd : d.Ok) (keep : List Bool) (all : Bool) (hk : keep.length ≤ 9223372036854775807) : ACall Try.prog 39 [.ptr 0 0 [], boolsAV keep, .bool all] (diskH0 d) (.tuple []) (diskH0 (d.settle keep all)) := by
  refine ACall.runH (Z := Z) (N := 43) mixed hZ Try.func39 rfl rfl (by kernel_rfl) (by simp) (disk_args args_kb) (disk_on fun _ h => h) 100 (fun n h => by have := disk_lt n h; omega) ?_
  have hl0 : ∀ (H : Heap) (m : Nat) (K : Eff → Nat → Prop), LenAt Try.prog 75 H m (pendV d.pend 4) K = K ⟨.int .i64 (d.pend.length : Nat), [], [], []⟩ m := by
    intro H m K
    cases hp : d.pend with
    | nil => simp -dsimp -implicitDefEqProofs only [pendV, ↓j60, j144, ↓j145, j231, j477]
    | cons w r => simp -dsimp -implicitDefEqProofs only [pendV, ↓j61, j143, ↓j145, j230, j477]
  have pd0 : Heap.del (pendB d.pend 4) 0 = pendB d.pend 4 := del_pendB (by omega)
  simp -dsimp -implicitDefEqProofs only [↓j0, ↓j1, ↓j7, ↓j12, ↓j14, ↓j15, ↓j16, j17, j18, j20, ↓j25, ↓j27, ↓j29, ↓j30, j33, ↓j38, ↓j43, ↓j45, ↓j56, ↓j58, ↓j76, ↓j79, ↓j145, ↓j146, ↓j153, AV.proj, AV.offOf, AV.size, AV.sizeL, argEnv, j163, j164, j166, j167, j171, ↓reduceIte, Nat.reduceAdd, j182, j196, j197, j369, load_pendV, hl0]
  refine AWp.loopR (Z := Z) mixed hZ (by kernel_rfl) (fun k s => ∃ i, i + k = d.pend.length ∧ s = seSt d keep all i) (n0 := d.pend.length) (s0 := seSt d keep all 0) ?_ ⟨0, by omega, rfl⟩ ?_ rfl
  · refine Wk.mk (SubT.spec (t0 := (seSt d keep all 0).t) ?_) (fun n b h => h) (Nat.le_refl _) rfl
    simp -dsimp -implicitDefEqProofs only [↓j25, j179, reduceCtorEq, ↓reduceIte, Nat.reduceEqDiff, j182, j183, j184, j202, j203, j209, seSt] <;> simp
  rintro k s ⟨i, hi, rfl⟩
  refine ⟨rfl, ?_⟩
  have hfew := hd.few
  rcases Nat.lt_or_ge i d.pend.length with hlt | hge
  · obtain ⟨w, hw⟩ := list_get hlt
    have hne : d.pend ≠ [] := fun h => by rw [h] at hlt; simp at hlt
    have hpV := pendV_eq (m := 4) hne
    have hpB := pendB_eq (m := 4) hne
    have hwo := hd.pend w (List.mem_of_getElem? hw)
    have hdi : decide ((i : Int) < (d.pend.length : Int)) = true := decide_eq_true (by omega)
    have hix : (i : Int) < (d.pend.length : Int) := by omega
    have hub := unif_wr d.pend fun w hw => (hd.pend w hw).2.2
    have hsz : AV.sizeL ((d.pend.map wrAV).take i) = i * 66 := hub.sizeL_take (by simp; omega)
    have hw2 : IntKind.i64.wrap ((i : Int) + 1) = ((i + 1 : Nat) : Int) := by rw [wrap_i64 (by omega) (by omega)]; omega
    have hwl := hwo.2.2
    have hpo := part_ok hd keep all i
    have hky : IsKey Try.prog 81 (plAV w.1) := isKey67 (wrOk_pl hd.n2 hwo)
    have hgm := goodW hd.n2 hpo.sure hpo.sureN
    have hup : mput (mapE plAV arrAV (d.part keep all i).sure) (plAV w.1) (arrAV w.2) = mapE plAV arrAV (aPut (d.part keep all i).sure w.1 w.2) :=
      mput_map keyInj67 (wrOk_pl hd.n2 hwo) (fun e he => wrOk_pl hd.n2 (hpo.sure e he)) w.2
    have nxt : ∀ (t : Env) (H : Heap) (m : Nat), SubT (seSt d keep all (i + 1)).t t → (∀ n b, Heap.get (diskH0 (d.part keep all (i + 1))) n = some b → Heap.get H n = some b) → ∃ m' s'', m' < k ∧ (∃ i, i + m' = d.pend.length ∧ s'' = seSt d keep all i) ∧ Wk ⟨43, t, H, m⟩ s'' := by
      intro t H m ht hH
      refine ⟨k - 1, seSt d keep all (i + 1), by omega, ⟨i + 1, by omega, rfl⟩, ?_⟩
      refine Wk.trans (b := ⟨43, (seSt d keep all (i + 1)).t, diskH0 (d.part keep all (i + 1)), max m 100⟩) (Wk.mk ht.spec hH (Nat.le_max_left _ _) rfl) (Wk.gc (Nat.le_refl _) (onT_se d keep all (i + 1)) (disk_onH fun n h => by omega))
    simp only [seSt, hpV] at nxt
    simp -dsimp -implicitDefEqProofs only [↓j0, ↓j1, ↓j2, ↓j7, ↓j9, ↓j12, ↓j13, ↓j14, ↓j15, j17, j18, j19, j20, j21, j23, ↓j25, ↓j27, ↓j29, ↓j38, ↓j39, ↓j41, ↓j43, ↓j44, ↓j46, ↓j48, ↓j76, ↓j78, ↓j89, ↓j93, j129, ↓j145, ↓j146, ↓j147, ↓j149, ↓j151, ↓j153, j159, AV.proj, AV.offOf, AV.upd, AV.size, AV.sizeL, AV.layable, j163, j164, j170, j171, j175, j177, reduceCtorEq, ↓reduceIte, Nat.reduceAdd, Nat.reduceEqDiff, j182, j185, j188, j189, j191, j196, j197, j206, j207, j208, j240, j243, j353, j395, j396, j430, seSt, hix, hpV, hpB, hw, hsz, hwl, part_pend, part_fails, get_append, get_failB]
    cases all
    · simp -dsimp -implicitDefEqProofs only [↓j2, j17, j18, j20, ↓j25, ↓j29, ↓j38, ↓j48, ↓j58, ↓j62, ↓j89, j142, ↓j145, ↓j146, ↓j148, ↓j150, ↓j151, j159, j163, j164, j171, j175, reduceCtorEq, ↓reduceIte, Nat.reduceEqDiff, j185, j470]
      refine ⟨fun hb => ?_, fun hb => ?_⟩
      · have hb' : i < keep.length := by have := of_decide_eq_true hb; omega
        obtain ⟨kb, hkb⟩ := list_get hb'
        have hkx : (i : Int) < (keep.length : Int) := by omega
        have hsk : AV.sizeL ((keep.map AV.bool).take i) = i * 1 := (unif_bools keep).sizeL_take (by simp; omega)
        have hgk : keep.getD i false = kb := by rw [List.getD_eq_getElem?_getD, hkb]; rfl
        simp -dsimp -implicitDefEqProofs only [↓j0, ↓j1, ↓j2, ↓j13, j17, j18, j20, ↓j25, ↓j29, ↓j30, j32, ↓j38, ↓j40, ↓j43, ↓j46, ↓j77, j83, ↓j92, j131, ↓j145, ↓j146, ↓j147, ↓j148, ↓j149, ↓j150, ↓j151, AV.proj, AV.offOf, j163, j164, j171, j175, j177, reduceCtorEq, ↓reduceIte, Nat.reduceEqDiff, j182, j191, j195, j197, j206, j207, j208, j253, j326, hkb, hkx, hsk]
        cases kb
        · simp -dsimp -implicitDefEqProofs only [↓j0, ↓j1, ↓j7, ↓j9, ↓j15, j17, j18, j20, ↓j25, ↓j29, ↓j30, j33, ↓j38, ↓j48, ↓j89, ↓j145, ↓j146, ↓j148, j154, j171, ↓reduceIte, Nat.reduceEqDiff, j185, hw2]
          refine nxt _ _ _ (by simp -dsimp -implicitDefEqProofs only [↓j25, reduceCtorEq, ↓reduceIte, Nat.reduceEqDiff, j182, j202, j203]) (disk_in rfl (by rw [show (d.part keep false (i + 1)).sure = (d.part keep false i).sure by simp only [DS.part, setN, hw, hgk, Bool.or_false, Bool.false_eq_true, if_false]]; rfl) rfl (fun f hf => by have hf' : d.fails = some f := hf; simp [Heap.get, hf', failB, Heap.del]) (fun hp => ?_))
          simp [Heap.get, get_append, get_failB, pendB_eq hne, DS.part, Heap.del, del_failB, del_app]
        · simp -dsimp -implicitDefEqProofs only [↓j4, ↓j8, ↓j15, j17, j18, j20, j22, j23, j24, ↓j25, ↓j27, ↓j29, ↓j38, ↓j43, ↓j45, ↓j56, ↓j65, ↓j76, ↓j79, j129, j138, ↓j145, ↓j146, ↓j147, ↓j153, AV.proj, AV.offOf, AV.size, AV.sizeL, j163, j164, j166, j167, j170, j171, j172, j174, reduceCtorEq, ↓reduceIte, Nat.reduceAdd, Nat.reduceEqDiff, j182, j188, j189, j196, j197, j240, j350, j363, j383, j384, j390, j391, j398, j401, part_pend, part_fails, hwl, del_app, del_failB, hpV]
          refine DoMapUpdate_own (k := plAV w.1) (es := mapE plAV arrAV (d.part keep false i).sure) Try.underlying74 rfl keyed67 hky hgm (fun vs h => by cases h) hup ?_
          simp -dsimp -implicitDefEqProofs only [↓j3, j17, j19, j20, j21, j22, j23, j24, j170, j171, j173, j174, reduceCtorEq, ↓reduceIte, Nat.reduceEqDiff, j188, j189, del_app, del_failB]
          refine ⟨by kernel_rfl, ?_⟩
          simp -dsimp -implicitDefEqProofs only [↓j0, ↓j1, ↓j7, ↓j15, j17, j18, j20, ↓j25, ↓j29, ↓j30, j33, ↓j38, ↓j48, ↓j89, ↓j145, ↓j146, j154, j171, ↓reduceIte, Nat.reduceEqDiff, j185, hw2]
          refine nxt _ _ _ (by simp -dsimp -implicitDefEqProofs only [↓j25, reduceCtorEq, ↓reduceIte, Nat.reduceEqDiff, j182, j202, j203]) (disk_in rfl (by rw [show (d.part keep false (i + 1)).sure = aPut (d.part keep false i).sure w.1 w.2 by simp only [DS.part, setN, hw, hgk, Bool.or_true, if_true]]; rfl) rfl (fun f hf => by have hf' : d.fails = some f := hf; simp [Heap.get, hf', failB, Heap.del]) (fun hp => ?_))
          simp [Heap.get, get_append, get_failB, pendB_eq hne, DS.part, Heap.del, del_failB, del_app]
      · have hb' : keep.length ≤ i := by have := of_decide_eq_false hb; omega
        have hgk : keep.getD i false = false := by rw [List.getD_eq_getElem?_getD, List.getElem?_eq_none hb']; rfl
        simp -dsimp -implicitDefEqProofs only [↓j0, ↓j1, ↓j2, ↓j7, ↓j9, ↓j13, ↓j15, j17, j18, j20, ↓j25, ↓j29, ↓j30, j32, j33, ↓j38, ↓j40, ↓j48, j82, j83, ↓j89, ↓j145, ↓j146, ↓j148, ↓j149, ↓j150, ↓j151, j154, j163, j164, j171, j175, ↓reduceIte, Nat.reduceEqDiff, j185, j195, hb, hw2]
        refine nxt _ _ _ (by simp -dsimp -implicitDefEqProofs only [↓j25, reduceCtorEq, ↓reduceIte, Nat.reduceEqDiff, j182, j202, j203]) (disk_in rfl (by rw [show (d.part keep false (i + 1)).sure = (d.part keep false i).sure by simp only [DS.part, setN, hw, hgk, Bool.or_false, Bool.false_eq_true, if_false]]; rfl) rfl (fun f hf => by have hf' : d.fails = some f := hf; simp [Heap.get, hf', failB, Heap.del]) (fun hp => ?_))
        simp [Heap.get, get_append, get_failB, pendB_eq hne, DS.part, Heap.del, del_failB, del_app]
    · simp -dsimp -implicitDefEqProofs only [↓j0, ↓j1, ↓j2, ↓j4, ↓j8, ↓j13, ↓j15, j17, j18, j20, j22, j23, j24, ↓j25, ↓j27, ↓j29, ↓j30, j32, ↓j38, ↓j40, ↓j43, ↓j45, ↓j56, ↓j65, ↓j76, ↓j79, j81, j129, j138, ↓j145, ↓j146, ↓j147, ↓j149, ↓j151, ↓j152, ↓j153, AV.proj, AV.offOf, AV.size, AV.sizeL, j163, j164, j166, j167, j170, j171, j172, j174, j175, reduceCtorEq, ↓reduceIte, Nat.reduceAdd, Nat.reduceEqDiff, j182, j188, j189, j196, j197, j240, j350, j363, j383, j384, j390, j391, j398, j401, part_pend, part_fails, hwl, del_app, del_failB, hpV]
      refine DoMapUpdate_own (k := plAV w.1) (es := mapE plAV arrAV (d.part keep true i).sure) Try.underlying74 rfl keyed67 hky hgm (fun vs h => by cases h) hup ?_
      simp -dsimp -implicitDefEqProofs only [↓j3, j17, j19, j20, j21, j22, j23, j24, j170, j171, j173, j174, reduceCtorEq, ↓reduceIte, Nat.reduceEqDiff, j188, j189, del_app, del_failB]
      refine ⟨by kernel_rfl, ?_⟩
      simp -dsimp -implicitDefEqProofs only [↓j0, ↓j1, ↓j7, ↓j15, j17, j18, j20, ↓j25, ↓j29, ↓j30, j33, ↓j38, ↓j48, ↓j89, ↓j145, ↓j146, j154, j171, ↓reduceIte, Nat.reduceEqDiff, j185, hw2]
      refine nxt _ _ _ (by simp -dsimp -implicitDefEqProofs only [↓j25, reduceCtorEq, ↓reduceIte, Nat.reduceEqDiff, j182, j202, j203]) (disk_in rfl (by rw [show (d.part keep true (i + 1)).sure = aPut (d.part keep true i).sure w.1 w.2 by simp only [DS.part, setN, hw, Bool.true_or, if_true]]; rfl) rfl (fun f hf => by have hf' : d.fails = some f := hf; simp [Heap.get, hf', failB, Heap.del]) (fun hp => ?_))
      simp [Heap.get, get_append, get_failB, pendB_eq hne, DS.part, Heap.del, del_failB, del_app]
  · have hie : i = d.pend.length := by omega
    subst hie
    have hdi : decide ((d.pend.length : Int) < (d.pend.length : Int)) = false := decide_eq_false (by omega)
    simp -dsimp -implicitDefEqProofs only [↓j0, ↓j1, ↓j7, ↓j11, ↓j12, ↓j13, ↓j15, j17, j18, j19, j20, j21, j23, ↓j25, ↓j27, ↓j29, ↓j30, j36, ↓j38, ↓j44, ↓j45, ↓j48, ↓j56, ↓j78, ↓j79, ↓j89, ↓j145, ↓j146, ↓j148, ↓j149, ↓j153, j159, AV.proj, AV.offOf, AV.upd, AV.size, AV.sizeL, AV.layable, j163, j164, j166, j167, j168, j169, j170, j171, reduceCtorEq, ↓reduceIte, Nat.reduceAdd, Nat.reduceEqDiff, j182, j185, j188, j189, j196, j197, j351, j369, seSt, hdi, part_pend, part_fails, size_pendV, del_app, del_pendB, del_failB]
    refine Final.manyH (.inl rfl) (rs := []) (us := []) rfl trivial (by simp) trivial (disk_keep rfl rfl rfl (fun f hf => ?_) (fun hp => absurd rfl hp))
    have hf' : d.fails = some f := hf
    simp [Heap.get, hf', failB]
end Go.Proofs.Ythfaldoagmkllaa
