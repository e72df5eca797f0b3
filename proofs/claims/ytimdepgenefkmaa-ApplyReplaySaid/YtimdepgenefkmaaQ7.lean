import Derived.Test.YtimdepgenefkmaaQ6
set_option maxRecDepth 8000
set_option linter.unusedVariables false
set_option linter.unusedSimpArgs false
namespace Go.Proofs.Ytimdepgenefkmaa
open Go Go.RowKit

theorem drop_cons {α : Type} {l : List α} {i : Nat} {x : α} (h : l[i]? = some x) : l.drop i = x :: l.drop (i + 1) := by
  have hi : i < l.length := by
    rcases Nat.lt_or_ge i l.length with h1 | h1
    · exact h1
    · rw [List.getElem?_eq_none h1] at h; cases h
  rw [List.getElem?_eq_getElem hi] at h
  rw [List.drop_eq_getElem_cons hi, Option.some.inj h]
def appR (uu : Bool) (no : Nat) (p : List UInt8) (e : En) : List UInt8 := if (redoP uu no p e).2 = 0 then (redoP uu no p e).1 else p
def stepR (uu : Bool) (no : Nat) (p : List UInt8) (e : En) : List UInt8 :=
  if e.rc.kind = 6 ∨ ¬ (e.rc.undo = uu ∧ e.rc.no = no) then p else
  if rightP uu no p then (if e.lsn ≤ lsnOf p then p else appR uu no p e) else (if e.rc.kind = 1 then appR uu no p e else p)
def replayP (uu : Bool) (no : Nat) (p : List UInt8) (log : List En) : List UInt8 := log.foldl (stepR uu no) p
theorem redoP_len {uu : Bool} {no : Nat} {p : List UInt8} {e : En} (hp : p.length = 224) (he : e.Ok) : (redoP uu no p e).1.length = 224 := by
  have hI : (if e.rc.kind = 1 then e.rc.image else p).length = 224 := by split; exact he.rc.image; exact hp
  unfold redoP
  obtain ⟨q, hq⟩ : ∃ q, (if e.rc.kind = 1 then e.rc.image else p) = q := ⟨_, rfl⟩
  rw [hq] at hI ⊢
  split
  · exact zb_len 224
  split
  · exact undoP_len
  split
  · exact zb_len 224
  split
  · split
    · exact putData_len ⟨he.lsn, he.rc.ts, he.rc.ppg, dApplyR_len (getData_dt hp).body⟩
    · exact zb_len 224
  · have hd := getData_dt (no := no) hI
    exact putData_len ⟨he.lsn, hd.ts, hd.pg, hd.body⟩
theorem stepR_len {uu : Bool} {no : Nat} {p : List UInt8} {e : En} (hp : p.length = 224) (he : e.Ok) : (stepR uu no p e).length = 224 := by
  have ha : (appR uu no p e).length = 224 := by
    unfold appR; split
    · exact redoP_len hp he
    · exact hp
  unfold stepR
  repeat' split
  all_goals first | exact hp | exact ha
theorem replay_len {uu : Bool} {no : Nat} : ∀ {log : List En} {p : List UInt8}, p.length = 224 → (∀ e, e ∈ log → e.Ok) → (replayP uu no p log).length = 224
  | [], p, hp, _ => hp
  | e :: log, p, hp, h => replay_len (log := log) (stepR_len hp (h e (List.mem_cons_self ..))) fun x hx => h x (List.mem_cons_of_mem _ hx)
abbrev ensAV (l : List En) : AV := .vsl (l.map En.av) l.length
theorem unif_en (l : List En) (h : ∀ e, e ∈ l → e.Ok) : Unif 239 (l.map En.av) := fun x hx => by
  obtain ⟨o, ho, rfl⟩ := List.mem_map.1 hx
  have := (h o ho).rc.image
  simp only [AV.size, AV.sizeL, sizeL_bytes, this]
theorem on_ens (S : Nat → Prop) (l : List En) : AV.on S (ensAV l) := AV.onL_iff.2 fun x hx => by
  obtain ⟨o, _, rfl⟩ := List.mem_map.1 hx; exact on_en _ _
theorem args_ipl {uu : Bool} {no : Nat} {p : List UInt8} {l : List En} : ∀ x, x ∈ [idAV uu no, arrAV p, ensAV l] → AV.on (fun _ => False) x ∧ ∀ vs, x ≠ .tuple vs := fun x hx => by
  simp only [List.mem_cons, List.not_mem_nil, or_false] at hx
  rcases hx with rfl | rfl | rfl
  · exact ⟨⟨trivial, trivial, trivial⟩, fun vs h => by cases h⟩
  · exact ⟨on_bytes _ _, fun vs h => by cases h⟩
  · exact ⟨on_ens _ _, fun vs h => by cases h⟩
def ryT (l : List En) (i : Nat) : Env := [(13, .int .i64 i), (12, .int .i64 l.length), (11, ensAV l), (3, .ptr 100 0 []), (4, .ptr 101 0 []), (6, .ptr 102 0 [])]
def ryH (uu : Bool) (no : Nat) (p : List UInt8) : Heap := [(100, .cells (idAV uu no)), (101, .cells (arrAV p)), (102, .cells (arrAV (zb 224)))]
def rySt (uu : Bool) (no : Nat) (p : List UInt8) (l : List En) (i : Nat) : St := ⟨52, ryT l i, ryH uu no p, 103⟩
theorem ry_onT {l : List En} {i : Nat} : onT (fun m => m < 103) (ryT l i) :=
  (onTL_cons trivial (onTL_cons trivial (onTL_cons (on_ens _ _) (onTL_cons (show (100 : Nat) < 103 by decide) (onTL_cons (show (101 : Nat) < 103 by decide) (onTL_cons (show (102 : Nat) < 103 by decide) onTL_nil))))) : onTL (fun m => m < 103) (ryT l i)).onT
theorem ry_onH {uu : Bool} {no : Nat} {p : List UInt8} : onH (fun m => m < 103) (ryH uu no p) :=
  (onHL_cons (show (100 : Nat) < 103 by decide) ⟨trivial, trivial, trivial⟩ (onHL_cons (show (101 : Nat) < 103 by decide) (on_bytes _ _) (onHL_cons (show (102 : Nat) < 103 by decide) (on_bytes _ _) onHL_nil)) : onHL (fun m => m < 103) (ryH uu no p)).onH
theorem fok8 : fnOk Try.prog 8 = true := by kernel_rfl
set_option maxHeartbeats 3200000 in
theorem replay_spec (uu : Bool) (no : Nat) (hno : no < 65536) (p0 : List UInt8) (hp0 : p0.length = 224) (l : List En) (hl : ∀ e, e ∈ l → e.Ok) (hn : l.length ≤ 9223372036854775807) : ACall Try.prog 11 [idAV uu no, arrAV p0, ensAV l] [] (arrAV (replayP uu no p0 l)) [] := by
  refine ACall.run (Z := Z) (N := 52) mixed hZ Try.func11 rfl rfl (by kernel_rfl) (by simp) args_ipl 100 ?_
  have hz := zb_len 224
  simp -dsimp -implicitDefEqProofs only [↓j0, ↓j1, ↓j7, ↓j12, ↓j14, ↓j15, ↓j16, j17, j18, j20, ↓j25, ↓j29, ↓j30, j33, ↓j38, ↓j41, ↓j42, ↓j58, ↓j62, j142, ↓j145, ↓j146, AV.layable, argEnv, j170, j171, j172, reduceCtorEq, ↓reduceIte, Nat.reduceAdd, Nat.reduceEqDiff, j196, j419, j473]
  refine AWp.loopR (Z := Z) mixed hZ (by kernel_rfl) (fun n s => ∃ i p, i + n = l.length ∧ p.length = 224 ∧ replayP uu no p (l.drop i) = replayP uu no p0 l ∧ s = rySt uu no p l i) (n0 := l.length) (s0 := rySt uu no p0 l 0) ?_ ⟨0, p0, by omega, hp0, rfl, rfl⟩ ?_ rfl
  · exact Wk.sub (by simp -dsimp -implicitDefEqProofs only [↓j25, ↓j27, j179, ↓reduceIte, Nat.reduceEqDiff, j182, j183, j184, j202, j203, j204, j205, j209, j223, ryT, ryH] <;> simp)
  rintro n s ⟨i, p, hi, hp, hR, rfl⟩
  refine ⟨rfl, ?_⟩
  rcases Nat.lt_or_ge i l.length with hlt | hge
  · have hd : decide ((i : Int) < (l.length : Int)) = true := decide_eq_true (by omega)
    have hlt2 : (i : Int) < (l.length : Int) := by omega
    obtain ⟨e, he⟩ := list_get (xs := l) hlt
    have heo := hl e (List.mem_of_getElem? he)
    have hi2 := heo.rc.image
    have hsz : AV.sizeL ((l.map En.av).take i) = i * 239 := (unif_en l hl).sizeL_take (by simp; omega)
    have hw : IntKind.i64.wrap ((i : Int) + 1) = ((i + 1 : Nat) : Int) := by rw [wrap_i64 (by omega) (by omega)]; omega
    have hdr : l.drop i = e :: l.drop (i + 1) := drop_cons he
    have hR2 : replayP uu no (stepR uu no p e) (l.drop (i + 1)) = replayP uu no p0 l := by rw [← hR, hdr]; rfl
    have step : ∀ (q : List UInt8) (t : Env) (H : Heap) (nx : Nat), q.length = 224 → q = stepR uu no p e → SubT (ryT l (i + 1)) t → SubH (ryH uu no q) H → ∃ m s'', m < n ∧ (∃ i p, i + m = l.length ∧ p.length = 224 ∧ replayP uu no p (l.drop i) = replayP uu no p0 l ∧ s'' = rySt uu no p l i) ∧ Wk ⟨52, t, H, nx⟩ s'' := fun q t H nx hq hqe ht hH =>
      ⟨n - 1, rySt uu no q l (i + 1), by omega, ⟨i + 1, q, by omega, hq, by rw [hqe]; exact hR2, rfl⟩, Wk.trans (Wk.mk (s' := ⟨52, ryT l (i + 1), ryH uu no q, nx⟩) ht.spec hH.spec (Nat.le_refl _) rfl) (Wk.gc (by omega) ry_onT ry_onH)⟩
    have hce := cellsEq_id e.rc.undo uu e.rc.no no
    have hrt := right_spec uu no hno p hp
    have hls := lsn_spec p hp
    by_cases k6 : e.rc.kind = 6
    · have e6 : ((e.rc.kind : Int) == 6) = true := by rw [beq_iff_eq]; omega
      simp -dsimp -implicitDefEqProofs only [↓j0, ↓j1, ↓j2, ↓j7, ↓j9, ↓j11, ↓j12, ↓j13, ↓j14, ↓j15, j17, j18, j19, j20, j21, j22, j23, ↓j25, ↓j27, ↓j29, ↓j30, j32, j33, ↓j38, ↓j40, ↓j41, ↓j43, ↓j44, ↓j45, ↓j46, ↓j48, ↓j76, ↓j77, ↓j78, ↓j79, j81, ↓j89, ↓j92, j129, j130, ↓j145, ↓j146, ↓j147, ↓j149, ↓j151, ↓j153, j154, j157, j159, AV.proj, AV.offOf, AV.upd, AV.size, AV.sizeL, AV.layable, j163, j164, j166, j167, j170, j171, j175, j177, ↓reduceIte, Nat.reduceAdd, Nat.reduceEqDiff, j182, j185, j191, j196, j197, j206, j207, j208, j240, j255, j316, j341, j342, j347, j356, j425, rySt, ryT, ryH, hz, hlt2, he, hsz, hi2, e6]
      refine step p _ _ _ hp (by rw [stepR, if_pos (.inl k6)]) ?_ ?_
      · simp -dsimp -implicitDefEqProofs only [↓j25, ↓reduceIte, Nat.reduceEqDiff, j182, j202, j203, ryT, hw] <;> simp
      · simp -dsimp -implicitDefEqProofs only [↓j27, ↓reduceIte, Nat.reduceEqDiff, j182, j204, j205, ryH] <;> simp
    have e6 : ((e.rc.kind : Int) == 6) = false := by rw [beq_eq_false_iff_ne]; omega
    by_cases hid : e.rc.undo = uu ∧ e.rc.no = no
    case neg =>
      rw [decide_eq_false hid] at hce
      simp -dsimp -implicitDefEqProofs only [↓j0, ↓j1, ↓j2, ↓j7, ↓j9, ↓j11, ↓j12, ↓j13, ↓j14, ↓j15, j17, j18, j19, j20, j21, j22, j23, ↓j25, ↓j27, ↓j29, ↓j30, j32, j33, ↓j38, ↓j40, ↓j41, ↓j43, ↓j44, ↓j45, ↓j46, ↓j48, ↓j76, ↓j77, ↓j78, ↓j79, j83, ↓j89, ↓j91, ↓j92, j129, j130, ↓j145, ↓j146, ↓j147, ↓j148, ↓j149, ↓j151, ↓j153, j154, j157, j159, AV.proj, AV.offOf, AV.upd, AV.size, AV.sizeL, AV.layable, AV.flat, AV.flatL, j163, j164, j166, j167, j170, j171, j172, j173, j174, j175, j177, ↓reduceIte, Nat.reduceAdd, Nat.reduceEqDiff, j182, j185, j191, j194, j195, j196, j197, j206, j207, j208, j212, kindOf, j240, j255, j263, j264, j271, j272, j316, j319, j341, j342, j347, j356, j425, rySt, ryT, ryH, hz, hlt2, he, hsz, hi2, e6, hce]
      refine step p _ _ _ hp (by rw [stepR, if_pos (.inr hid)]) ?_ ?_
      · simp -dsimp -implicitDefEqProofs only [↓j25, ↓reduceIte, Nat.reduceEqDiff, j182, j202, j203, ryT, hw] <;> simp
      · simp -dsimp -implicitDefEqProofs only [↓j27, ↓reduceIte, Nat.reduceEqDiff, j182, j204, j205, ryH] <;> simp
    rw [decide_eq_true hid] at hce
    have hst : stepR uu no p e = if rightP uu no p then (if e.lsn ≤ lsnOf p then p else appR uu no p e) else (if e.rc.kind = 1 then appR uu no p e else p) := by
      rw [stepR, if_neg (fun h => h.elim k6 (fun h => h hid))]
    simp -dsimp -implicitDefEqProofs only [↓j0, ↓j1, ↓j2, ↓j7, ↓j9, ↓j12, ↓j13, ↓j14, ↓j15, j17, j18, j19, j20, j21, j22, j23, ↓j25, ↓j27, ↓j29, ↓j30, j32, j33, ↓j38, ↓j40, ↓j41, ↓j43, ↓j44, ↓j45, ↓j46, ↓j48, ↓j53, ↓j76, ↓j77, ↓j78, ↓j79, j83, ↓j89, ↓j91, ↓j92, j129, j130, ↓j145, ↓j146, ↓j147, ↓j148, ↓j149, ↓j151, ↓j153, j157, j159, AV.proj, AV.offOf, AV.upd, AV.size, AV.sizeL, AV.layable, AV.flat, AV.flatL, j163, j164, j166, j167, j170, j171, j172, j173, j174, j175, j177, ↓reduceIte, Nat.reduceAdd, Nat.reduceEqDiff, j182, j185, j191, j193, j195, j196, j197, j206, j207, j208, j212, kindOf, j240, j255, j263, j264, j271, j272, j273, j274, j316, j319, j341, j342, j347, j356, j425, rySt, ryT, ryH, hp, hz, hlt2, he, hsz, hi2, e6, hce]
    refine CallTo.pure (args := [idAV uu no, arrAV p]) rfl fok14 (by simp -dsimp -implicitDefEqProofs only [↓j25, ↓j29, j173, j174, ↓reduceIte, Nat.reduceEqDiff]) (fun x hx => (args_idp x hx).2) hrt ?_
    cases hr : rightP uu no p
    · by_cases k1 : e.rc.kind = 1
      · have e1 : ((e.rc.kind : Int) != 1) = false := by simp; omega
        have hst1 : stepR uu no p e = appR uu no p e := by rw [hst, hr, if_neg Bool.false_ne_true, if_pos k1]
        have hrs := redo_spec uu no hno p hp e heo
        have hrl := redoP_len (uu := uu) (no := no) hp heo
        have hap : appR uu no p e = if (redoP uu no p e).2 = 0 then (redoP uu no p e).1 else p := rfl
        obtain ⟨⟨q, f⟩, hq⟩ : ∃ x, redoP uu no p e = x := ⟨_, rfl⟩
        rw [hq] at hrs hrl hap
        have hrl : q.length = 224 := hrl
        simp -dsimp -implicitDefEqProofs only [↓j0, ↓j1, ↓j7, ↓j9, ↓j12, ↓j13, ↓j15, j17, j18, j20, ↓j25, ↓j27, ↓j29, ↓j30, j33, ↓j43, ↓j45, ↓j48, ↓j53, ↓j76, ↓j79, ↓j89, j129, j130, ↓j145, ↓j146, ↓j148, ↓j149, ↓j153, j158, AV.proj, AV.offOf, AV.size, AV.sizeL, j163, j164, j166, j167, j170, j171, ↓reduceIte, Nat.reduceAdd, Nat.reduceEqDiff, j182, j185, j196, j197, j240, j255, j263, j264, j273, j274, j316, j341, j342, j347, hp, hi2, e1]
        refine CallTo.pure (args := [idAV uu no, arrAV p, e.av]) rfl fok8 (by simp -dsimp -implicitDefEqProofs only [↓j25, ↓j29, j173, j174, ↓reduceIte, Nat.reduceEqDiff]) (fun x hx => (args_ipe x hx).2) hrs ?_
        by_cases c1 : f = 0
        · subst c1
          have f1 : ((0 : Int) == 0) = true := rfl
          simp -dsimp -implicitDefEqProofs only [↓j0, ↓j1, ↓j7, ↓j12, ↓j13, ↓j15, j17, j18, j19, j20, j21, j22, j23, ↓j25, ↓j27, ↓j29, ↓j30, j33, ↓j38, ↓j39, ↓j41, ↓j43, ↓j44, ↓j48, ↓j57, ↓j76, ↓j78, j85, ↓j89, j129, ↓j145, ↓j146, ↓j147, ↓j149, ↓j153, j154, j157, AV.proj, AV.offOf, AV.upd, AV.size, AV.layable, j163, j164, j170, j171, ↓reduceIte, Nat.reduceAdd, Nat.reduceEqDiff, j182, j185, j240, j273, j274, j419, hp, hz, hrl, f1]
          refine step q _ _ _ hrl (by rw [hst1, hap, if_pos rfl]) ?_ ?_
          · simp -dsimp -implicitDefEqProofs only [↓j25, ↓reduceIte, Nat.reduceEqDiff, j182, j202, j203, ryT, hw] <;> simp
          · simp -dsimp -implicitDefEqProofs only [↓j27, ↓reduceIte, Nat.reduceEqDiff, j182, j204, j205, ryH] <;> simp
        · have f1 : (f == 0) = false := by simpa using c1
          simp -dsimp -implicitDefEqProofs only [↓j0, ↓j1, ↓j7, ↓j9, ↓j12, ↓j13, ↓j15, j17, j18, j19, j20, j21, j22, j23, ↓j25, ↓j27, ↓j29, ↓j30, j33, ↓j38, ↓j39, ↓j41, ↓j44, ↓j48, ↓j57, ↓j78, j85, ↓j89, ↓j145, ↓j146, ↓j148, ↓j149, ↓j153, j154, j157, AV.proj, AV.offOf, AV.upd, AV.size, AV.layable, j163, j164, j170, j171, ↓reduceIte, Nat.reduceAdd, Nat.reduceEqDiff, j182, j185, j240, j273, j419, hz, hrl, f1]
          refine step p _ _ _ hp (by rw [hst1, hap, if_neg c1]) ?_ ?_
          · simp -dsimp -implicitDefEqProofs only [↓j25, ↓reduceIte, Nat.reduceEqDiff, j182, j202, j203, ryT, hw] <;> simp
          · simp -dsimp -implicitDefEqProofs only [↓j27, ↓reduceIte, Nat.reduceEqDiff, j182, j204, j205, ryH] <;> simp
      · have e1 : ((e.rc.kind : Int) != 1) = true := by simp; omega
        simp -dsimp -implicitDefEqProofs only [↓j0, ↓j1, ↓j7, ↓j11, ↓j12, ↓j13, ↓j15, j17, j18, j20, ↓j25, ↓j27, ↓j29, ↓j30, j33, ↓j38, ↓j43, ↓j45, ↓j48, ↓j76, ↓j79, ↓j89, j130, ↓j145, ↓j146, ↓j147, ↓j148, ↓j149, ↓j153, j154, j158, AV.proj, AV.offOf, AV.size, AV.sizeL, j163, j164, j166, j167, j170, j171, ↓reduceIte, Nat.reduceEqDiff, j182, j185, j196, j197, j255, j316, j347, e1]
        refine step p _ _ _ hp (by rw [hst, hr, if_neg Bool.false_ne_true, if_neg k1]) ?_ ?_
        · simp -dsimp -implicitDefEqProofs only [↓j25, ↓reduceIte, Nat.reduceEqDiff, j182, j202, j203, ryT, hw] <;> simp
        · simp -dsimp -implicitDefEqProofs only [↓j27, ↓reduceIte, Nat.reduceEqDiff, j182, j204, j205, ryH] <;> simp
    · simp -dsimp -implicitDefEqProofs only [↓j0, ↓j4, ↓j8, ↓j12, ↓j13, ↓j15, j17, j18, j20, j24, ↓j25, ↓j27, ↓j29, ↓j43, ↓j53, ↓j76, j129, ↓j145, ↓j146, ↓j147, ↓j149, ↓j153, AV.proj, AV.offOf, j171, j172, j174, ↓reduceIte, Nat.reduceEqDiff, j182, j240, j273, j274, hp]
      refine CallTo.pure (args := [arrAV p]) rfl fok15 (by simp -dsimp -implicitDefEqProofs only [↓j25, ↓j29, j173, j174, ↓reduceIte]) (fun x hx => (args_arr x hx).2) hls ?_
      by_cases kl : e.lsn ≤ lsnOf p
      · have e1 : decide ((e.lsn : Int) ≤ (lsnOf p : Int)) = true := decide_eq_true (by omega)
        simp -dsimp -implicitDefEqProofs only [↓j3, ↓j4, j17, j18, j20, j24, ↓j25, ↓j27, ↓j29, ↓j43, ↓j45, ↓j48, ↓j76, ↓j79, ↓j89, j130, ↓j145, ↓j146, ↓j153, j162, AV.proj, AV.offOf, AV.sizeL, j163, j167, j170, j171, j172, j174, ↓reduceIte, Nat.reduceEqDiff, j182, j185, j197, j279, j344, e1]
        refine ⟨by kernel_rfl, ?_⟩
        simp -dsimp -implicitDefEqProofs only [↓j0, ↓j1, ↓j7, ↓j11, ↓j13, ↓j15, j17, j18, j20, ↓j25, ↓j29, ↓j30, j33, ↓j38, ↓j48, ↓j89, ↓j145, ↓j146, ↓j147, ↓j149, j154, j171, ↓reduceIte, Nat.reduceEqDiff, j185]
        refine step p _ _ _ hp (by rw [hst, hr, if_pos rfl, if_pos kl]) ?_ ?_
        · simp -dsimp -implicitDefEqProofs only [↓j25, ↓reduceIte, Nat.reduceEqDiff, j182, j202, j203, ryT, hw] <;> simp
        · simp -dsimp -implicitDefEqProofs only [↓j27, ↓reduceIte, Nat.reduceEqDiff, j182, j204, j205, ryH] <;> simp
      · have e1 : decide ((e.lsn : Int) ≤ (lsnOf p : Int)) = false := decide_eq_false (by omega)
        have hst1 : stepR uu no p e = appR uu no p e := by rw [hst, hr, if_pos rfl, if_neg kl]
        simp -dsimp -implicitDefEqProofs only [↓j3, ↓j4, j17, j18, j20, j24, ↓j25, ↓j27, ↓j29, ↓j43, ↓j45, ↓j48, ↓j76, ↓j79, ↓j89, j130, ↓j145, ↓j146, ↓j153, j162, AV.proj, AV.offOf, AV.sizeL, j163, j167, j170, j171, j172, j174, ↓reduceIte, Nat.reduceEqDiff, j182, j185, j197, j279, j344, e1]
        refine ⟨by kernel_rfl, ?_⟩
        have hrs := redo_spec uu no hno p hp e heo
        have hrl := redoP_len (uu := uu) (no := no) hp heo
        have hap : appR uu no p e = if (redoP uu no p e).2 = 0 then (redoP uu no p e).1 else p := rfl
        obtain ⟨⟨q, f⟩, hq⟩ : ∃ x, redoP uu no p e = x := ⟨_, rfl⟩
        rw [hq] at hrs hrl hap
        have hrl : q.length = 224 := hrl
        simp -dsimp -implicitDefEqProofs only [↓j1, ↓j7, ↓j9, ↓j12, ↓j13, ↓j15, j17, j18, j20, ↓j25, ↓j27, ↓j29, ↓j43, ↓j53, ↓j76, j129, ↓j145, ↓j146, ↓j148, ↓j149, ↓j153, AV.proj, AV.offOf, AV.size, AV.sizeL, j171, ↓reduceIte, Nat.reduceAdd, Nat.reduceEqDiff, j182, j197, j240, j263, j264, j273, j274, j341, j342, hp, hi2]
        refine CallTo.pure (args := [idAV uu no, arrAV p, e.av]) rfl fok8 (by simp -dsimp -implicitDefEqProofs only [↓j25, ↓j29, j173, j174, ↓reduceIte, Nat.reduceEqDiff]) (fun x hx => (args_ipe x hx).2) hrs ?_
        by_cases c1 : f = 0
        · subst c1
          have f1 : ((0 : Int) == 0) = true := rfl
          simp -dsimp -implicitDefEqProofs only [↓j0, ↓j1, ↓j7, ↓j12, ↓j13, ↓j15, j17, j18, j19, j20, j21, j22, j23, ↓j25, ↓j27, ↓j29, ↓j30, j33, ↓j38, ↓j39, ↓j41, ↓j43, ↓j44, ↓j48, ↓j57, ↓j76, ↓j78, j85, ↓j89, j129, ↓j145, ↓j146, ↓j147, ↓j149, ↓j153, j154, j157, AV.proj, AV.offOf, AV.upd, AV.size, AV.layable, j163, j164, j170, j171, ↓reduceIte, Nat.reduceAdd, Nat.reduceEqDiff, j182, j185, j240, j273, j274, j419, hp, hz, hrl, f1]
          refine step q _ _ _ hrl (by rw [hst1, hap, if_pos rfl]) ?_ ?_
          · simp -dsimp -implicitDefEqProofs only [↓j25, ↓reduceIte, Nat.reduceEqDiff, j182, j202, j203, ryT, hw] <;> simp
          · simp -dsimp -implicitDefEqProofs only [↓j27, ↓reduceIte, Nat.reduceEqDiff, j182, j204, j205, ryH] <;> simp
        · have f1 : (f == 0) = false := by simpa using c1
          simp -dsimp -implicitDefEqProofs only [↓j0, ↓j1, ↓j7, ↓j9, ↓j12, ↓j13, ↓j15, j17, j18, j19, j20, j21, j22, j23, ↓j25, ↓j27, ↓j29, ↓j30, j33, ↓j38, ↓j39, ↓j41, ↓j44, ↓j48, ↓j57, ↓j78, j85, ↓j89, ↓j145, ↓j146, ↓j148, ↓j149, ↓j153, j154, j157, AV.proj, AV.offOf, AV.upd, AV.size, AV.layable, j163, j164, j170, j171, ↓reduceIte, Nat.reduceAdd, Nat.reduceEqDiff, j182, j185, j240, j273, j419, hz, hrl, f1]
          refine step p _ _ _ hp (by rw [hst1, hap, if_neg c1]) ?_ ?_
          · simp -dsimp -implicitDefEqProofs only [↓j25, ↓reduceIte, Nat.reduceEqDiff, j182, j202, j203, ryT, hw] <;> simp
          · simp -dsimp -implicitDefEqProofs only [↓j27, ↓reduceIte, Nat.reduceEqDiff, j182, j204, j205, ryH] <;> simp
  · have hi3 : i = l.length := by omega
    subst hi3
    have hd : decide ((l.length : Int) < (l.length : Int)) = false := decide_eq_false (by omega)
    rw [List.drop_eq_nil_of_le (Nat.le_refl _)] at hR
    have hR : p = replayP uu no p0 l := hR
    simp -dsimp -implicitDefEqProofs only [↓j0, ↓j1, ↓j7, ↓j10, ↓j11, ↓j12, ↓j13, ↓j15, j17, j18, j19, j20, j21, j22, j23, ↓j25, ↓j27, ↓j29, ↓j43, ↓j44, ↓j48, ↓j76, ↓j78, ↓j89, j129, ↓j145, ↓j146, ↓j148, ↓j149, ↓j153, j159, AV.proj, AV.offOf, AV.upd, AV.size, AV.layable, j170, j171, ↓reduceIte, Nat.reduceEqDiff, j182, j185, j240, j273, j274, rySt, ryT, ryH, hp, hz, hd]
    rw [← hR]
    exact Final.one (.inr rfl) (r := .cell 6 26) rfl ⟨102, 0, [], _, rfl, rfl, rfl, rfl, by simp -dsimp -implicitDefEqProofs only [j129, j182, j240, j273, j274, hp]⟩ (fun vs h => by cases h) (fun vs h => by cases h) (.same _ (on_bytes _ _))
end Go.Proofs.Ytimdepgenefkmaa
