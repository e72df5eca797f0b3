/- What makes a delta of two bodies. -/
import Derived.Test.YtipbgaahpchhbaaW4
set_option maxRecDepth 8000
set_option linter.unusedVariables false
set_option linter.unusedSimpArgs false
namespace Go.Proofs.Ytipbgaahpchhbaa
open Go Go.RowKit

/-- Where a piece ends. -/
def segE (a b : Bo) : Nat → Nat → Nat → Nat
  | 0, e, _ => e
  | f + 1, e, k => if k < 64 ∧ k < e + 3 then segE a b f (if a.getD k 0 ≠ b.getD k 0 then k + 1 else e) (k + 1) else e
/-- The delta from a place on. -/
def makeL (a b : Bo) : Nat → Nat → Bo
  | 0, _ => []
  | f + 1, i => if i < 64 then
      if a.getD i 0 = b.getD i 0 then makeL a b f (i + 1) else
      UInt8.ofNat i :: UInt8.ofNat (segE a b 64 (i + 1) (i + 1) - i) :: ((b.take (segE a b 64 (i + 1) (i + 1))).drop i ++ makeL a b f (segE a b 64 (i + 1) (i + 1)))
    else []
def makeP (a b : Bo) : Bo := makeL a b 64 0
theorem segE_ge (a b : Bo) : ∀ (f e k : Nat), e ≤ k → e ≤ segE a b f e k ∧ (k ≤ 64 → e ≤ 64 → segE a b f e k ≤ 64)
  | 0, e, k, h => ⟨Nat.le_refl _, fun _ h => h⟩
  | f + 1, e, k, h => by
    unfold segE
    by_cases hc : k < 64 ∧ k < e + 3
    · rw [if_pos hc]
      by_cases hd : a.getD k 0 ≠ b.getD k 0
      · rw [if_pos hd]
        have := segE_ge a b f (k + 1) (k + 1) (Nat.le_refl _)
        exact ⟨by omega, fun h1 h2 => this.2 (by omega) (by omega)⟩
      · rw [if_neg hd]
        have := segE_ge a b f e (k + 1) (by omega)
        exact ⟨this.1, fun h1 h2 => this.2 (by omega) h2⟩
    · rw [if_neg hc]; exact ⟨Nat.le_refl _, fun _ h => h⟩
def boV (l : Bo) (m : Nat) : AV := match l with
  | [] => .nilsl
  | _ :: r => .sl m 0 [] 0 (r.length + 1) (r.length + 1) 1
def boB (l : Bo) (m : Nat) : Heap := match l with
  | [] => []
  | k :: r => [(m, .cells (arrAV (k :: r)))]
def mkT (i : Nat) (acc : Bo) (m : Nat) : Env := [(6, .int .i64 i), (5, boV acc m), (2, .ptr 98 0 []), (3, .ptr 99 0 []), (4, .str ⟨#[]⟩)]
def mkH (a b acc : Bo) (m : Nat) : Heap := (98, .cells (arrAV a)) :: (99, .cells (arrAV b)) :: boB acc m
def mkSt (a b : Bo) (i : Nat) (acc : Bo) : St := ⟨58, mkT i acc 102, mkH a b acc 102, 103⟩
def mk2T (i e k : Nat) (acc : Bo) (m : Nat) : Env := [(7, .int .i64 e), (8, .int .i64 k), (6, .int .i64 i), (5, boV acc m), (2, .ptr 98 0 []), (3, .ptr 99 0 []), (4, .str ⟨#[]⟩)]
def mk2St (a b : Bo) (i e k : Nat) (acc : Bo) : St := ⟨58, mk2T i e k acc 102, mkH a b acc 102, 103⟩
theorem args_mk {a b : Bo} : ∀ x, x ∈ [arrAV a, arrAV b] → AV.on (fun _ => False) x ∧ ∀ vs, x ≠ .tuple vs := fun x hx => by
  simp only [List.mem_cons, List.not_mem_nil, or_false] at hx
  rcases hx with rfl | rfl <;> exact ⟨on_bytes _ _, fun vs h => by cases h⟩
theorem on_boV {S : Nat → Prop} {l : Bo} {m : Nat} (h : S m) : AV.on S (boV l m) := by
  cases l with
  | nil => trivial
  | cons x r => exact h
theorem mk_ren {a b acc : Bo} {i : Nat} (m : Nat) : Wk ⟨58, mkT i acc 105, mkH a b acc 105, m⟩ (mkSt a b i acc) := by
  have hfx : ∀ l : Bo, AV.ren (rnL [(105, 102)]) (arrAV l) = arrAV l := fun l => AV.ren_fix (S := fun _ => False) (fun _ h => h.elim) (on_bytes _ _)
  have r98 : rnL [(105, 102)] 98 = 98 := rfl
  have r99 : rnL [(105, 102)] 99 = 99 := rfl
  have r105 : rnL [(105, 102)] 105 = 102 := rfl
  have h := Wk.rens (n := 58) (nx := m) (K := 103) (t := mkT i acc 105) (H := mkH a b acc 105) [(105, 102)] (by decide) (by simp) (by simp)
    (onTL_cons trivial (onTL_cons (on_boV (.inr (by simp))) (onTL_cons (show okN [(105, 102)] 103 98 from .inl ⟨by omega, by simp⟩) (onTL_cons (show okN [(105, 102)] 103 99 from .inl ⟨by omega, by simp⟩) (onTL_cons trivial onTL_nil)))))
    (by
      refine onHL_cons (.inl ⟨by omega, by simp⟩) (on_bytes _ _) (onHL_cons (.inl ⟨by omega, by simp⟩) (on_bytes _ _) ?_)
      cases acc with
      | nil => exact onHL_nil
      | cons x r => exact onHL_cons (.inr (by simp)) (on_bytes _ _) onHL_nil)
  have e1 : (mkT i acc 105).ren (rnL [(105, 102)]) = mkT i acc 102 := by
    cases acc <;> rfl
  have e2 : (mkH a b acc 105).ren (rnL [(105, 102)]) = mkH a b acc 102 := by
    cases acc with
    | nil => simp only [mkH, boB, Heap.ren, List.map_cons, List.map_nil, ABlk.ren, hfx, r98, r99]
    | cons x r => simp only [mkH, boB, Heap.ren, List.map_cons, List.map_nil, ABlk.ren, hfx, r98, r99, r105]
  rw [e1, e2] at h
  exact h
set_option maxHeartbeats 6400000 in
theorem make_spec (a b : Bo) (ha : a.length = 64) (hb : b.length = 64) : ACall Try.prog 20 [arrAV a, arrAV b] [] (.str ⟨(makeP a b).toArray⟩) [] := by
  refine ACall.run (Z := Z) (N := 58) mixed hZ Try.func20 rfl rfl (by kernel_rfl) (by simp) args_mk 98 ?_
  obtain ⟨R, hR⟩ : ∃ R, makeP a b = R := ⟨_, rfl⟩
  rw [hR]
  have fin : ∀ (t : Env) (H : Heap) (m : Nat), look t 4 = some (.str ⟨R.toArray⟩) → Final Try.prog Try.f20 (.str ⟨R.toArray⟩) [] .ret ⟨58, t, H, m⟩ := fun t H m h =>
    Final.one (.inr rfl) (r := .tmp 4) rfl ⟨h, fun vs h => by cases h⟩ (fun vs h => by cases h) (fun vs h => by cases h) (.same _ trivial)
  simp -dsimp -implicitDefEqProofs only [↓j0, ↓j1, ↓j7, ↓j12, ↓j14, ↓j15, ↓j16, j17, j18, j20, ↓j25, ↓j29, ↓j30, j33, j34, j36, ↓j39, ↓j42, ↓j145, ↓j146, AV.layable, argEnv, j170, j171, j172, reduceCtorEq, ↓reduceIte, Nat.reduceAdd, Nat.reduceEqDiff, j196]
  refine AWp.loopR (Z := Z) mixed hZ (by kernel_rfl) (fun n s => ∃ i acc, 64 ≤ i + n ∧ i ≤ 64 ∧ acc.length ≤ 3 * i ∧ acc ++ makeL a b n i = R ∧ s = mkSt a b i acc) (n0 := 64) (s0 := mkSt a b 0 []) ?_ ⟨0, [], by omega, by omega, by simp, hR, rfl⟩ ?_ rfl
  · refine Wk.mk (SubT.spec ?_) (SubH.spec ?_) (show (100 : Nat) ≤ 103 by decide) rfl
    · simp -dsimp -implicitDefEqProofs only [↓j25, j179, ↓reduceIte, Nat.reduceEqDiff, j182, j183, j184, j202, j203, j209, mkSt, mkT, boV] <;> simp
    · simp -dsimp -implicitDefEqProofs only [↓j27, ↓reduceIte, Nat.reduceEqDiff, j182, j204, j205, mkSt, mkH, boB]
  rintro n s ⟨i, acc, hi, hi64, hal, hE, rfl⟩
  refine ⟨rfl, ?_⟩
  rcases Nat.lt_or_ge i 64 with hlt | hge
  · have e1 : decide ((i : Int) < 64) = true := decide_eq_true (by omega)
    obtain ⟨n, rfl⟩ : ∃ k, n = k + 1 := ⟨n - 1, by omega⟩
    obtain ⟨x, hx⟩ := list_get (xs := a) (i := i) (by omega)
    obtain ⟨y, hy⟩ := list_get (xs := b) (i := i) (by omega)
    have gx : a.getD i 0 = x := by rw [List.getD_eq_getElem?_getD, hx]; rfl
    have gy : b.getD i 0 = y := by rw [List.getD_eq_getElem?_getD, hy]; rfl
    have i1 : (i : Int) < ((64 : Nat) : Int) := by omega
    have z1 : AV.sizeL ((a.map byteAV).take i) = i * 1 := (unif_bytes a).sizeL_take (by simp; omega)
    have z2 : AV.sizeL ((b.map byteAV).take i) = i * 1 := (unif_bytes b).sizeL_take (by simp; omega)
    have w1 : IntKind.i64.wrap ((i : Int) + 1) = ((i + 1 : Nat) : Int) := by rw [wrap_i64 (by omega) (by omega)]; omega
    unfold makeL at hE
    rw [if_pos hlt, gx, gy] at hE
    by_cases hxy : x = y
    · have q1 : ((x.toNat : Int) == (y.toNat : Int)) = true := by subst hxy; simp
      rw [if_pos hxy] at hE
      simp -dsimp -implicitDefEqProofs only [↓j0, ↓j1, ↓j3, ↓j4, ↓j7, ↓j8, ↓j9, ↓j12, ↓j13, ↓j14, ↓j15, j17, j18, j20, j24, ↓j25, ↓j27, ↓j29, ↓j30, j33, ↓j38, ↓j43, ↓j46, ↓j48, ↓j76, ↓j89, ↓j94, j130, ↓j145, ↓j146, ↓j147, ↓j149, ↓j153, j157, j159, AV.proj, AV.offOf, j170, j171, j172, j174, j177, ↓reduceIte, Nat.reduceEqDiff, j182, j185, j196, j197, j206, j207, j208, j255, j276, mkSt, mkT, mkH, e1, hx, hy, i1, z1, z2, byteAV, q1]
      refine ⟨by kernel_rfl, ?_⟩
      simp -dsimp -implicitDefEqProofs only [↓j0, ↓j1, ↓j7, ↓j11, ↓j12, ↓j13, ↓j15, j17, j18, j20, ↓j25, ↓j29, ↓j30, j33, ↓j38, ↓j39, ↓j48, ↓j89, ↓j145, ↓j146, ↓j147, ↓j149, j154, j171, ↓reduceIte, Nat.reduceEqDiff, j185]
      refine ⟨n, mkSt a b (i + 1) acc, by omega, ⟨i + 1, acc, by omega, by omega, by omega, hE, rfl⟩, ?_⟩
      cases acc with
      | nil => exact Wk.sub (by simp -dsimp -implicitDefEqProofs only [↓j25, ↓j27, ↓reduceIte, Nat.reduceEqDiff, j182, j202, j203, j204, j205, j223, mkT, mkH, boV, boB, w1] <;> simp)
      | cons c r => exact Wk.sub (by simp -dsimp -implicitDefEqProofs only [↓j25, ↓j27, ↓reduceIte, Nat.reduceEqDiff, j182, j202, j203, j204, j205, j223, mkT, mkH, boV, boB, w1] <;> simp)
    · have q1 : ((x.toNat : Int) == (y.toNat : Int)) = false := by
        rw [beq_eq_false_iff_ne]
        intro h
        exact hxy (UInt8.toNat_inj.1 (by omega))
      rw [if_neg hxy] at hE
      simp -dsimp -implicitDefEqProofs only [↓j0, ↓j1, ↓j3, ↓j4, ↓j7, ↓j8, ↓j9, ↓j12, ↓j13, ↓j14, ↓j15, j17, j18, j20, j24, ↓j25, ↓j27, ↓j29, ↓j30, j33, ↓j38, ↓j43, ↓j46, ↓j48, ↓j76, ↓j89, ↓j94, j130, ↓j145, ↓j146, ↓j147, ↓j149, ↓j153, j157, j159, AV.proj, AV.offOf, j170, j171, j172, j174, j177, ↓reduceIte, Nat.reduceEqDiff, j182, j185, j196, j197, j206, j207, j208, j255, j276, mkSt, mkT, mkH, e1, hx, hy, i1, z1, z2, byteAV, q1]
      refine ⟨by kernel_rfl, ?_⟩
      simp -dsimp -implicitDefEqProofs only [↓j0, ↓j1, ↓j7, ↓j9, ↓j12, ↓j13, ↓j14, ↓j15, ↓j16, j17, j18, j20, ↓j25, ↓j29, ↓j30, j33, ↓j38, ↓j39, ↓j48, ↓j89, ↓j145, ↓j146, ↓j148, ↓j149, j154, j171, ↓reduceIte, Nat.reduceEqDiff, j185, w1]
      obtain ⟨E, hEE⟩ : ∃ E, segE a b 64 (i + 1) (i + 1) = E := ⟨_, rfl⟩
      have hge := segE_ge a b 64 (i + 1) (i + 1) (Nat.le_refl _)
      rw [hEE] at hE hge
      refine AWp.loopR (Z := Z) mixed hZ (by kernel_rfl) (fun f s => ∃ e k, e ≤ k ∧ i + 1 ≤ e ∧ k ≤ 64 ∧ 64 ≤ k + f ∧ segE a b f e k = E ∧ s = mk2St a b i e k acc) (n0 := 64) (s0 := mk2St a b i (i + 1) (i + 1) acc) ?_ ⟨i + 1, i + 1, by omega, by omega, by omega, by omega, hEE, rfl⟩ ?_ rfl
      · cases acc with
        | nil => exact Wk.sub (by simp -dsimp -implicitDefEqProofs only [↓j25, ↓j27, ↓reduceIte, Nat.reduceEqDiff, j182, j202, j203, j204, j205, j223, mk2T, mkH, boV, boB] <;> simp)
        | cons c r => exact Wk.sub (by simp -dsimp -implicitDefEqProofs only [↓j25, ↓j27, ↓reduceIte, Nat.reduceEqDiff, j182, j202, j203, j204, j205, j223, mk2T, mkH, boV, boB] <;> simp)
      rintro f s ⟨e, k, hek, hie, hk64, hkf, hsE, rfl⟩
      refine ⟨rfl, ?_⟩
      have w3 : IntKind.i64.wrap ((e : Int) + 3) = ((e + 3 : Nat) : Int) := by rw [wrap_i64 (by omega) (by omega)]; omega
      by_cases hc : k < 64 ∧ k < e + 3
      · obtain ⟨f, rfl⟩ : ∃ g, f = g + 1 := ⟨f - 1, by omega⟩
        have c1 : decide ((k : Int) < 64) = true := decide_eq_true (by omega)
        have c2 : decide ((k : Int) < ((e + 3 : Nat) : Int)) = true := decide_eq_true (by omega)
        obtain ⟨u, hu⟩ := list_get (xs := a) (i := k) (by omega)
        obtain ⟨v, hv⟩ := list_get (xs := b) (i := k) (by omega)
        have gu : a.getD k 0 = u := by rw [List.getD_eq_getElem?_getD, hu]; rfl
        have gv : b.getD k 0 = v := by rw [List.getD_eq_getElem?_getD, hv]; rfl
        have k1 : (k : Int) < ((64 : Nat) : Int) := by omega
        have y1 : AV.sizeL ((a.map byteAV).take k) = k * 1 := (unif_bytes a).sizeL_take (by simp; omega)
        have y2 : AV.sizeL ((b.map byteAV).take k) = k * 1 := (unif_bytes b).sizeL_take (by simp; omega)
        have wk : IntKind.i64.wrap ((k : Int) + 1) = ((k + 1 : Nat) : Int) := by rw [wrap_i64 (by omega) (by omega)]; omega
        unfold segE at hsE
        rw [if_pos hc, gu, gv] at hsE
        by_cases huv : u = v
        · have p1 : ((u.toNat : Int) != (v.toNat : Int)) = false := by subst huv; simp
          rw [if_neg (fun h => h huv)] at hsE
          simp -dsimp -implicitDefEqProofs only [↓j0, ↓j1, ↓j2, ↓j3, ↓j4, ↓j7, ↓j8, ↓j9, ↓j12, ↓j13, ↓j14, ↓j15, j17, j18, j20, j24, ↓j25, ↓j27, ↓j29, ↓j30, j32, j33, ↓j38, ↓j40, ↓j43, ↓j46, ↓j48, ↓j76, j83, ↓j89, ↓j94, j130, ↓j145, ↓j146, ↓j147, ↓j149, ↓j150, ↓j153, j154, j158, j159, AV.proj, AV.offOf, j163, j164, j170, j171, j172, j174, j175, j177, ↓reduceIte, Nat.reduceEqDiff, j182, j185, j196, j197, j206, j207, j208, j255, j276, mk2St, mk2T, mkH, c1, w3, c2, hu, hv, k1, y1, y2, byteAV, p1]
          refine ⟨by kernel_rfl, ?_⟩
          simp -dsimp -implicitDefEqProofs only [↓j0, ↓j1, ↓j7, ↓j9, ↓j13, ↓j15, j17, j18, j20, ↓j25, ↓j29, ↓j30, j33, ↓j38, ↓j39, ↓j48, ↓j89, ↓j145, ↓j146, ↓j148, ↓j149, j154, j171, ↓reduceIte, Nat.reduceEqDiff, j185]
          refine ⟨f, mk2St a b i e (k + 1) acc, by omega, ⟨e, k + 1, by omega, by omega, by omega, by omega, hsE, rfl⟩, ?_⟩
          cases acc with
          | nil => exact Wk.sub (by simp -dsimp -implicitDefEqProofs only [↓j25, ↓j27, ↓reduceIte, Nat.reduceEqDiff, j182, j202, j203, j204, j205, j223, mk2T, mkH, boV, boB, wk] <;> simp)
          | cons c r => exact Wk.sub (by simp -dsimp -implicitDefEqProofs only [↓j25, ↓j27, ↓reduceIte, Nat.reduceEqDiff, j182, j202, j203, j204, j205, j223, mk2T, mkH, boV, boB, wk] <;> simp)
        · have p1 : ((u.toNat : Int) != (v.toNat : Int)) = true := by
            rw [bne_iff_ne]
            intro h
            exact huv (UInt8.toNat_inj.1 (by omega))
          rw [if_pos huv] at hsE
          simp -dsimp -implicitDefEqProofs only [↓j0, ↓j1, ↓j2, ↓j3, ↓j4, ↓j7, ↓j8, ↓j9, ↓j12, ↓j13, ↓j14, ↓j15, j17, j18, j20, j24, ↓j25, ↓j27, ↓j29, ↓j30, j32, j33, ↓j38, ↓j40, ↓j43, ↓j46, ↓j48, ↓j76, j83, ↓j89, ↓j94, j130, ↓j145, ↓j146, ↓j147, ↓j149, ↓j150, ↓j153, j154, j158, j159, AV.proj, AV.offOf, j163, j164, j170, j171, j172, j174, j175, j177, ↓reduceIte, Nat.reduceEqDiff, j182, j185, j196, j197, j206, j207, j208, j255, j276, mk2St, mk2T, mkH, c1, w3, c2, hu, hv, k1, y1, y2, byteAV, p1]
          refine ⟨by kernel_rfl, ?_⟩
          simp -dsimp -implicitDefEqProofs only [↓j0, ↓j1, ↓j7, ↓j13, ↓j15, j17, j18, j20, ↓j25, ↓j29, ↓j30, j33, ↓j38, ↓j39, ↓j48, ↓j89, ↓j145, ↓j146, ↓j147, ↓j149, j154, j171, ↓reduceIte, Nat.reduceEqDiff, j185]
          refine ⟨f, mk2St a b i (k + 1) (k + 1) acc, by omega, ⟨k + 1, k + 1, by omega, by omega, by omega, by omega, hsE, rfl⟩, ?_⟩
          cases acc with
          | nil => exact Wk.sub (by simp -dsimp -implicitDefEqProofs only [↓j25, ↓j27, ↓reduceIte, Nat.reduceEqDiff, j182, j202, j203, j204, j205, j223, mk2T, mkH, boV, boB, wk] <;> simp)
          | cons c r => exact Wk.sub (by simp -dsimp -implicitDefEqProofs only [↓j25, ↓j27, ↓reduceIte, Nat.reduceEqDiff, j182, j202, j203, j204, j205, j223, mk2T, mkH, boV, boB, wk] <;> simp)
      · have heE : e = E := by
          rw [← hsE]
          cases f with
          | zero => rfl
          | succ f => unfold segE; rw [if_neg hc]
        subst heE
        have hcc : (decide ((k : Int) < 64) = false) ∨ (decide ((k : Int) < 64) = true ∧ decide ((k : Int) < ((e + 3 : Nat) : Int)) = false) := by
          by_cases h : k < 64
          · exact .inr ⟨decide_eq_true (by omega), decide_eq_false (by omega)⟩
          · exact .inl (decide_eq_false (by omega))
        have he64 : e ≤ 64 := hge.2 (by omega) (by omega)
        have wi : IntKind.u8.wrap (i : Int) = ((UInt8.ofNat i).toNat : Int) := by
          rw [wrap_u8, Nat.mod_eq_of_lt (by omega)]
          simp; omega
        have we : IntKind.i64.wrap ((e : Int) - (i : Int)) = ((e - i : Nat) : Int) := by rw [wrap_i64 (by omega) (by omega)]; omega
        have wei : IntKind.u8.wrap ((e - i : Nat) : Int) = ((UInt8.ofNat (e - i)).toNat : Int) := by
          rw [wrap_u8, Nat.mod_eq_of_lt (by omega)]
          simp; omega
        have b0 : (0 : Int) ≤ (i : Int) := by omega
        have b1 : (i : Int) ≤ (e : Int) := by omega
        have b2 : (e : Int) ≤ ((64 : Nat) : Int) := by omega
        have b3 : e ≤ 64 := he64
        have t1 : ((i : Nat) : Int).toNat = i := Int.toNat_natCast i
        have t2 : ((e : Nat) : Int).toNat = e := Int.toNat_natCast e
        have hbl : ((b.take e).drop i).length = e - i := by rw [List.length_drop, List.length_take]; omega
        have hsrc : List.take (e - i) (List.drop i (List.map byteAV b)) = ((b.take e).drop i).map byteAV := by
          rw [List.map_drop, List.map_take, List.drop_take]
        obtain ⟨W, hW⟩ : ∃ W, (b.take e).drop i = W := ⟨_, rfl⟩
        rw [hW] at hE hbl hsrc
        obtain ⟨N, hN⟩ : ∃ N, acc ++ UInt8.ofNat i :: UInt8.ofNat (e - i) :: W = N := ⟨_, rfl⟩
        have hNE : N ++ makeL a b n e = R := by rw [← hN, ← hE, List.append_assoc]; rfl
        have hNl : N.length = acc.length + 2 + (e - i) := by rw [← hN]; simp only [List.length_append, List.length_cons, hbl]; omega
        have nxt : ∀ (t : Env) (H : Heap) (m : Nat), SubT (mkT e N 105) t → SubH (mkH a b N 105) H → ∃ m' s'', m' < n + 1 ∧ (∃ i acc, 64 ≤ i + m' ∧ i ≤ 64 ∧ acc.length ≤ 3 * i ∧ acc ++ makeL a b m' i = R ∧ s'' = mkSt a b i acc) ∧ Wk ⟨58, t, H, m⟩ s'' := fun t H m ht hH =>
          ⟨n, mkSt a b e N, by omega, ⟨e, N, by omega, by omega, by omega, hNE, rfl⟩, Wk.trans (Wk.mk (s' := ⟨58, mkT e N 105, mkH a b N 105, m⟩) ht.spec hH.spec (Nat.le_refl _) rfl) (mk_ren m)⟩
        obtain ⟨xN, rN, hNx⟩ : ∃ x r, N = x :: r := by
          cases hh : N with
          | nil =>
            have := congrArg List.length hh
            rw [hNl] at this
            simp only [List.length_nil] at this
            omega
          | cons x r => exact ⟨x, r, rfl⟩
        have hNV : boV N 105 = .sl 105 0 [] 0 N.length N.length 1 := by rw [hNx]; rfl
        have hNB : boB N 105 = [(105, .cells (arrAV N))] := by rw [hNx]; rfl
        have ub := unif_bytes b
        have u2 : Unif 1 [byteAV (UInt8.ofNat i), byteAV (UInt8.ofNat (e - i))] := unif_bytes [UInt8.ofNat i, UInt8.ofNat (e - i)]
        have uw : Unif 1 (W.map byteAV) := unif_bytes W
        obtain ⟨p, hp⟩ : ∃ p, UInt8.ofNat i = p := ⟨_, rfl⟩
        obtain ⟨q, hq⟩ : ∃ q, UInt8.ofNat (e - i) = q := ⟨_, rfl⟩
        rw [hp, hq] at hN
        rw [hp] at wi
        rw [hq] at wei
        rw [hp, hq] at u2
        have tk2 : List.take 2 (List.drop 0 [AV.int .u8 p.toNat, AV.int .u8 q.toNat]) = [byteAV p, byteAV q] := rfl
        rcases hcc with hc1 | ⟨hc1, hc2⟩
        · cases acc with
          | nil =>
            simp -dsimp -implicitDefEqProofs only [↓j0, ↓j1, ↓j2, ↓j4, ↓j7, ↓j8, ↓j11, ↓j12, ↓j13, ↓j15, j17, j18, j20, j24, ↓j25, ↓j29, ↓j30, j32, j33, ↓j38, ↓j40, ↓j48, ↓j50, ↓j51, ↓j74, j82, ↓j89, j125, j126, j127, j128, ↓j145, ↓j146, ↓j148, ↓j149, ↓j150, j155, j159, partsAV, AV.size, AV.sizeL, AV.layable, j163, j164, j166, j167, j168, j169, j170, j171, j172, j173, j174, j175, j179, j180, ↓reduceIte, Nat.reduceAdd, Nat.reduceMul, Nat.reduceEqDiff, Nat.reduceLeDiff, j182, j183, j185, j197, j213, j214, j215, j216, j217, ↓j225, Nat.reducePow, List.replicate, j234, j256, j412, j417, mk2St, mk2T, mkH, boV, boB, hc1, wi, we, wei]
            refine DoAppend_of rfl rfl at60 ?_
            simp -dsimp -implicitDefEqProofs only [↓j27, ↓j106, j107, ↓j145, ↓j153, AV.proj, AV.offOf, ↓reduceIte, Nat.reduceAdd, j184, j196, j197, j223, j230, j231, j234]
            refine ⟨u2, ?_⟩
            simp -dsimp -implicitDefEqProofs only [↓j4, j17, j18, j20, j24, ↓j25, ↓j27, ↓j29, ↓j38, ↓j49, ↓j100, j107, ↓j145, ↓j146, ↓j148, ↓j153, AV.proj, AV.offOf, j166, j170, j171, j172, j173, j174, ↓reduceIte, Nat.reduceAdd, Nat.reduceMul, Nat.reduceEqDiff, Nat.reduceLeDiff, j182, j184, j196, j208, j227, j228, j230, j231, Nat.reduceBEq, bndAV, ↓j238, j240, j276]
            refine ⟨⟨hb, b1, by omega⟩, ?_⟩
            simp -dsimp -implicitDefEqProofs only [↓j4, j17, j18, j20, j24, ↓j25, ↓j29, ↓j51, j170, j171, j172, j174, ↓reduceIte, Nat.reduceEqDiff, j196, t1, t2]
            refine DoAppend_of rfl rfl at60 ?_
            simp -dsimp -implicitDefEqProofs only [↓j27, ↓j106, j107, ↓j145, ↓j153, AV.proj, AV.offOf, ↓reduceIte, Nat.reduceEqDiff, j183, j184, j196, j222, hb, ub]
            refine ⟨by omega, ?_⟩
            have hN0 : AV.int .u8 p.toNat :: AV.int .u8 q.toNat :: W.map byteAV = N.map byteAV := by rw [← hN]; rfl
            have hN1 : W.length + 2 = N.length := by simp only [List.length_nil] at hNl; omega
            simp -dsimp -implicitDefEqProofs only [↓j27, ↓j101, ↓j102, ↓j153, ↓reduceIte, Nat.reduceAdd, Nat.reduceEqDiff, j184, j188, j189, j196, j213, j214, j215, j222, j223, j230, j231, j234, hsrc]
            refine ⟨⟨u2, by omega, by omega⟩, ?_⟩
            have hN2 : [byteAV p, byteAV q] ++ W.map byteAV = N.map byteAV := hN0
            have hN3 : 2 + W.length = N.length := by omega
            simp -dsimp -implicitDefEqProofs only [↓j3, ↓j4, j17, j18, j20, j21, j22, j23, j24, ↓j25, ↓j29, ↓j39, ↓j145, j166, j170, j171, j172, j173, j174, ↓reduceIte, Nat.reduceAdd, Nat.reduceEqDiff, j222, j227, j228, hsrc, hN3]
            refine ⟨by kernel_rfl, ?_⟩
            simp -dsimp -implicitDefEqProofs only [↓j0, ↓j1, ↓j7, ↓j15, j17, j18, j20, ↓j25, ↓j29, ↓j38, ↓j39, ↓j145, j171, ↓reduceIte, Nat.reduceEqDiff]
            exact nxt _ _ _ (by simp -dsimp -implicitDefEqProofs only [↓j25, ↓reduceIte, Nat.reduceEqDiff, j182, j202, j203, mkT, hNV] <;> simp) (by simp -dsimp -implicitDefEqProofs only [↓j27, ↓reduceIte, Nat.reduceEqDiff, j182, j204, j205, mkH, hNB, hN0] <;> simp)
          | cons c r =>
            have u1 : Unif 1 (byteAV c :: List.map byteAV r) := unif_bytes (c :: r)
            have tk1 : List.take (r.length + 1) (List.drop 0 (byteAV c :: List.map byteAV r)) = byteAV c :: List.map byteAV r := by
              rw [List.drop_zero, List.take_of_length_le (by simp)]
            obtain ⟨A, hA⟩ : ∃ A, (c :: r) ++ [p, q] = A := ⟨_, rfl⟩
            have hA1 : byteAV c :: List.map byteAV r ++ [byteAV p, byteAV q] = A.map byteAV := by rw [← hA, List.map_append]; rfl
            have hAl : r.length + 1 + 2 = A.length := by rw [← hA]; simp
            have hAl2 : r.length + 3 = A.length := by omega
            have uA := unif_bytes A
            have hal' : r.length + 1 ≤ 3 * i := by simpa using hal
            have tkA : List.take A.length (List.drop 0 (List.map byteAV A)) = List.map byteAV A := by
              rw [List.drop_zero, List.take_of_length_le (by simp)]
            have tkA2 : List.take A.length (List.map byteAV A) = List.map byteAV A := List.take_of_length_le (by simp)
            have hN2 : A.map byteAV ++ W.map byteAV = N.map byteAV := by rw [← hN, ← hA, ← List.map_append]; simp
            have hN3 : A.length + W.length = N.length := by rw [hNl, hbl, ← hA]; simp <;> omega
            simp -dsimp -implicitDefEqProofs only [↓j0, ↓j1, ↓j2, ↓j4, ↓j7, ↓j8, ↓j11, ↓j12, ↓j13, ↓j15, j17, j18, j20, j24, ↓j25, ↓j29, ↓j30, j32, j33, ↓j38, ↓j40, ↓j48, ↓j50, ↓j51, ↓j74, j82, ↓j89, j125, j126, j127, j128, ↓j145, ↓j146, ↓j148, ↓j149, ↓j150, j155, j159, partsAV, AV.size, AV.sizeL, AV.layable, j163, j164, j166, j167, j168, j169, j170, j171, j172, j173, j174, j175, j179, j180, ↓reduceIte, Nat.reduceAdd, Nat.reduceMul, Nat.reduceEqDiff, Nat.reduceLeDiff, j182, j183, j185, j197, j213, j214, j215, j216, j217, ↓j225, Nat.reducePow, List.replicate, j234, j256, j412, j417, mk2St, mk2T, mkH, boV, boB, hc1, wi, we, wei]
            refine DoAppend_of rfl rfl at60 ?_
            simp -dsimp -implicitDefEqProofs only [↓j27, ↓j106, j107, ↓j145, ↓j153, AV.proj, AV.offOf, ↓reduceIte, Nat.reduceAdd, j184, j196, j197, j223, j230, j231, j234]
            refine ⟨u2, ?_⟩
            simp -dsimp -implicitDefEqProofs only [↓j27, ↓j101, ↓j102, ↓j153, j166, j173, ↓reduceIte, Nat.reduceAdd, Nat.reduceEqDiff, Nat.reduceLeDiff, j184, j188, j189, j196, j213, j214, j215, j222, j223, j224, j227, j228, j230, j231, j234, byteAV]
            refine ⟨⟨u1, by omega, by omega⟩, ?_⟩
            have tk3 : List.take 2 (List.drop 0 [AV.int .u8 p.toNat, AV.int .u8 q.toNat]) = [AV.int .u8 p.toNat, AV.int .u8 q.toNat] := rfl
            have tk4 : List.take (r.length + 1) (List.drop 0 (List.map byteAV (c :: r))) = List.map byteAV (c :: r) := tk1
            have hA2 : List.map byteAV (c :: r) ++ [AV.int .u8 p.toNat, AV.int .u8 q.toNat] = A.map byteAV := hA1
            have lt : List.take r.length (List.map byteAV r) = List.map byteAV r := List.take_of_length_le (by simp)
            have hA3 : byteAV c :: (List.map byteAV r ++ [AV.int .u8 p.toNat, AV.int .u8 q.toNat]) = A.map byteAV := hA1
            simp -dsimp -implicitDefEqProofs only [↓j4, j17, j18, j20, j21, j22, j23, j24, ↓j25, ↓j27, ↓j29, ↓j38, ↓j49, j107, ↓j145, ↓j153, AV.proj, AV.offOf, j166, j170, j171, j172, j173, j174, ↓reduceIte, Nat.reduceAdd, Nat.reduceMul, Nat.reduceEqDiff, j184, j196, j208, j227, j228, j230, j231, bndAV, ↓j238, j240, j276, lt, hA3, hAl2, hb]
            refine ⟨⟨b1, by omega⟩, ?_⟩
            simp -dsimp -implicitDefEqProofs only [↓j4, j17, j18, j20, j24, ↓j25, ↓j29, ↓j51, j170, j171, j172, j174, ↓reduceIte, Nat.reduceEqDiff, j196, t1, t2]
            refine DoAppend_of rfl rfl at60 ?_
            simp -dsimp -implicitDefEqProofs only [↓j27, ↓j106, j107, ↓j145, ↓j153, AV.proj, AV.offOf, ↓reduceIte, Nat.reduceEqDiff, j183, j184, j196, j222, hb, ub]
            refine ⟨by omega, ?_⟩
            simp -dsimp -implicitDefEqProofs only [↓j27, ↓j101, ↓j102, ↓j153, ↓reduceIte, Nat.reduceEqDiff, j184, j188, j189, j196, j213, j214, j215, j222, j223, j234, uA, hsrc]
            refine ⟨⟨by omega, by omega⟩, ?_⟩
            simp -dsimp -implicitDefEqProofs only [↓j3, ↓j4, j17, j18, j20, j21, j22, j23, j24, ↓j25, ↓j29, ↓j39, ↓j145, j170, j171, j172, j173, j174, ↓reduceIte, Nat.reduceAdd, Nat.reduceEqDiff, j222, j227, tkA2, hsrc, hN2, hN3]
            refine ⟨by kernel_rfl, ?_⟩
            simp -dsimp -implicitDefEqProofs only [↓j0, ↓j1, ↓j7, ↓j15, j17, j18, j20, ↓j25, ↓j29, ↓j38, ↓j39, ↓j145, j171, ↓reduceIte, Nat.reduceEqDiff]
            exact nxt _ _ _ (by simp -dsimp -implicitDefEqProofs only [↓j25, ↓reduceIte, Nat.reduceEqDiff, j182, j202, j203, mkT, hNV] <;> simp) (by simp -dsimp -implicitDefEqProofs only [↓j27, ↓reduceIte, Nat.reduceEqDiff, j182, j204, j205, mkH, hNB] <;> simp)
        · cases acc with
          | nil =>
            simp -dsimp -implicitDefEqProofs only [↓j0, ↓j1, ↓j2, ↓j4, ↓j7, ↓j8, ↓j11, ↓j12, ↓j13, ↓j15, j17, j18, j20, j24, ↓j25, ↓j29, ↓j30, j32, j33, ↓j38, ↓j40, ↓j48, ↓j50, ↓j51, ↓j74, j83, ↓j89, j125, j126, j127, j128, ↓j145, ↓j146, ↓j147, ↓j148, ↓j149, ↓j150, j154, j155, j159, partsAV, AV.size, AV.sizeL, AV.layable, j163, j164, j166, j167, j168, j169, j170, j171, j172, j173, j174, j175, j179, j180, ↓reduceIte, Nat.reduceAdd, Nat.reduceMul, Nat.reduceEqDiff, Nat.reduceLeDiff, j182, j183, j185, j197, j213, j214, j215, j216, j217, ↓j225, Nat.reducePow, List.replicate, j234, j256, j412, j417, mk2St, mk2T, mkH, boV, boB, hc1, hc2, w3, wi, we, wei]
            refine DoAppend_of rfl rfl at60 ?_
            simp -dsimp -implicitDefEqProofs only [↓j27, ↓j106, j107, ↓j145, ↓j153, AV.proj, AV.offOf, ↓reduceIte, Nat.reduceAdd, j184, j196, j197, j223, j230, j231, j234]
            refine ⟨u2, ?_⟩
            simp -dsimp -implicitDefEqProofs only [↓j4, j17, j18, j20, j24, ↓j25, ↓j27, ↓j29, ↓j38, ↓j49, ↓j100, j107, ↓j145, ↓j146, ↓j148, ↓j153, AV.proj, AV.offOf, j166, j170, j171, j172, j173, j174, ↓reduceIte, Nat.reduceAdd, Nat.reduceMul, Nat.reduceEqDiff, Nat.reduceLeDiff, j182, j184, j196, j208, j227, j228, j230, j231, Nat.reduceBEq, bndAV, ↓j238, j240, j276]
            refine ⟨⟨hb, b1, by omega⟩, ?_⟩
            simp -dsimp -implicitDefEqProofs only [↓j4, j17, j18, j20, j24, ↓j25, ↓j29, ↓j51, j170, j171, j172, j174, ↓reduceIte, Nat.reduceEqDiff, j196, t1, t2]
            refine DoAppend_of rfl rfl at60 ?_
            simp -dsimp -implicitDefEqProofs only [↓j27, ↓j106, j107, ↓j145, ↓j153, AV.proj, AV.offOf, ↓reduceIte, Nat.reduceEqDiff, j183, j184, j196, j222, hb, ub]
            refine ⟨by omega, ?_⟩
            have hN0 : AV.int .u8 p.toNat :: AV.int .u8 q.toNat :: W.map byteAV = N.map byteAV := by rw [← hN]; rfl
            have hN1 : W.length + 2 = N.length := by simp only [List.length_nil] at hNl; omega
            simp -dsimp -implicitDefEqProofs only [↓j27, ↓j101, ↓j102, ↓j153, ↓reduceIte, Nat.reduceAdd, Nat.reduceEqDiff, j184, j188, j189, j196, j213, j214, j215, j222, j223, j230, j231, j234, hsrc]
            refine ⟨⟨u2, by omega, by omega⟩, ?_⟩
            have hN2 : [byteAV p, byteAV q] ++ W.map byteAV = N.map byteAV := hN0
            have hN3 : 2 + W.length = N.length := by omega
            simp -dsimp -implicitDefEqProofs only [↓j3, ↓j4, j17, j18, j20, j21, j22, j23, j24, ↓j25, ↓j29, ↓j39, ↓j145, j166, j170, j171, j172, j173, j174, ↓reduceIte, Nat.reduceAdd, Nat.reduceEqDiff, j222, j227, j228, hsrc, hN3]
            refine ⟨by kernel_rfl, ?_⟩
            simp -dsimp -implicitDefEqProofs only [↓j0, ↓j1, ↓j7, ↓j15, j17, j18, j20, ↓j25, ↓j29, ↓j38, ↓j39, ↓j145, j171, ↓reduceIte, Nat.reduceEqDiff]
            exact nxt _ _ _ (by simp -dsimp -implicitDefEqProofs only [↓j25, ↓reduceIte, Nat.reduceEqDiff, j182, j202, j203, mkT, hNV] <;> simp) (by simp -dsimp -implicitDefEqProofs only [↓j27, ↓reduceIte, Nat.reduceEqDiff, j182, j204, j205, mkH, hNB, hN0] <;> simp)
          | cons c r =>
            have u1 : Unif 1 (byteAV c :: List.map byteAV r) := unif_bytes (c :: r)
            have tk1 : List.take (r.length + 1) (List.drop 0 (byteAV c :: List.map byteAV r)) = byteAV c :: List.map byteAV r := by
              rw [List.drop_zero, List.take_of_length_le (by simp)]
            obtain ⟨A, hA⟩ : ∃ A, (c :: r) ++ [p, q] = A := ⟨_, rfl⟩
            have hA1 : byteAV c :: List.map byteAV r ++ [byteAV p, byteAV q] = A.map byteAV := by rw [← hA, List.map_append]; rfl
            have hAl : r.length + 1 + 2 = A.length := by rw [← hA]; simp
            have hAl2 : r.length + 3 = A.length := by omega
            have uA := unif_bytes A
            have hal' : r.length + 1 ≤ 3 * i := by simpa using hal
            have tkA : List.take A.length (List.drop 0 (List.map byteAV A)) = List.map byteAV A := by
              rw [List.drop_zero, List.take_of_length_le (by simp)]
            have tkA2 : List.take A.length (List.map byteAV A) = List.map byteAV A := List.take_of_length_le (by simp)
            have hN2 : A.map byteAV ++ W.map byteAV = N.map byteAV := by rw [← hN, ← hA, ← List.map_append]; simp
            have hN3 : A.length + W.length = N.length := by rw [hNl, hbl, ← hA]; simp <;> omega
            simp -dsimp -implicitDefEqProofs only [↓j0, ↓j1, ↓j2, ↓j4, ↓j7, ↓j8, ↓j11, ↓j12, ↓j13, ↓j15, j17, j18, j20, j24, ↓j25, ↓j29, ↓j30, j32, j33, ↓j38, ↓j40, ↓j48, ↓j50, ↓j51, ↓j74, j83, ↓j89, j125, j126, j127, j128, ↓j145, ↓j146, ↓j147, ↓j148, ↓j149, ↓j150, j154, j155, j159, partsAV, AV.size, AV.sizeL, AV.layable, j163, j164, j166, j167, j168, j169, j170, j171, j172, j173, j174, j175, j179, j180, ↓reduceIte, Nat.reduceAdd, Nat.reduceMul, Nat.reduceEqDiff, Nat.reduceLeDiff, j182, j183, j185, j197, j213, j214, j215, j216, j217, ↓j225, Nat.reducePow, List.replicate, j234, j256, j412, j417, mk2St, mk2T, mkH, boV, boB, hc1, hc2, w3, wi, we, wei]
            refine DoAppend_of rfl rfl at60 ?_
            simp -dsimp -implicitDefEqProofs only [↓j27, ↓j106, j107, ↓j145, ↓j153, AV.proj, AV.offOf, ↓reduceIte, Nat.reduceAdd, j184, j196, j197, j223, j230, j231, j234]
            refine ⟨u2, ?_⟩
            simp -dsimp -implicitDefEqProofs only [↓j27, ↓j101, ↓j102, ↓j153, j166, j173, ↓reduceIte, Nat.reduceAdd, Nat.reduceEqDiff, Nat.reduceLeDiff, j184, j188, j189, j196, j213, j214, j215, j222, j223, j224, j227, j228, j230, j231, j234, byteAV]
            refine ⟨⟨u1, by omega, by omega⟩, ?_⟩
            have tk3 : List.take 2 (List.drop 0 [AV.int .u8 p.toNat, AV.int .u8 q.toNat]) = [AV.int .u8 p.toNat, AV.int .u8 q.toNat] := rfl
            have tk4 : List.take (r.length + 1) (List.drop 0 (List.map byteAV (c :: r))) = List.map byteAV (c :: r) := tk1
            have hA2 : List.map byteAV (c :: r) ++ [AV.int .u8 p.toNat, AV.int .u8 q.toNat] = A.map byteAV := hA1
            have lt : List.take r.length (List.map byteAV r) = List.map byteAV r := List.take_of_length_le (by simp)
            have hA3 : byteAV c :: (List.map byteAV r ++ [AV.int .u8 p.toNat, AV.int .u8 q.toNat]) = A.map byteAV := hA1
            simp -dsimp -implicitDefEqProofs only [↓j4, j17, j18, j20, j21, j22, j23, j24, ↓j25, ↓j27, ↓j29, ↓j38, ↓j49, j107, ↓j145, ↓j153, AV.proj, AV.offOf, j166, j170, j171, j172, j173, j174, ↓reduceIte, Nat.reduceAdd, Nat.reduceMul, Nat.reduceEqDiff, j184, j196, j208, j227, j228, j230, j231, bndAV, ↓j238, j240, j276, lt, hA3, hAl2, hb]
            refine ⟨⟨b1, by omega⟩, ?_⟩
            simp -dsimp -implicitDefEqProofs only [↓j4, j17, j18, j20, j24, ↓j25, ↓j29, ↓j51, j170, j171, j172, j174, ↓reduceIte, Nat.reduceEqDiff, j196, t1, t2]
            refine DoAppend_of rfl rfl at60 ?_
            simp -dsimp -implicitDefEqProofs only [↓j27, ↓j106, j107, ↓j145, ↓j153, AV.proj, AV.offOf, ↓reduceIte, Nat.reduceEqDiff, j183, j184, j196, j222, hb, ub]
            refine ⟨by omega, ?_⟩
            simp -dsimp -implicitDefEqProofs only [↓j27, ↓j101, ↓j102, ↓j153, ↓reduceIte, Nat.reduceEqDiff, j184, j188, j189, j196, j213, j214, j215, j222, j223, j234, uA, hsrc]
            refine ⟨⟨by omega, by omega⟩, ?_⟩
            simp -dsimp -implicitDefEqProofs only [↓j3, ↓j4, j17, j18, j20, j21, j22, j23, j24, ↓j25, ↓j29, ↓j39, ↓j145, j170, j171, j172, j173, j174, ↓reduceIte, Nat.reduceAdd, Nat.reduceEqDiff, j222, j227, tkA2, hsrc, hN2, hN3]
            refine ⟨by kernel_rfl, ?_⟩
            simp -dsimp -implicitDefEqProofs only [↓j0, ↓j1, ↓j7, ↓j15, j17, j18, j20, ↓j25, ↓j29, ↓j38, ↓j39, ↓j145, j171, ↓reduceIte, Nat.reduceEqDiff]
            exact nxt _ _ _ (by simp -dsimp -implicitDefEqProofs only [↓j25, ↓reduceIte, Nat.reduceEqDiff, j182, j202, j203, mkT, hNV] <;> simp) (by simp -dsimp -implicitDefEqProofs only [↓j27, ↓reduceIte, Nat.reduceEqDiff, j182, j204, j205, mkH, hNB] <;> simp)
  · have hi2 : i = 64 := by omega
    subst hi2
    have e1 : decide (((64 : Nat) : Int) < 64) = false := rfl
    have hacc : acc = R := by
      rw [← hE]
      cases n <;> simp [makeL]
    subst hacc
    cases acc with
    | nil =>
      have q0 : bytesOf [] = some [] := rfl
      simp -dsimp -implicitDefEqProofs only [↓j0, ↓j1, ↓j7, ↓j10, ↓j11, ↓j12, ↓j13, ↓j15, j17, j18, j20, ↓j25, ↓j29, ↓j30, j33, ↓j38, ↓j39, ↓j48, ↓j50, ↓j89, ↓j103, ↓j123, ↓j145, ↓j146, ↓j148, ↓j149, j159, j171, ↓reduceIte, Nat.reduceEqDiff, j182, j185, j259, j358, mkSt, mkT, mkH, boV, boB, e1, q0]
      exact fin _ _ _ rfl
    | cons c r =>
      have u0 : Unif 1 (byteAV c :: List.map byteAV r) := unif_bytes (c :: r)
      have q0 : bytesOf (List.take (r.length + 1) (List.drop 0 (byteAV c :: List.map byteAV r))) = some (c :: r) := by
        rw [List.drop_zero, List.take_of_length_le (by simp)]; exact bytesOf_bytes (c :: r)
      simp -dsimp -implicitDefEqProofs only [↓j0, ↓j1, ↓j7, ↓j11, ↓j12, ↓j13, ↓j15, j17, j18, j20, ↓j25, ↓j27, ↓j29, ↓j30, j33, ↓j38, ↓j48, ↓j50, ↓j89, ↓j106, j107, ↓j121, ↓j145, ↓j146, ↓j148, ↓j149, ↓j153, j159, AV.proj, AV.offOf, j171, j173, ↓reduceIte, Nat.reduceEqDiff, j182, j184, j185, j196, j197, j222, j223, j230, j234, j259, j358, mkSt, mkT, mkH, boV, boB, e1]
      refine ⟨u0, ?_⟩
      have q1 : bytesOf (byteAV c :: List.take r.length (List.map byteAV r)) = some (c :: r) := by
        rw [List.take_of_length_le (by simp)]; exact bytesOf_bytes (c :: r)
      simp -dsimp -implicitDefEqProofs only [↓j0, ↓j1, ↓j10, j17, j18, j20, ↓j25, ↓j29, ↓j39, ↓j145, j166, j171, ↓reduceIte, j227, q1]
      exact fin _ _ _ rfl
end Go.Proofs.Ytipbgaahpchhbaa
