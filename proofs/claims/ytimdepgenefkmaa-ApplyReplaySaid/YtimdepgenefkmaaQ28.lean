import Derived.Test.YtimdepgenefkmaaQ27
set_option maxRecDepth 8000
set_option linter.unusedVariables false
set_option linter.unusedSimpArgs false
namespace Go.Proofs.Ytimdepgenefkmaa
open Go Go.RowKit

theorem fok11 : fnOk Try.prog 11 = true := by kernel_rfl
theorem fok12 : fnOk Try.prog 12 = true := by kernel_rfl
theorem take_ens {l : List En} : List.take l.length (l.map En.av) = l.map En.av := List.take_of_length_le (by simp)
theorem steady_arr (l : List UInt8) : Steady (arrAV l) := Steady.agg fun x hx => by
  rw [flatL_bytes] at hx
  obtain ⟨b, _, rfl⟩ := List.mem_map.1 hx; rfl
theorem frz_ens {K : Nat → Prop} {H : Heap} {n L : Nat} {l : List En} {es : List AV} (hL : l.length = L) (he : es = l.map En.av) (hok : ∀ e, e ∈ l → e.Ok) (hk : ¬ K n) (h : Heap.get H n = some (.cells (.agg es))) : Frz K H (.sl n 0 [] 0 L L 239) (ensAV l) := by
  subst hL he
  have := Frz.sl (K := K) (H := H) n 0 [] 0 l.length l.length 239 _ (l.map En.av) h hk rfl rfl (by simp) (unif_en l hok) (fun x hx => by
    obtain ⟨o, _, rfl⟩ := List.mem_map.1 (List.mem_of_mem_drop (List.mem_of_mem_take hx)); exact on_en _ _)
  rw [List.drop_zero, take_ens] at this
  exact this
theorem replay_own (m L : Nat) (uu : Bool) (no : Nat) (hno : no < 65536) (p : List UInt8) (hp : p.length = 224) (l : List En) (es : List AV) (hL : l.length = L) (he : es = l.map En.av) (hl : ∀ e, e ∈ l → e.Ok) (hn : L ≤ 9223372036854775807) : ACall Try.prog 11 [idAV uu no, arrAV p, .sl m 0 [] 0 L L 239] [(m, .cells (.agg es))] (arrAV (replayP uu no p l)) [(m, .cells (.agg es))] := by
  refine ACall.borrowS (replay_spec uu no hno p hp l hl (by omega)) (steady_arr _) ⟨.same _ ⟨trivial, trivial, trivial⟩, .same _ (on_bytes _ _), frz_ens hL he hl (fun h => h) (by simp [Heap.get]), trivial⟩
theorem args_own (m L : Nat) (uu : Bool) (no : Nat) (p : List UInt8) : ∀ x, x ∈ [idAV uu no, arrAV p, .sl m 0 [] 0 L L 239] → ∀ vs, x ≠ .tuple vs := fun x hx vs h => by
  simp only [List.mem_cons, List.not_mem_nil, or_false] at hx
  rcases hx with rfl | rfl | rfl <;> cases h
theorem put_sub {l : Heap} {m k : Nat} : ∀ n x, Heap.get l n = some x → n ∉ l.map (·.1) → m ≤ n ∧ n < k := fun n x h h2 => absurd (get_map h) h2
def arT (l : List En) (i : Nat) : Env := [(23, .int .i64 i), (22, .int .i64 l.length), (7, .sl 103 0 [] 0 l.length l.length 239), (8, .ptr 104 0 []), (2, ensAV l), (3, .ptr 100 0 []), (4, .ptr 101 0 []), (6, .bool false)]
def arH (uu : Bool) (no : Nat) (p q : List UInt8) (l : List En) : Heap := [(104, .cells (arrAV q)), (103, .cells (.agg (l.map En.av))), (101, .cells (arrAV p)), (100, .cells (idAV uu no))]
def arSt (uu : Bool) (no : Nat) (p q : List UInt8) (l : List En) (i : Nat) : St := ⟨45, arT l i, arH uu no p q l, 105⟩
set_option maxHeartbeats 3200000 in
theorem applyReplay_spec (uu : Bool) (no : Nat) (hno : no < 65536) (p : List UInt8) (hp : p.length = 224) (log : List En) (hl : ∀ e, e ∈ log → e.Ok) (hn : log.length ≤ 9223372036854775807) : ACall Try.prog 4 [idAV uu no, arrAV p, ensAV log] [] (.bool true) [] := by
  refine ACall.run (Z := Z) (N := 45) mixed hZ Try.func4 rfl rfl (by kernel_rfl) (by simp) args_ipl 100 ?_
  have hz := zb_len 224
  have fin : ∀ (t : Env) (H : Heap) (m : Nat), look t 6 = some (.bool true) → Final Try.prog Try.f4 (.bool true) [] .ret ⟨45, t, H, m⟩ := fun t H m h =>
    Final.one (.inr rfl) (r := .tmp 6) rfl ⟨h, fun vs h => by cases h⟩ (fun vs h => by cases h) (fun vs h => by cases h) (.same _ trivial)
  by_cases h60 : 60 < log.length
  · have e1 : decide ((60 : Int) < (log.length : Int)) = true := decide_eq_true (by omega)
    simp -dsimp -implicitDefEqProofs only [↓j0, ↓j1, ↓j7, ↓j12, ↓j13, ↓j15, j17, j18, j20, ↓j25, ↓j29, ↓j30, j32, j33, ↓j38, ↓j39, ↓j42, ↓j48, ↓j53, ↓j58, ↓j62, ↓j89, j142, ↓j145, ↓j146, ↓j147, ↓j149, j161, AV.layable, argEnv, j170, j171, j172, reduceCtorEq, ↓reduceIte, Nat.reduceAdd, Nat.reduceEqDiff, j185, j196, j473, e1]
    refine CallTo.pure (args := []) rfl fok10 (by simp -dsimp -implicitDefEqProofs only [j174]) (fun x hx => by cases hx) awake_spec ?_
    simp -dsimp -implicitDefEqProofs only [↓j0, ↓j1, ↓j10, j17, j18, j20, ↓j25, ↓j29, ↓j39, ↓j145, j171, ↓reduceIte]
    exact fin _ _ _ rfl
  have e1 : decide ((60 : Int) < (log.length : Int)) = false := decide_eq_false (by omega)
  have ue := unif_en log hl
  have h1 := replay_own 103 log.length uu no hno p hp log (log.map En.av) rfl rfl hl hn
  have h2 := rreplay_spec uu no hno p hp log hl hn
  have hql := replay_len (uu := uu) (no := no) (log := log) hp hl
  obtain ⟨q, hq⟩ : ∃ q, replayP uu no p log = q := ⟨_, rfl⟩
  rw [hq] at h1 h2 hql
  have u0 : Unif 239 [] := fun x hx => by cases hx
  simp -dsimp -implicitDefEqProofs only [↓j0, ↓j1, ↓j7, ↓j9, ↓j12, ↓j13, ↓j15, j17, j18, j20, ↓j25, ↓j29, ↓j30, j32, j33, ↓j38, ↓j39, ↓j42, ↓j48, ↓j51, ↓j58, ↓j62, ↓j74, ↓j89, j125, j127, j142, ↓j145, ↓j146, ↓j148, ↓j149, j161, partsAV, AV.layable, argEnv, j170, j171, j172, reduceCtorEq, ↓reduceIte, Nat.reduceAdd, Nat.reduceEqDiff, j182, j185, j196, j214, j218, j219, j226, Nat.reducePow, List.replicate, j234, j444, j473, e1]
  refine DoAppend_of rfl rfl at44 ?_
  have z0 : List.take 0 (List.drop 0 ([] : List AV)) = [] := rfl
  simp -dsimp -implicitDefEqProofs only [↓j27, ↓j101, ↓j102, ↓j104, ↓j146, ↓j153, ↓reduceIte, Nat.reduceEqDiff, j182, j184, j188, j189, j196, j197, j214, j222, j223, j231, j234, ue, u0, take_ens]
  refine ⟨by omega, ?_⟩
  simp -dsimp -implicitDefEqProofs only [↓j0, ↓j1, ↓j7, ↓j12, ↓j15, j17, j18, j20, j21, j22, j23, ↓j25, ↓j27, ↓j29, ↓j38, ↓j39, ↓j43, ↓j53, ↓j76, j129, ↓j145, ↓j146, ↓j153, AV.proj, AV.offOf, AV.size, AV.sizeL, j170, j171, ↓reduceIte, Nat.reduceAdd, Nat.reduceEqDiff, j182, j196, j197, j222, j228, j229, j240, j263, j264, j273, j274, hp, take_ens]
  refine CallTo.gen (args := [idAV uu no, arrAV p, .sl 103 0 [] 0 log.length log.length 239]) [(103, .cells (.agg (log.map En.av)))] [(103, .cells (.agg (log.map En.av)))] 104 rfl fok11 (by simp -dsimp -implicitDefEqProofs only [↓j25, ↓j29, j173, j174, ↓reduceIte, Nat.reduceEqDiff]) (args_own _ _ _ _ _) h1 (SubH.of (by simp -dsimp -implicitDefEqProofs only [↓j27, ↓reduceIte, j182, j204, j205])) ⟨by simp, put_sub⟩ ?_
  simp -dsimp -implicitDefEqProofs only [↓j0, ↓j1, ↓j7, ↓j12, ↓j14, ↓j15, ↓j16, j17, j18, j19, j20, j21, j22, j23, ↓j25, ↓j27, ↓j29, ↓j30, j33, ↓j38, ↓j41, ↓j44, ↓j58, ↓j61, ↓j78, j143, ↓j145, ↓j146, ↓j153, AV.proj, AV.offOf, AV.upd, AV.size, AV.layable, j170, j171, j173, j174, ↓reduceIte, Nat.reduceAdd, Nat.reduceEqDiff, j182, j240, j273, j419, j473, hz, hql]
  refine AWp.loopR (Z := Z) mixed hZ (by kernel_rfl) (fun n s => ∃ i, i + n = log.length ∧ s = arSt uu no p q log i) (n0 := log.length) (s0 := arSt uu no p q log 0) ?_ ⟨0, by omega, rfl⟩ ?_ rfl
  · exact Wk.sub (by simp -dsimp -implicitDefEqProofs only [↓j25, ↓j27, j179, reduceCtorEq, ↓reduceIte, Nat.reduceEqDiff, j182, j183, j184, j202, j203, j204, j205, j209, j223, arT, arH] <;> simp)
  rintro n s ⟨i, hi, rfl⟩
  refine ⟨rfl, ?_⟩
  rcases Nat.lt_or_ge i log.length with hlt | hge
  · have e2 : decide ((i : Int) < (log.length : Int)) = true := decide_eq_true (by omega)
    obtain ⟨e, he⟩ := list_get (xs := log) hlt
    have heo := hl e (List.mem_of_getElem? he)
    have hi2 := heo.rc.image
    have hlt2 : (i : Int) < (log.length : Int) := by omega
    have hsz : AV.sizeL ((log.map En.av).take i) = i * 239 := ue.sizeL_take (by simp; omega)
    have hw : IntKind.i64.wrap ((i : Int) + 1) = ((i + 1 : Nat) : Int) := by rw [wrap_i64 (by omega) (by omega)]; omega
    have hcr := cellsEq_rc e.rc e.rc rfl
    rw [Rc.eqb_iff.2 rfl] at hcr
    have hce := cellsEq_cons (x := AV.int .u64 e.lsn) (y := AV.int .u64 e.lsn) (a := true) (by rw [scEq_int]; simp) hcr
    simp -dsimp -implicitDefEqProofs only [↓j0, ↓j1, ↓j4, ↓j7, ↓j8, ↓j9, ↓j12, ↓j13, ↓j14, ↓j15, j17, j18, j20, j24, ↓j25, ↓j27, ↓j29, ↓j38, ↓j39, ↓j43, ↓j46, ↓j48, ↓j76, ↓j77, ↓j89, ↓j91, ↓j92, ↓j93, j129, ↓j145, ↓j146, ↓j147, ↓j149, ↓j153, j159, AV.proj, AV.offOf, AV.size, AV.sizeL, AV.flat, AV.flatL, j170, j171, j172, j173, j174, j177, ↓reduceIte, Nat.reduceAdd, Nat.reduceEqDiff, j182, j184, j185, j191, j196, j197, j206, j207, j208, j212, kindOf, j240, j241, j341, j342, j349, j350, j356, arSt, arT, arH, he, hlt2, hsz, hi2, hce, Bool.and_self]
    refine ⟨?_, ?_⟩
    · simp only [List.map_append, kinds_map, hi2]; rfl
    simp -dsimp -implicitDefEqProofs only [↓j3, j17, j18, j20, j24, j170, j171, j172, j174, ↓reduceIte, j193]
    refine ⟨by kernel_rfl, ?_⟩
    simp -dsimp -implicitDefEqProofs only [↓j0, ↓j1, ↓j7, ↓j9, ↓j13, ↓j15, j17, j18, j20, ↓j25, ↓j29, ↓j30, j33, ↓j38, ↓j48, ↓j89, ↓j145, ↓j146, ↓j148, ↓j149, j154, j171, ↓reduceIte, Nat.reduceEqDiff, j185]
    exact ⟨n - 1, arSt uu no p q log (i + 1), by omega, ⟨i + 1, by omega, rfl⟩, Wk.sub (by simp -dsimp -implicitDefEqProofs only [↓j25, ↓j27, ↓reduceIte, Nat.reduceEqDiff, j182, j202, j203, j204, j205, j223, arT, arH, hw] <;> simp)⟩
  · have hi3 : i = log.length := by omega
    subst hi3
    have e2 : decide ((log.length : Int) < (log.length : Int)) = false := decide_eq_false (by omega)
    have hce := cellsEq_bytes (l := q) (k := q) rfl
    have hkb := kinds_bytes hql
    simp only [beq_self_eq_true] at hce
    simp -dsimp -implicitDefEqProofs only [↓j0, ↓j1, ↓j4, ↓j7, ↓j8, ↓j11, ↓j12, ↓j13, ↓j15, j17, j18, j20, j24, ↓j25, ↓j27, ↓j29, ↓j38, ↓j43, ↓j48, ↓j53, ↓j76, ↓j89, j129, ↓j145, ↓j146, ↓j148, ↓j149, ↓j153, j159, AV.proj, AV.offOf, AV.size, AV.sizeL, j170, j171, j172, j174, ↓reduceIte, Nat.reduceAdd, Nat.reduceEqDiff, j182, j185, j197, j240, j263, j264, j273, j274, arSt, arT, arH, e2, hp, hql]
    refine CallTo.pure (args := [idAV uu no, arrAV p, ensAV log]) rfl fok12 (by simp -dsimp -implicitDefEqProofs only [↓j25, ↓j29, j173, j174, ↓reduceIte, Nat.reduceEqDiff]) (fun x hx => (args_ipl x hx).2) h2 ?_
    simp -dsimp -implicitDefEqProofs only [↓j4, j17, j18, j20, j24, ↓j25, ↓j29, ↓j48, ↓j91, ↓j145, j170, j171, j172, j174, ↓reduceIte, Nat.reduceEqDiff, j184, j211, j241, j274, j276, j277, hce]
    refine ⟨hkb, ?_⟩
    simp -dsimp -implicitDefEqProofs only [↓j4, ↓j5, j17, j18, j20, j24, ↓j25, ↓j29, ↓j38, ↓j53, ↓j145, ↓j147, ↓j150, j163, j164, j170, j171, j172, j174, j175, ↓reduceIte, j195]
    refine CallTo.pure (args := []) rfl fok10 (by simp -dsimp -implicitDefEqProofs only [j174]) (fun x hx => by cases hx) awake_spec ?_
    simp -dsimp -implicitDefEqProofs only [↓j3, ↓j4, j17, j18, j20, j24, ↓j25, ↓j29, ↓j30, j32, ↓j39, ↓j40, j83, ↓j145, j170, j171, j172, j174, ↓reduceIte, Nat.reduceEqDiff]
    refine ⟨by kernel_rfl, ?_⟩
    simp -dsimp -implicitDefEqProofs only [↓j10]
    exact fin _ _ _ rfl
end Go.Proofs.Ytimdepgenefkmaa
