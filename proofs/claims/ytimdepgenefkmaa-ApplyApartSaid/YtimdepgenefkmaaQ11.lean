/- The law ApplyTwice. -/
import Derived.Test.YtimdepgenefkmaaQ10
set_option maxRecDepth 8000
set_option linter.unusedVariables false
set_option linter.unusedSimpArgs false
namespace Go.Proofs.Ytimdepgenefkmaa
open Go Go.RowKit

theorem fok11 : fnOk Try.prog 11 = true := by kernel_rfl
theorem fok13 : fnOk Try.prog 13 = true := by kernel_rfl
theorem args_twice {uu : Bool} {no : Nat} {p : List UInt8} {l : List En} {n : Int} : ∀ x, x ∈ [idAV uu no, arrAV p, ensAV l, .int .i64 n] → AV.on (fun _ => False) x ∧ ∀ vs, x ≠ .tuple vs := fun x hx => by
  simp only [List.mem_cons, List.not_mem_nil, or_false] at hx
  rcases hx with rfl | rfl | rfl | rfl
  · exact ⟨⟨trivial, trivial, trivial⟩, fun vs h => by cases h⟩
  · exact ⟨on_bytes _ _, fun vs h => by cases h⟩
  · exact ⟨on_ens _ _, fun vs h => by cases h⟩
  · exact ⟨trivial, fun vs h => by cases h⟩
theorem fewP_ok {l : List En} (hl : ∀ e, e ∈ l → e.Ok) : ∀ e, e ∈ fewP l → e.Ok := fewL_ok 0 _ (by rw [List.length_take]; omega) fun e he => hl e (List.mem_of_mem_take he)
theorem fewP_len (l : List En) : (fewP l).length ≤ 40 := by rw [fewP, fewL_len, List.length_take]; omega
set_option maxHeartbeats 3200000 in
theorem applyTwice_spec (uu : Bool) (no : Nat) (hno : no < 65536) (p : List UInt8) (hp : p.length = 224) (log : List En) (hl : ∀ e, e ∈ log → e.Ok) (hn : log.length ≤ 9223372036854775807) (n : Int) : ACall Try.prog 5 [idAV uu no, arrAV p, ensAV log, .int .i64 n] [] (.bool true) [] := by
  refine ACall.run (Z := Z) (N := 50) mixed hZ Try.func5 rfl rfl (by kernel_rfl) (by simp) args_twice 0 ?_
  have hfs := few_spec log hl hn
  have hfo := fewP_ok hl
  have hfl := fewP_len log
  have hri := (fewL_rise 0 (log.take 40)).1
  have hri : (fewP log).Pairwise (fun a b => a.lsn ≤ b.lsn) := hri
  obtain ⟨l, hL⟩ : ∃ l, fewP log = l := ⟨_, rfl⟩
  rw [hL] at hfs hfo hfl hri
  have h1 := replay_spec uu no hno p hp l hfo (by omega)
  have ho := replay_len (uu := uu) (no := no) hp hfo
  have tw := fun k => replay_twice (uu := uu) hno hp hfo hri k
  have hT : l.take l.length = l := List.take_of_length_le (Nat.le_refl _)
  have tw0 := tw l.length
  rw [hT] at tw0
  obtain ⟨O, hO⟩ : ∃ O, replayP uu no p l = O := ⟨_, rfl⟩
  rw [hO] at h1 ho tw0
  have h2 := replay_spec uu no hno O ho l hfo (by omega)
  rw [tw0] at h2
  obtain ⟨a, ha⟩ : ∃ a : Nat, IntKind.u64.wrap n = (a : Int) := ⟨(n % 18446744073709551616).toNat, by
    have : IntKind.u64.wrap n = n % 18446744073709551616 := by simp [IntKind.wrap, IntKind.signed, IntKind.bits]
    omega⟩
  have hw1 : IntKind.i64.wrap ((l.length : Int) + 1) = ((l.length + 1 : Nat) : Int) := by rw [wrap_i64 (by omega) (by omega)]; omega
  have hw2 : IntKind.u64.wrap ((l.length + 1 : Nat) : Int) = ((l.length + 1 : Nat) : Int) := by rw [wrap_u64, Nat.mod_eq_of_lt (by omega)]
  have hlt := Nat.mod_lt a (show 0 < l.length + 1 by omega)
  obtain ⟨k, hk⟩ : ∃ k, a % (l.length + 1) = k := ⟨_, rfl⟩
  rw [hk] at hlt
  have hw3 : (a : Int).tmod ((l.length + 1 : Nat) : Int) = (k : Int) := by
    rw [Int.tmod_eq_emod_of_nonneg (by omega), ← hk]; rfl
  have hw4 : IntKind.i64.wrap (k : Int) = (k : Int) := wrap_i64 (by omega) (by omega)
  have hw5 : IntKind.u64.wrap (k : Int) = (k : Int) := by rw [wrap_u64, Nat.mod_eq_of_lt (by omega)]
  have hn0 : (((l.length + 1 : Nat) : Int) = 0) = False := by simp; omega
  have h3 := replay_spec uu no hno p hp (l.take k) (fun e he => hfo e (List.mem_of_mem_take he)) (by rw [List.length_take]; omega)
  have htk := tw k
  have hpl := replay_len (uu := uu) (no := no) hp (log := l.take k) (fun e he => hfo e (List.mem_of_mem_take he))
  obtain ⟨P, hP⟩ : ∃ P, replayP uu no p (l.take k) = P := ⟨_, rfl⟩
  rw [hP] at h3 htk hpl
  rw [hO] at htk
  have h4 := replay_spec uu no hno P hpl l hfo (by omega)
  rw [htk] at h4
  have hce := cellsEq_bytes (l := O) (k := O) rfl
  have hkb := kinds_bytes ho
  simp only [beq_self_eq_true] at hce
  simp -dsimp -implicitDefEqProofs only [↓j0, ↓j1, ↓j7, ↓j12, ↓j15, j17, j18, j20, ↓j25, ↓j29, ↓j30, j32, ↓j38, ↓j39, ↓j42, ↓j53, ↓j145, ↓j146, AV.layable, argEnv, j170, j171, j172, reduceCtorEq, ↓reduceIte, Nat.reduceAdd, Nat.reduceEqDiff, j196]
  refine CallTo.pure (args := [ensAV log]) rfl fok13 (by simp -dsimp -implicitDefEqProofs only [↓j25, ↓j29, j173, j174, ↓reduceIte]) (fun x hx => (args_ens x hx).2) hfs ?_
  simp -dsimp -implicitDefEqProofs only [↓j0, ↓j1, ↓j7, ↓j12, ↓j15, j17, j18, j20, ↓j25, ↓j27, ↓j29, ↓j38, ↓j39, ↓j43, ↓j53, ↓j76, j129, ↓j145, ↓j146, ↓j153, AV.proj, AV.offOf, AV.size, AV.sizeL, j171, reduceCtorEq, ↓reduceIte, Nat.reduceAdd, Nat.reduceEqDiff, j182, j197, j240, j263, j264, j273, j274, hp]
  refine CallTo.pure (args := [idAV uu no, arrAV p, ensAV l]) rfl fok11 (by simp -dsimp -implicitDefEqProofs only [↓j25, ↓j29, j173, j174, ↓reduceIte, Nat.reduceEqDiff]) (fun x hx => (args_ipl x hx).2) h1 ?_
  simp -dsimp -implicitDefEqProofs only [↓j0, ↓j1, ↓j4, ↓j7, ↓j8, ↓j12, ↓j15, j17, j18, j19, j20, j21, j22, j23, j24, ↓j25, ↓j27, ↓j29, ↓j30, j33, ↓j38, ↓j39, ↓j41, ↓j43, ↓j44, ↓j48, ↓j49, ↓j50, ↓j58, ↓j62, ↓j76, ↓j78, ↓j89, ↓j98, j109, j129, j142, ↓j145, ↓j146, ↓j153, j154, AV.proj, AV.offOf, AV.upd, AV.size, AV.sizeL, AV.layable, j170, j171, j172, j174, reduceCtorEq, ↓reduceIte, Nat.reduceAdd, Nat.reduceEqDiff, j182, j184, j185, j197, j208, j222, ↓j225, bndAV, j232, j240, j243, j251, j263, j264, j273, j274, j356, j360, j419, j459, j473, j474, hp, ho, ha, hw1, hw2, hn0, hw3, hw4]
  have hcut : Frz (fun n => Heap.get ([] : Heap) n ≠ none) [] (.vsl (l.map En.av) k) (ensAV (l.take k)) := by
    have h := Frz.vcut (K := fun n => Heap.get ([] : Heap) n ≠ none) (H := []) (l.map En.av) k k (Nat.le_refl _) (by simp; omega) (on_ens _ l)
    rw [← List.map_take] at h
    have e : (l.take k).length = k := by rw [List.length_take]; omega
    show Frz _ [] _ (.vsl ((l.take k).map En.av) (l.take k).length)
    rw [e]; exact h
  have t1 : ((k : Nat) : Int).toNat - Int.toNat 0 = k := by simp
  have t2 : List.drop (Int.toNat 0) (l.map En.av) = l.map En.av := rfl
  refine ⟨⟨unif_en l hfo, by omega⟩, ?_⟩
  simp -dsimp -implicitDefEqProofs only [↓j4, j17, j18, j20, j24, ↓j53, j170, j171, j172, j174, Int.reduceToNat, j207, j227, j233]
  refine CallTo.lend (args := [idAV uu no, arrAV p, ensAV (l.take k)]) (args' := [idAV uu no, arrAV p, .vsl (l.map En.av) k]) [] [] rfl fok11 (by simp -dsimp -implicitDefEqProofs only [↓j25, ↓j29, j173, j174, ↓reduceIte, Nat.reduceEqDiff]) (fun x hx vs h => by
    simp only [List.mem_cons, List.not_mem_nil, or_false] at hx
    rcases hx with rfl | rfl | rfl <;> cases h) h3 (fun n b h => by simp [Heap.get] at h) ⟨.same _ ⟨trivial, trivial, trivial⟩, .same _ (on_bytes _ _), hcut, trivial⟩ (fun n b h => by simp [Heap.get] at h) ?_
  simp -dsimp -implicitDefEqProofs only [↓j3, ↓j4, j17, j18, j19, j20, j21, j22, j23, j24, ↓j25, ↓j27, ↓j29, ↓j41, ↓j44, ↓j78, ↓j145, ↓j146, ↓j153, AV.proj, AV.offOf, AV.upd, AV.size, AV.layable, j170, j171, j172, j173, j174, reduceCtorEq, ↓reduceIte, Nat.reduceAdd, Nat.reduceEqDiff, j182, j240, j243, j273, j419, hpl]
  refine ⟨by kernel_rfl, ?_⟩
  simp -dsimp -implicitDefEqProofs only [↓j4, ↓j8, ↓j12, ↓j15, j17, j18, j20, j24, ↓j25, ↓j27, ↓j29, ↓j38, ↓j43, ↓j53, ↓j76, j129, ↓j145, ↓j146, ↓j153, AV.proj, AV.offOf, AV.size, AV.sizeL, j170, j171, j172, j174, reduceCtorEq, ↓reduceIte, Nat.reduceAdd, Nat.reduceEqDiff, j182, j197, j240, j263, j264, j273, j274, ho]
  refine CallTo.pure (args := [idAV uu no, arrAV O, ensAV l]) rfl fok11 (by simp -dsimp -implicitDefEqProofs only [↓j25, ↓j29, j173, j174, ↓reduceIte, Nat.reduceEqDiff]) (fun x hx => (args_ipl x hx).2) h2 ?_
  simp -dsimp -implicitDefEqProofs only [↓j4, j17, j18, j20, j24, ↓j25, ↓j27, ↓j29, ↓j43, ↓j48, ↓j76, ↓j91, j129, ↓j145, ↓j146, ↓j153, AV.proj, AV.offOf, j170, j171, j172, j174, ↓reduceIte, Nat.reduceEqDiff, j182, j184, j211, j240, j241, j273, j274, j276, j277, ho, hce]
  refine ⟨hkb, ?_⟩
  simp -dsimp -implicitDefEqProofs only [↓j4, ↓j5, j17, j18, j20, j24, ↓j25, ↓j27, ↓j29, ↓j38, ↓j43, ↓j53, ↓j76, j129, ↓j145, ↓j146, ↓j147, ↓j150, ↓j153, AV.proj, AV.offOf, AV.size, AV.sizeL, j163, j164, j170, j171, j172, j174, j175, reduceCtorEq, ↓reduceIte, Nat.reduceAdd, Nat.reduceEqDiff, j182, j195, j197, j240, j263, j264, j273, j274, hpl]
  refine CallTo.pure (args := [idAV uu no, arrAV P, ensAV l]) rfl fok11 (by simp -dsimp -implicitDefEqProofs only [↓j25, ↓j29, j173, j174, ↓reduceIte, Nat.reduceEqDiff]) (fun x hx => (args_ipl x hx).2) h4 ?_
  simp -dsimp -implicitDefEqProofs only [↓j5, j17, j18, j20, j24, ↓j25, ↓j27, ↓j29, ↓j43, ↓j48, ↓j76, ↓j91, j129, ↓j145, ↓j146, ↓j147, ↓j150, ↓j153, AV.proj, AV.offOf, j163, j164, j170, j171, j172, j174, j175, ↓reduceIte, Nat.reduceEqDiff, j182, j184, j211, j240, j241, j273, j274, j276, j277, ho, hce]
  refine ⟨hkb, ?_⟩
  simp -dsimp -implicitDefEqProofs only [↓j4, ↓j5, j17, j18, j20, j24, ↓j25, ↓j29, ↓j30, j32, ↓j38, ↓j40, ↓j53, j83, ↓j145, ↓j147, ↓j150, j163, j164, j170, j171, j172, j174, j175, ↓reduceIte, Nat.reduceEqDiff, j195]
  refine CallTo.pure (args := []) rfl fok10 (by simp -dsimp -implicitDefEqProofs only [j174]) (fun x hx => by cases hx) awake_spec ?_
  simp -dsimp -implicitDefEqProofs only [↓j3, ↓j4, j17, j18, j20, j24, ↓j25, ↓j29, ↓j30, j32, ↓j39, ↓j40, j83, ↓j145, j170, j171, j172, j174, ↓reduceIte, Nat.reduceEqDiff]
  refine ⟨by kernel_rfl, ?_⟩
  simp -dsimp -implicitDefEqProofs only [↓j10]
  exact Final.one (.inr rfl) (r := .tmp 8) rfl ⟨rfl, fun vs h => by cases h⟩ (fun vs h => by cases h) (fun vs h => by cases h) (.same _ trivial)
end Go.Proofs.Ytimdepgenefkmaa
