/- The law RingPacks. -/
import Derived.Test.YtbhhbadeabhfcaaC15
import Derived.Test.YtbhhbadeabhfcaaC21
set_option linter.unusedVariables false
set_option linter.unusedSimpArgs false
namespace Go.Proofs.Ytbhhbadeabhfcaa
open Go Go.RowKit

theorem args_packs {c : Ch} {b : List UInt8} : ∀ x, x ∈ [c.av, arrAV b] → AV.on (fun _ => False) x ∧ ∀ vs, x ≠ .tuple vs := fun x hx => by
  simp only [List.mem_cons, List.not_mem_nil, or_false] at hx
  rcases hx with rfl | rfl
  · exact ⟨by simp [AV.on, AV.onL], fun vs h => by cases h⟩
  · exact ⟨on_bytes _ _, fun vs h => by cases h⟩
theorem fok13 : fnOk Try.prog 13 = true := by kernel_rfl
theorem ringPacks_spec (c : Ch) (b : List UInt8) (hc : c.Wf) (hb : b.length = 256) : ACall Try.prog 3 [c.av, arrAV b] [] (.bool true) [] := by
  refine ACall.run (Z := Z) (N := 62) mixed hZ Try.func3 rfl rfl (by kernel_rfl) (by simp) args_packs 0 ?_
  have nil0 : ∀ x : AV, x ∈ ([] : List AV) → ∀ vs, x ≠ .tuple vs := fun x hx => by simp at hx
  have hp1 := pack_spec c hc
  have hp2 := rpack_spec c hc
  have hp3 := unpack_spec b hb
  have hp4 := runpack_spec b hb
  have hla := packP_len c
  have hz := zb_len 256
  obtain ⟨l, hl⟩ : ∃ l, packP c = l := ⟨_, rfl⟩
  obtain ⟨k, hk⟩ : ∃ k, packOk c = k := ⟨_, rfl⟩
  obtain ⟨⟨⟨e, o, f, s⟩, ok⟩, hr⟩ : ∃ r, unpackP b = r := ⟨_, rfl⟩
  have hcc := cellsEq_ch ⟨e, o, f, s⟩
  rw [packAV, hl, hk] at hp1
  rw [rpackAV, hl, hk] at hp2
  rw [hr] at hp3 hp4
  rw [hl] at hla
  have hce := cellsEq_bytes (l := l) (k := l) rfl
  have hkb := kinds_bytes hla
  have hll : (l == l) = true := by simp
  rw [hll] at hce
  simp -dsimp -implicitDefEqProofs only [↓j0, ↓j1, ↓j7, ↓j12, ↓j15, j17, j18, j20, ↓j25, ↓j27, ↓j29, ↓j30, j32, ↓j39, ↓j42, ↓j43, ↓j53, ↓j63, j116, ↓j129, ↓j130, ↓j137, AV.proj, AV.offOf, AV.size, AV.sizeL, AV.layable, argEnv, j154, j155, j156, reduceCtorEq, ↓reduceIte, Nat.reduceAdd, Nat.reduceEqDiff, j166, j180, j181, j246, j247]
  refine CallTo.pure (args := [c.av]) rfl fok10 (by simp -dsimp -implicitDefEqProofs only [↓j25, ↓j29, j157, j158, ↓reduceIte]) (fun x hx => (args_ch x hx).2) hp1 ?_
  simp -dsimp -implicitDefEqProofs only [↓j0, ↓j1, ↓j7, ↓j12, ↓j15, j17, j18, j19, j20, j21, j22, j23, ↓j25, ↓j27, ↓j29, ↓j38, ↓j39, ↓j41, ↓j43, ↓j44, ↓j53, ↓j57, ↓j63, ↓j65, j72, j116, ↓j129, ↓j130, ↓j137, AV.proj, AV.offOf, AV.upd, AV.size, AV.sizeL, AV.layable, j147, j148, j154, j155, reduceCtorEq, ↓reduceIte, Nat.reduceAdd, Nat.reduceEqDiff, j166, j181, j224, j246, j247, j267, j347, hla, hz]
  refine CallTo.pure (args := [c.av]) rfl fok11 (by simp -dsimp -implicitDefEqProofs only [↓j25, ↓j29, j157, j158, ↓reduceIte]) (fun x hx => (args_ch x hx).2) hp2 ?_
  simp -dsimp -implicitDefEqProofs only [↓j0, ↓j1, ↓j7, ↓j12, ↓j15, j17, j18, j19, j20, j21, j22, j23, ↓j25, ↓j27, ↓j29, ↓j38, ↓j39, ↓j41, ↓j43, ↓j44, ↓j53, ↓j57, ↓j63, ↓j65, j72, j116, ↓j129, ↓j130, ↓j137, AV.proj, AV.offOf, AV.upd, AV.size, AV.layable, j147, j148, j154, j155, reduceCtorEq, ↓reduceIte, Nat.reduceAdd, Nat.reduceEqDiff, j166, j224, j267, j268, j347, hla, hz, hb]
  refine CallTo.pure (args := [arrAV b]) rfl fok12 (by simp -dsimp -implicitDefEqProofs only [↓j25, ↓j29, j157, j158, ↓reduceIte]) (fun x hx => (args_arr x hx).2) hp3 ?_
  simp -dsimp -implicitDefEqProofs only [↓j0, ↓j1, ↓j7, ↓j12, ↓j15, j17, j18, j19, j20, j21, j22, j23, ↓j25, ↓j27, ↓j29, ↓j38, ↓j39, ↓j41, ↓j43, ↓j44, ↓j53, ↓j57, ↓j63, ↓j65, j72, j116, ↓j129, ↓j130, ↓j137, AV.proj, AV.offOf, AV.upd, AV.size, AV.sizeL, AV.layable, j147, j148, j154, j155, reduceCtorEq, ↓reduceIte, Nat.reduceAdd, Nat.reduceEqDiff, j166, j181, j224, j246, j267, j268, j345, hb]
  refine CallTo.pure (args := [arrAV b]) rfl fok13 (by simp -dsimp -implicitDefEqProofs only [↓j25, ↓j29, j157, j158, ↓reduceIte]) (fun x hx => (args_arr x hx).2) hp4 ?_
  have b0 : (false == false) = true := rfl
  have b1 : (true == true) = true := rfl
  cases k <;> cases ok
  all_goals
    simp -dsimp -implicitDefEqProofs only [↓j0, ↓j1, ↓j2, ↓j7, ↓j12, ↓j15, j17, j18, j19, j20, j21, j22, j23, ↓j25, ↓j27, ↓j29, ↓j30, j32, j33, ↓j38, ↓j39, ↓j40, ↓j41, ↓j43, ↓j44, ↓j48, ↓j53, ↓j57, ↓j63, ↓j65, j68, j70, j72, ↓j76, ↓j77, ↓j78, j116, ↓j129, ↓j130, ↓j131, ↓j132, ↓j134, ↓j135, ↓j137, j141, AV.proj, AV.offOf, AV.upd, AV.size, AV.sizeL, AV.layable, AV.flat, AV.flatL, j147, j148, j154, j155, j156, j157, j158, j159, reduceCtorEq, ↓reduceIte, Nat.reduceAdd, Nat.reduceEqDiff, j166, j169, j179, j181, j195, kindOf, Int.reduceBEq, j224, j225, j246, j247, j260, j261, j267, j268, j270, j271, j345, j387, hla, hce, hkb, hcc, b0, b1]
    refine CallTo.pure (args := []) rfl fok14 rfl nil0 awake_spec ?_
    simp -dsimp -implicitDefEqProofs only [↓j0, ↓j1, ↓j10, j17, j18, j20, ↓j25, ↓j29, ↓j30, j32, ↓j39, ↓j40, j70, ↓j129, j155, ↓reduceIte, Nat.reduceEqDiff]
    exact Final.one (.inr rfl) (r := .tmp 4) rfl ⟨rfl, fun vs h => by cases h⟩ (fun vs h => by cases h) (fun vs h => by cases h) (.same _ trivial)
end Go.Proofs.Ytbhhbadeabhfcaa
