/- Loops' states, and small facts. -/
import Derived.Test.YtbhhbadeabhfcaaF25
import Derived.Laws.Strings
set_option linter.unusedVariables false
set_option linter.unusedSimpArgs false
namespace Go.Proofs.Ytbhhbadeabhfcaa
open Go Go.RowKit

/-- What a state tells is told by another one. -/
def SubT : Env → Env → Prop
  | [], _ => True
  | (d, v) :: r, t => look t d = some v ∧ SubT r t
def SubH : Heap → Heap → Prop
  | [], _ => True
  | (d, v) :: r, t => Heap.get t d = some v ∧ SubH r t
theorem SubT.spec : ∀ {t0 t : Env}, SubT t0 t → ∀ d v, look t0 d = some v → look t d = some v
  | [], t, _, d, v, h => by simp [look] at h
  | (m, u) :: r, t, hs, d, v, h => by
    simp only [look] at h
    by_cases hd : d = m
    · subst hd; simp only [if_true, Option.some.injEq] at h; subst h; exact hs.1
    · rw [if_neg hd] at h; exact SubT.spec hs.2 d v h
theorem SubH.spec : ∀ {t0 t : Heap}, SubH t0 t → ∀ d v, Heap.get t0 d = some v → Heap.get t d = some v
  | [], t, _, d, v, h => by simp [Heap.get] at h
  | (m, u) :: r, t, hs, d, v, h => by
    simp only [Heap.get] at h
    by_cases hd : d = m
    · subst hd; simp only [if_true, Option.some.injEq] at h; subst h; exact hs.1
    · rw [if_neg hd] at h; exact SubH.spec hs.2 d v h
theorem SubT_nil {t : Env} : SubT [] t = True := rfl
theorem SubT_cons {d : Nat} {v : AV} {r t : Env} : SubT ((d, v) :: r) t = (look t d = some v ∧ SubT r t) := rfl
theorem SubH_nil {t : Heap} : SubH [] t = True := rfl
theorem SubH_cons {d : Nat} {v : ABlk} {r t : Heap} : SubH ((d, v) :: r) t = (Heap.get t d = some v ∧ SubH r t) := rfl
theorem Wk.sub {n : Nat} {t t0 : Env} {H H0 : Heap} {m m0 : Nat} (h : SubT t0 t ∧ SubH H0 H ∧ m ≤ m0) : Wk ⟨n, t, H, m⟩ ⟨n, t0, H0, m0⟩ :=
  Wk.mk h.1.spec h.2.1.spec h.2.2 rfl

theorem Unif.sizeL_take {wd : Nat} {es : List AV} (h : Unif wd es) {k : Nat} (hk : k ≤ es.length) : AV.sizeL (es.take k) = k * wd := by
  rw [(h.take k).sizeL, List.length_take, Nat.min_eq_left hk]

theorem list_get {α : Type} {xs : List α} {i : Nat} (h : i < xs.length) : ∃ x, xs[i]? = some x := ⟨_, List.getElem?_eq_getElem h⟩
theorem take_succ {α : Type} {xs : List α} {i : Nat} {x : α} (h : xs[i]? = some x) : xs.take (i + 1) = xs.take i ++ [x] := by
  rw [List.take_add_one, h]; rfl
theorem DoBin_agg' {P : Program} {op : BinOp} {T : TypeId} {a b : List AV} {K : AV → Prop} : DoBin P op T (some (.agg a)) (some (.agg b)) K = Got (isEq op) fun ng => Got (flatKinds P 40 T) fun ks => Got (cellsEq (AV.flatL a) (AV.flatL b)) fun r =>
    Need (P.eqGuardType P.depth T = false ∧ isAggT P T = some true ∧ (AV.flatL a).map kindOf = ks.map some) (K (.bool (if ng then !r else r))) := DoBin_agg
theorem isEq_eql : isEq .eql = some false := rfl
theorem isEq_neq : isEq .neq = some true := rfl
theorem cellsEq_nil : cellsEq [] [] = some true := rfl
theorem cellsEq_cons {x y : AV} {xs ys : List AV} {a b : Bool} (h1 : scEq x y = some a) (h2 : cellsEq xs ys = some b) : cellsEq (x :: xs) (y :: ys) = some (a && b) := by
  simp [cellsEq, h1, h2]
theorem all2_nil {α β : Type} {R : α → β → Prop} : All2 R [] [] = True := rfl
theorem strEq_iff {s t : ByteArray} : strEq s t = true ↔ s = t := by
  simp only [strEq, beq_iff_eq]
  constructor
  · intro h
    rw [Go.ByteArray.toList_eq, Go.ByteArray.toList_eq] at h
    cases s; cases t
    simp only [ByteArray.mk.injEq]
    exact Array.ext' h
  · rintro rfl; rfl
@[congr] theorem DoBin_congr {P : Program} {op : BinOp} {T : TypeId} {x x' y y' : Option AV} {K : AV → Prop} (h : x = x') (h' : y = y') : DoBin P op T x y K = DoBin P op T x' y' K := by rw [h, h']
@[congr] theorem DoIndexAddr_congr {P : Program} {T : TypeId} {x x' y y' : Option AV} {K : AV → Prop} (h : x = x') (h' : y = y') : DoIndexAddr P T x y K = DoIndexAddr P T x' y' K := by rw [h, h']
@[congr] theorem DoIndex_congr {P : Program} {T : TypeId} {x x' y y' : Option AV} {K : AV → Prop} (h : x = x') (h' : y = y') : DoIndex P T x y K = DoIndex P T x' y' K := by rw [h, h']
@[congr] theorem DoSlice_congr {P : Program} {T : TypeId} {x x' : Option AV} {lo hi : Option Operand} {s s' : St} {K : Eff → Nat → Prop} (h : x = x') (h' : s = s') : DoSlice P T x lo hi s K = DoSlice P T x' lo hi s' K := by rw [h, h']
@[congr] theorem DoConvert_congr {P : Program} {S D : TypeId} {x x' : Option AV} {s s' : St} {K : Eff → Nat → Prop} (h : x = x') (h' : s = s') : DoConvert P S D x s K = DoConvert P S D x' s' K := by rw [h, h']
@[congr] theorem DoAppend_congr {P : Program} {Z : TypeId → Option AV} {S D : TypeId} {x x' y y' : Option AV} {s s' : St} {K : Eff → Nat → Prop} (h : x = x') (h1 : y = y') (h' : s = s') : DoAppend P Z S D x y s K = DoAppend P Z S D x' y' s' K := by rw [h, h1, h']
@[congr] theorem DoCopy_congr {P : Program} {S : TypeId} {x x' y y' : Option AV} {s s' : St} {K : Eff → Nat → Prop} (h : x = x') (h1 : y = y') (h' : s = s') : DoCopy P S x y s K = DoCopy P S x' y' s' K := by rw [h, h1, h']
@[congr] theorem DoBuild_congr {P : Program} {Z : TypeId → Option AV} {T : TypeId} {us us' : Option (List (Nat × AV))} {K : AV → Prop} (h : us = us') : DoBuild P Z T us K = DoBuild P Z T us' K := by rw [h]
@[congr] theorem FieldAt_congr' {P : Program} {S : TypeId} {j : Nat} {x x' : AV} {K : AV → Prop} (h : x = x') : FieldAt P S j x K = FieldAt P S j x' K := by rw [h]
@[congr] theorem BaseSl_congr {wd by_ nn off i len wd' : Nat} {r r' : AV} {xs xs' : List AV} {rd : List Nat} {m : Nat} {K : Eff → Nat → Prop} (h : r = r') (h1 : xs = xs') : BaseSl wd by_ nn off i len wd' r xs rd m K = BaseSl wd by_ nn off i len wd' r' xs' rd m K := by rw [h, h1]
theorem CallTo.newAt {P : Program} {o : Oper} {s : St} {K : Eff → Nat → Prop} {f : FuncId} {as : Array Operand} {ts : Array TypeId} {args : List AV} {v : AV} {b : ABlk} (k : Nat)
    (ho : o.op = .call { callee := .value (.func f), args := as, argTypes := ts }) (hok : fnOk P f = true) (hargs : as.toList.map s.ev = args.map some) (hta : ∀ x, x ∈ args → ∀ vs, x ≠ .tuple vs) (hk : s.nx ≤ k)
    (hc : ACall P f args [] v [(k, b)]) (hK : K ⟨v, [], [], [(k, b)]⟩ (k + 1)) : CallTo P o s K := by
  refine ⟨_, k + 1, ls_call (caps := []) ho rfl hok hargs hta (fun x hx => by simp at hx) (by simpa using hc) (fun n b h => by simp [Heap.get] at h), ⟨by omega, fun n x hn _ => ?_, fun n hn => by simp at hn⟩, by simpa using hK⟩
  simp only [Heap.get] at hn
  by_cases h : n = k
  · subst h; omega
  · simp [h] at hn
/-- An end of a walk that returns one value and hands one block on. -/
theorem Final.oneNew {P : Program} {fn : Func} {r : ResultVar} {u : AV} {e : Exit} {s : St} {k : Nat} {x : AV} (he : e = .normal ∨ e = .ret) (hr : fn.results = #[r]) (h : ResOk P s r u) (hu : ∀ vs, u ≠ .tuple vs) (hk : Heap.get s.H k = some (.cells x)) (hon : AV.on (fun n => n = k) u) (hox : AV.on (fun n => n = k) x) :
    Final P fn u [(k, .cells x)] e s := by
  have hK : ∀ n, n = k → Heap.get [(k, ABlk.cells x)] n ≠ none := fun n hn => by subst hn; simp [Heap.get]
  refine ⟨he, [u], ?_, ?_, fun n b hb => ?_⟩
  · rw [hr]; exact ⟨h, trivial⟩
  · show FrzV _ _ u u
    have hf : Frz (fun n => Heap.get [(k, ABlk.cells x)] n ≠ none) s.H u u := .same _ (on_mono hK hon)
    cases u <;> first | exact absurd rfl (hu _) | exact hf
  · simp only [Heap.get] at hb
    by_cases h1 : n = k
    · subst h1
      simp only [if_true, Option.some.injEq] at hb
      subst hb
      exact ⟨_, hk, .same _ (on_mono hK hox)⟩
    · simp [h1] at hb
def intT (P : Program) (T : TypeId) : Option IntKind := match P.underlying T with
  | some (.int k) => some k
  | _ => none
theorem DoConvert_int {P : Program} {S D : TypeId} {k : IntKind} {i : Int} {n : Nat} {t : Env} {H : Heap} {m : Nat} {K : Eff → Nat → Prop} : DoConvert P S D (some (.int k i)) ⟨n, t, H, m⟩ K = Got (intT P D) fun k' => Got (P.underlying S) fun _ => K ⟨.int k' (k'.wrap i), [], [], []⟩ m := by
  simp only [DoConvert, Got, intT]
  cases P.underlying S with
  | none => cases P.underlying D with
    | none => rfl
    | some D => cases D <;> rfl
  | some S => cases P.underlying D with
    | none => rfl
    | some D => cases D <;> rfl
end Go.Proofs.Ytbhhbadeabhfcaa
