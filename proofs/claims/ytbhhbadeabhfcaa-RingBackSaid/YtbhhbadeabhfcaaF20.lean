/- Equality of values that are made of numbers, bools and texts. -/
import Derived.Test.YtbhhbadeabhfcaaF19
import Derived.Laws.StructEq
import Derived.ChangeKeysEq
set_option linter.unusedVariables false
set_option linter.unusedSimpArgs false
namespace Go.Proofs.Ytbhhbadeabhfcaa
open Go Go.RowKit

/-- Are two cells alike? -/
def scEq : AV → AV → Option Bool
  | .int k a, .int k' b => if k = k' then some (a == b) else none
  | .bool a, .bool b => some (a == b)
  | .str a, .str b => some (strEq a b)
  | _, _ => none
def cellsEq : List AV → List AV → Option Bool
  | [], [] => some true
  | x :: xs, y :: ys => match scEq x y, cellsEq xs ys with
    | some a, some b => some (a && b)
    | _, _ => none
  | _, _ => none

theorem cellsEq_length : ∀ {xs ys : List AV} {b : Bool}, cellsEq xs ys = some b → xs.length = ys.length
  | [], [], _, _ => rfl
  | x :: xs, y :: ys, b, h => by
    simp only [cellsEq] at h
    cases h1 : scEq x y with
    | none => simp [h1] at h
    | some a =>
      cases h2 : cellsEq xs ys with
      | none => simp [h1, h2] at h
      | some c => simp [cellsEq_length h2]
  | [], _ :: _, _, h => by simp [cellsEq] at h
  | _ :: _, [], _, h => by simp [cellsEq] at h

theorem cellsEq_split : ∀ {xs ys : List AV} {b : Bool} (n : Nat), cellsEq xs ys = some b → ∃ b1 b2, cellsEq (xs.take n) (ys.take n) = some b1 ∧ cellsEq (xs.drop n) (ys.drop n) = some b2 ∧ b = (b1 && b2)
  | xs, ys, b, 0, h => ⟨true, b, by simp [cellsEq], by simpa using h, by simp⟩
  | [], [], b, n + 1, h => by simp only [cellsEq, Option.some.injEq] at h; subst h; exact ⟨true, true, rfl, rfl, rfl⟩
  | x :: xs, y :: ys, b, n + 1, h => by
    simp only [cellsEq] at h
    cases h1 : scEq x y with
    | none => simp [h1] at h
    | some a =>
      cases h2 : cellsEq xs ys with
      | none => simp [h1, h2] at h
      | some c =>
        simp only [h1, h2, Option.some.injEq] at h
        obtain ⟨b1, b2, g1, g2, g3⟩ := cellsEq_split n h2
        exact ⟨a && b1, b2, by simp [cellsEq, h1, g1], by simpa using g2, by rw [← h, g3, Bool.and_assoc]⟩
  | [], _ :: _, _, _, h => by simp [cellsEq] at h
  | _ :: _, [], _, _, h => by simp [cellsEq] at h

/-- What a cell is. -/
inductive K3 where
  | b | i | s
def kindOf : AV → Option K3
  | .bool _ => some .b
  | .int _ _ => some .i
  | .str _ => some .s
  | _ => none

def fieldKindsF (fk : TypeId → Option (List K3)) : List Field → Nat → Option (List K3)
  | [], _ => some []
  | f :: fs, off => if f.name = "_" ∨ f.offset ≠ off then none else match fk f.type with
    | some ks => if ks.length = 0 then none else (fieldKindsF fk fs (off + ks.length)).map (ks ++ ·)
    | none => none
/-- The cells of a type of which the values are compared cell by cell. -/
def flatKinds (P : Program) : Nat → TypeId → Option (List K3)
  | 0, _ => none
  | d + 1, T => match P.underlying T with
    | some .bool => if szOf P T = some 1 then some [.b] else none
    | some .string => if szOf P T = some 1 then some [.s] else none
    | some (.int _) => if szOf P T = some 1 then some [.i] else none
    | some (.struct fs) => if P.stoodInHeld T then none else match fieldKindsF (flatKinds P d) fs.toList 0 with
      | some ks => if szOf P T = some ks.length then some ks else none
      | none => none
    | some (.array n E) => match flatKinds P d E with
      | some ks => if ks.length ≠ 0 ∧ szOf P E = some ks.length ∧ szOf P T = some (n * ks.length) then some (List.replicate n ks).flatten else none
      | none => none
    | _ => none
abbrev fieldKinds (P : Program) (d : Nat) : List Field → Nat → Option (List K3) := fieldKindsF (flatKinds P d)

def cellVal (d : TypeDesc) (l : List Value) : Value := if isAggD d then .agg l.toArray else l.getD 0 Go.undef

theorem run_part_val {P : Program} {T : TypeId} {d : TypeDesc} {n off : Nat} {cs : Array Value} (hd : P.underlying T = some d) (hs : szOf P T = some n) (h1 : isAggD d = false → n = 1) (hl : off + n ≤ cs.size) (w : World) :
    (part T cs off).run P w = .ok (cellVal d ((cs.toList.drop off).take n)) w := by
  unfold part
  rw [Sem.run_bind, run_isAgg' hd]
  cases ha : isAggD d with
  | true =>
    simp only [Result.andThen_ok, if_true, Sem.run_bind, run_sizeOf' hs, Sem.run_pure, cellVal, ha]
    congr 2
    apply Array.ext'
    simp [List.extract]
  | false =>
    have := h1 ha
    subst this
    have hlt : off < cs.size := by omega
    simp only [Result.andThen_ok, if_false, Bool.false_eq_true, Array.getElem?_eq_getElem hlt, Sem.run_pure, cellVal, ha]
    congr 1
    rw [List.getD_eq_getElem?_getD, List.getElem?_take, if_pos (by omega), List.getElem?_drop]
    simp [hlt]

theorem CsRel.takeDrop {w : World} {I : Nat → Prop} {ρ : Rho} {xs : List AV} {cs : List Value} (h : CsRel w I ρ xs cs) (n : Nat) : CsRel w I ρ (xs.take n) (cs.take n) ∧ CsRel w I ρ (xs.drop n) (cs.drop n) := by
  obtain ⟨h1, h2⟩ := h
  refine ⟨⟨by simp [h1], fun k hk => ?_⟩, ⟨by simp [h1], fun k hk => ?_⟩⟩
  · simp only [List.length_take] at hk
    have hkn : k < n := by omega
    have := h2 k (by omega)
    simpa [List.getD_eq_getElem?_getD, List.getElem?_take, hkn] using this
  · simp only [List.length_drop] at hk
    have := h2 (n + k) (by omega)
    rw [getD_drop, getD_drop]; exact this

section
variable {P : Program}

def EqOk (P : Program) (d : Nat) (T : TypeId) (ks : List K3) : Prop :=
  ∃ td, P.underlying T = some td ∧ szOf P T = some ks.length ∧ (isAggD td = false → ks.length = 1) ∧
  ∀ (w : World) (I : Nat → Prop) (ρ : Rho) (xs ys : List AV) (cs ds : List Value) (b : Bool), xs.map kindOf = ks.map some → CsRel w I ρ xs cs → CsRel w I ρ ys ds → cellsEq xs ys = some b →
    (Op.equalIn d T (cellVal td cs) (cellVal td ds)).run P w = .ok b w

theorem eq_scalar {d : Nat} {T : TypeId} {td : TypeDesc} {k : K3} (hd : P.underlying T = some td) (hs : szOf P T = some 1) (hk : match k with | .b => td = .bool | .s => td = .string | .i => ∃ q, td = .int q) : EqOk P (d + 1) T [k] := by
  have ha : isAggD td = false := by cases k <;> (first | (subst hk; rfl) | (obtain ⟨q, rfl⟩ := hk; rfl))
  refine ⟨td, hd, by simpa using hs, fun _ => rfl, fun w I ρ xs ys cs ds b hx hc hdd he => ?_⟩
  have hly := cellsEq_length he
  have hx1 : xs.length = 1 := by have := congrArg List.length hx; simpa using this
  have hv : ∀ l : List Value, cellVal td l = l.getD 0 Go.undef := fun l => by simp [cellVal, ha]
  rw [hv, hv]
  match xs, ys, hx1, hly, he, hc, hdd, hx with
  | [x], [y], _, _, he, hc, hdd, hx =>
    have q1 := hc.2 0 (by simp)
    have q2 := hdd.2 0 (by simp)
    simp only [List.getD_cons_zero] at q1 q2
    generalize cs.getD 0 Go.undef = c at q1
    generalize ds.getD 0 Go.undef = e at q2
    simp only [List.map_cons, List.map_nil, List.cons.injEq, and_true] at hx
    simp only [cellsEq] at he
    cases hsc : scEq x y with
    | none => simp [hsc] at he
    | some r =>
      simp only [hsc, Bool.and_true, Option.some.injEq] at he
      subst he
      cases x <;> simp only [kindOf, Option.some.injEq, reduceCtorEq] at hx
      · subst hx
        subst hk
        cases y <;> simp only [scEq, reduceCtorEq, Option.some.injEq] at hsc
        cases q1; cases q2; subst hsc
        exact run_equalIn_bool' w _ T _ _ hd
      · subst hx
        obtain ⟨q, rfl⟩ := hk
        cases y <;> simp only [scEq, reduceCtorEq] at hsc
        split at hsc
        · rename_i hkk
          cases hsc
          cases q1; cases q2
          subst hkk
          exact run_equalIn_int w _ T _ _ _ _ hd
        · cases hsc
      · subst hx
        subst hk
        cases y <;> simp only [scEq, reduceCtorEq, Option.some.injEq] at hsc
        cases q1; cases q2; subst hsc
        exact run_equalIn_string w _ T _ _ hd

theorem map_split {xs : List AV} {a b : List K3} (h : xs.map kindOf = (a ++ b).map some) : (xs.take a.length).map kindOf = a.map some ∧ (xs.drop a.length).map kindOf = b.map some := by
  rw [List.map_append] at h
  constructor
  · rw [List.map_take, h]; simp
  · rw [List.map_drop, h]; simp

theorem fieldKinds_sound {d m : Nat} (IH : ∀ (T : TypeId) (ks : List K3), flatKinds P d T = some ks → EqOk P (d + m) T ks) : ∀ (fs : List Field) (off : Nat) (ks : List K3), fieldKinds P d fs off = some ks → ∀ (w : World) (I : Nat → Prop) (ρ : Rho) (xs ys : List AV) (cs ds : List Value) (b : Bool), xs.map kindOf = ks.map some → CsRel w I ρ xs (cs.drop off) → CsRel w I ρ ys (ds.drop off) → cellsEq xs ys = some b →
    (Op.eqFields (d + m) cs.toArray ds.toArray fs).run P w = .ok b w := by
  intro fs
  induction fs with
  | nil =>
    intro off ks h w I ρ xs ys cs ds b hx hc hdd he
    simp only [fieldKinds, fieldKindsF, Option.some.injEq] at h
    subst h
    have : xs = [] := by simpa using hx
    subst this
    have := cellsEq_length he
    have : ys = [] := by simpa using this.symm
    subst this
    simp only [cellsEq, Option.some.injEq] at he
    subst he
    simp [Op.eqFields]
  | cons f fs ih =>
    intro off ks h w I ρ xs ys cs ds b hx hc hdd he
    simp only [fieldKinds, fieldKindsF] at h
    split at h
    · cases h
    · rename_i hn
      split at h
      · rename_i k1 hk1
        split at h
        · cases h
        · rename_i hne
          cases hk2 : fieldKinds P d fs (off + k1.length) with
          | none => simp [hk2] at h
          | some k2 =>
            simp only [hk2, Option.map_some, Option.some.injEq] at h
            subst h
            obtain ⟨td, g1, g2, g3, g4⟩ := IH f.type k1 hk1
            obtain ⟨hx1, hx2⟩ := map_split hx
            obtain ⟨b1, b2, q1, q2, q3⟩ := cellsEq_split k1.length he
            have hlx : k1.length ≤ xs.length := by have := congrArg List.length hx; simp at this; omega
            have hly := cellsEq_length he
            have r1 := g4 w I ρ _ _ _ _ b1 hx1 (hc.takeDrop k1.length).1 (hdd.takeDrop k1.length).1 q1
            have hcl := hc.1
            have hdl := hdd.1
            simp only [List.length_drop] at hcl hdl
            have hoff : f.offset = off := by
              by_cases h : f.offset = off
              · exact h
              · exact absurd (.inr h) hn
            have hnm : f.name ≠ "_" := fun h => hn (.inl h)
            have p1 := run_part_val (P := P) (cs := cs.toArray) (off := off) g1 g2 g3 (by simp; omega) w
            have p2 := run_part_val (P := P) (cs := ds.toArray) (off := off) g1 g2 g3 (by simp; omega) w
            have r2 := ih (off + k1.length) k2 hk2 w I ρ _ _ cs ds b2 hx2 (by rw [← List.drop_drop]; exact (hc.takeDrop _).2) (by rw [← List.drop_drop]; exact (hdd.takeDrop _).2) q2
            simp only [Op.eqFields, hnm, ne_eq, not_false_eq_true, if_true, Sem.run_bind, hoff, p1, p2, Result.andThen_ok, r1, Sem.run_ite]
            subst q3
            cases b1 with
            | false => simp
            | true => simpa using r2
      · cases h

theorem itemKinds_sound {d : Nat} {E : TypeId} {ks : List K3} (hE : EqOk P d E ks) (hne : ks.length ≠ 0) (cs ds : List Value) (w : World) (I : Nat → Prop) (ρ : Rho) : ∀ (n j : Nat) (xs ys : List AV) (cs' ds' : List Value) (b : Bool), xs.map kindOf = (List.replicate n ks).flatten.map some → cs.drop (j * ks.length) = cs' → ds.drop (j * ks.length) = ds' →
    CsRel w I ρ xs cs' → CsRel w I ρ ys ds' → cellsEq xs ys = some b → (Op.eqItems d E ks.length cs.toArray ds.toArray (List.range' j n)).run P w = .ok b w := by
  obtain ⟨tdE, g1, g2, g3, g4⟩ := hE
  intro n
  induction n with
  | zero =>
    intro j xs ys cs' ds' b hx _ _ hc hdd he
    have : xs = [] := by simpa using hx
    subst this
    have := cellsEq_length he
    have : ys = [] := by simpa using this.symm
    subst this
    simp only [cellsEq, Option.some.injEq] at he
    subst he
    simp [Op.eqItems]
  | succ n ih =>
    intro j xs ys cs' ds' b hx h1 h2 hc hdd he
    rw [List.replicate_succ, List.flatten_cons] at hx
    obtain ⟨hx1, hx2⟩ := map_split hx
    obtain ⟨b1, b2, q1, q2, q3⟩ := cellsEq_split ks.length he
    have hlx : ks.length ≤ xs.length := by have := congrArg List.length hx; simp at this; omega
    have hly := cellsEq_length he
    have r1 := g4 w I ρ _ _ _ _ b1 hx1 (hc.takeDrop ks.length).1 (hdd.takeDrop ks.length).1 q1
    have hcl : cs'.length = xs.length := hc.1
    have hdl : ds'.length = ys.length := hdd.1
    have l1 : j * ks.length + ks.length ≤ cs.length := by rw [← h1] at hcl; simp at hcl; omega
    have l2 : j * ks.length + ks.length ≤ ds.length := by rw [← h2] at hdl; simp at hdl; omega
    have p1 := run_part_val (P := P) (cs := cs.toArray) (off := j * ks.length) g1 g2 g3 (by simpa using l1) w
    have p2 := run_part_val (P := P) (cs := ds.toArray) (off := j * ks.length) g1 g2 g3 (by simpa using l2) w
    simp only [h1] at p1
    simp only [h2] at p2
    have r2 := ih (j + 1) (xs.drop ks.length) (ys.drop ks.length) (cs'.drop ks.length) (ds'.drop ks.length) b2 hx2 (by rw [← h1, List.drop_drop]; congr 1; rw [Nat.add_mul]; omega) (by rw [← h2, List.drop_drop]; congr 1; rw [Nat.add_mul]; omega)
      (hc.takeDrop _).2 (hdd.takeDrop _).2 q2
    rw [List.range'_succ]
    simp only [Op.eqItems, Sem.run_bind, p1, p2, Result.andThen_ok, r1, Sem.run_ite]
    subst q3
    cases b1 with
    | false => simp
    | true => simpa using r2

theorem flatKinds_sound (d m : Nat) : ∀ (T : TypeId) (ks : List K3), flatKinds P d T = some ks → EqOk P (d + m) T ks := by
  induction d with
  | zero => intro T ks h; simp [flatKinds] at h
  | succ d ih =>
    intro T ks h
    have e0 : d + 1 + m = (d + m) + 1 := by omega
    rw [e0]
    simp only [flatKinds] at h
    split at h
    · rename_i hd; split at h
      · rename_i hs; injection h with h; subst h; exact eq_scalar hd hs rfl
      · cases h
    · rename_i hd; split at h
      · rename_i hs; injection h with h; subst h; exact eq_scalar hd hs rfl
      · cases h
    · rename_i q hd; split at h
      · rename_i hs; injection h with h; subst h; exact eq_scalar hd hs ⟨q, rfl⟩
      · cases h
    · rename_i fs hd
      split at h
      · cases h
      · rename_i hst
        split at h
        · rename_i ks' hf
          split at h
          · rename_i hs
            injection h with h
            subst h
            refine ⟨_, hd, hs, fun ha => by simp [isAggD] at ha, fun w I ρ xs ys cs ds b hx hc hdd he => ?_⟩
            have hfs : P.fieldsOf T = fs := by simp [Program.fieldsOf, hd]
            have hcv : ∀ l, cellVal (.struct fs) l = .agg l.toArray := fun l => rfl
            rw [hcv, hcv, run_equalIn_struct w (d + m) T cs.toArray ds.toArray (by rw [hfs]; exact hd) (by simpa using hst), hfs]
            exact fieldKinds_sound ih fs.toList 0 ks' hf w I ρ xs ys cs ds b hx (by simpa using hc) (by simpa using hdd) he
          · cases h
        · cases h
    · rename_i n E hd
      split at h
      · rename_i ks' hf
        split at h
        · rename_i hs
          injection h with h
          subst h
          have hE := ih E ks' hf
          have hlen : (List.replicate n ks').flatten.length = n * ks'.length := by simp
          refine ⟨_, hd, by rw [hlen]; exact hs.2.2, fun ha => by simp [isAggD] at ha, fun w I ρ xs ys cs ds b hx hc hdd he => ?_⟩
          have hcv : ∀ l, cellVal (.array n E) l = .agg l.toArray := fun l => rfl
          have g2 := hs.2.1
          obtain ⟨i, hi⟩ : ∃ i, P.info? E = some i := by
            unfold szOf at g2
            cases hi : P.info? E with
            | none => simp [hi] at g2
            | some i => exact ⟨i, rfl⟩
          have hce : P.cellsOf E = ks'.length := by
            unfold szOf at g2; simp [Program.cellsOf, g2]
          rw [hcv, hcv, run_equalIn_array w (d + m) cs.toArray ds.toArray hd hi, hce, List.range_eq_range']
          exact itemKinds_sound hE hs.1 cs ds w I ρ n 0 xs ys cs ds b hx (by simp) (by simp) hc hdd he
        · cases h
      · cases h
    · cases h

end

section
variable {P : Program} {o : Oper} {ev : Operand → Option AV} {H : Nat → Option ABlk} {v : AV} {rd : List Nat}

theorem ls_eq_agg {neq : Bool} {T T' : TypeId} {x y : Operand} {vs us : List AV} {ks : List K3} {b : Bool} (ho : o.op = .binOp (if neq then .neq else .eql) T x y T') (hx : ev x = some (.agg vs)) (hy : ev y = some (.agg us))
    (hk : flatKinds P 40 T = some ks) (hg : P.eqGuardType P.depth T = false) (ha : (P.underlying T).map isAggD = some true) (hv : (AV.flatL vs).map kindOf = ks.map some) (he : cellsEq (AV.flatL vs) (AV.flatL us) = some b) : LS P o ev H ⟨.bool (if neq then !b else b), [], [], []⟩ := by
  refine LS.value fun a w I ρ hev hrd => ?_
  obtain ⟨cs, h1, h2⟩ := inv_agg (hev x (by rw [ho]; simp [Op.operands]) _ hx)
  obtain ⟨ds, h3, h4⟩ := inv_agg (hev y (by rw [ho]; simp [Op.operands]) _ hy)
  obtain ⟨td, g1, g2, g3, g4⟩ := flatKinds_sound 40 9960 T ks hk
  have hagg : isAggD td = true := by simpa [g1] using ha
  have heq := g4 w I ρ _ _ _ _ b hv h2 h4 he
  have hc : ∀ arr : Array Value, cellVal td arr.toList = .agg arr := fun arr => by simp [cellVal, hagg]
  rw [hc, hc] at heq
  refine ⟨_, VRel.bool _, ?_⟩
  cases neq with
  | true =>
    simp only [if_true] at ho ⊢
    simp only [execOp, ho, h1, h3, Sem.run_bind, run_eqGuard_agg w _ T x y cs ds hg, Result.andThen_ok, run_neq_struct, heq, Sem.run_pure]
  | false =>
    simp only [Bool.false_eq_true, if_false] at ho ⊢
    simp only [execOp, ho, h1, h3, Sem.run_bind, run_eqGuard_agg w _ T x y cs ds hg, Result.andThen_ok, run_eql_struct, heq, Sem.run_pure]

theorem ls_eq_bool {neq : Bool} {T T' : TypeId} {x y : Operand} {p q : Bool} (ho : o.op = .binOp (if neq then .neq else .eql) T x y T') (hx : ev x = some (.bool p)) (hy : ev y = some (.bool q)) (hT : P.underlying T = some .bool) : LS P o ev H ⟨.bool (if neq then p != q else p == q), [], [], []⟩ := by
  refine LS.value fun a w I ρ hev hrd => ?_
  have h1 := (hev x (by rw [ho]; simp [Op.operands]) _ hx).bool_inv
  have h2 := (hev y (by rw [ho]; simp [Op.operands]) _ hy).bool_inv
  refine ⟨_, VRel.bool _, ?_⟩
  cases neq <;> simp at ho <;> simp [execOp, ho, h1, h2, eqGuard, binOp, run_equal_bool w T p q hT] <;> cases p <;> cases q <;> rfl

theorem run_equalIn_ptr0 (d : Nat) {T E : TypeId} (hT : P.underlying T = some (.pointer E)) (ae : Option Addr) (w : World) : (Op.equalIn (d + 1) T (.pointer none) (.pointer ae)).run P w = .ok ae.isNone w := by
  simp [Op.equalIn, run_underlying' hT]
theorem run_equalIn_ptr1 (d : Nat) {T E : TypeId} (hT : P.underlying T = some (.pointer E)) (ad : Addr) (w : World) : (Op.equalIn (d + 1) T (.pointer (some ad)) (.pointer none)).run P w = .ok false w := by
  simp [Op.equalIn, run_underlying' hT]

/-- Is it nil? -/
def isNilPtr : AV → Option Bool
  | .nilptr => some true
  | .ptr _ _ _ => some false
  | .vptr _ _ _ => some false
  | _ => none

theorem ls_eq_ptr {neq : Bool} {T T' E : TypeId} {x y : Operand} {u u' : AV} {p q : Bool} (ho : o.op = .binOp (if neq then .neq else .eql) T x y T') (hx : ev x = some u) (hy : ev y = some u') (hT : P.underlying T = some (.pointer E)) (hp : isNilPtr u = some p) (hq : isNilPtr u' = some q) (hpq : p = true ∨ q = true) :
    LS P o ev H ⟨.bool (if neq then !(p && q) else (p && q)), [], [], []⟩ := by
  refine LS.value fun a w I ρ hev hrd => ?_
  have inv : ∀ (u : AV) (c : Value) (p : Bool), isNilPtr u = some p → VRel w I ρ u c → ∃ ad, c = .pointer ad ∧ ad.isNone = p := by
    intro u c p hp hv
    cases u <;> simp only [isNilPtr, Option.some.injEq, reduceCtorEq] at hp
    · subst hp; change CRel w I ρ _ c at hv; cases hv; exact ⟨_, rfl, rfl⟩
    · subst hp; obtain ⟨_, _, _, _, h⟩ := inv_ptr hv; exact ⟨_, h, rfl⟩
    · subst hp; obtain ⟨_, _, _, _, _, _, h⟩ := inv_vptr hv; exact ⟨_, h, rfl⟩
  obtain ⟨ad, h1, h2⟩ := inv u _ p hp (hev x (by rw [ho]; simp [Op.operands]) _ hx)
  obtain ⟨ae, h3, h4⟩ := inv u' _ q hq (hev y (by rw [ho]; simp [Op.operands]) _ hy)
  refine ⟨_, VRel.bool _, ?_⟩
  have hg : ∀ op, (eqGuard op T x y (.pointer ad) (.pointer ae)).run P w = .ok () w := fun op => by cases op <;> simp [eqGuard]
  have he : (Op.equal T (.pointer ad) (.pointer ae)).run P w = .ok (p && q) w := by
    cases ad with
    | none =>
      have : p = true := by simpa using h2.symm
      subst this
      have := run_equalIn_ptr0 9999 hT ae w
      rw [h4] at this
      exact this
    | some ad =>
      have hp0 : p = false := by simpa using h2.symm
      subst hp0
      have hq1 : q = true := by simpa using hpq
      subst hq1
      have : ae = none := by cases ae <;> simp at h4 ⊢
      subst this
      exact run_equalIn_ptr1 9999 hT ad w
  cases neq with
  | true =>
    simp only [if_true] at ho ⊢
    simp only [execOp, ho, h1, h3, Sem.run_bind, hg, Result.andThen_ok, binOp, he, Sem.run_pure]
  | false =>
    simp only [Bool.false_eq_true, if_false] at ho ⊢
    simp only [execOp, ho, h1, h3, Sem.run_bind, hg, Result.andThen_ok, binOp, he, Sem.run_pure]
end
end Go.Proofs.Ytbhhbadeabhfcaa
