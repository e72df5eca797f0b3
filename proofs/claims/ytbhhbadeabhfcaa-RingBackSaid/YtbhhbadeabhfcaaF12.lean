/- Slices: cut, made, appended to, copied; texts of bytes. -/
import Derived.Test.YtbhhbadeabhfcaaF11
import Derived.Laws.Append
import Derived.Laws.BytesString
set_option linter.unusedVariables false
set_option linter.unusedSimpArgs false
namespace Go.Proofs.Ytbhhbadeabhfcaa
open Go Go.RowKit

/-- All of one width. -/
def Unif (wd : Nat) (es : List AV) : Prop := ∀ x, x ∈ es → AV.size x = wd

theorem Unif.sizeL {wd : Nat} : ∀ {es : List AV}, Unif wd es → AV.sizeL es = es.length * wd
  | [], _ => by simp [AV.sizeL]
  | e :: es, h => by
    simp only [AV.sizeL, List.length_cons, Nat.add_mul, Nat.one_mul]
    rw [h e (by simp), Unif.sizeL (es := es) fun x hx => h x (by simp [hx])]; omega
theorem Unif.take {wd : Nat} {es : List AV} (h : Unif wd es) (k : Nat) : Unif wd (es.take k) := fun x hx => h x (List.mem_of_mem_take hx)
theorem Unif.drop {wd : Nat} {es : List AV} (h : Unif wd es) (k : Nat) : Unif wd (es.drop k) := fun x hx => h x (List.mem_of_mem_drop hx)
theorem Unif.append {wd : Nat} {a b : List AV} (h : Unif wd a) (k : Unif wd b) : Unif wd (a ++ b) := fun x hx => by
  rcases List.mem_append.1 hx with hx | hx
  · exact h x hx
  · exact k x hx

section
variable {P : Program} {o : Oper} {ev : Operand → Option AV} {H : Nat → Option ABlk} {v : AV} {rd : List Nat}

/-- A bound of a slice expression: the operand's number, or what stands for none. -/
def CBnd (c : Operand → Value) (y : Option Operand) (l d : Int) : Prop := match y with
  | some y => ∃ k, c y = .int k l
  | none => l = d

theorem run_sliceBounds {c : Operand → Value} {w : World} {isS : Bool} {len cap : Nat} {lo hi : Option Operand} {l h : Int} (hlo : CBnd c lo l 0)
    (hhi : CBnd c hi h len) (h0 : 0 ≤ l) (h1 : l ≤ h) (h2 : hi.isSome = true → h ≤ cap) :
    (Instr.sliceBounds isS len cap (lo.map c) (hi.map c) none).run P w = .ok (l.toNat, h.toNat, cap) w := by
  have b2 : (h.toNat : Int) = h := by omega
  have h1' : l ≤ (h.toNat : Int) := by omega
  have hh : 0 ≤ h := by omega
  cases lo with
  | none =>
    simp only [CBnd] at hlo; subst hlo
    cases hi with
    | none => simp only [CBnd] at hhi; subst hhi; simp [Instr.sliceBounds]
    | some y =>
      obtain ⟨k, hy⟩ := hhi
      have := h2 rfl
      simp [Instr.sliceBounds, hy, Instr.sliceBound, asIntOf, this, hh]
  | some z =>
    obtain ⟨k', hz⟩ := hlo
    cases hi with
    | none => simp only [CBnd] at hhi; subst hhi; simp [Instr.sliceBounds, hz, Instr.sliceBound, asIntOf, h0, h1]
    | some y =>
      obtain ⟨k, hy⟩ := hhi
      have := h2 rfl
      simp only [Instr.sliceBounds, Option.map_some, hy, hz, Instr.sliceBound, asIntOf, pure_bind, Sem.run_bind, Sem.run_ite, this, hh, and_self, if_true, Sem.run_pure, Result.andThen_ok, h0, h1', true_and]

def Bnd (ev : Operand → Option AV) (y : Option Operand) (l d : Int) : Prop := match y with
  | some y => ∃ k, ev y = some (.int k l)
  | none => l = d

theorem Bnd.eval {w : World} {I : Nat → Prop} {ρ : Rho} {a : Act} {y : Option Operand} {l d : Int} (h : Bnd ev y l d) (hev : ∀ x, some x = y → ∀ v, ev x = some v → VRel w I ρ v (a.eval x)) :
    CBnd a.eval y l d := by
  cases y with
  | none => exact h
  | some y => obtain ⟨k, hk⟩ := h; exact ⟨k, inv_int (hev y rfl _ hk)⟩

theorem getD_drop {α : Type} (l : List α) (n k : Nat) (d : α) : (l.drop n).getD k d = l.getD (n + k) d := by
  simp [List.getD_eq_getElem?_getD, List.getElem?_drop]

theorem flatL_drop {wd : Nat} {es : List AV} (hu : Unif wd es) {l : Nat} (hl : l ≤ es.length) : AV.flatL (es.drop l) = (AV.flatL es).drop (l * wd) := by
  conv => rhs; rw [← List.take_append_drop l es, AV.flatL_append]
  have : (AV.flatL (es.take l)).length = l * wd := by rw [AV.flatL_length, (hu.take l).sizeL, List.length_take, Nat.min_eq_left hl]
  rw [← this, List.drop_left]
theorem flatL_take {wd : Nat} {es : List AV} (hu : Unif wd es) {l : Nat} (hl : l ≤ es.length) : AV.flatL (es.take l) = (AV.flatL es).take (l * wd) := by
  conv => rhs; rw [← List.take_append_drop l es, AV.flatL_append]
  have : (AV.flatL (es.take l)).length = l * wd := by rw [AV.flatL_length, (hu.take l).sizeL, List.length_take, Nat.min_eq_left hl]
  rw [← this, List.take_left]

theorem ls_slice_nil {T E : TypeId} {x : Operand} {lo hi : Option Operand} (ho : o.op = .slice T x lo hi none) (hx : ev x = some .nilsl) (hlo : Bnd ev lo 0 0) (hhi : Bnd ev hi 0 0) (hT : P.underlying T = some (.slice E)) {wd : Nat} (hE : szOf P E = some wd) :
    LS P o ev H ⟨.nilsl, [], [], []⟩ := by
  refine LS.value fun a w I ρ hev hrd => ?_
  have hc := inv_nilsl (hev x (by cases lo <;> cases hi <;> simp [ho, Op.operands]) _ hx)
  refine ⟨.slice none 0 0, CRel.nilsl, ?_⟩
  have e1 := run_sliceBounds (P := P) (w := w) (c := a.eval) (isS := true) (len := 0) (cap := 0) (l := 0) (h := 0) (hlo.eval fun x hx v hv => hev x (by subst hx; cases hi <;> simp [ho, Op.operands]) v hv)
    (hhi.eval fun x hx v hv => hev x (by subst hx; cases lo <;> simp [ho, Op.operands]) v hv) (by omega) (by omega) (fun _ => by omega)
  simp only [Int.toNat_zero] at e1
  simp only [execOp, ho, hc, Instr.sliceAt, Instr.slice, Sem.run_bind, run_underlying' hT, Result.andThen_ok, Option.map_none, e1, run_sizeOf' hE, Sem.run_pure, Nat.sub_self, if_true]

theorem ls_slice_vsl {T E : TypeId} {x : Operand} {lo hi : Option Operand} {es : List AV} {len wd : Nat} {l h : Int} (ho : o.op = .slice T x lo hi none) (hx : ev x = some (.vsl es len)) (hlo : Bnd ev lo l 0) (hhi : Bnd ev hi h len)
    (hT : P.underlying T = some (.slice E)) (hE : szOf P E = some wd) (hu : Unif wd es) (h0 : 0 ≤ l) (h1 : l ≤ h) (h2 : h ≤ es.length) : LS P o ev H ⟨.vsl (es.drop l.toNat) (h.toNat - l.toNat), [], [], []⟩ := by
  refine LS.value fun a w I ρ hev hrd => ?_
  have glo := hlo.eval (w := w) (I := I) (ρ := ρ) (a := a) fun x hx v hv => hev x (by subst hx; cases hi <;> simp [ho, Op.operands]) v hv
  have ghi := hhi.eval (w := w) (I := I) (ρ := ρ) (a := a) fun x hx v hv => hev x (by subst hx; cases lo <;> simp [ho, Op.operands]) v hv
  rcases inv_vsl (hev x (by cases lo <;> cases hi <;> simp [ho, Op.operands]) _ hx) with ⟨rfl, rfl, ad, k, hc⟩ | ⟨b, base, cap, f, hI, hl1, hl2, hc1, hc2, hc⟩
  · have : l = 0 := by simp at h2; omega
    have : h = 0 := by simp at h2; omega
    subst l; subst h
    have e1 := run_sliceBounds (P := P) (w := w) (c := a.eval) (isS := true) (len := 0) (cap := k) glo ghi (by omega) (by omega) (fun _ => by omega)
    simp only [Int.toNat_zero] at e1
    refine ⟨_, CRel.vsl0 (if k = 0 then ad else ad.map (·.add (0 * wd))) (k - 0), ?_⟩
    simp only [execOp, ho, hc, Instr.sliceAt, Instr.slice, Sem.run_bind, run_underlying' hT, Result.andThen_ok, Option.map_none, e1, run_sizeOf' hE, Sem.run_pure, Nat.sub_self]
  · have e1 := run_sliceBounds (P := P) (w := w) (c := a.eval) (isS := true) (len := len) (cap := cap) glo ghi h0 h1 (fun _ => by omega)
    have hrun : (execOp a.eval o).run P w = .ok (.value (.slice (if cap = l.toNat then some ⟨b, base, none⟩ else some ⟨b, base + l.toNat * wd, none⟩) (h.toNat - l.toNat) (cap - l.toNat))) w := by
      simp only [execOp, ho, hc, Instr.sliceAt, Instr.slice, Sem.run_bind, run_underlying' hT, Result.andThen_ok, Option.map_none, e1, run_sizeOf' hE, Sem.run_pure, Option.map_some, add_mk]
    by_cases hcl : cap = l.toNat
    · have hlen : es.length ≤ l.toNat := by omega
      refine ⟨_, ?_, hrun⟩
      rw [List.drop_eq_nil_of_le hlen]
      have : h.toNat - l.toNat = 0 := by omega
      rw [this]
      exact CRel.vsl0 _ _
    · refine ⟨_, ?_, hrun⟩
      rw [if_neg hcl]
      have hll : l.toNat ≤ es.length := by omega
      have hsz : AV.sizeL es = l.toNat * wd + AV.sizeL (es.drop l.toNat) := by
        rw [hu.sizeL, (hu.drop _).sizeL, List.length_drop, ← Nat.add_mul]; congr 1; omega
      refine CRel.vsl _ _ _ _ _ (fun j => f (l.toNat * wd + j)) hI (by rw [List.length_drop]; omega) (by rw [List.length_drop]; omega) (fun j hj => ?_) (fun j hj => ?_)
      · rw [Nat.add_assoc]; exact hc1 _ (by omega)
      · have := hc2 (l.toNat * wd + j) (by omega)
        rw [flatL_drop hu hll, getD_drop]; exact this

theorem ls_slice_sl {T E : TypeId} {x : Operand} {lo hi : Option Operand} {n off : Nat} {p : List Nat} {i len cap wd : Nat} {l h : Int} (ho : o.op = .slice T x lo hi none) (hx : ev x = some (.sl n off p i len cap wd)) (hlo : Bnd ev lo l 0) (hhi : Bnd ev hi h len)
    (hT : P.underlying T = some (.slice E)) (hE : szOf P E = some wd) (h0 : 0 ≤ l) (h1 : l ≤ h) (h2 : h ≤ cap) : LS P o ev H ⟨.sl n (off + l.toNat * wd) p (i + l.toNat) (h.toNat - l.toNat) (cap - l.toNat) wd, [], [], []⟩ := by
  refine LS.value fun a w I ρ hev hrd => ?_
  have glo := hlo.eval (w := w) (I := I) (ρ := ρ) (a := a) fun x hx v hv => hev x (by subst hx; cases hi <;> simp [ho, Op.operands]) v hv
  have ghi := hhi.eval (w := w) (I := I) (ρ := ρ) (a := a) fun x hx v hv => hev x (by subst hx; cases lo <;> simp [ho, Op.operands]) v hv
  rcases inv_sl (hev x (by cases lo <;> cases hi <;> simp [ho, Op.operands]) _ hx) with ⟨rfl, rfl, ad, hc⟩ | ⟨b, base, r, k, hr, g1, g2, g3, hc⟩
  · have : l = 0 := by omega
    have : h = 0 := by omega
    subst l; subst h
    have e1 := run_sliceBounds (P := P) (w := w) (c := a.eval) (isS := true) (len := 0) (cap := 0) glo ghi (by omega) (by omega) (fun _ => by omega)
    simp only [Int.toNat_zero] at e1
    refine ⟨_, CRel.sl0 _ _ _ _ _ ad, ?_⟩
    simp only [execOp, ho, hc, Instr.sliceAt, Instr.slice, Sem.run_bind, run_underlying' hT, Result.andThen_ok, Option.map_none, e1, run_sizeOf' hE, Sem.run_pure, Nat.sub_self, if_true]
  · have e1 := run_sliceBounds (P := P) (w := w) (c := a.eval) (isS := true) (len := len) (cap := k) glo ghi h0 h1 (fun _ => by omega)
    have hrun : (execOp a.eval o).run P w = .ok (.value (.slice (if k = l.toNat then some ⟨b, base + off, none⟩ else some ⟨b, base + off + l.toNat * wd, none⟩) (h.toNat - l.toNat) (k - l.toNat))) w := by
      simp only [execOp, ho, hc, Instr.sliceAt, Instr.slice, Sem.run_bind, run_underlying' hT, Result.andThen_ok, Option.map_none, e1, run_sizeOf' hE, Sem.run_pure, Option.map_some, add_mk]
    refine ⟨_, ?_, hrun⟩
    by_cases hkl : k = l.toNat
    · rw [if_pos hkl]
      have e2 : h.toNat - l.toNat = 0 := by omega
      have e3 : k - l.toNat = 0 := by omega
      have e4 : cap - l.toNat = 0 := by omega
      rw [e2, e3, e4]
      exact CRel.sl0 _ _ _ _ _ _
    · rw [if_neg hkl]
      have h3 : l.toNat * wd + (k - l.toNat) * wd = k * wd := by rw [← Nat.add_mul]; congr 1; omega
      have := CRel.sl (w := w) (I := I) (ρ := ρ) n (off + l.toNat * wd) p (i + l.toNat) (h.toNat - l.toNat) (cap - l.toNat) wd b base r (k - l.toNat) hr (by omega) (by omega) (by omega)
      rw [← Nat.add_assoc] at this
      exact this

theorem ls_slice_arr {T E : TypeId} {x : Operand} {lo hi : Option Operand} {n off : Nat} {p : List Nat} {len wd : Nat} {l h : Int} {root : AV} {es : List AV} (ho : o.op = .slice T x lo hi none) (hx : ev x = some (.ptr n off p)) (hlo : Bnd ev lo l 0) (hhi : Bnd ev hi h len)
    (hT : P.underlying T = some (.array len E)) (hE : szOf P E = some wd) (hH : H n = some (.cells root)) (hp : root.proj p = some (.agg es)) (hf : root.offOf p = off) (hs : AV.sizeL es = len * wd) (h0 : 0 ≤ l) (h1 : l ≤ h) (h2 : h ≤ len) :
    LS P o ev H ⟨.sl n (off + l.toNat * wd) p l.toNat (h.toNat - l.toNat) (len - l.toNat) wd, [n], [], []⟩ := by
  refine LS.value fun a w I ρ hev hrd => ?_
  have glo := hlo.eval (w := w) (I := I) (ρ := ρ) (a := a) fun x hx v hv => hev x (by subst hx; cases hi <;> simp [ho, Op.operands]) v hv
  have ghi := hhi.eval (w := w) (I := I) (ρ := ρ) (a := a) fun x hx v hv => hev x (by subst hx; cases lo <;> simp [ho, Op.operands]) v hv
  obtain ⟨b, base, r, hr, hc⟩ := inv_ptr (hev x (by cases lo <;> cases hi <;> simp [ho, Op.operands]) _ hx)
  obtain ⟨b', o', r', hr', hI, hlies⟩ := hrd n (by simp) _ hH
  rw [hr] at hr'; cases hr'
  obtain ⟨arr, E', fz, g1, g2, g3, g4, g5⟩ := hlies.ex
  obtain ⟨pre, post, k1, k2, _⟩ := AV.flat_at p root _ hp
  have hlen : root.flat.length = off + len * wd + post.length := by rw [k2]; simp [AV.flat_length, AV.size, hs, k1, hf]; omega
  have e1 := run_sliceBounds (P := P) (w := w) (c := a.eval) (isS := false) (len := len) (cap := len) glo ghi h0 h1 (fun _ => by omega)
  have hrun : (execOp a.eval o).run P w = .ok (.value (.slice (some (if len = l.toNat then ⟨b, base + off, none⟩ else ⟨b, base + off + l.toNat * wd, none⟩)) (h.toNat - l.toNat) (len - l.toNat))) w := by
    simp only [execOp, ho, hc, Instr.sliceAt, Instr.sureAddr, Sem.run_bind, run_underlying' hT, Result.andThen_ok, Option.map_none, e1, run_sizeOf' hE, Sem.run_pure, pure_bind, add_mk]
  refine ⟨_, ?_, hrun⟩
  by_cases hkl : len = l.toNat
  · rw [if_pos hkl]
    have e2 : h.toNat - l.toNat = 0 := by omega
    have e3 : len - l.toNat = 0 := by omega
    rw [e2, e3]
    exact CRel.sl0 _ _ _ _ _ _
  · rw [if_neg hkl]
    have h3 : l.toNat * wd + (len - l.toNat) * wd = len * wd := by rw [← Nat.add_mul]; congr 1; omega
    have := CRel.sl (w := w) (I := I) (ρ := ρ) n (off + l.toNat * wd) p l.toNat (h.toNat - l.toNat) (len - l.toNat) wd b base r (len - l.toNat) hr (by omega) (by omega) (by omega)
    rw [← Nat.add_assoc] at this
    exact this

/-! #### rows as sources -/
def byteAV (b : UInt8) : AV := .int .u8 b.toNat
theorem size_byteAV (b : UInt8) : (byteAV b).size = 1 := rfl

/-- What a slice, or a text, hands out: its elements. -/
inductive IsSrc (H : Nat → Option ABlk) (wd : Nat) : AV → List Nat → List AV → Prop
  | nil : IsSrc H wd .nilsl [] []
  | vsl (es : List AV) (len : Nat) : len ≤ es.length → Unif wd es → IsSrc H wd (.vsl es len) [] (es.take len)
  | sl (n off : Nat) (p : List Nat) (i len cap : Nat) (root : AV) (es : List AV) : H n = some (.cells root) → root.proj p = some (.agg es) → off = root.offOf p + i * wd → i + len ≤ es.length → Unif wd es →
      IsSrc H wd (.sl n off p i len cap wd) [n] ((es.drop i).take len)
  | str (s : ByteArray) : wd = 1 → IsSrc H wd (.str s) [] (s.data.toList.map byteAV)

theorem flatL_bytes (l : List UInt8) : AV.flatL (l.map byteAV) = l.map byteAV := by
  induction l with
  | nil => rfl
  | cons b l ih => simp only [List.map_cons, AV.flatL, ih]; rfl

theorem src_rel {w : World} {I : Nat → Prop} {ρ : Rho} {wd : Nat} {x : AV} {c : Value} {xs : List AV} (h : IsSrc H wd x rd xs) (hc : VRel w I ρ x c) (hrd : ∀ n, n ∈ rd → ∀ b, H n = some b → BRel w I ρ n b) :
    Unif wd xs ∧ (Builtin.lenOf c).run P w = .ok xs.length w ∧ ∀ k, k ≤ xs.length → ∃ cs : Array Value, (∀ w', w'.heap = w.heap → (Builtin.firstCells wd k c).run P w' = .ok cs w') ∧ CsRel w I ρ (AV.flatL (xs.take k)) cs.toList := by
  cases h with
  | nil =>
    have := inv_nilsl hc; subst this
    refine ⟨fun x hx => by simp at hx, rfl, fun k hk => ⟨#[], fun _ _ => rfl, ?_⟩⟩
    simp at hk; subst hk
    exact ⟨rfl, fun k hk => by simp [AV.flatL] at hk⟩
  | vsl es len hl hu =>
    rcases inv_vsl hc with ⟨rfl, rfl, ad, k, rfl⟩ | ⟨b, base, cap, f, hI, hl1, hl2, hc1, hc2, rfl⟩
    · refine ⟨fun x hx => by simp at hx, rfl, fun k hk => ?_⟩
      simp at hk; subst hk
      refine ⟨#[], fun w' _ => ?_, ⟨rfl, fun k hk => by simp [AV.flatL] at hk⟩⟩
      cases ad with
      | none => rfl
      | some ad => simp [Builtin.firstCells, run_loadCells w' ad 0 (fun _ => Go.undef) (fun j hj => by omega)]
    · refine ⟨hu.take len, by simp [Builtin.lenOf, List.length_take, Nat.min_eq_left hl], fun k hk => ?_⟩
      rw [List.length_take, Nat.min_eq_left hl] at hk
      have e0 : (es.take len).take k = es.take k := by rw [List.take_take, Nat.min_eq_left hk]
      have hkl : k ≤ es.length := by omega
      have hsz : AV.sizeL es = k * wd + AV.sizeL (es.drop k) := by
        rw [hu.sizeL, (hu.drop _).sizeL, List.length_drop, ← Nat.add_mul]; congr 1; omega
      refine ⟨((List.range (k * wd)).map f).toArray, fun w' hw' => ?_, ?_, fun j hj => ?_⟩
      · have hcell : ∀ a : Addr, w'.cell? a = w.cell? a := fun a => by simp only [World.cell?, hw']
        simp only [Builtin.firstCells]
        rw [run_loadCells w' ⟨b, base, none⟩ (k * wd) f (fun j hj => by rw [add_mk, hcell]; exact hc1 j (by omega))]
      · rw [e0, AV.flatL_length, (hu.take k).sizeL, List.length_take, Nat.min_eq_left hkl]; simp
      · rw [e0, flatL_take hu hkl] at hj ⊢
        simp only [List.length_take] at hj
        have hj2 : j < k * wd := by omega
        have := hc2 j (by omega)
        have e1 : ((AV.flatL es).take (k * wd)).getD j AV.undef = (AV.flatL es).getD j AV.undef := by
          simp [List.getD_eq_getElem?_getD, List.getElem?_take, hj2]
        rw [e1]
        simpa [List.getD_eq_getElem?_getD, hj2] using this
  | sl n off p i len cap root es hH hp hoff hil hu =>
    have hlen0 : ((es.drop i).take len).length = len := by rw [List.length_take, List.length_drop]; omega
    rcases inv_sl hc with ⟨rfl, rfl, ad, rfl⟩ | ⟨b, base, r, k', hr, g1, g2, g3, rfl⟩
    · refine ⟨(hu.drop i).take 0, by simp [Builtin.lenOf], fun k hk => ?_⟩
      simp at hk; subst hk
      exact ⟨#[], fun w' _ => by simp [Builtin.firstCells, run_loadCells w' ad 0 (fun _ => Go.undef) (fun j hj => by omega)], ⟨by simp [AV.flatL], fun k hk => by simp [AV.flatL] at hk⟩⟩
    · obtain ⟨b', o', r', hr', hI, hlies⟩ := hrd n (by simp) _ hH
      rw [hr] at hr'; cases hr'
      obtain ⟨arr, E', fz, k1, k2, k3, k4, k5⟩ := hlies.ex
      obtain ⟨pre, post, q1, q2, _⟩ := AV.flat_at p root _ hp
      refine ⟨(hu.drop i).take len, by simp [Builtin.lenOf, hlen0], fun k hk => ?_⟩
      rw [hlen0] at hk
      have e0 : ((es.drop i).take len).take k = (es.drop i).take k := by rw [List.take_take, Nat.min_eq_left hk]
      have hui := hu.drop i
      have hkl : k ≤ (es.drop i).length := by rw [List.length_drop]; omega
      have hes : AV.sizeL es = i * wd + k * wd + AV.sizeL ((es.drop i).drop k) := by
        rw [hu.sizeL, (hui.drop k).sizeL, List.length_drop, List.length_drop, ← Nat.add_mul, ← Nat.add_mul]; congr 1; omega
      have hroot : root.flat.length = root.offOf p + AV.sizeL es + post.length := by rw [q2]; simp [AV.flat_length, AV.size, q1]; omega
      have hcellf : ∀ j, j < k * wd → arr.getD (base + off + j) Go.undef = arr.getD (base + off + j) Go.undef ∧ base + off + j < arr.size := fun j hj => ⟨rfl, by rw [k2]; omega⟩
      refine ⟨((List.range (k * wd)).map fun j => arr.getD (base + off + j) Go.undef).toArray, fun w' hw' => ?_, ?_, fun j hj => ?_⟩
      · simp only [Builtin.firstCells]
        rw [run_loadCells w' ⟨b, base + off, none⟩ (k * wd) (fun j => arr.getD (base + off + j) Go.undef) (fun j hj => by
          rw [add_mk]
          have := (hcellf j hj).2
          simp [World.cell?, hw', k1, Array.getD_eq_getD_getElem?, Array.getElem?_eq_getElem this])]
      · rw [e0, AV.flatL_length, (hui.take k).sizeL, List.length_take, Nat.min_eq_left hkl]; simp
      · rw [e0, flatL_take hui hkl] at hj ⊢
        simp only [List.length_take] at hj
        have hj2 : j < k * wd := by omega
        have h6 := k5 (off + j) (by omega)
        have e1 : root.flat.getD (off + j) AV.undef = ((AV.flatL (es.drop i)).take (k * wd)).getD j AV.undef := by
          rw [q2, AV.flat]
          have : off + j = pre.length + (i * wd + j) := by omega
          rw [this, getD_mid _ _ _ _ _ (by rw [AV.flatL_length]; omega), flatL_drop hu (by omega)]
          simp only [List.getD_eq_getElem?_getD, List.getElem?_take, hj2, if_true, List.getElem?_drop]
        rw [e1] at h6
        rw [Nat.add_assoc] at *
        simpa [List.getD_eq_getElem?_getD, hj2, Nat.add_assoc] using h6
  | str s hw1 =>
    have := inv_str hc; subst this
    refine ⟨fun x hx => by
      obtain ⟨b, _, rfl⟩ := List.mem_map.1 hx; rw [size_byteAV, hw1], by simp [Builtin.lenOf], fun k hk => ?_⟩
    refine ⟨(s.extract 0 k).data.map fun b => .int .u8 b.toNat, fun w' _ => rfl, ?_, fun j hj => ?_⟩
    · rw [← List.map_take, flatL_bytes]
      simp [ByteArray.data_extract]
      try omega
    · rw [← List.map_take, flatL_bytes] at hj ⊢
      simp only [List.length_map, List.length_take] at hj
      have hj1 : j < k := by omega
      have hj2 : j < s.data.toList.length := by omega
      have e1 : ((s.data.toList.take k).map byteAV).getD j .undef = byteAV (s.data.toList[j]) := by
        rw [List.getD_eq_getElem?_getD, List.getElem?_map, List.getElem?_take, if_pos hj1, List.getElem?_eq_getElem hj2]; rfl
      have hj3 : j < s.data.size := by simpa using hj2
      have e2 : (((s.extract 0 k).data.map fun b => Value.int .u8 b.toNat).toList).getD j Go.undef = .int .u8 (s.data.toList[j]).toNat := by
        rw [getD_toList, Array.getD_eq_getD_getElem?, Array.getElem?_map]
        have : (s.extract 0 k).data[j]? = some s.data[j] := by
          rw [ByteArray.data_extract, Array.getElem?_extract, if_pos (by have : s.size = s.data.size := rfl; omega), Nat.zero_add]
          simp [hj3]
        rw [this]; simp
      rw [e1, e2]; exact CRel.int _ _

end
end Go.Proofs.Ytbhhbadeabhfcaa
