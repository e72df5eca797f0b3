/- Equations for the operations on rows, texts and types. -/
import Derived.Test.YtbhhbadeabhfcaaF24
set_option linter.unusedVariables false
set_option linter.unusedSimpArgs false
namespace Go.Proofs.Ytbhhbadeabhfcaa
open Go Go.RowKit

/-- How wide a slice's elements are. -/
def elS (P : Program) (T : TypeId) : Option Nat := match P.underlying T with
  | some (.slice E) => szOf P E
  | _ => none
/-- How long an array is and how wide its elements are. -/
def elA (P : Program) (T : TypeId) : Option (Nat × Nat) := match P.underlying T with
  | some (.array n E) => (szOf P E).map fun w => (n, w)
  | _ => none
def isStrT (P : Program) (T : TypeId) : Bool := match P.underlying T with
  | some .string => true
  | _ => false
theorem isStrT_spec {P : Program} {T : TypeId} : (isStrT P T = true) = (P.underlying T = some .string) := by
  unfold isStrT
  cases h : P.underlying T with
  | none => simp
  | some d => cases d <;> simp

section
variable {P : Program} {Z : TypeId → Option AV} {T : TypeId} {K : AV → Prop}

theorem DoIndexAddr_vsl {es : List AV} {len : Nat} {k : IntKind} {q : Int} : DoIndexAddr P T (some (.vsl es len)) (some (.int k q)) K = Got (elS P T) fun wd => Need (0 ≤ q ∧ q < len) (K (.vptr (.agg es) (q.toNat * wd) [q.toNat])) := by
  simp only [DoIndexAddr, elS, Got, Need]
  cases P.underlying T with
  | none => rfl
  | some D =>
    cases D <;> try rfl
    rename_i E
    simp only
    cases szOf P E <;> rfl
theorem DoIndexAddr_sl {nn off : Nat} {p : List Nat} {i len cap wd : Nat} {k : IntKind} {q : Int} : DoIndexAddr P T (some (.sl nn off p i len cap wd)) (some (.int k q)) K = Need (elS P T = some wd ∧ 0 ≤ q ∧ q < len) (K (.ptr nn (off + q.toNat * wd) (p ++ [i + q.toNat]))) := by
  simp only [DoIndexAddr, elS, Need]
  cases P.underlying T with
  | none => simp
  | some D => cases D <;> simp
theorem DoIndexAddr_ptr {nn off : Nat} {p : List Nat} {k : IntKind} {q : Int} : DoIndexAddr P T (some (.ptr nn off p)) (some (.int k q)) K = Got (elA P T) fun e => Need (0 ≤ q ∧ q < e.1) (K (.ptr nn (off + q.toNat * e.2) (p ++ [q.toNat]))) := by
  simp only [DoIndexAddr, elA, Got, Need]
  cases P.underlying T with
  | none => rfl
  | some D =>
    cases D <;> try rfl
    rename_i n E
    simp only
    cases szOf P E <;> rfl
theorem DoIndex_str {t : ByteArray} {k : IntKind} {q : Int} : DoIndex P T (some (.str t)) (some (.int k q)) K = Need (isStrT P T = true ∧ 0 ≤ q ∧ q < t.size) (K (.int .u8 (byteAt t q))) := by
  simp only [DoIndex, Need, isStrT_spec]
theorem DoIndex_agg {vs : List AV} {k : IntKind} {q : Int} : DoIndex P T (some (.agg vs)) (some (.int k q)) K = Got (elA P T) fun e => Got vs[q.toNat]? fun u => Need (0 ≤ q ∧ q < e.1 ∧ q.toNat * e.2 = AV.sizeL (vs.take q.toNat) ∧ ∀ n E, P.underlying T = some (.array n E) → LoadOk P E u) (K u) := by
  simp only [DoIndex, elA, Got, Need]
  cases P.underlying T with
  | none => rfl
  | some D =>
    cases D <;> try rfl
    rename_i n E
    simp only
    cases szOf P E with
    | none => rfl
    | some wd =>
      simp only [Option.map_some]
      cases vs[q.toNat]? with
      | none => rfl
      | some u =>
        simp only [Option.some.injEq, TypeDesc.array.injEq]
        refine propext ⟨fun h => ⟨⟨h.1.1, h.1.2.1, h.1.2.2.1, fun n' E' he => ?_⟩, h.2⟩, fun h => ⟨⟨h.1.1, h.1.2.1, h.1.2.2.1, h.1.2.2.2 _ _ ⟨rfl, rfl⟩⟩, h.2⟩⟩
        rw [← he.2]; exact h.1.2.2.2

section
variable {n : Nat} {t : Env} {H : Heap} {m : Nat} {K : Eff → Nat → Prop}
theorem DoSlice_str {x : ByteArray} {lo hi : Option Operand} : DoSlice P T (some (.str x)) lo hi ⟨n, t, H, m⟩ K = Got (bndAV (St.ev ⟨n, t, H, m⟩) lo 0) fun l => Got (bndAV (St.ev ⟨n, t, H, m⟩) hi x.size) fun h =>
    Need (isStrT P T = true ∧ 0 ≤ l ∧ l ≤ h ∧ h ≤ x.size) (K ⟨.str (x.extract l.toNat h.toNat), [], [], []⟩ m) := by
  simp only [DoSlice, Got, Need, isStrT_spec]
  cases bndAV (St.ev ⟨n, t, H, m⟩) lo 0 <;> cases bndAV (St.ev ⟨n, t, H, m⟩) hi x.size <;> rfl
theorem DoSlice_vsl {es : List AV} {len : Nat} {lo hi : Option Operand} : DoSlice P T (some (.vsl es len)) lo hi ⟨n, t, H, m⟩ K = Got (bndAV (St.ev ⟨n, t, H, m⟩) lo 0) fun l => Got (bndAV (St.ev ⟨n, t, H, m⟩) hi len) fun h => Got (elS P T) fun wd =>
    Need (Unif wd es ∧ 0 ≤ l ∧ l ≤ h ∧ h ≤ es.length) (K ⟨.vsl (es.drop l.toNat) (h.toNat - l.toNat), [], [], []⟩ m) := by
  simp only [DoSlice, Got, Need, elS]
  cases bndAV (St.ev ⟨n, t, H, m⟩) lo 0 <;> cases bndAV (St.ev ⟨n, t, H, m⟩) hi len <;> try rfl
  cases P.underlying T with
  | none => rfl
  | some D =>
    cases D <;> try rfl
    rename_i E
    simp only
    cases szOf P E <;> rfl
theorem DoSlice_sl {nn off : Nat} {p : List Nat} {i len cap wd : Nat} {lo hi : Option Operand} : DoSlice P T (some (.sl nn off p i len cap wd)) lo hi ⟨n, t, H, m⟩ K = Got (bndAV (St.ev ⟨n, t, H, m⟩) lo 0) fun l => Got (bndAV (St.ev ⟨n, t, H, m⟩) hi len) fun h =>
    Need (elS P T = some wd ∧ 0 ≤ l ∧ l ≤ h ∧ h ≤ cap) (K ⟨.sl nn (off + l.toNat * wd) p (i + l.toNat) (h.toNat - l.toNat) (cap - l.toNat) wd, [], [], []⟩ m) := by
  simp only [DoSlice, Got, Need, elS]
  cases bndAV (St.ev ⟨n, t, H, m⟩) lo 0 <;> cases bndAV (St.ev ⟨n, t, H, m⟩) hi len <;> try rfl
  cases P.underlying T with
  | none => simp
  | some D => cases D <;> simp

/-- A base that is appended to. -/
def BaseAt (H : Heap) (wd : Nat) (by_ : Nat) (u : AV) (xs : List AV) (rd : List Nat) (m : Nat) (K : Eff → Nat → Prop) : Prop := match u with
  | .nilsl => Need (xs.length * by_ ≤ 140737488355328 ∧ xs.length ≤ 9223372036854775807) (Branch (xs.length == 0) (K ⟨.nilsl, rd, [], []⟩ m) (K ⟨.sl m 0 [] 0 xs.length xs.length wd, rd, [], [(m, .cells (.agg xs))]⟩ (m + 1)))
  | .sl n off p i len cap wd' => match p with
    | [] => GotC (Heap.get H n) fun r => match r with
      | .agg es => Need (wd' = wd ∧ off = i * wd ∧ i + len ≤ es.length ∧ Unif wd es ∧ n ∉ rd ∧ n ≠ m ∧ (len + xs.length) * by_ ≤ 140737488355328 ∧ len + xs.length ≤ 9223372036854775807)
            (K ⟨.sl m 0 [] 0 (len + xs.length) (len + xs.length) wd, rd, [n], [(m, .cells (.agg ((es.drop i).take len ++ xs)))]⟩ (m + 1))
      | _ => False
    | _ => False
  | _ => False
@[congr] theorem BaseAt_congr {H H' : Heap} {wd by_ : Nat} {u u' : AV} {xs xs' : List AV} {rd : List Nat} {m : Nat} {K : Eff → Nat → Prop} (h : H = H') (h1 : u = u') (h2 : xs = xs') : BaseAt H wd by_ u xs rd m K = BaseAt H' wd by_ u' xs' rd m K := by rw [h, h1, h2]
theorem BaseAt_nil {wd by_ : Nat} {xs : List AV} {rd : List Nat} : BaseAt H wd by_ .nilsl xs rd m K = Need (xs.length * by_ ≤ 140737488355328 ∧ xs.length ≤ 9223372036854775807) (Branch (xs.length == 0) (K ⟨.nilsl, rd, [], []⟩ m) (K ⟨.sl m 0 [] 0 xs.length xs.length wd, rd, [], [(m, .cells (.agg xs))]⟩ (m + 1))) := rfl
/-- The same, of what is read there. -/
def BaseSl (wd by_ nn off i len wd' : Nat) (r : AV) (xs : List AV) (rd : List Nat) (m : Nat) (K : Eff → Nat → Prop) : Prop := match r with
  | .agg es => Need (wd' = wd ∧ off = i * wd ∧ i + len ≤ es.length ∧ Unif wd es ∧ nn ∉ rd ∧ nn ≠ m ∧ (len + xs.length) * by_ ≤ 140737488355328 ∧ len + xs.length ≤ 9223372036854775807)
            (K ⟨.sl m 0 [] 0 (len + xs.length) (len + xs.length) wd, rd, [nn], [(m, .cells (.agg ((es.drop i).take len ++ xs)))]⟩ (m + 1))
  | _ => False
theorem BaseSl_agg {wd by_ nn off i len wd' : Nat} {es : List AV} {xs : List AV} {rd : List Nat} : BaseSl wd by_ nn off i len wd' (.agg es) xs rd m K = Need (wd' = wd ∧ off = i * wd ∧ i + len ≤ es.length ∧ Unif wd es ∧ nn ∉ rd ∧ nn ≠ m ∧ (len + xs.length) * by_ ≤ 140737488355328 ∧ len + xs.length ≤ 9223372036854775807)
            (K ⟨.sl m 0 [] 0 (len + xs.length) (len + xs.length) wd, rd, [nn], [(m, .cells (.agg ((es.drop i).take len ++ xs)))]⟩ (m + 1)) := rfl
theorem BaseAt_sl {wd by_ nn off i len cap wd' : Nat} {xs : List AV} {rd : List Nat} : BaseAt H wd by_ (.sl nn off [] i len cap wd') xs rd m K = GotC (Heap.get H nn) fun r => BaseSl wd by_ nn off i len wd' r xs rd m K := rfl

/-- What a slice hands out. -/
def SrcAt (H : Heap) (wd : Nat) (u : AV) (K : List Nat → List AV → Prop) : Prop := Src (Heap.get H) wd u K
@[congr] theorem SrcAt_congr {H H' : Heap} {wd : Nat} {u u' : AV} {K : List Nat → List AV → Prop} (h : H = H') (h1 : u = u') : SrcAt H wd u K = SrcAt H' wd u' K := by rw [h, h1]
theorem SrcAt_nil {wd : Nat} {K : List Nat → List AV → Prop} : SrcAt H wd .nilsl K = K [] [] := rfl
theorem SrcAt_vsl {wd : Nat} {es : List AV} {len : Nat} {K : List Nat → List AV → Prop} : SrcAt H wd (.vsl es len) K = Need (len ≤ es.length ∧ Unif wd es) (K [] (es.take len)) := rfl
theorem SrcAt_str {wd : Nat} {x : ByteArray} {K : List Nat → List AV → Prop} : SrcAt H wd (.str x) K = Need (wd = 1) (K [] (x.data.toList.map byteAV)) := rfl
theorem SrcAt_sl {wd nn off i len cap wd' : Nat} {p : List Nat} {K : List Nat → List AV → Prop} : SrcAt H wd (.sl nn off p i len cap wd') K = GotC (Heap.get H nn) fun root => Got (root.proj p) fun r => match r with
    | .agg es => Need (wd' = wd ∧ off = root.offOf p + i * wd ∧ i + len ≤ es.length ∧ Unif wd es) (K [nn] ((es.drop i).take len))
    | _ => False := by
  simp only [SrcAt, Src, GotC, Got, Need]
  cases Heap.get H nn with
  | none => rfl
  | some b =>
    cases b <;> try rfl
    rename_i root
    simp only
    cases root.proj p with
    | none => rfl
    | some r => cases r <;> rfl

def isSlStr : TypeDesc → Bool
  | .slice _ => true
  | .string => true
  | _ => false
/-- Of append's types: the element's width, bytes; and that the second is a slice or a text. -/
def apT (P : Program) (Z : TypeId → Option AV) (T1 T2 : TypeId) : Option (Nat × Nat) := match P.underlying T1, P.underlying T2 with
  | some (.slice E), some d => (szOf P E).bind fun wd => (byOf P E).bind fun b => (Z E).bind fun z => if z.size = wd ∧ isSlStr d = true then some (wd, b) else none
  | _, _ => none
theorem DoAppend_of {T1 T2 : TypeId} {x y : Option AV} {u w : AV} (hx : x = some u) (hy : y = some w) {e : Nat × Nat} (he : apT P Z T1 T2 = some e) (h : SrcAt H e.1 w fun rd xs => BaseAt H e.1 e.2 u xs rd m K) : DoAppend P Z T1 T2 x y ⟨n, t, H, m⟩ K := by
  subst hx hy
  unfold apT at he
  split at he
  · rename_i E D h1 h2
    cases hs : szOf P E with
    | none => simp [hs] at he
    | some wd => cases hb : byOf P E with
      | none => simp [hs, hb] at he
      | some b => cases hz : Z E with
        | none => simp [hs, hb, hz] at he
        | some z =>
          simp only [hs, hb, hz, Option.bind_some] at he
          split at he
          · rename_i hc
            simp only [Option.some.injEq] at he
            subst he
            unfold DoAppend
            simp only [h1, hs, hb, hz, h2]
            refine ⟨⟨hc.1, ?_⟩, ?_⟩
            · have := hc.2
              cases D <;> first | trivial | (simp [isSlStr] at this)
            · have hmono : ∀ (K1 K2 : List Nat → List AV → Prop), (∀ a b, K1 a b → K2 a b) → Src (Heap.get H) wd w K1 → Src (Heap.get H) wd w K2 := by
                intro K1 K2 hK hs
                unfold Src at hs ⊢
                split at hs
                · exact hK _ _ hs
                · exact ⟨hs.1, hK _ _ hs.2⟩
                · split at hs
                  · split at hs
                    · exact ⟨hs.1, hK _ _ hs.2⟩
                    · exact hs.elim
                  · exact hs.elim
                · exact ⟨hs.1, hK _ _ hs.2⟩
                · exact hs.elim
              refine hmono _ _ ?_ h
              intro rd xs hb
              cases u <;> try exact hb.elim
              · refine ⟨hb.1, ?_⟩
                by_cases h0 : xs.length = 0
                · rw [if_pos h0]; exact hb.2.1 (by simp [h0])
                · rw [if_neg h0]; exact hb.2.2 (by simp [h0])
              · rename_i nn off p i len cap wd'
                cases p with
                | cons _ _ => exact hb.elim
                | nil =>
                  simp only [BaseAt, GotC] at hb ⊢
                  split at hb
                  · rename_i r hr
                    cases r <;> try exact hb.elim
                    simp only [hr]
                    exact hb
                  · exact hb.elim
          · simp at he
  · simp at he
end

/-- A struct type's zero parts. -/
def bldZ (P : Program) (Z : TypeId → Option AV) (T : TypeId) : Option (List AV) := match P.underlying T, Z T with
  | some (.struct fs), some (.agg zs) => if fs.toList.all (fun f => (szOf P f.type).isSome) then some zs else none
  | some (.array n E), some (.agg zs) => if (szOf P E).isSome then some zs else none
  | _, _ => none
def placeAt (P : Program) (T : TypeId) (i : Nat) : Option (Nat × Nat) := match P.underlying T with
  | some (.struct fs) => fieldPlaces P fs i
  | some (.array n E) => (szOf P E).map fun sz => (i * sz, sz)
  | _ => none
theorem DoBuild_of {us : Option (List (Nat × AV))} : DoBuild P Z T us K = Got (bldZ P Z T) fun zs => Got us fun us => Need (PartsOk (placeAt P T) zs us ∧ ∀ x, x ∈ us → x.2.layable = true) (K (.agg (setParts zs us))) := by
  unfold DoBuild bldZ
  cases h1 : P.underlying T with
  | none => rfl
  | some D =>
    cases D <;> try rfl
    · rename_i n E
      cases Z T with
      | none => rfl
      | some z =>
        cases z <;> try rfl
        rename_i zs
        simp only
        cases hE : szOf P E with
        | none => cases us <;> simp [Got, hE]
        | some sz =>
          have hp : placeAt P T = fun i => some (i * sz, sz) := by funext i; simp [placeAt, h1, hE]
          cases us with
          | none => rfl
          | some us => simp only [Got, Need, hp, hE, Option.isSome_some, if_true]
    · rename_i fs
      cases Z T with
      | none => rfl
      | some z =>
        cases z <;> try rfl
        rename_i zs
        simp only
        have hp : placeAt P T = fieldPlaces P fs := by funext i; simp [placeAt, h1]
        by_cases hall : fs.toList.all (fun f => (szOf P f.type).isSome) = true
        · rw [if_pos hall]
          have h2 : ∀ f, f ∈ fs.toList → (szOf P f.type).isSome = true := fun f hf => List.all_eq_true.1 hall f hf
          cases us with
          | none => rfl
          | some us => simp only [Got, Need, hp]; exact propext ⟨fun h => ⟨⟨h.1.2.1, h.1.2.2⟩, h.2⟩, fun h => ⟨⟨h2, h.1.1, h.1.2⟩, h.2⟩⟩
        · rw [if_neg hall]
          cases us with
          | none => rfl
          | some us =>
            simp only [Got]
            refine propext ⟨fun h => hall (List.all_eq_true.2 fun f hf => h.1.1 f hf), fun h => h.elim⟩
theorem PartsOk_nil {pl : Nat → Option (Nat × Nat)} {vs : List AV} : PartsOk pl vs [] = True := rfl
theorem PartsOk_cons {pl : Nat → Option (Nat × Nat)} {vs : List AV} {i : Nat} {u : AV} {r : List (Nat × AV)} : PartsOk pl vs ((i, u) :: r) = (u.layable = true ∧ (∃ old, vs[i]? = some old ∧ u.size = old.size ∧ pl i = some (AV.sizeL (vs.take i), u.size)) ∧ PartsOk pl (vs.set i u) r) := rfl
theorem setParts_nil {vs : List AV} : setParts vs [] = vs := rfl
theorem setParts_cons {vs : List AV} {i : Nat} {u : AV} {r : List (Nat × AV)} : setParts vs ((i, u) :: r) = setParts (vs.set i u) r := rfl
def isAggT (P : Program) (T : TypeId) : Option Bool := (P.underlying T).map isAggD
theorem isAggT_ex {b : Bool} : (∃ d, P.underlying T = some d ∧ isAggD d = b) = (isAggT P T = some b) := by
  unfold isAggT
  cases P.underlying T with
  | none => simp
  | some d => simp
theorem LoadOk_agg {vs : List AV} : LoadOk P T (.agg vs) = (isAggT P T = some true ∧ szOf P T = some (AV.sizeL vs)) := by simp only [LoadOk, isAggT_ex]
theorem LoadOk_int {k : IntKind} {i : Int} : LoadOk P T (.int k i) = (isAggT P T = some false) := by simp only [LoadOk, isAggT_ex]
theorem LoadOk_bool {b : Bool} : LoadOk P T (.bool b) = (isAggT P T = some false) := by simp only [LoadOk, isAggT_ex]
theorem LoadOk_str {b : ByteArray} : LoadOk P T (.str b) = (isAggT P T = some false) := by simp only [LoadOk, isAggT_ex]
theorem LoadOk_vsl {es : List AV} {l : Nat} : LoadOk P T (.vsl es l) = (isAggT P T = some false) := by simp only [LoadOk, isAggT_ex]
theorem LoadOk_nilsl : LoadOk P T .nilsl = (isAggT P T = some false) := by simp only [LoadOk, isAggT_ex]
theorem LoadOk_sl {nn off : Nat} {p : List Nat} {i len cap wd : Nat} : LoadOk P T (.sl nn off p i len cap wd) = (isAggT P T = some false) := by simp only [LoadOk, isAggT_ex]
theorem LoadOk_ptr {nn off : Nat} {p : List Nat} : LoadOk P T (.ptr nn off p) = (isAggT P T = some false) := by simp only [LoadOk, isAggT_ex]
theorem LoadOk_nilptr : LoadOk P T .nilptr = (isAggT P T = some false) := by simp only [LoadOk, isAggT_ex]
theorem lenAV_str {t : ByteArray} : lenAV P T (.str t) = if isStrT P T = true then some t.size else none := by
  unfold lenAV isStrT
  cases P.underlying T with
  | none => simp
  | some d => cases d <;> simp
theorem lenAV_vsl {es : List AV} {l : Nat} : lenAV P T (.vsl es l) = match P.underlying T with
  | some (.slice _) => some l
  | some (.array n _) => some n
  | _ => none := rfl
theorem lenAV_sl {nn off : Nat} {p : List Nat} {i len cap wd : Nat} : lenAV P T (.sl nn off p i len cap wd) = match P.underlying T with
  | some (.slice _) => some len
  | some (.array n _) => some n
  | _ => none := rfl
theorem lenAV_nilsl : lenAV P T .nilsl = match P.underlying T with
  | some (.slice _) => some 0
  | some (.array n _) => some n
  | _ => none := rfl
end
theorem binI_add {k : IntKind} {a b : Int} : binI .add k a b = some (.int k (k.wrap (a + b))) := rfl
theorem binI_sub {k : IntKind} {a b : Int} : binI .sub k a b = some (.int k (k.wrap (a - b))) := rfl
theorem binI_mul {k : IntKind} {a b : Int} : binI .mul k a b = some (.int k (k.wrap (a * b))) := rfl
theorem binI_eql {k : IntKind} {a b : Int} : binI .eql k a b = some (.bool (a == b)) := rfl
theorem binI_neq {k : IntKind} {a b : Int} : binI .neq k a b = some (.bool (a != b)) := rfl
theorem binI_lss {k : IntKind} {a b : Int} : binI .lss k a b = some (.bool (decide (a < b))) := rfl
theorem binI_leq {k : IntKind} {a b : Int} : binI .leq k a b = some (.bool (decide (a ≤ b))) := rfl
theorem binI_gtr {k : IntKind} {a b : Int} : binI .gtr k a b = some (.bool (decide (b < a))) := rfl
theorem binI_geq {k : IntKind} {a b : Int} : binI .geq k a b = some (.bool (decide (b ≤ a))) := rfl
end Go.Proofs.Ytbhhbadeabhfcaa
