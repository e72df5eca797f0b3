/- Memory that is lent to a callee that wants data only; more equations of the evaluator. -/
import Derived.Test.YtbhhbadeabhfcaaF26
set_option linter.unusedVariables false
set_option linter.unusedSimpArgs false
namespace Go.Proofs.Ytbhhbadeabhfcaa
open Go Go.RowKit

/-- A callee that wants data only is lent memory of the caller's own: what is not told on is immutable from then on. -/
theorem ACall.lend {P : Program} {f : FuncId} {args args' : List AV} {v : AV} {H put : Heap} (hc : ACall P f args [] v [])
    (hargs : All2 (Frz (fun n => Heap.get put n ≠ none) H) args' args)
    (hput : ∀ n b, Heap.get put n = some b → ∃ b0, Heap.get H n = some b0 ∧ BFrz (fun n => Heap.get put n ≠ none) H b0 b) : ACall P f args' H v put := by
  intro w I ρ cargs hsz hrel hbl hinj himm hfr
  let K : Nat → Prop := fun n => Heap.get put n ≠ none
  let I1 : Nat → Prop := fun b => I b ∨ ∃ n blk o r, Heap.get H n = some blk ∧ ¬ K n ∧ ρ n = some (b, o, r)
  have hI : ∀ b, I b → I1 b := fun b h => .inl h
  have hfz : ∀ n blk b o r, Heap.get H n = some blk → ¬ K n → ρ n = some (b, o, r) → I1 b := fun n blk b o r h1 h2 h3 => .inr ⟨n, blk, o, r, h1, h2, h3⟩
  have hlen := All2.length hargs
  have hrel1 : ∀ k, k < args.length → XRel w I1 ρ (args.getD k .undef) (cargs.getD k Go.undef) := fun k hk =>
    Frz.rel hI (fun _ _ _ h => h) hbl hfz (All2.get .undef .undef hargs k (by omega)) (hrel k (by omega))
  have himm1 : Imm (OwnW ρ (([] : Heap).map (·.1))) w I1 := fun b hb => ⟨by
    rcases hb with hb | ⟨n, blk, o, r, h1, h2, h3⟩
    · exact (himm b hb).1
    · exact (hbl n blk h1).lt h3, fun ⟨n, hn, _⟩ => by simp at hn⟩
  have hcall := hc w I1 ρ cargs (by omega) hrel1 (fun n b h => by simp [Heap.get] at h) (fun n m x y _ h => by simp [Heap.get] at h) himm1 (fun n x h => by simp [Heap.get] at h)
  refine Calls.mono hcall ?_
  rintro e w' ⟨c, I', ρ', rfl, hp⟩
  have hkeep : ∀ b, b < w.heap.size → w'.heap[b]? = w.heap[b]? := fun b hb => hp.ext.keep b hb (fun ⟨n, hn, _⟩ => by simp at hn)
  have hnI : ∀ n b0 b o r, K n → Heap.get H n = some b0 → ρ n = some (b, o, r) → ¬ I b → ¬ I' b := by
    intro n b0 b o r hk hn hr hnb hb
    rcases hp.ext.new b hb with (h | ⟨n', blk, o', r', h1, h2, h3⟩) | ⟨m, hm, _⟩ | h
    · exact hnb h
    · exact hinj n n' b0 blk (fun h => by subst h; exact h2 hk) hn h1 b o r b o' r' hr h3 rfl
    · simp at hm
    · have := (hbl n b0 hn).lt hr; omega
  refine ⟨c, I', ρ', rfl, ⟨hp.val, fun n b hn => ?_, fun n m x y hnm h1 h2 b o r b' o' r' hr hr' => ?_, fun n x hn b o r hr => ?_, ⟨hp.ext.os, hp.ext.tape, hp.ext.output, hp.ext.size, fun b hb _ => hkeep b hb, fun b hb => hp.ext.imm b (hI b hb), fun b hb => ?_, hp.ext.rho⟩, hp.lt, fun n hn _ => hp.fresh n hn rfl⟩⟩
  · obtain ⟨b0, h0, hfb⟩ := hput n b hn
    have hKn : K n := ne_none hn
    have hrel0 := hbl n b0 h0
    cases b0 with
    | cells x0 =>
      cases b with
      | cells y0 =>
        obtain ⟨bb, o, r, h1, h2, h3⟩ := hrel0
        have hlt := h3.lt
        obtain ⟨arr, T, fz, g1, g2, g3, g4, g5⟩ := h3.ex
        have hfl := Frz.flat hI (fun _ _ _ h => h) hbl hfz hfb
        have hcs := hfl ((arr.toList.drop o).take x0.flat.length) ⟨by simp; omega, fun k hk => by
          have := g5 k hk
          have e1 : ((arr.toList.drop o).take x0.flat.length).getD k Go.undef = arr.getD (o + k) Go.undef := by
            rw [← getD_toList]
            simp only [List.getD_eq_getElem?_getD, List.getElem?_take, hk, if_true, List.getElem?_drop]
          rw [e1]; exact this⟩
        obtain ⟨q1, q2⟩ := hcs
        have q1' : y0.flat.length = x0.flat.length := by rw [← q1]; simp; omega
        have hl1 : Lies w I1 ρ bb o r y0.flat := ⟨arr, T, fz, g1, g2, g3, by omega, fun k hk => by
          have := q2 k hk
          have e1 : ((arr.toList.drop o).take x0.flat.length).getD k Go.undef = arr.getD (o + k) Go.undef := by
            rw [← getD_toList]
            have : k < x0.flat.length := by omega
            simp only [List.getD_eq_getElem?_getD, List.getElem?_take, this, if_true, List.getElem?_drop]
          rwa [e1] at this⟩
        exact ⟨bb, o, r, hp.ext.rho n _ h1, hnI n _ bb o r hKn h0 h1 h2, hl1.mono hp.ext himm1 (hkeep bb hlt)⟩
      | map es => exact hfb.elim
    | map es =>
      cases b with
      | cells y0 => exact hfb.elim
      | map ds =>
        obtain ⟨rfl, hon⟩ := hfb
        obtain ⟨bb, o, r, h1, h2, h3⟩ := hrel0
        have hlt := h3.lt
        have hb1 : BRel w I1 ρ n (.map es) := ⟨bb, o, r, h1, fun h => hnI n _ bb o r hKn h0 h1 h2 (hp.ext.imm _ h), by
          have hx : Ext (fun b => ¬ I b) w w I I1 ρ ρ := ⟨rfl, rfl, rfl, Nat.le_refl _, fun _ _ _ => rfl, hI, fun b hb => by
            by_cases h : I b
            · exact .inl h
            · exact .inr (.inl h), fun _ _ h => h⟩
          exact h3.mono hx (fun b hb => ⟨(himm b hb).1, fun h => h hb⟩) rfl⟩
        obtain ⟨bb', o', r', h1', h2', h3'⟩ := hb1
        rw [h1] at h1'; cases h1'
        exact ⟨bb, o, r, hp.ext.rho n _ h1, hnI n _ bb o r hKn h0 h1 h2, h3'.mono hp.ext himm1 (hkeep bb hlt)⟩
  · obtain ⟨x0, hx0, _⟩ := hput n x h1
    obtain ⟨y0, hy0, _⟩ := hput m y h2
    obtain ⟨b1, o1, r1, e1, _⟩ := (hbl n x0 hx0).dom
    obtain ⟨b2, o2, r2, e2, _⟩ := (hbl m y0 hy0).dom
    have f1 := hp.ext.rho n _ e1
    have f2 := hp.ext.rho m _ e2
    rw [hr] at f1; cases f1
    rw [hr'] at f2; cases f2
    exact hinj n m x0 y0 hnm hx0 hy0 _ _ _ _ _ _ e1 e2
  · obtain ⟨x0, hx0, _⟩ := hput n x hn
    obtain ⟨b1, o1, r1, e1, _⟩ := (hbl n x0 hx0).dom
    have f1 := hp.ext.rho n _ e1
    rw [hr] at f1; cases f1
    exact .inl ⟨n, get_map hx0, o, r, e1⟩
  · rcases hp.ext.new b hb with (h | ⟨n', blk, o', r', h1, h2, h3⟩) | ⟨m, hm, _⟩ | h
    · exact .inl h
    · exact .inr (.inl ⟨n', get_map h1, o', r', h3⟩)
    · simp at hm
    · exact .inr (.inr h)

/-- A call by such a contract. -/
theorem CallTo.lend {P : Program} {o : Oper} {s : St} {K : Eff → Nat → Prop} {f : FuncId} {as : Array Operand} {ts : Array TypeId} {args args' : List AV} {v : AV} (HH put : Heap)
    (ho : o.op = .call { callee := .value (.func f), args := as, argTypes := ts }) (hok : fnOk P f = true) (hargs : as.toList.map s.ev = args'.map some) (hta : ∀ x, x ∈ args' → ∀ vs, x ≠ .tuple vs)
    (hc : ACall P f args [] v []) (hH : ∀ n b, Heap.get HH n = some b → Heap.get s.H n = some b) (hfz : All2 (Frz (fun n => Heap.get put n ≠ none) HH) args' args)
    (hput : ∀ n b, Heap.get put n = some b → ∃ b0, Heap.get HH n = some b0 ∧ BFrz (fun n => Heap.get put n ≠ none) HH b0 b)
    (hK : K ⟨v, [], HH.map (·.1), put⟩ s.nx) : CallTo P o s K := by
  refine ⟨_, s.nx, ls_call (caps := []) ho rfl hok hargs hta (fun x hx => by simp at hx) (by simpa using hc.lend hfz hput) hH, ⟨Nat.le_refl _, fun n x hn hw => ?_, fun n hn => ?_⟩, by simpa using hK⟩
  · obtain ⟨b0, h0, _⟩ := hput n x hn
    exact absurd (get_map h0) hw
  · obtain ⟨b, hb⟩ := get_mem hn
    exact ⟨b, hH n b hb⟩

section
variable {P : Program} {T S D : TypeId} {n : Nat} {t : Env} {H : Heap} {m : Nat} {K : Eff → Nat → Prop}
theorem binI_quo {k : IntKind} {a b : Int} : binI .quo k a b = if b = 0 then none else some (.int k (k.wrap (a.tdiv b))) := rfl
theorem binI_rem {k : IntKind} {a b : Int} : binI .rem k a b = if b = 0 then none else some (.int k (a.tmod b)) := rfl
theorem binI_and {k : IntKind} {a b : Int} : binI .and k a b = some (.int k (bAnd k a b)) := rfl
theorem binI_or {k : IntKind} {a b : Int} : binI .or k a b = some (.int k (bOr k a b)) := rfl
theorem binI_xor {k : IntKind} {a b : Int} : binI .xor k a b = some (.int k (bXor k a b)) := rfl
theorem binI_shl {k : IntKind} {a b : Int} : binI .shl k a b = if b < 0 then none else some (.int k (bShl k a b)) := rfl
theorem binI_shr {k : IntKind} {a b : Int} : binI .shr k a b = if b < 0 then none else some (.int k (bShr k a b)) := rfl
theorem binS_eql {a b : ByteArray} : binS .eql a b = some (.bool (strEq a b)) := rfl
theorem binS_neq {a b : ByteArray} : binS .neq a b = some (.bool (!strEq a b)) := rfl
theorem binS_add {a b : ByteArray} : binS .add a b = if a.size + b.size ≤ 9223372036854775807 then some (.str (a ++ b)) else none := rfl
theorem shifty_shl : shifty .shl = true := rfl
theorem shifty_shr : shifty .shr = true := rfl
theorem DoBin_str {op : BinOp} {T : TypeId} {a b : ByteArray} {K : AV → Prop} : DoBin P op T (some (.str a)) (some (.str b)) K = Got (binS op a b) K := by
  simp only [DoBin, Got]
  cases binS op a b <;> rfl
/-- A row of bytes. -/
def isByT (P : Program) (T : TypeId) : Bool := match P.underlying T with
  | some (.slice E) => match P.underlying E with
    | some (.int .u8) => true
    | _ => false
  | _ => false
theorem DoConvert_src {u : AV} (hu : (∀ k i, u ≠ .int k i) ∧ ∀ x, u ≠ .str x) : DoConvert P S D (some u) ⟨n, t, H, m⟩ K = Need (isByT P S = true ∧ isStrT P D = true) (SrcAt H 1 u fun rd xs => Got (bytesOf xs) fun bs => K ⟨.str ⟨bs.toArray⟩, rd, [], []⟩ m) := by
  have key : ∀ X : Prop, (match P.underlying S, P.underlying D with
    | some (.slice E), some .string => P.underlying E = some (.int .u8) ∧ X
    | _, _ => False) = ((isByT P S = true ∧ isStrT P D = true) ∧ X) := by
    intro X
    unfold isByT isStrT
    cases h1 : P.underlying S with
    | none => simp
    | some d1 =>
      cases d1 with
      | slice E =>
        cases h2 : P.underlying D with
        | none => simp
        | some d2 =>
          cases d2 with
          | string =>
            simp only [and_true]
            cases h3 : P.underlying E with
            | none => simp
            | some d3 => cases d3 with
              | int k => cases k <;> simp
              | _ => simp
          | _ => simp
      | _ => simp
  have e : (fun rd xs => match bytesOf xs with
      | some bs => K ⟨.str ⟨bs.toArray⟩, rd, [], []⟩ m
      | none => False) = fun rd xs => Got (bytesOf xs) fun bs => K ⟨.str ⟨bs.toArray⟩, rd, [], []⟩ m := by
    funext rd xs
    cases bytesOf xs <;> rfl
  rw [Need, SrcAt, ← e, ← key]
  cases u <;> first | exact absurd rfl (hu.1 _ _) | exact absurd rfl (hu.2 _) | rfl
theorem DoConvert_sl {nn off : Nat} {p : List Nat} {i len cap wd : Nat} : DoConvert P S D (some (.sl nn off p i len cap wd)) ⟨n, t, H, m⟩ K = Need (isByT P S = true ∧ isStrT P D = true) (SrcAt H 1 (.sl nn off p i len cap wd) fun rd xs => Got (bytesOf xs) fun bs => K ⟨.str ⟨bs.toArray⟩, rd, [], []⟩ m) :=
  DoConvert_src ⟨fun k i h => (by cases h), fun x h => (by cases h)⟩
theorem DoConvert_vsl {es : List AV} {len : Nat} : DoConvert P S D (some (.vsl es len)) ⟨n, t, H, m⟩ K = Need (isByT P S = true ∧ isStrT P D = true) (SrcAt H 1 (.vsl es len) fun rd xs => Got (bytesOf xs) fun bs => K ⟨.str ⟨bs.toArray⟩, rd, [], []⟩ m) :=
  DoConvert_src ⟨fun k i h => (by cases h), fun x h => (by cases h)⟩
theorem DoConvert_nil : DoConvert P S D (some .nilsl) ⟨n, t, H, m⟩ K = Need (isByT P S = true ∧ isStrT P D = true) (SrcAt H 1 .nilsl fun rd xs => Got (bytesOf xs) fun bs => K ⟨.str ⟨bs.toArray⟩, rd, [], []⟩ m) :=
  DoConvert_src ⟨fun k i h => (by cases h), fun x h => (by cases h)⟩
end
/-- What row stands there. -/
def aggAt (r : AV) : Option (List AV) := match r with
  | .agg es => some es
  | _ => none
theorem aggAt_agg {es : List AV} : aggAt (.agg es) = some es := rfl
theorem SrcAt_sl' {wd nn off i len cap wd' : Nat} {p : List Nat} {H : Heap} {K : List Nat → List AV → Prop} : SrcAt H wd (.sl nn off p i len cap wd') K = GotC (Heap.get H nn) fun root => Got (root.proj p) fun r => Got (aggAt r) fun es =>
    Need (wd' = wd ∧ off = root.offOf p + i * wd ∧ i + len ≤ es.length ∧ Unif wd es) (K [nn] ((es.drop i).take len)) := by
  simp only [SrcAt, Src, GotC, Got, Need]
  cases Heap.get H nn with
  | none => rfl
  | some b =>
    cases b <;> try rfl
    rename_i root
    simp only
    cases root.proj p with
    | none => rfl
    | some r => cases r <;> rfl

/-- Names from c on, moved by m. -/
def shiftC (c m k : Nat) : Nat := if k < c then k else m + k
theorem shiftC_inj {c m a b : Nat} (h : shiftC c m a = shiftC c m b) : a = b := by
  unfold shiftC at h
  split at h <;> split at h <;> omega
abbrev Foot.shift (c m : Nat) (f : Foot) : Foot := (f.1.map (shiftC c m), f.2.map (shiftC c m))
theorem meets_shift (c m : Nat) (a b : List Nat) : meets (a.map (shiftC c m)) (b.map (shiftC c m)) = meets a b := by
  rw [Bool.eq_iff_iff]
  simp only [meets, List.any_eq_true, List.contains_iff_mem, List.mem_map]
  constructor
  · rintro ⟨x, ⟨y, hy, rfl⟩, z, hz, hzy⟩
    exact ⟨y, hy, shiftC_inj hzy ▸ hz⟩
  · rintro ⟨x, hx, hb⟩
    exact ⟨_, ⟨x, hx, rfl⟩, x, hb, rfl⟩
theorem heapApart_shift (c m : Nat) (x y : Foot) : heapApart (x.shift c m) (y.shift c m) = heapApart x y := by
  simp only [heapApart, Foot.shift, meets_shift]
theorem rowOk_shift (c n : Nat) {all : Array Oper} {m : Nat} {oj : Oper} {fj : Foot} : ∀ (i : Nat) (os : List Oper) (fs : List Foot), rowOk all m oj (fj.shift c n) i os (fs.map (Foot.shift c n)) = rowOk all m oj fj i os fs
  | _, [], fs => by simp [rowOk]
  | _, _ :: _, [] => by simp [rowOk]
  | i, o :: os, f :: fs => by
    simp only [List.map_cons, rowOk, pairOk]
    rw [rowOk_shift c n (i + 1) os fs, heapApart_shift]
theorem confGo_shift (c n : Nat) {all : Array Oper} {ops0 : List Oper} {fs0 : List Foot} : ∀ (j : Nat) (os : List Oper) (fs : List Foot) (ms : List Nat), confGo all ops0 (fs0.map (Foot.shift c n)) j os (fs.map (Foot.shift c n)) ms = confGo all ops0 fs0 j os fs ms
  | _, [], _, _ => by simp [confGo]
  | _, _ :: _, [], _ => by simp [confGo]
  | _, _ :: _, _ :: _, [] => by simp [confGo]
  | j, o :: os, f :: fs, m :: ms => by
    simp only [List.map_cons, confGo]
    rw [confGo_shift c n (j + 1) os fs ms, ← List.map_take, rowOk_shift]
theorem confOk_shift (c m : Nat) {ops : List Oper} {fs : List Foot} (fs' : List Foot) (h : fs = fs'.map (Foot.shift c m)) (hk : confOk ops fs' = true) : confOk ops fs = true := by
  subst h
  rw [confOk, confGo_shift]; exact hk
end Go.Proofs.Ytbhhbadeabhfcaa
