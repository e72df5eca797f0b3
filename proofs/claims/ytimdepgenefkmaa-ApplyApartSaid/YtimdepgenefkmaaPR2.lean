/- Undo pages and names of pages as arguments. -/
import Derived.Test.YtimdepgenefkmaaPR1
import Derived.Test.YtimdepgenefkmaaP31
import Derived.Test.YtimdepgenefkmaaF34
import Derived.JoinedCond
set_option linter.unusedVariables false
set_option linter.unusedSimpArgs false
namespace Go.Proofs.Ytimdepgenefkmaa
open Go Go.ChangeShapes Go.WideShapes Go.ChangeAt Go.RowKit

theorem lit_u32 {n : Int} (h : (Lit.int IntKind.u32 n).wf = true) : ∃ m : Nat, n = m ∧ m < 4294967296 := by
  simp [Lit.wf, IntKind.min, IntKind.max, IntKind.bits, IntKind.signed] at h
  exact ⟨n.toNat, by omega, by omega⟩
theorem bulk_part {H : Type} {d : DataW H} {l : List (DataW H)} (h : d ∈ l) : Rows.uptoBulk d ≤ Rows.uptoBulkAll l := by
  induction l with
  | nil => cases h
  | cons x r ih =>
    simp only [Rows.uptoBulkAll]
    rcases List.mem_cons.1 h with e | e
    · subst e; omega
    · have := ih e; omega
theorem bulk_pos {H : Type} (d : DataW H) : 1 ≤ Rows.uptoBulk d := by
  cases d with
  | lit l => cases l <;> simp [Rows.uptoBulk]
  | _ => simp [Rows.uptoBulk]
theorem bulk_len {H : Type} : ∀ (l : List (DataW H)), l.length ≤ Rows.uptoBulkAll l
  | [] => by simp [Rows.uptoBulkAll]
  | d :: l => by
    have h1 := bulk_len l
    have h2 := bulk_pos d
    simp only [List.length_cons, Rows.uptoBulkAll]; omega
theorem bulk_vsl {H : Type} {d : DataW H} {es : List AV} {n : Nat} (h : DRel d (.vsl es n)) : es.length ≤ Rows.uptoBulk d := by
  generalize hu : AV.vsl es n = u at h
  cases h with
  | nil => injection hu with h1 h2; subst h1; simp
  | slice ds sp es' h1 h2 =>
    injection hu with h3 h4
    subst h3
    have := bulk_len ds
    simp only [Rows.uptoBulk]; omega
  | bool _ => cases hu
  | int _ _ => cases hu
  | str _ => cases hu
  | agg _ _ _ _ => cases hu
theorem str_list {b : ByteArray} (h : b.size ≤ maxLen) : ∃ s : List UInt8, b = ⟨s.toArray⟩ ∧ s.length ≤ 9223372036854775807 := by
  obtain ⟨a⟩ := b
  refine ⟨a.toList, by simp, ?_⟩
  have h2 : a.size ≤ maxLen := h
  simpa [maxLen] using h2
theorem od_inv {u : AV} (h : TyAV Try.prog 32 u) : ∃ o : Od, o.Ok ∧ u = o.av := by
  obtain ⟨us, rfl, hl, hf⟩ := TyAV.struct_inv Try.underlying32 h
  rcases us with _ | ⟨a, _ | ⟨b, _ | ⟨c, _ | ⟨e, _ | ⟨g, _ | ⟨x, r⟩⟩⟩⟩⟩⟩ <;> try (simp at hl; done)
  obtain ⟨a', rfl⟩ := TyAV.bool_inv Try.underlying4 (hf 0 _ a rfl rfl)
  obtain ⟨b', rfl, b1, b2⟩ := TyAV.int_inv Try.underlying22 (hf 1 _ b rfl rfl)
  obtain ⟨c', rfl, c1, c2⟩ := TyAV.int_inv Try.underlying28 (hf 2 _ c rfl rfl)
  obtain ⟨cs, rfl, hcl, hcf⟩ := TyAV.struct_inv Try.underlying30 (hf 3 _ e rfl rfl)
  rcases cs with _ | ⟨m, _ | ⟨k, _ | ⟨x, r⟩⟩⟩ <;> try (simp at hcl; done)
  obtain ⟨m', rfl, m1, m2⟩ := TyAV.int_inv Try.underlying22 (hcf 0 _ m rfl rfl)
  obtain ⟨k', rfl⟩ := byte_inv (hcf 1 _ k rfl rfl)
  obtain ⟨s, rfl, hs⟩ := TyAV.str_inv Try.underlying9 (hf 4 _ g rfl rfl)
  obtain ⟨sl, rfl, hsl⟩ := str_list (b := s) (by simpa [maxLen] using hs)
  simp only [IntKind.min, IntKind.max, IntKind.signed, IntKind.bits] at b1 b2 c1 c2 m1 m2
  simp at b1 b2 c1 c2 m1 m2
  refine ⟨⟨a', b'.toNat, c'.toNat, m'.toNat, k', sl⟩, ⟨show b'.toNat < _ by omega, show c'.toNat < _ by omega, show m'.toNat < _ by omega, hsl⟩, ?_⟩
  show AV.agg [.bool a', .int .u16 b', .int .u32 c', .agg [.int .u16 m', byteAV k'], .str ⟨sl.toArray⟩] = AV.agg [.bool a', .int .u16 (b'.toNat : Int), .int .u32 (c'.toNat : Int), .agg [.int .u16 (m'.toNat : Int), .int .u8 (k'.toNat : Int)], .str ⟨sl.toArray⟩]
  rw [Int.toNat_of_nonneg b1, Int.toNat_of_nonneg c1, Int.toNat_of_nonneg m1]
  rfl
theorem ud_inv {u : AV} (h : TyAV Try.prog 71 u) : ∃ x : Ud, x.Ok ∧ u = x.av := by
  obtain ⟨us, rfl, hl, hf⟩ := TyAV.struct_inv Try.underlying71 h
  rcases us with _ | ⟨a, _ | ⟨b, _ | ⟨x, r⟩⟩⟩ <;> try (simp at hl; done)
  obtain ⟨a', rfl, a1, a2⟩ := TyAV.int_inv Try.underlying27 (hf 0 _ a rfl rfl)
  obtain ⟨es, rfl, hle, hes⟩ := TyAV.slice_inv Try.underlying69 (hf 1 _ b rfl rfl)
  simp only [IntKind.min, IntKind.max, IntKind.signed, IntKind.bits] at a1 a2
  simp at a1 a2
  have hall : ∃ l : List Od, es = l.map Od.av ∧ ∀ o, o ∈ l → o.Ok := by
    clear hle hf hl h
    induction es with
    | nil => exact ⟨[], rfl, fun c hc => by simp at hc⟩
    | cons e es ih =>
      obtain ⟨c, hc, rfl⟩ := od_inv (hes e (by simp))
      obtain ⟨l, rfl, hl⟩ := ih fun x hx => hes x (by simp [hx])
      exact ⟨c :: l, rfl, fun x hx => by
        rcases List.mem_cons.1 hx with rfl | hx
        · exact hc
        · exact hl x hx⟩
  obtain ⟨l, rfl, hlo⟩ := hall
  rw [List.length_map] at hle
  refine ⟨⟨a'.toNat, l⟩, ⟨show a'.toNat < _ by omega, hle, hlo⟩, ?_⟩
  show AV.agg [.int .u64 a', .vsl (l.map Od.av) (l.map Od.av).length] = AV.agg [.int .u64 (a'.toNat : Int), odsAV l]
  rw [Int.toNat_of_nonneg a1, List.length_map]
theorem bulk_ud {H : Type} {d : DataW H} {u : Ud} (h : DRel d u.av) : u.olds.length ≤ Rows.uptoBulk d := by
  generalize hu : u.av = x at h
  cases h with
  | agg ds us h1 h2 =>
    injection hu with hu
    subst hu
    obtain ⟨d1, h3⟩ := list_get (xs := ds) (i := 1) (by rw [h1]; simp)
    have g3 := bulk_vsl (h2 1 d1 _ h3 rfl)
    have p3 := bulk_part (List.mem_of_getElem? h3)
    simp only [List.length_map] at g3
    simp only [Rows.uptoBulk]; omega
  | bool _ => cases hu
  | int _ _ => cases hu
  | str _ => cases hu
  | nil => cases hu
  | slice _ _ _ _ _ => cases hu
theorem arg_ud {W : World} {H : Type} {enc : TypeId × Value → H} {v : Value} {d : DataW H} {p : List MemPlace} (h : DataW.Trod enc Try.prog W 0 (fun _ => true) true 71 v d p) : ∃ u : Ud, u.Ok ∧ u.olds.length ≤ Rows.uptoBulk d ∧ XRel W (Old0 W) (fun _ => none) u.av v := by
  obtain ⟨fuel, h⟩ := h
  obtain ⟨u, h1, h2, h3, h4⟩ := trod_dat (ρ := fun _ => none) fuel 10 71 _ _ (by kernel_rfl) h
  obtain ⟨x, hx, rfl⟩ := ud_inv h1
  exact ⟨x, hx, bulk_ud h4, xrel_agg h3 (by simp [AV.sizeL, AV.size])⟩
theorem arg_id {W : World} {H : Type} {enc : TypeId × Value → H} {v : Value} {d : DataW H} {p : List MemPlace} (h : DataW.Trod enc Try.prog W 0 (fun _ => true) true 24 v d p) : ∃ (uu : Bool) (no : Nat), no < 65536 ∧ XRel W (Old0 W) (fun _ => none) (idAV uu no) v := by
  obtain ⟨fuel, h⟩ := h
  obtain ⟨u, h1, h2, h3⟩ := trod_rel (ρ := fun _ => none) fuel 10 24 _ _ (by kernel_rfl) h
  obtain ⟨us, rfl, hl, hf⟩ := TyAV.struct_inv Try.underlying24 h1
  rcases us with _ | ⟨a, _ | ⟨b, _ | ⟨x, r⟩⟩⟩ <;> try (simp at hl; done)
  obtain ⟨a', rfl⟩ := TyAV.bool_inv Try.underlying4 (hf 0 _ a rfl rfl)
  obtain ⟨b', rfl, b1, b2⟩ := TyAV.int_inv Try.underlying22 (hf 1 _ b rfl rfl)
  simp only [IntKind.min, IntKind.max, IntKind.signed, IntKind.bits] at b1 b2
  simp at b1 b2
  refine ⟨a', b'.toNat, by omega, ?_⟩
  have := xrel_agg h3 (by simp [AV.sizeL, AV.size])
  show XRel W (Old0 W) (fun _ => none) (.agg [.bool a', .int .u16 (b'.toNat : Int)]) v
  rw [Int.toNat_of_nonneg b1]; exact this
theorem trodAll_five {H : Type} {enc : TypeId × Value → H} {P : Program} {w : World} {base : Nat} {spare : Nat → Bool} {held : Bool} {t0 t1 t2 t3 t4 : TypeId} {args : Array Value} {ds : List (DataW H)} {ps : List MemPlace} (h : DataW.TrodAll enc P w base spare held [t0, t1, t2, t3, t4] args.toList ds ps) :
    ∃ v0 v1 v2 v3 v4 d0 d1 d2 d3 d4 p0 p1 p2 p3 p4, args = #[v0, v1, v2, v3, v4] ∧ ds = [d0, d1, d2, d3, d4] ∧ ps = p0 ++ p1 ++ p2 ++ p3 ++ p4 ∧ DataW.Trod enc P w base spare held t0 v0 d0 p0 ∧ DataW.Trod enc P w base spare held t1 v1 d1 p1 ∧ DataW.Trod enc P w base spare held t2 v2 d2 p2 ∧ DataW.Trod enc P w base spare held t3 v3 d3 p3 ∧ DataW.Trod enc P w base spare held t4 v4 d4 p4 := by
  obtain ⟨v0, s0, d0, e0, p0, q0, hargs, rfl, rfl, h0, r0⟩ := trodAll_cons h
  obtain ⟨v1, s1, d1, e1, p1, q1, rfl, rfl, rfl, h1, r1⟩ := trodAll_cons r0
  obtain ⟨v2, s2, d2, e2, p2, q2, rfl, rfl, rfl, h2, r2⟩ := trodAll_cons r1
  obtain ⟨v3, s3, d3, e3, p3, q3, rfl, rfl, rfl, h3, r3⟩ := trodAll_cons r2
  obtain ⟨v4, s4, d4, e4, p4, q4, rfl, rfl, rfl, h4, r4⟩ := trodAll_cons r3
  obtain ⟨rfl, rfl, rfl⟩ := trodAll_nil r4
  exact ⟨v0, v1, v2, v3, v4, d0, d1, d2, d3, d4, p0, p1, p2, p3, p4, by cases args; simp_all, rfl, by simp, h0, h1, h2, h3, h4⟩
end Go.Proofs.Ytimdepgenefkmaa
