import Derived.Test.YtimdepgenefkmaaPR2
import Derived.Test.YtimdepgenefkmaaQ25
set_option linter.unusedVariables false
set_option linter.unusedSimpArgs false
namespace Go.Proofs.Ytimdepgenefkmaa
open Go Go.ChangeShapes Go.WideShapes Go.ChangeAt Go.RowKit

theorem idav_inv {u : AV} (h : TyAV Try.prog 24 u) : ∃ (uu : Bool) (no : Nat), no < 65536 ∧ u = idAV uu no := by
  obtain ⟨us, rfl, hl, hf⟩ := TyAV.struct_inv Try.underlying24 h
  rcases us with _ | ⟨a, _ | ⟨b, _ | ⟨x, r⟩⟩⟩ <;> try (simp at hl; done)
  obtain ⟨a', rfl⟩ := TyAV.bool_inv Try.underlying4 (hf 0 _ a rfl rfl)
  obtain ⟨b', rfl, b1, b2⟩ := TyAV.int_inv Try.underlying22 (hf 1 _ b rfl rfl)
  simp only [IntKind.min, IntKind.max, IntKind.signed, IntKind.bits] at b1 b2
  simp at b1 b2
  refine ⟨a', b'.toNat, by omega, ?_⟩
  show AV.agg [.bool a', .int .u16 b'] = .agg [.bool a', .int .u16 (b'.toNat : Int)]
  rw [Int.toNat_of_nonneg b1]
theorem rc_inv {u : AV} (h : TyAV Try.prog 34 u) : ∃ r : Rc, r.Ok ∧ u = r.av := by
  obtain ⟨us, rfl, hl, hf⟩ := TyAV.struct_inv Try.underlying34 h
  rcases us with _ | ⟨a, _ | ⟨b, _ | ⟨c, _ | ⟨d, _ | ⟨e, _ | ⟨f, _ | ⟨g, _ | ⟨k, _ | ⟨x, r⟩⟩⟩⟩⟩⟩⟩⟩⟩ <;> try (simp at hl; done)
  obtain ⟨a', rfl, a1, a2⟩ := TyAV.int_inv Try.underlying5 (hf 0 _ a rfl rfl)
  obtain ⟨uu, no, hno, rfl⟩ := idav_inv (hf 1 _ b rfl rfl)
  obtain ⟨im, him, rfl⟩ := page_inv (hf 2 _ c rfl rfl)
  obtain ⟨d', rfl, d1, d2⟩ := TyAV.int_inv Try.underlying28 (hf 3 _ d rfl rfl)
  obtain ⟨cs, rfl, hcl, hcf⟩ := TyAV.struct_inv Try.underlying30 (hf 4 _ e rfl rfl)
  rcases cs with _ | ⟨m, _ | ⟨y, _ | ⟨x, r⟩⟩⟩ <;> try (simp at hcl; done)
  obtain ⟨m', rfl, m1, m2⟩ := TyAV.int_inv Try.underlying22 (hcf 0 _ m rfl rfl)
  obtain ⟨y', rfl⟩ := byte_inv (hcf 1 _ y rfl rfl)
  obtain ⟨s, rfl, hs⟩ := TyAV.str_inv Try.underlying9 (hf 5 _ f rfl rfl)
  obtain ⟨sl, rfl, hsl⟩ := str_list (b := s) (by simpa [maxLen] using hs)
  obtain ⟨g', rfl, g1, g2⟩ := TyAV.int_inv Try.underlying5 (hf 6 _ g rfl rfl)
  obtain ⟨o, ho, rfl⟩ := od_inv (hf 7 _ k rfl rfl)
  simp only [IntKind.min, IntKind.max, IntKind.signed, IntKind.bits] at a1 a2 d1 d2 m1 m2 g1 g2
  simp at a1 a2 d1 d2 m1 m2 g1 g2
  refine ⟨⟨a'.toNat, uu, no, im, d'.toNat, m'.toNat, y', sl, g'.toNat, o⟩, ⟨show a'.toNat < _ by omega, hno, him, show d'.toNat < _ by omega, show m'.toNat < _ by omega, hsl, show g'.toNat < _ by omega, ho⟩, ?_⟩
  show AV.agg [.int .u8 a', idAV uu no, arrAV im, .int .u32 d', .agg [.int .u16 m', byteAV y'], .str ⟨sl.toArray⟩, .int .u8 g', o.av] = AV.agg [.int .u8 (a'.toNat : Int), .agg [.bool uu, .int .u16 no], arrAV im, .int .u32 (d'.toNat : Int), .agg [.int .u16 (m'.toNat : Int), .int .u8 (y'.toNat : Int)], .str ⟨sl.toArray⟩, .int .u8 (g'.toNat : Int), o.av]
  rw [Int.toNat_of_nonneg a1, Int.toNat_of_nonneg d1, Int.toNat_of_nonneg m1, Int.toNat_of_nonneg g1]
  rfl
theorem en_inv {u : AV} (h : TyAV Try.prog 36 u) : ∃ e : En, e.Ok ∧ u = e.av := by
  obtain ⟨us, rfl, hl, hf⟩ := TyAV.struct_inv Try.underlying36 h
  rcases us with _ | ⟨a, _ | ⟨b, _ | ⟨x, r⟩⟩⟩ <;> try (simp at hl; done)
  obtain ⟨a', rfl, a1, a2⟩ := TyAV.int_inv Try.underlying27 (hf 0 _ a rfl rfl)
  obtain ⟨r, hr, rfl⟩ := rc_inv (hf 1 _ b rfl rfl)
  simp only [IntKind.min, IntKind.max, IntKind.signed, IntKind.bits] at a1 a2
  simp at a1 a2
  refine ⟨⟨a'.toNat, r⟩, ⟨show a'.toNat < _ by omega, hr⟩, ?_⟩
  show AV.agg [.int .u64 a', r.av] = AV.agg [.int .u64 (a'.toNat : Int), r.av]
  rw [Int.toNat_of_nonneg a1]
theorem map_inv2 {α : Type} {f : α → AV} {P : α → Prop} : ∀ {es : List AV}, (∀ x, x ∈ es → ∃ a, P a ∧ x = f a) → ∃ l : List α, (∀ a, a ∈ l → P a) ∧ es = l.map f
  | [], _ => ⟨[], fun a h => by (cases h), rfl⟩
  | x :: es, h => by
    obtain ⟨a, ha, rfl⟩ := h x (List.mem_cons_self ..)
    obtain ⟨l, hl, rfl⟩ := map_inv2 fun y hy => h y (List.mem_cons_of_mem _ hy)
    exact ⟨a :: l, fun b hb => by
      rcases List.mem_cons.1 hb with rfl | hb
      · exact ha
      · exact hl b hb, rfl⟩
set_option maxRecDepth 20000 in
theorem arg_ens {W : World} {r : Reach} {b0 : Nat} {H : Type} {enc : TypeId × Value → H} {v : Value} {d : DataW H} {p : List MemPlace} (hv : Value.okWide Try.prog W r b0 44 v) (h : DataW.Trod enc Try.prog W 0 (fun _ => true) true 44 v d p) :
    ∃ l : List En, (∀ e, e ∈ l → e.Ok) ∧ l.length ≤ 9223372036854775807 ∧ XRel W (Old0 W) (fun _ => none) (ensAV l) v := by
  obtain ⟨fuel, h⟩ := h
  obtain ⟨u, h1, h2, h3⟩ := trod_rel (ρ := fun _ => none) fuel 10 44 _ _ (by kernel_rfl) h
  obtain ⟨es, rfl, hle, hes⟩ := TyAV.slice_inv Try.underlying44 h1
  obtain ⟨l, hl, rfl⟩ := map_inv2 (f := En.av) fun x hx => en_inv (hes x hx)
  rw [List.length_map] at hle
  refine ⟨l, hl, hle, ?_⟩
  rw [List.length_map] at h3
  exact xrel_one h3 (okWide_one (fun fs h => by rw [Try.underlying44] at h; cases h) (fun n e h => by rw [Try.underlying44] at h; cases h) hv) (fun vs h => by cases h) (fun vs h => by cases h)
end Go.Proofs.Ytimdepgenefkmaa
