/- The program's Join. -/
import Derived.Test.YtbhhbadeabhfcaaC24
set_option linter.unusedVariables false
set_option linter.unusedSimpArgs false
namespace Go.Proofs.Ytbhhbadeabhfcaa
open Go Go.RowKit

theorem DoSlice_nil0 {T E : TypeId} {lo hi : Option Operand} {n : Nat} {t : Env} {H : Heap} {m : Nat} {K : Eff → Nat → Prop} (hl : bndAV (St.ev ⟨n, t, H, m⟩) lo 0 = some 0) (hh : bndAV (St.ev ⟨n, t, H, m⟩) hi 0 = some 0) (hT : Try.prog.underlying T = some (.slice E)) (hs : (szOf Try.prog E).isSome = true)
    (h : K ⟨.nilsl, [], [], []⟩ m) : DoSlice Try.prog T (some .nilsl) lo hi ⟨n, t, H, m⟩ K := by
  unfold DoSlice
  simp only [hl, hh, hT]
  simpa [hs] using h
def jnT (first : Nat) (l : List Ch) (base : Nat) (e i : Nat) (x z : AV) : Env := [(31, .int .i64 i), (30, .int .i64 l.length), (29, rowC l), (11, .int .u32 e), (10, x), (9, z), (8, .int .u64 base), (0, .int .u32 first), (1, rowC l)]
def jnSt (first : Nat) (l : List Ch) (base : Nat) (b : List UInt8) (ss : List Sr) (e i c : Nat) : Bool → Bool → St
  | false, _ => ⟨90, jnT first l base e i .nilsl .nilsl, [], c + 1⟩
  | true, false => ⟨90, jnT first l base e i (.sl c 0 [] 0 i i 2) .nilsl, [(c, .cells (.agg (ss.map Sr.av)))], c + 1⟩
  | true, true => ⟨90, jnT first l base e i (.sl (c + 2) 0 [] 0 i i 2) (.sl c 0 [] 0 b.length b.length 1), [(c + 2, .cells (.agg (ss.map Sr.av))), (c, .cells (arrAV b))], c + 3⟩
set_option maxRecDepth 4000 in
theorem join_spec (first : Nat) (l : List Ch) (hf : first < 4294967296) (hl : l.length ≤ 100) (hw : AllWf l) (hs : sumB l ≤ 1048576) : ACall Try.prog 23 [.int .u32 (first : Int), rowC l] [] (joinAV (joinP first l)) [] := by
  refine ACall.run (Z := Z) (N := 90) mixed hZ Try.func23 rfl rfl (by kernel_rfl) (by simp) args_join 0 ?_
  have hf0 : ((first + 0) % 4294967296 : Nat) = first := by rw [Nat.add_zero, Nat.mod_eq_of_lt hf]
  have nofin : ∀ (t : Env) (H : Heap) (m : Nat), joinP first l = (0, [], [], 0) → look t 4 = some (.int .u64 0) → look t 5 = some (.str ⟨#[]⟩) → look t 6 = some .nilsl → look t 7 = some (.int .u32 0) →
      Final Try.prog Try.f23 (joinAV (joinP first l)) [] .ret ⟨90, t, H, m⟩ := by
    intro t H m hj h4 h5 h6 h7
    rw [hj]
    exact Final.many (.inr rfl) (rs := [.tmp 4, .tmp 5, .tmp 6, .tmp 7]) (us := [.int .u64 0, .str ⟨#[]⟩, .nilsl, .int .u32 0]) rfl ⟨⟨h4, fun vs h => by cases h⟩, ⟨h5, fun vs h => by cases h⟩, ⟨h6, fun vs h => by cases h⟩, ⟨h7, fun vs h => by cases h⟩, trivial⟩ (by simp) ⟨.same _ trivial, .same _ trivial, .nil, .same _ trivial, trivial⟩
  rcases Nat.eq_zero_or_pos l.length with h0 | h0
  · have hl0 : l = [] := List.eq_nil_of_length_eq_zero h0
    have d0 : ((l.length : Int) == 0) = true := by simp [h0]
    simp -dsimp -implicitDefEqProofs only [↓j0, ↓j1, ↓j2, ↓j7, ↓j10, ↓j12, ↓j13, ↓j15, j17, j18, j20, ↓j25, ↓j29, ↓j30, j32, j33, j34, j36, ↓j38, ↓j39, ↓j40, ↓j48, ↓j58, j68, ↓j76, j126, ↓j129, ↓j130, ↓j131, ↓j133, ↓j135, j141, argEnv, j147, j148, j156, j159, reduceCtorEq, ↓reduceIte, Nat.reduceEqDiff, j169, j180, j400, d0]
    exact nofin _ _ _ (by rw [hl0]; rfl) rfl rfl rfl rfl
  have d0 : ((l.length : Int) == 0) = false := by rw [beq_eq_false_iff_ne]; omega
  obtain ⟨y0, hy0⟩ := list_get (xs := l) (i := 0) h0
  have hlt0 : (0 : Int) < (l.length : Int) := by omega
  have hl0 : ∃ t, l = y0 :: t := by
    cases l with
    | nil => simp at h0
    | cons c r => simp at hy0; subst hy0; exact ⟨r, rfl⟩
  obtain ⟨t0, hl0⟩ := hl0
  obtain ⟨g, hg⟩ : ∃ g, (y0.no != first) = g := ⟨_, rfl⟩
  have d1 : ((y0.no : Int) != (first : Int)) = g := by rw [int_bne, hg]
  cases g
  case true =>
    simp -dsimp -implicitDefEqProofs only [↓j0, ↓j1, ↓j2, ↓j7, ↓j10, ↓j12, ↓j13, ↓j15, j17, j18, j20, ↓j25, ↓j29, ↓j30, j32, j33, j34, j36, ↓j38, ↓j39, ↓j40, ↓j43, ↓j45, ↓j46, ↓j48, ↓j58, ↓j64, ↓j67, j70, ↓j76, ↓j79, j117, j126, ↓j129, ↓j130, ↓j131, ↓j132, ↓j133, ↓j135, j141, j142, AV.proj, AV.offOf, AV.size, AV.sizeL, argEnv, j147, j148, j150, j151, j154, j155, j156, j159, j161, reduceCtorEq, ↓reduceIte, Nat.reduceEqDiff, Int.reduceToNat, j166, j169, j179, j180, j181, j190, j216, j218, j241, j252, j301, j400, d0, hlt0, hy0, d1]
    refine nofin _ _ _ ?_ rfl rfl rfl rfl
    rw [hl0, joinP, hg]; rfl
  have hno : y0.no = first := by simpa using hg
  simp -dsimp -implicitDefEqProofs only [↓j0, ↓j1, ↓j2, ↓j7, ↓j9, ↓j12, ↓j13, ↓j14, ↓j15, ↓j16, j17, j18, j20, ↓j25, ↓j29, ↓j30, j32, j33, j34, j36, ↓j38, ↓j39, ↓j40, ↓j43, ↓j45, ↓j46, ↓j48, ↓j58, ↓j64, ↓j67, j70, ↓j76, ↓j79, j117, j126, ↓j129, ↓j130, ↓j132, ↓j133, ↓j135, j141, j142, AV.proj, AV.offOf, AV.size, AV.sizeL, argEnv, j147, j148, j150, j151, j154, j155, j156, j159, j161, reduceCtorEq, ↓reduceIte, Nat.reduceAdd, Nat.reduceEqDiff, Int.reduceToNat, j166, j169, j179, j180, j181, j190, j216, j218, j241, j244, j252, j255, j301, j400, d0, hlt0, hy0, d1]
  obtain ⟨base, hbase⟩ : ∃ base, y0.off = base := ⟨_, rfl⟩
  rw [hbase]
  have hip : ∃ c t, l = c :: t ∧ base = c.off ∧ c.no = first := ⟨y0, t0, hl0, hbase.symm, hno⟩
  refine AWp.loopR (Z := Z) mixed hZ (by kernel_rfl) (fun n s => ∃ i c b ss e x z, i + n = l.length ∧ ss.length = i ∧ b.length ≤ sumB (l.take i) ∧ e < 4294967296 ∧ (i = 0 → b = [] ∧ ss = [] ∧ e = 0 ∧ x = false) ∧ (0 < i → x = true) ∧ (z = false → b = []) ∧ jGo first base l 0 [] [] 0 = jGo first base (l.drop i) i b ss e ∧ s = jnSt first l base b ss e i c x z) (n0 := l.length) (s0 := jnSt first l base [] [] 0 0 0 false false) ?_ ⟨0, 0, [], [], 0, false, false, by omega, rfl, by simp, by omega, fun _ => ⟨rfl, rfl, rfl, rfl⟩, fun h => by omega, fun _ => rfl, rfl, rfl⟩ ?_ rfl
  · exact Wk.sub (by simp -dsimp -implicitDefEqProofs only [↓j25, j163, reduceCtorEq, ↓reduceIte, Nat.reduceEqDiff, j166, j167, j168, j180, j186, j187, j188, j193, j210, jnT] <;> simp)
  rintro n s ⟨i, c, b, ss, e, x, z, hi, hss, hbl, he, hi0, hix, hz, hgo, rfl⟩
  refine ⟨by cases x <;> cases z <;> rfl, ?_⟩
  have hsT := sumB_take l i
  have hT : List.take i (ss.map Sr.av) = ss.map Sr.av := List.take_of_length_le (by simp; omega)
  have hTb : List.take b.length (b.map byteAV) = b.map byteAV := List.take_of_length_le (by simp)
  have fin : ∀ (t : Env) (H : Heap) (m : Nat), jGo first base l 0 [] [] 0 = (b, ss, e) → look t 4 = some (.int .u64 base) → look t 5 = some (.str ⟨b.toArray⟩) → look t 7 = some (.int .u32 e) →
      (x = false ∧ i = 0 ∧ look t 6 = some .nilsl ∨ ∃ c, look t 6 = some (.sl c 0 [] 0 i i 2) ∧ Heap.get H c = some (.cells (.agg (ss.map Sr.av)))) →
      Final Try.prog Try.f23 (joinAV (joinP first l)) [] .ret ⟨90, t, H, m⟩ := by
    intro t H m hbd h4 h5 h7 hx
    rw [joinP_of hip hbd]
    rcases hx with ⟨_, hi00, h6⟩ | ⟨c, h6, hH⟩
    · obtain ⟨_, hs0, _, _⟩ := hi0 hi00
      subst hs0
      exact Final.many (.inr rfl) (rs := [.tmp 4, .tmp 5, .tmp 6, .tmp 7]) (us := [.int .u64 base, .str ⟨b.toArray⟩, .nilsl, .int .u32 e]) rfl ⟨⟨h4, fun vs h => by cases h⟩, ⟨h5, fun vs h => by cases h⟩, ⟨h6, fun vs h => by cases h⟩, ⟨h7, fun vs h => by cases h⟩, trivial⟩ (by simp) ⟨.same _ trivial, .same _ trivial, .nil, .same _ trivial, trivial⟩
    · have := frz_sr (K := fun _ => False) (H := H) (n := c) (m := i) (c := i) (xs := ss) (fun h => h) (by omega) hH
      rw [List.take_of_length_le (by omega)] at this
      exact Final.many (.inr rfl) (rs := [.tmp 4, .tmp 5, .tmp 6, .tmp 7]) (us := [.int .u64 base, .str ⟨b.toArray⟩, .sl c 0 [] 0 i i 2, .int .u32 e]) rfl ⟨⟨h4, fun vs h => by cases h⟩, ⟨h5, fun vs h => by cases h⟩, ⟨h6, fun vs h => by cases h⟩, ⟨h7, fun vs h => by cases h⟩, trivial⟩ (by simp) ⟨.same _ trivial, .same _ trivial, this, .same _ trivial, trivial⟩
  have hub := unif_bytes b
  have hbo := bytesOf_bytes b
  rcases Nat.lt_or_ge i l.length with hlt | hge
  · have hd : decide ((i : Int) < (l.length : Int)) = true := decide_eq_true (by omega)
    have hlt1 : (i : Int) < (l.length : Int) := by omega
    obtain ⟨y, hy⟩ := list_get (xs := l) (i := i) (by omega)
    have hsz := sizeL_ch l i (by omega)
    have hyw := hw y (List.mem_of_getElem? hy)
    have hy1 := hyw.no
    have hy2 := hyw.ep
    have hy3 := hyw.off
    have hy4 := hyw.len
    have hw1 : IntKind.i64.wrap ((i : Int) + 1) = ((i + 1 : Nat) : Int) := by rw [wrap_i64 (by omega) (by omega)]; omega
    have hby : y.by_.length ≤ sumB l := by
      have h1 := sumB_append (l.take i) (l.drop i)
      rw [List.take_append_drop] at h1
      have : l.drop i = y :: l.drop (i + 1) := by
        rw [List.drop_eq_getElem_cons hlt]
        congr 1
        rw [List.getElem?_eq_getElem hlt] at hy
        exact Option.some.inj hy
      rw [this, sumB] at h1; omega
    have hsT2 : sumB (l.take (i + 1)) = sumB (l.take i) + y.by_.length := by rw [take_succ hy, sumB_append]; simp [sumB]
    have hja := jGo_at (first := first) (base := base) (b := b) (ss := ss) (e := e) hy
    have hu1 : Unif 2 [Sr.av ((y.no : Int), (y.off : Int))] := unif_sr [((y.no : Int), (y.off : Int))]
    have huL := unif_sr ss
    obtain ⟨fi, hfi⟩ : ∃ fi, (first + i) % 4294967296 = fi := ⟨_, rfl⟩
    have v1 : IntKind.u32.wrap (i : Int) = (i : Int) := by rw [wrap_u32, Nat.mod_eq_of_lt (by omega)]
    have v2 : IntKind.u32.wrap ((first : Int) + (i : Int)) = (fi : Int) := by
      rw [show (first : Int) + (i : Int) = ((first + i : Nat) : Int) by omega, wrap_u32, hfi]
    obtain ⟨g1, hg1⟩ : ∃ g, (y.no != fi) = g := ⟨_, rfl⟩
    have f1 : ((y.no : Int) != (fi : Int)) = g1 := by rw [int_bne, hg1]
    have hjb : jBad first base y i b.length e = (g1 || (decide (y.ep < e) || (decide (y.off < base) || decide (b.length < y.off - base)))) := by rw [jBad, hfi, hg1]
    obtain ⟨g2, hg2⟩ : ∃ g, decide (y.ep < e) = g := ⟨_, rfl⟩
    obtain ⟨g3, hg3⟩ : ∃ g, decide (y.off < base) = g := ⟨_, rfl⟩
    obtain ⟨g4, hg4⟩ : ∃ g, decide (b.length < y.off - base) = g := ⟨_, rfl⟩
    have f2 : decide ((y.ep : Int) < (e : Int)) = g2 := by rw [int_dlt, hg2]
    have f3 : decide ((y.off : Int) < (base : Int)) = g3 := by rw [int_dlt, hg3]
    obtain ⟨k, hk⟩ : ∃ k, y.off - base = k := ⟨_, rfl⟩
    have f5 : g3 = false → IntKind.u64.wrap ((y.off : Int) - (base : Int)) = (k : Int) := fun h => by
      rw [h] at hg3
      have := of_decide_eq_false hg3
      rw [show (y.off : Int) - (base : Int) = ((y.off - base : Nat) : Int) by omega, wrap_u64, Nat.mod_eq_of_lt (by omega), hk]
    have f6 : IntKind.u64.wrap (b.length : Int) = (b.length : Int) := by rw [wrap_u64, Nat.mod_eq_of_lt (by omega)]
    have f4 : decide ((b.length : Int) < (k : Int)) = g4 := by rw [int_dlt, ← hk, hg4]
    rw [hg2, hg3, hg4] at hjb
    have hbT : (b.take k ++ y.by_).length ≤ sumB (l.take (i + 1)) := by
      rw [hsT2, List.length_append, List.length_take]; omega
    have htk : (ss ++ [((y.no : Int), (y.off : Int))]).map Sr.av = ss.map Sr.av ++ [Sr.av ((y.no : Int), (y.off : Int))] := by simp
    have htb : (b.take k ++ y.by_).map byteAV = (b.map byteAV).take k ++ y.by_.map byteAV := by simp
    have next : jBad first base y i b.length e = false → jGo first base l 0 [] [] 0 = jGo first base (l.drop (i + 1)) (i + 1) (b.take k ++ y.by_) (ss ++ [((y.no : Int), (y.off : Int))]) y.ep := fun h => by
      rw [hgo, hja, h, ← hk]; simp
    have bad : jBad first base y i b.length e = true → jGo first base l 0 [] [] 0 = (b, ss, e) := fun h => by
      rw [hgo, hja, h]; simp
    have z0 : IntKind.u64.wrap (((0 : Nat) : Int)) = ((0 : Nat) : Int) := rfl
    have z1 : IntKind.u64.wrap 0 = 0 := rfl
    have hbn : bytesOf [] = some [] := rfl
    have z2 : IntKind.u64.wrap ((0 : Nat) : Int) = 0 := rfl
    cases x
    · have hi00 : i = 0 := by
        rcases Nat.eq_zero_or_pos i with h | h
        · exact h
        · have := hix h; cases this
      obtain ⟨hb0, hs0, hee, _⟩ := hi0 hi00
      have hyy : y = y0 := by rw [hi00, hy0] at hy; exact (Option.some.inj hy).symm
      have hfif : fi = first := by rw [← hfi, hi00, hf0]
      have q1 : g1 = false := by rw [← hg1, hyy, hno, hfif]; simp
      have q2 : g2 = false := by rw [← hg2, hee]; simp
      have q3 : g3 = false := by rw [← hg3, hyy, hbase]; simp
      have hk0 : k = 0 := by rw [← hk, hyy, hbase]; omega
      have q4 : g4 = false := by rw [← hg4, hk, hk0]; simp
      have f5 := f5 q3
      subst q1 q2 q3 q4 hb0 hs0
      have hnx := next hjb
      have hlim : y.by_.length ≤ 140737488355328 := by omega
      subst hk0
      have f4' : decide ((0 : Int) < ((0 : Nat) : Int)) = false := rfl
      simp -dsimp -implicitDefEqProofs only [↓j0, ↓j1, ↓j2, ↓j4, ↓j7, ↓j8, ↓j9, ↓j12, ↓j13, ↓j14, ↓j15, j17, j18, j19, j20, j21, j22, j23, j24, ↓j25, ↓j27, ↓j29, ↓j30, j32, ↓j38, ↓j39, ↓j40, ↓j41, ↓j43, ↓j44, ↓j45, ↓j46, ↓j48, ↓j49, ↓j50, ↓j58, ↓j63, ↓j64, ↓j65, ↓j66, j70, ↓j76, ↓j79, j116, j117, j128, ↓j129, ↓j130, ↓j131, ↓j132, ↓j133, ↓j135, ↓j137, j138, j139, j142, j143, j145, AV.proj, AV.offOf, AV.upd, AV.size, AV.sizeL, AV.layable, j147, j148, j150, j151, j154, j155, j156, j158, j159, j161, reduceCtorEq, ↓reduceIte, Nat.reduceAdd, Nat.reduceEqDiff, j166, j169, j175, j179, j180, j181, j190, j191, j192, j208, ↓j209, j241, j242, j244, j245, j246, j247, j249, j252, j255, j301, j345, j386, j407, jnSt, jnT, hlt1, hy, hsz, v1, v2, f1, f2, f3, f5, f4', z2]
      refine DoSlice_nil0 rfl rfl Try.underlying68 rfl ?_
      simp -dsimp -implicitDefEqProofs only [↓j4, j17, j18, j20, j24, ↓j25, ↓j27, ↓j29, ↓j43, ↓j45, ↓j51, ↓j63, ↓j66, j119, ↓j129, ↓j130, ↓j137, AV.proj, AV.offOf, AV.size, AV.sizeL, j147, j148, j150, j151, j154, j155, j156, j158, ↓reduceIte, Nat.reduceAdd, Nat.reduceEqDiff, j166, j180, j181, j238, j258]
      refine DoAppend_of rfl rfl at68_9 ?_
      simp -dsimp -implicitDefEqProofs only [↓j87, ↓j92, ↓j130, j206]
      refine ⟨⟨by omega, by omega⟩, ?_⟩
      have hbe : List.take 0 [] ++ y.by_ = y.by_ := by simp
      rw [hbe] at hnx hbT
      refine ⟨fun hb => ?_, fun hb => ?_⟩
      · have hyb : y.by_ = [] := by simpa using hb
        simp -dsimp -implicitDefEqProofs only [↓j3, ↓j4, j17, j18, j20, j24, ↓j25, ↓j29, ↓j39, ↓j129, j154, j155, j156, j158, ↓reduceIte]
        refine ⟨confOk_shift 0 c [([],[]),([],[]),([1],[]),([],[]),([],[]),([],[]),([],[]),([1],[]),([],[]),([],[])] rfl (by kernel_rfl), ?_⟩
        simp -dsimp -implicitDefEqProofs only [↓j1, ↓j7, ↓j12, ↓j15, j17, j18, j20, ↓j25, ↓j27, ↓j29, ↓j38, ↓j43, ↓j45, ↓j51, ↓j54, ↓j61, ↓j63, ↓j66, ↓j111, j112, j113, j114, j115, j117, ↓j129, ↓j130, ↓j137, partsAV, AV.proj, AV.offOf, AV.size, AV.sizeL, AV.layable, j147, j148, j150, j151, j152, j153, j154, j155, j163, j164, ↓reduceIte, Nat.reduceAdd, Nat.reduceMul, Nat.reduceEqDiff, Nat.reduceLeDiff, j166, j167, j180, j181, j197, j198, j199, j200, j201, j208, Nat.reducePow, List.replicate, j218, j241, j244, j252, j255, j283, j286, j364, j367]
        refine DoAppend_of rfl rfl at37 ?_
        simp -dsimp -implicitDefEqProofs only [↓j0, ↓j1, ↓j7, ↓j15, j17, j18, j20, ↓j25, ↓j27, ↓j29, ↓j30, j33, ↓j38, ↓j39, ↓j43, ↓j45, ↓j48, ↓j63, ↓j66, ↓j76, ↓j87, ↓j93, j94, j117, ↓j129, ↓j130, ↓j132, ↓j137, j138, AV.proj, AV.offOf, AV.sizeL, j147, j150, j151, j154, j155, reduceCtorEq, ↓reduceIte, Nat.reduceAdd, Nat.reduceMul, Nat.reduceEqDiff, Nat.reduceLeDiff, j166, j169, j180, j181, j205, j207, j208, j211, j212, j214, j215, Nat.reduceBEq, j218, j241, j249, hu1]
        have hi1 : i + 1 = 1 := by omega
        exact ⟨n - 1, jnSt first l base y.by_ ([] ++ [((y.no : Int), (y.off : Int))]) y.ep (i + 1) (c + 3) true false, by omega, ⟨i + 1, c + 3, _, _, _, true, false, by omega, by simp [hi00], hbT, hy2, (fun h => by omega), (fun _ => rfl), (fun _ => hyb), hnx, rfl⟩, Wk.sub (by simp -dsimp -implicitDefEqProofs only [↓j25, ↓j27, j155, j157, j158, reduceCtorEq, ↓reduceIte, Nat.reduceAdd, Nat.reduceEqDiff, j166, j186, j187, j188, j189, j207, j208, jnT, hw1, hyb, hi1] <;> simp)⟩
      · have hyb : y.by_.length ≠ 0 := by simpa using hb
        simp -dsimp -implicitDefEqProofs only [↓j3, ↓j4, j17, j18, j20, j24, ↓j25, ↓j29, ↓j39, ↓j129, j154, j155, j156, j157, j158, ↓reduceIte, Nat.reduceAdd, j206, j208]
        refine ⟨confOk_shift 0 c [([],[]),([],[]),([1],[]),([],[]),([],[]),([],[]),([],[]),([1],[]),([],[2]),([],[])] rfl (by kernel_rfl), ?_⟩
        simp -dsimp -implicitDefEqProofs only [↓j1, ↓j7, ↓j12, ↓j15, j17, j18, j20, ↓j25, ↓j27, ↓j29, ↓j38, ↓j43, ↓j45, ↓j51, ↓j54, ↓j61, ↓j63, ↓j66, ↓j111, j112, j113, j114, j115, j117, ↓j129, ↓j130, ↓j137, partsAV, AV.proj, AV.offOf, AV.size, AV.sizeL, AV.layable, j147, j148, j150, j151, j152, j153, j154, j155, j163, j164, reduceCtorEq, ↓reduceIte, Nat.reduceAdd, Nat.reduceMul, Nat.reduceEqDiff, Nat.reduceLeDiff, j166, j167, j180, j181, j197, j198, j199, j200, j201, j205, j208, Nat.reducePow, List.replicate, j218, j241, j244, j252, j255, j283, j286, j364, j367]
        refine DoAppend_of rfl rfl at37 ?_
        simp -dsimp -implicitDefEqProofs only [↓j0, ↓j1, ↓j7, ↓j15, j17, j18, j20, ↓j25, ↓j27, ↓j29, ↓j30, j33, ↓j38, ↓j39, ↓j43, ↓j45, ↓j48, ↓j63, ↓j66, ↓j76, ↓j87, ↓j93, j94, j117, ↓j129, ↓j130, ↓j132, ↓j137, j138, AV.proj, AV.offOf, AV.sizeL, j147, j150, j151, j154, j155, reduceCtorEq, ↓reduceIte, Nat.reduceAdd, Nat.reduceMul, Nat.reduceEqDiff, Nat.reduceLeDiff, j166, j169, j180, j181, j205, j207, j208, j211, j212, j214, j215, Nat.reduceBEq, j218, j241, j249, hu1]
        have hi1 : i + 1 = 1 := by omega
        exact ⟨n - 1, jnSt first l base y.by_ ([] ++ [((y.no : Int), (y.off : Int))]) y.ep (i + 1) (c + 2) true true, by omega, ⟨i + 1, c + 2, _, _, _, true, true, by omega, by simp [hi00], hbT, hy2, (fun h => by omega), (fun _ => rfl), (fun h => by cases h), hnx, rfl⟩, Wk.sub (by simp -dsimp -implicitDefEqProofs only [↓j25, ↓j27, j155, j157, j158, reduceCtorEq, ↓reduceIte, Nat.reduceAdd, Nat.reduceEqDiff, j166, j186, j187, j188, j189, j205, j207, j208, jnT, hw1, hi1] <;> simp)⟩
    · cases z
      · have hb0 := hz rfl
        subst hb0
        have f4' : decide ((0 : Int) < (k : Int)) = g4 := f4
        cases g1
        · cases g2
          · cases g3
            · have f5 := f5 rfl
              cases g4
              · have hk0 : k = 0 := by have := of_decide_eq_false f4'; omega
                have hnx := next hjb
                subst hk0
                simp -dsimp -implicitDefEqProofs only [↓j0, ↓j1, ↓j2, ↓j4, ↓j7, ↓j8, ↓j9, ↓j12, ↓j13, ↓j14, ↓j15, j17, j18, j19, j20, j21, j22, j23, j24, ↓j25, ↓j27, ↓j29, ↓j30, j32, ↓j38, ↓j39, ↓j40, ↓j41, ↓j43, ↓j44, ↓j45, ↓j46, ↓j48, ↓j49, ↓j50, ↓j58, ↓j63, ↓j64, ↓j65, ↓j66, j70, ↓j76, ↓j79, j116, j117, j128, ↓j129, ↓j130, ↓j131, ↓j132, ↓j133, ↓j135, ↓j137, j138, j139, j142, j143, j145, AV.proj, AV.offOf, AV.upd, AV.size, AV.sizeL, AV.layable, j147, j148, j150, j151, j154, j155, j156, j158, j159, j161, reduceCtorEq, ↓reduceIte, Nat.reduceAdd, Nat.reduceEqDiff, j166, j169, j175, j179, j180, j181, j190, j191, j192, j204, j208, ↓j209, j241, j242, j244, j245, j246, j247, j249, j252, j255, j301, j345, j386, j407, jnSt, jnT, hlt1, hy, hsz, v1, v2, f1, f2, f3, f5, z2, f4']
                refine DoSlice_nil0 rfl rfl Try.underlying68 rfl ?_
                simp -dsimp -implicitDefEqProofs only [↓j4, j17, j18, j20, j24, ↓j25, ↓j27, ↓j29, ↓j43, ↓j45, ↓j51, ↓j63, ↓j66, j119, ↓j129, ↓j130, ↓j137, AV.proj, AV.offOf, AV.size, AV.sizeL, j147, j148, j150, j151, j154, j155, j156, j158, ↓reduceIte, Nat.reduceAdd, Nat.reduceEqDiff, j166, j180, j181, j238, j258]
                refine DoAppend_of rfl rfl at68_9 ?_
                simp -dsimp -implicitDefEqProofs only [↓j87, ↓j92, ↓j130, j206]
                refine ⟨⟨by omega, by omega⟩, ?_⟩
                have hbe : List.take 0 [] ++ y.by_ = y.by_ := by simp
                rw [hbe] at hnx hbT
                refine ⟨fun hb => ?_, fun hb => ?_⟩
                · have hyb : y.by_ = [] := by simpa using hb
                  simp -dsimp -implicitDefEqProofs only [↓j3, ↓j4, j17, j18, j20, j24, ↓j25, ↓j29, ↓j39, ↓j129, j154, j155, j156, j158, ↓reduceIte]
                  refine ⟨confOk_shift 0 c [([],[]),([],[]),([1],[]),([],[]),([],[]),([],[]),([],[]),([1],[]),([],[]),([],[])] rfl (by kernel_rfl), ?_⟩
                  simp -dsimp -implicitDefEqProofs only [↓j1, ↓j7, ↓j12, ↓j15, j17, j18, j20, ↓j25, ↓j27, ↓j29, ↓j38, ↓j43, ↓j45, ↓j51, ↓j54, ↓j61, ↓j63, ↓j66, ↓j111, j112, j113, j114, j115, j117, ↓j129, ↓j130, ↓j137, partsAV, AV.proj, AV.offOf, AV.size, AV.sizeL, AV.layable, j147, j148, j150, j151, j152, j153, j154, j155, j163, j164, ↓reduceIte, Nat.reduceAdd, Nat.reduceMul, Nat.reduceEqDiff, Nat.reduceLeDiff, j166, j167, j180, j181, j197, j198, j199, j200, j201, j208, Nat.reducePow, List.replicate, j218, j241, j244, j252, j255, j283, j286, j364, j367]
                  refine DoAppend_of rfl rfl at37 ?_
                  simp -dsimp -implicitDefEqProofs only [↓j27, ↓j88, ↓j89, ↓j93, j94, ↓j129, ↓j130, ↓j137, AV.proj, AV.offOf, j150, reduceCtorEq, ↓reduceIte, Nat.reduceLeDiff, j166, j168, j172, j173, j180, j181, j197, j198, j199, j205, j206, j207, j211, j212, j214, j215, j218, hu1, huL, hss]
                  refine ⟨⟨by omega, by omega⟩, ?_⟩
                  simp -dsimp -implicitDefEqProofs only [↓j0, ↓j1, ↓j7, ↓j15, j17, j18, j20, j21, j22, j23, ↓j25, ↓j27, ↓j29, ↓j30, j33, ↓j38, ↓j39, ↓j43, ↓j45, ↓j48, ↓j63, ↓j66, ↓j76, j117, ↓j129, ↓j130, ↓j137, j138, AV.proj, AV.offOf, AV.sizeL, j147, j150, j151, j154, j155, reduceCtorEq, ↓reduceIte, Nat.reduceAdd, Nat.reduceEqDiff, j166, j169, j180, j181, j205, j208, j211, j212, j214, j215, j241, j249, hT]
                  exact ⟨n - 1, jnSt first l base y.by_ (ss ++ [((y.no : Int), (y.off : Int))]) y.ep (i + 1) (c + 3) true false, by omega, ⟨i + 1, c + 3, _, _, _, true, false, by omega, by simp [hss], hbT, hy2, (fun h => by omega), (fun _ => rfl), (fun _ => hyb), hnx, rfl⟩, Wk.sub (by simp -dsimp -implicitDefEqProofs only [↓j25, ↓j27, reduceCtorEq, ↓reduceIte, Nat.reduceAdd, Nat.reduceEqDiff, j166, j186, j187, j188, j189, j207, j208, jnT, hw1, htk, hyb] <;> simp)⟩
                · have hyb : y.by_.length ≠ 0 := by simpa using hb
                  simp -dsimp -implicitDefEqProofs only [↓j3, ↓j4, j17, j18, j20, j24, ↓j25, ↓j29, ↓j39, ↓j129, j154, j155, j156, j157, j158, ↓reduceIte, Nat.reduceAdd, j206, j208]
                  refine ⟨confOk_shift 0 c [([],[]),([],[]),([1],[]),([],[]),([],[]),([],[]),([],[]),([1],[]),([],[2]),([],[])] rfl (by kernel_rfl), ?_⟩
                  simp -dsimp -implicitDefEqProofs only [↓j1, ↓j7, ↓j12, ↓j15, j17, j18, j20, ↓j25, ↓j27, ↓j29, ↓j38, ↓j43, ↓j45, ↓j51, ↓j54, ↓j61, ↓j63, ↓j66, ↓j111, j112, j113, j114, j115, j117, ↓j129, ↓j130, ↓j137, partsAV, AV.proj, AV.offOf, AV.size, AV.sizeL, AV.layable, j147, j148, j150, j151, j152, j153, j154, j155, j163, j164, reduceCtorEq, ↓reduceIte, Nat.reduceAdd, Nat.reduceMul, Nat.reduceEqDiff, Nat.reduceLeDiff, j166, j167, j180, j181, j197, j198, j199, j200, j201, j205, j208, Nat.reducePow, List.replicate, j218, j241, j244, j252, j255, j283, j286, j364, j367]
                  refine DoAppend_of rfl rfl at37 ?_
                  simp -dsimp -implicitDefEqProofs only [↓j27, ↓j88, ↓j89, ↓j93, j94, ↓j129, ↓j130, ↓j137, AV.proj, AV.offOf, j150, reduceCtorEq, ↓reduceIte, Nat.reduceLeDiff, j166, j168, j172, j173, j180, j181, j197, j198, j199, j205, j206, j207, j211, j212, j214, j215, j218, hu1, huL, hss]
                  refine ⟨⟨by omega, by omega⟩, ?_⟩
                  simp -dsimp -implicitDefEqProofs only [↓j0, ↓j1, ↓j7, ↓j15, j17, j18, j20, j21, j22, j23, ↓j25, ↓j27, ↓j29, ↓j30, j33, ↓j38, ↓j39, ↓j43, ↓j45, ↓j48, ↓j63, ↓j66, ↓j76, j117, ↓j129, ↓j130, ↓j137, j138, AV.proj, AV.offOf, AV.sizeL, j147, j150, j151, j154, j155, reduceCtorEq, ↓reduceIte, Nat.reduceAdd, Nat.reduceEqDiff, j166, j169, j180, j181, j205, j208, j211, j212, j214, j215, j241, j249, hT]
                  exact ⟨n - 1, jnSt first l base y.by_ (ss ++ [((y.no : Int), (y.off : Int))]) y.ep (i + 1) (c + 2) true true, by omega, ⟨i + 1, c + 2, _, _, _, true, true, by omega, by simp [hss], hbT, hy2, (fun h => by omega), (fun _ => rfl), (fun h => by cases h), hnx, rfl⟩, Wk.sub (by simp -dsimp -implicitDefEqProofs only [↓j25, ↓j27, reduceCtorEq, ↓reduceIte, Nat.reduceAdd, Nat.reduceEqDiff, j166, j186, j187, j188, j189, j205, j207, j208, jnT, hw1, htk] <;> simp)⟩
              · simp -dsimp -implicitDefEqProofs only [↓j0, ↓j1, ↓j2, ↓j3, ↓j4, ↓j7, ↓j8, ↓j9, ↓j11, ↓j12, ↓j13, ↓j14, ↓j15, j17, j18, j19, j20, j21, j22, j23, j24, ↓j25, ↓j27, ↓j29, ↓j30, j32, ↓j38, ↓j39, ↓j40, ↓j41, ↓j43, ↓j44, ↓j45, ↓j46, ↓j48, ↓j50, ↓j58, ↓j63, ↓j64, ↓j65, ↓j66, j70, ↓j76, ↓j79, ↓j90, ↓j110, j116, j117, j128, ↓j129, ↓j130, ↓j131, ↓j132, ↓j133, ↓j135, ↓j137, j138, j139, j142, j143, j145, AV.proj, AV.offOf, AV.upd, AV.size, AV.sizeL, AV.layable, j147, j148, j150, j151, j154, j155, j156, j158, j159, j161, reduceCtorEq, ↓reduceIte, Nat.reduceAdd, Nat.reduceEqDiff, j166, j169, j175, j179, j180, j181, j190, j191, j192, j204, j208, ↓j209, j239, j241, j242, j244, j245, j246, j247, j249, j252, j255, j301, j338, j345, j386, j407, jnSt, jnT, hlt1, hy, hsz, v1, v2, f1, f2, f3, f5, z2, f4', hbn]
                refine ⟨by kernel_rfl, ?_⟩
                exact fin _ _ _ (bad hjb) rfl rfl rfl (.inr ⟨c, rfl, by simp [Heap.get]⟩)
            · simp -dsimp -implicitDefEqProofs only [↓j0, ↓j1, ↓j2, ↓j3, ↓j4, ↓j7, ↓j8, ↓j9, ↓j11, ↓j12, ↓j13, ↓j14, ↓j15, j17, j18, j19, j20, j21, j22, j23, j24, ↓j25, ↓j27, ↓j29, ↓j30, j32, ↓j38, ↓j39, ↓j40, ↓j41, ↓j43, ↓j44, ↓j45, ↓j46, ↓j48, ↓j50, ↓j63, ↓j64, ↓j65, ↓j66, j68, j70, ↓j76, ↓j79, ↓j90, ↓j110, j116, j117, ↓j129, ↓j130, ↓j131, ↓j132, ↓j133, ↓j135, ↓j137, j138, j142, j143, AV.proj, AV.offOf, AV.upd, AV.size, AV.sizeL, AV.layable, j147, j148, j150, j151, j154, j155, j156, j158, j159, j161, reduceCtorEq, ↓reduceIte, Nat.reduceAdd, Nat.reduceEqDiff, j166, j169, j175, j179, j180, j181, j190, j191, j192, j204, j208, ↓j209, j239, j241, j242, j244, j246, j247, j249, j252, j255, j301, j338, j345, j386, jnSt, jnT, hlt1, hy, hsz, v1, v2, f1, f2, f3, hbn]
              refine ⟨by kernel_rfl, ?_⟩
              exact fin _ _ _ (bad hjb) rfl rfl rfl (.inr ⟨c, rfl, by simp [Heap.get]⟩)
          · simp -dsimp -implicitDefEqProofs only [↓j0, ↓j1, ↓j2, ↓j3, ↓j4, ↓j7, ↓j8, ↓j9, ↓j11, ↓j12, ↓j13, ↓j14, ↓j15, j17, j18, j19, j20, j21, j22, j23, j24, ↓j25, ↓j27, ↓j29, ↓j30, j32, ↓j38, ↓j39, ↓j40, ↓j41, ↓j43, ↓j44, ↓j45, ↓j46, ↓j48, ↓j50, ↓j63, ↓j64, ↓j65, ↓j66, j68, j70, ↓j76, ↓j79, ↓j90, ↓j110, j116, j117, ↓j129, ↓j130, ↓j131, ↓j132, ↓j133, ↓j135, ↓j137, j138, j142, j143, AV.proj, AV.offOf, AV.upd, AV.size, AV.sizeL, AV.layable, j147, j148, j150, j151, j154, j155, j156, j158, j159, j161, reduceCtorEq, ↓reduceIte, Nat.reduceAdd, Nat.reduceEqDiff, j166, j169, j175, j179, j180, j181, j190, j191, j192, j204, j208, ↓j209, j239, j241, j242, j246, j247, j249, j252, j301, j338, j345, j386, jnSt, jnT, hlt1, hy, hsz, v1, v2, f1, f2, hbn]
            refine ⟨by kernel_rfl, ?_⟩
            exact fin _ _ _ (bad hjb) rfl rfl rfl (.inr ⟨c, rfl, by simp [Heap.get]⟩)
        · simp -dsimp -implicitDefEqProofs only [↓j0, ↓j1, ↓j2, ↓j3, ↓j4, ↓j7, ↓j8, ↓j9, ↓j11, ↓j12, ↓j13, ↓j14, ↓j15, j17, j18, j19, j20, j21, j22, j23, j24, ↓j25, ↓j27, ↓j29, ↓j30, j32, ↓j38, ↓j39, ↓j40, ↓j41, ↓j43, ↓j44, ↓j45, ↓j46, ↓j48, ↓j50, ↓j63, ↓j64, ↓j65, ↓j66, j68, ↓j76, ↓j79, ↓j90, ↓j110, j116, j117, ↓j129, ↓j130, ↓j131, ↓j133, ↓j135, ↓j137, j138, j142, j143, AV.proj, AV.offOf, AV.upd, AV.size, AV.sizeL, AV.layable, j147, j148, j150, j151, j154, j155, j156, j158, j159, j161, reduceCtorEq, ↓reduceIte, Nat.reduceAdd, Nat.reduceEqDiff, j166, j169, j175, j180, j181, j190, j191, j192, j204, j208, ↓j209, j239, j241, j242, j246, j247, j252, j301, j338, j345, j386, jnSt, jnT, hlt1, hy, hsz, v1, v2, f1, hbn]
          refine ⟨by kernel_rfl, ?_⟩
          exact fin _ _ _ (bad hjb) rfl rfl rfl (.inr ⟨c, rfl, by simp [Heap.get]⟩)
      · have cOk : ∀ (os : List Oper), confOk os [([],[]),([],[]),([0],[]),([],[]),([],[]),([],[]),([],[]),([],[]),([],[])] = true → confOk os [([],[]),([],[]),([c],[]),([],[]),([],[]),([],[]),([],[]),([],[]),([],[])] = true := fun os h =>
          confOk_shift 0 c [([],[]),([],[]),([0],[]),([],[]),([],[]),([],[]),([],[]),([],[]),([],[])] rfl h
        cases g1
        · cases g2
          · cases g3
            · have f5 := f5 rfl
              cases g4
              · have hnx := next hjb
                have hkl : (k : Int) ≤ (b.length : Int) := by have := of_decide_eq_false f4; omega
                have hkT : (b.take k).length = k := by rw [List.length_take]; omega
                simp -dsimp -implicitDefEqProofs only [↓j0, ↓j1, ↓j2, ↓j4, ↓j7, ↓j8, ↓j9, ↓j12, ↓j13, ↓j14, ↓j15, j17, j18, j19, j20, j21, j22, j23, j24, ↓j25, ↓j27, ↓j29, ↓j30, j32, ↓j38, ↓j39, ↓j40, ↓j41, ↓j43, ↓j44, ↓j45, ↓j46, ↓j48, ↓j49, ↓j50, ↓j58, ↓j63, ↓j64, ↓j65, ↓j66, j70, ↓j76, ↓j79, ↓j86, j116, j117, j127, ↓j129, ↓j130, ↓j131, ↓j132, ↓j133, ↓j135, ↓j137, j138, j139, j142, j143, j145, AV.proj, AV.offOf, AV.upd, AV.size, AV.sizeL, AV.layable, j147, j148, j150, j151, j154, j155, j156, j158, j159, j161, reduceCtorEq, ↓reduceIte, Nat.reduceAdd, Nat.reduceEqDiff, j166, j168, j169, j175, j179, j180, j181, j190, j191, j192, j204, j208, ↓j209, bndAV, j216, j241, j242, j244, j245, j246, j247, j249, j252, j255, j301, j336, j345, j386, j407, jnSt, jnT, hlt1, hy, hsz, v1, v2, f1, f2, f3, f5, f6, f4]
                refine ⟨hkl, ?_⟩
                simp -dsimp -implicitDefEqProofs only [↓j4, j17, j18, j20, j24, ↓j25, ↓j27, ↓j29, ↓j43, ↓j45, ↓j51, ↓j63, ↓j66, j119, ↓j129, ↓j130, ↓j137, AV.proj, AV.offOf, AV.size, AV.sizeL, j147, j148, j150, j151, j154, j155, j156, j158, ↓reduceIte, Nat.reduceAdd, Nat.reduceEqDiff, Int.reduceToNat, j166, j180, j181, j191, j217, j218, j238, j258]
                refine DoAppend_of rfl rfl at68_9 ?_
                simp -dsimp -implicitDefEqProofs only [↓j27, ↓j88, ↓j89, ↓j92, ↓j130, ↓j137, reduceCtorEq, ↓reduceIte, j168, j172, j173, j180, j198, j205, j206, j218, hub]
                refine ⟨⟨by omega, by omega, by omega⟩, ?_⟩
                simp -dsimp -implicitDefEqProofs only [↓j3, ↓j4, j17, j18, j20, j21, j22, j23, j24, ↓j25, ↓j29, ↓j39, ↓j129, j154, j155, j156, j157, j158, reduceCtorEq, ↓reduceIte, Nat.reduceAdd, j205, j206, j208, j211]
                refine ⟨confOk_shift 0 c [([],[]),([],[]),([3],[]),([],[]),([],[]),([],[]),([],[]),([3],[]),([],[0,4]),([],[])] rfl (by kernel_rfl), ?_⟩
                simp -dsimp -implicitDefEqProofs only [↓j1, ↓j7, ↓j12, ↓j15, j17, j18, j20, ↓j25, ↓j27, ↓j29, ↓j38, ↓j43, ↓j45, ↓j51, ↓j54, ↓j61, ↓j63, ↓j66, ↓j111, j112, j113, j114, j115, j117, ↓j129, ↓j130, ↓j137, partsAV, AV.proj, AV.offOf, AV.size, AV.sizeL, AV.layable, j147, j148, j150, j151, j152, j153, j154, j155, j163, j164, reduceCtorEq, ↓reduceIte, Nat.reduceAdd, Nat.reduceMul, Nat.reduceEqDiff, Nat.reduceLeDiff, j166, j167, j180, j181, j197, j198, j199, j200, j201, j205, j208, Nat.reducePow, List.replicate, j218, j241, j244, j252, j255, j283, j286, j364, j367]
                refine DoAppend_of rfl rfl at37 ?_
                simp -dsimp -implicitDefEqProofs only [↓j27, ↓j88, ↓j89, ↓j93, j94, ↓j129, ↓j130, ↓j137, AV.proj, AV.offOf, j150, reduceCtorEq, ↓reduceIte, Nat.reduceEqDiff, Nat.reduceLeDiff, j166, j168, j172, j173, j180, j181, j197, j198, j199, j205, j206, j207, j211, j212, j214, j215, j218, hu1, huL, hss]
                refine ⟨⟨by omega, by omega⟩, ?_⟩
                simp -dsimp -implicitDefEqProofs only [↓j0, ↓j1, ↓j7, ↓j15, j17, j18, j20, j21, j22, j23, ↓j25, ↓j27, ↓j29, ↓j30, j33, ↓j38, ↓j39, ↓j43, ↓j45, ↓j48, ↓j63, ↓j66, ↓j76, j117, ↓j129, ↓j130, ↓j137, j138, AV.proj, AV.offOf, AV.sizeL, j147, j150, j151, j154, j155, reduceCtorEq, ↓reduceIte, Nat.reduceAdd, Nat.reduceEqDiff, j166, j169, j180, j181, j205, j208, j211, j212, j214, j215, j241, j249, hT]
                have hlen2 : k + y.by_.length = (b.take k ++ y.by_).length := by rw [List.length_append, hkT]
                exact ⟨n - 1, jnSt first l base (b.take k ++ y.by_) (ss ++ [((y.no : Int), (y.off : Int))]) y.ep (i + 1) (c + 4) true true, by omega, ⟨i + 1, c + 4, _, _, _, true, true, by omega, by simp [hss], hbT, hy2, (fun h => by omega), (fun _ => rfl), (fun h => by cases h), hnx, rfl⟩, Wk.sub (by simp -dsimp -implicitDefEqProofs only [↓j25, ↓j27, j163, reduceCtorEq, ↓reduceIte, Nat.reduceAdd, Nat.reduceEqDiff, j166, j167, j168, j186, j187, j188, j189, j205, j207, j208, j226, jnT, hw1, htk, hlen2] <;> simp)⟩
              · simp -dsimp -implicitDefEqProofs only [↓j0, ↓j1, ↓j2, ↓j3, ↓j4, ↓j7, ↓j8, ↓j9, ↓j11, ↓j12, ↓j13, ↓j14, ↓j15, j17, j18, j19, j20, j21, j22, j23, j24, ↓j25, ↓j27, ↓j29, ↓j30, j32, ↓j38, ↓j39, ↓j40, ↓j41, ↓j43, ↓j44, ↓j45, ↓j46, ↓j48, ↓j50, ↓j58, ↓j63, ↓j64, ↓j65, ↓j66, j70, ↓j76, ↓j79, ↓j93, j94, ↓j108, j116, j117, j127, ↓j129, ↓j130, ↓j131, ↓j132, ↓j133, ↓j135, ↓j137, j138, j139, j142, j143, j145, AV.proj, AV.offOf, AV.upd, AV.size, AV.sizeL, AV.layable, j147, j148, j150, j151, j154, j155, j156, j158, j159, j161, reduceCtorEq, ↓reduceIte, Nat.reduceAdd, Nat.reduceEqDiff, j166, j169, j175, j179, j180, j181, j190, j191, j192, j204, j205, j206, j207, j208, ↓j209, j211, j218, j239, j241, j242, j244, j245, j246, j247, j249, j252, j255, j301, j338, j345, j386, j407, jnSt, jnT, hlt1, hy, hsz, v1, v2, f1, f2, f3, f5, f6, f4, hub, hTb, hbo]
                refine ⟨cOk _ (by kernel_rfl), ?_⟩
                exact fin _ _ _ (bad hjb) rfl rfl rfl (.inr ⟨c + 2, rfl, by simp [Heap.get]⟩)
            · simp -dsimp -implicitDefEqProofs only [↓j0, ↓j1, ↓j2, ↓j3, ↓j4, ↓j7, ↓j8, ↓j9, ↓j11, ↓j12, ↓j13, ↓j14, ↓j15, j17, j18, j19, j20, j21, j22, j23, j24, ↓j25, ↓j27, ↓j29, ↓j30, j32, ↓j38, ↓j39, ↓j40, ↓j41, ↓j43, ↓j44, ↓j45, ↓j46, ↓j48, ↓j50, ↓j63, ↓j64, ↓j65, ↓j66, j68, j70, ↓j76, ↓j79, ↓j93, j94, ↓j108, j116, j117, ↓j129, ↓j130, ↓j131, ↓j132, ↓j133, ↓j135, ↓j137, j138, j142, j143, AV.proj, AV.offOf, AV.upd, AV.size, AV.sizeL, AV.layable, j147, j148, j150, j151, j154, j155, j156, j158, j159, j161, reduceCtorEq, ↓reduceIte, Nat.reduceAdd, Nat.reduceEqDiff, j166, j169, j175, j179, j180, j181, j190, j191, j192, j204, j205, j206, j207, j208, ↓j209, j211, j218, j239, j241, j242, j244, j246, j247, j249, j252, j255, j301, j338, j345, j386, jnSt, jnT, hlt1, hy, hsz, v1, v2, f1, f2, f3, hub, hTb, hbo]
              refine ⟨cOk _ (by kernel_rfl), ?_⟩
              exact fin _ _ _ (bad hjb) rfl rfl rfl (.inr ⟨c + 2, rfl, by simp [Heap.get]⟩)
          · simp -dsimp -implicitDefEqProofs only [↓j0, ↓j1, ↓j2, ↓j3, ↓j4, ↓j7, ↓j8, ↓j9, ↓j11, ↓j12, ↓j13, ↓j14, ↓j15, j17, j18, j19, j20, j21, j22, j23, j24, ↓j25, ↓j27, ↓j29, ↓j30, j32, ↓j38, ↓j39, ↓j40, ↓j41, ↓j43, ↓j44, ↓j45, ↓j46, ↓j48, ↓j50, ↓j63, ↓j64, ↓j65, ↓j66, j68, j70, ↓j76, ↓j79, ↓j93, j94, ↓j108, j116, j117, ↓j129, ↓j130, ↓j131, ↓j132, ↓j133, ↓j135, ↓j137, j138, j142, j143, AV.proj, AV.offOf, AV.upd, AV.size, AV.sizeL, AV.layable, j147, j148, j150, j151, j154, j155, j156, j158, j159, j161, reduceCtorEq, ↓reduceIte, Nat.reduceAdd, Nat.reduceEqDiff, j166, j169, j175, j179, j180, j181, j190, j191, j192, j204, j205, j206, j207, j208, ↓j209, j211, j218, j239, j241, j242, j246, j247, j249, j252, j301, j338, j345, j386, jnSt, jnT, hlt1, hy, hsz, v1, v2, f1, f2, hub, hTb, hbo]
            refine ⟨cOk _ (by kernel_rfl), ?_⟩
            exact fin _ _ _ (bad hjb) rfl rfl rfl (.inr ⟨c + 2, rfl, by simp [Heap.get]⟩)
        · simp -dsimp -implicitDefEqProofs only [↓j0, ↓j1, ↓j2, ↓j3, ↓j4, ↓j7, ↓j8, ↓j9, ↓j11, ↓j12, ↓j13, ↓j14, ↓j15, j17, j18, j19, j20, j21, j22, j23, j24, ↓j25, ↓j27, ↓j29, ↓j30, j32, ↓j38, ↓j39, ↓j40, ↓j41, ↓j43, ↓j44, ↓j45, ↓j46, ↓j48, ↓j50, ↓j63, ↓j64, ↓j65, ↓j66, j68, ↓j76, ↓j79, ↓j93, j94, ↓j108, j116, j117, ↓j129, ↓j130, ↓j131, ↓j133, ↓j135, ↓j137, j138, j142, j143, AV.proj, AV.offOf, AV.upd, AV.size, AV.sizeL, AV.layable, j147, j148, j150, j151, j154, j155, j156, j158, j159, j161, reduceCtorEq, ↓reduceIte, Nat.reduceAdd, Nat.reduceEqDiff, j166, j169, j175, j180, j181, j190, j191, j192, j204, j205, j206, j207, j208, ↓j209, j211, j218, j239, j241, j242, j246, j247, j252, j301, j338, j345, j386, jnSt, jnT, hlt1, hy, hsz, v1, v2, f1, hub, hTb, hbo]
          refine ⟨cOk _ (by kernel_rfl), ?_⟩
          exact fin _ _ _ (bad hjb) rfl rfl rfl (.inr ⟨c + 2, rfl, by simp [Heap.get]⟩)
  · have hd : decide ((i : Int) < (l.length : Int)) = false := decide_eq_false (by omega)
    have hall := hgo.trans (jGo_end hge)
    cases x
    · have := hix (by omega); cases this
    · cases z
      · have hb0 := hz rfl
        subst hb0
        have hbn : bytesOf [] = some [] := rfl
        simp -dsimp -implicitDefEqProofs only [↓j0, ↓j1, ↓j3, ↓j4, ↓j7, ↓j8, ↓j11, ↓j12, ↓j13, ↓j15, j17, j18, j20, j24, ↓j25, ↓j29, ↓j38, ↓j39, ↓j48, ↓j50, ↓j76, ↓j90, ↓j110, ↓j129, ↓j130, ↓j132, ↓j133, j143, j154, j155, j156, j158, ↓reduceIte, Nat.reduceEqDiff, j166, j169, j239, j338, jnSt, jnT, hd, hbn]
        refine ⟨by kernel_rfl, ?_⟩
        exact fin _ _ _ hall rfl rfl rfl (.inr ⟨c, rfl, by simp [Heap.get]⟩)
      · simp -dsimp -implicitDefEqProofs only [↓j0, ↓j1, ↓j3, ↓j4, ↓j7, ↓j8, ↓j11, ↓j12, ↓j13, ↓j15, j17, j18, j20, j24, ↓j25, ↓j27, ↓j29, ↓j38, ↓j39, ↓j48, ↓j50, ↓j76, ↓j93, j94, ↓j108, ↓j129, ↓j130, ↓j132, ↓j133, ↓j137, j143, AV.proj, AV.offOf, j154, j155, j156, j158, reduceCtorEq, ↓reduceIte, Nat.reduceEqDiff, j166, j169, j180, j181, j205, j206, j207, j211, j218, j239, j338, jnSt, jnT, hd, hub, hTb, hbo]
        refine ⟨confOk_shift 0 c [([],[]),([],[]),([0],[]),([],[]),([],[]),([],[]),([],[]),([],[]),([],[])] rfl (by kernel_rfl), ?_⟩
        exact fin _ _ _ hall rfl rfl rfl (.inr ⟨c + 2, rfl, by simp [Heap.get]⟩)
end Go.Proofs.Ytbhhbadeabhfcaa
