/- Write. -/
import Derived.Test.YthfaldoagmkllaaD4
set_option linter.unusedVariables false
set_option linter.unusedSimpArgs false
namespace Go.Proofs.Ythfaldoagmkllaa
open Go Go.RowKit

def wrSN (l : List Wr) (b : Nat) (x : List UInt8) : Nat → List Wr
  | 0 => l
  | i + 1 => aPut (wrSN l b x i) (b, i) (sec x i)
def wrPN (p : List Wr) (b : Nat) (x : List UInt8) : Nat → List Wr
  | 0 => p
  | i + 1 => wrPN p b x i ++ [((b, i), sec x i)]
def DS.wr (d : DS) (b : Nat) (x : List UInt8) (i : Nat) : DS := { d with seen := wrSN d.seen b x i, pend := wrPN d.pend b x i }
def DS.writeP (d : DS) (b : Int) (x : List UInt8) : Nat × DS :=
  if d.down then (4, d) else if b < 0 ∨ (d.n : Int) ≤ b then (1, d) else if d.opP.1 ≠ 0 then (d.opP.1, d.opP.2) else (0, d.opP.2.wr b.toNat x 4)
theorem wrPN_len (p : List Wr) (b : Nat) (x : List UInt8) : ∀ i, (wrPN p b x i).length = p.length + i
  | 0 => rfl
  | i + 1 => by simp only [wrPN, List.length_append, wrPN_len p b x i, List.length_cons, List.length_nil]; omega
theorem wr_ok {d : DS} (hd : d.Ok) {b : Nat} {x : List UInt8} (hb : b < d.n) (hx : x.length = 256) : ∀ i, i ≤ 4 → d.pend.length + i ≤ 1000000 → (d.wr b x i).Ok
  | 0, _, _ => hd
  | i + 1, h, hf => by
    have ih := wr_ok hd hb hx i (by omega) (by omega)
    have hw : wrOk d.n ((b, i), sec x i) := ⟨hb, by show i < 4; omega, sec_len hx (by omega)⟩
    refine ⟨ih.n1, ih.n2, ih.sure, fun w hw' => ?_, fun w hw' => ?_, ih.sureN, aPut_nodup _ _ ih.seenN, ?_, ih.fails, ih.ops⟩
    · rcases aPut_mem hw' with rfl | h
      · exact hw
      · exact ih.seen w h
    · rcases List.mem_append.1 hw' with h | h
      · exact ih.pend w h
      · simp only [List.mem_singleton] at h; subst h; exact hw
    · show (wrPN d.pend b x (i + 1)).length ≤ _
      rw [wrPN_len]; omega
theorem fok20 : fnOk Try.prog 20 = true := by kernel_rfl
theorem unif_wr (l : List Wr) (h : ∀ w, w ∈ l → w.2.length = 64) : Unif 66 (l.map wrAV) := fun x hx => by
  obtain ⟨w, hw, rfl⟩ := List.mem_map.1 hx
  have := h w hw
  simp [AV.size, AV.sizeL, sizeL_bytes, this]
theorem args_pbx {b : Int} {x : List UInt8} : ∀ y, y ∈ [AV.int .i64 b, arrAV x] → AV.on (fun _ => False) y ∧ ∀ vs, y ≠ .tuple vs := fun y hy => by
  simp only [List.mem_cons, List.not_mem_nil, or_false] at hy
  rcases hy with rfl | rfl
  · exact ⟨trivial, fun vs h => by cases h⟩
  · exact ⟨on_bytes _ _, fun vs h => by cases h⟩
/-- One sector more is written. -/
theorem upd_seen {l : List Wr} {n b i : Nat} (hn : n ≤ 2048) (hb : b < n) (hi : i < 4) (hl : ∀ w, w ∈ l → wrOk n w) (v : List UInt8) : mput (mapE plAV arrAV l) (plAV (b, i)) (arrAV v) = mapE plAV arrAV (aPut l (b, i) v) :=
  mput_map keyInj67 ⟨by show b < _; omega, by show i < _; omega⟩ (fun e he => wrOk_pl hn (hl e he)) v
def wrSt (e : DS) (c : Nat) (x : List UInt8) (i a nx : Nat) : St := ⟨62, [(33, .int .i64 i), (0, .ptr 0 0 []), (1, .int .i64 c), (5, .ptr 5 0 [])], (5, .cells (arrAV x)) :: diskH (e.wr c x i) 2 3 a, nx⟩
def wrA : Nat → Nat
  | 0 => 4
  | i + 1 => 3 * i + 8
def wrX (i : Nat) : Nat := 3 * i + 6
theorem wr_sub {e : DS} {c : Nat} {x : List UInt8} {i a : Nat} {H : Heap} (h5 : Heap.get H 5 = some (.cells (arrAV x))) (h0 : Heap.get H 0 = some (dskC (e.wr c x i) 2 3 a)) (h1 : Heap.get H 1 = some (mapB e.sure)) (h2 : Heap.get H 2 = some (mapB (wrSN e.seen c x i)))
    (h3 : ∀ f, e.fails = some f → Heap.get H 3 = some (.map (mapE flK flV f))) (ha : Heap.get H a = some (.cells (.agg ((wrPN e.pend c x i).map wrAV)))) : ∀ n b, Heap.get ((5, .cells (arrAV x)) :: diskH (e.wr c x i) 2 3 a) n = some b → Heap.get H n = some b := by
  intro n b h
  simp only [Heap.get] at h
  by_cases h5' : n = 5
  · rw [if_pos h5'] at h; cases h; rw [h5']; exact h5
  · rw [if_neg h5'] at h
    rcases get_disk (d := e.wr c x i) (s := 2) (q := 3) (m := a) h with ⟨rfl, rfl⟩ | ⟨rfl, rfl⟩ | ⟨rfl, rfl⟩ | ⟨rfl, f, hf, rfl⟩ | ⟨rfl, hp, rfl⟩
    · exact h0
    · exact h1
    · exact h2
    · exact h3 f hf
    · exact ha
theorem Wk.wr {e : DS} {c : Nat} {x : List UInt8} {i a nx : Nat} {t : Env} {H : Heap} (ht : SubT [(33, .int .i64 i), (0, .ptr 0 0 []), (1, .int .i64 c), (5, .ptr 5 0 [])] t) (h5 : Heap.get H 5 = some (.cells (arrAV x))) (h0 : Heap.get H 0 = some (dskC (e.wr c x i) 2 3 a)) (h1 : Heap.get H 1 = some (mapB e.sure)) (h2 : Heap.get H 2 = some (mapB (wrSN e.seen c x i)))
    (h3 : ∀ f, e.fails = some f → Heap.get H 3 = some (.map (mapE flK flV f))) (ha : Heap.get H a = some (.cells (.agg ((wrPN e.pend c x i).map wrAV)))) : Wk ⟨62, t, H, nx⟩ (wrSt e c x i a nx) :=
  Wk.mk ht.spec (wr_sub h5 h0 h1 h2 h3 ha) (Nat.le_refl _) rfl

/-- The name of what is pending behind a write. -/
theorem write_spec (d : DS) (hd : d.Ok) (ho : d.ops < 1000000) (hp : d.pend.length + 4 ≤ 1000000) (b : Int) (x : List UInt8) (hx : x.length = 256) :
    ACall Try.prog 20 [.ptr 0 0 [], .int .i64 b, arrAV x] (diskH0 d) (.int .i64 ((d.writeP b x).1 : Nat)) (diskH (d.writeP b x).2 2 3 (if (d.writeP b x).2.pend = d.pend then 4 else 17)) := by
  refine ACall.runH (Z := Z) (N := 62) mixed hZ Try.func20 rfl rfl (by kernel_rfl) (by simp) (disk_args args_pbx) (disk_on fun _ h => h) 5 disk_lt ?_
  have d0 : ∀ e : DS, Heap.del (pendB e.pend 4) 0 = pendB e.pend 4 := fun e => del_pendB (by omega)
  have f0 : ∀ e : DS, Heap.del (failB e.fails 3) 0 = failB e.fails 3 := fun e => del_failB (by omega)
  have fin : ∀ (c : Nat) (e : DS) (t : Env) (H : Heap) (m : Nat), (c, e) = d.writeP b x → e.pend = d.pend → look t 6 = some (.int .i64 (c : Nat)) → Heap.get H 0 = some (dskC e 2 3 4) → Heap.get H 1 = some (mapB e.sure) → Heap.get H 2 = some (mapB e.seen) → (∀ n, n = 3 ∨ n = 4 → Heap.get H n = Heap.get (failB e.fails 3 ++ pendB e.pend 4) n) →
      Final Try.prog Try.f20 (.int .i64 ((d.writeP b x).1 : Nat)) (diskH (d.writeP b x).2 2 3 (if (d.writeP b x).2.pend = d.pend then 4 else 17)) .ret ⟨62, t, H, m⟩ := by
    intro c e t H m hx he h6 h0 h1 h2 hr
    rw [← hx]
    simp only [he, if_true]
    exact Final.oneH (.inr rfl) (r := .tmp 6) rfl ⟨h6, fun vs h => by cases h⟩ (fun vs h => by cases h) (fun vs h => by cases h) (.same _ trivial)
      (disk_keep h0 h1 h2 (fun f hf => by rw [hr 3 (.inl rfl), hf, get_append]; rfl) (fun hp => by rw [hr 4 (.inr rfl), get_append, get_failB (by omega), pendB_eq hp]; rfl))
  simp -dsimp -implicitDefEqProofs only [↓j0, ↓j1, ↓j2, ↓j7, ↓j12, ↓j13, ↓j15, j17, j18, j20, ↓j25, ↓j27, ↓j29, ↓j30, j32, j33, j35, ↓j38, ↓j39, ↓j40, ↓j42, ↓j43, ↓j45, ↓j48, ↓j56, ↓j76, ↓j79, j83, j131, ↓j145, ↓j146, ↓j148, ↓j149, ↓j151, ↓j153, AV.proj, AV.offOf, AV.size, AV.sizeL, AV.layable, argEnv, j163, j164, j166, j167, j170, j171, j175, reduceCtorEq, ↓reduceIte, Nat.reduceAdd, Nat.reduceEqDiff, j182, j195, j196, j197, j211, ↓j235, j253, j319, j381, size_pendV, size_failV]
  refine ⟨fun h1 => ?_, fun h1 => ?_⟩
  · simp -dsimp -implicitDefEqProofs only [↓j0, ↓j1, ↓j7, ↓j10, ↓j12, ↓j15, j17, j18, j20, ↓j30, j33, ↓j39, ↓j145, j171, h1]
    refine fin 4 d _ _ _ ?_ rfl rfl rfl rfl rfl (fun n h => ?_)
    · rw [DS.writeP, if_pos h1]
    · rcases h with rfl | rfl <;> rfl
  simp -dsimp -implicitDefEqProofs only [↓j1, ↓j2, ↓j7, ↓j9, ↓j12, ↓j15, j17, j18, j20, ↓j25, ↓j29, ↓j30, j33, ↓j38, ↓j48, ↓j89, ↓j145, ↓j146, ↓j151, j159, j163, j164, j171, j175, reduceCtorEq, ↓reduceIte, Nat.reduceEqDiff, j185, h1]
  have oob : b < 0 ∨ (d.n : Int) ≤ b → d.writeP b x = (1, d) := fun h => by rw [DS.writeP, if_neg (by simp [h1]), if_pos h]
  refine ⟨fun h2 => ?_, fun h2 => ?_⟩
  · have h2' := of_decide_eq_true h2
    simp -dsimp -implicitDefEqProofs only [↓j0, ↓j1, ↓j2, ↓j7, ↓j10, ↓j12, ↓j13, ↓j15, j17, j18, j20, ↓j25, ↓j29, ↓j30, j32, j33, ↓j39, ↓j40, j81, ↓j145, ↓j147, ↓j149, ↓j151, j163, j164, j171, j175, ↓reduceIte, Nat.reduceEqDiff, h2]
    refine fin 1 d _ _ _ (oob (.inl h2')).symm rfl rfl rfl rfl rfl (fun n h => ?_)
    rcases h with rfl | rfl <;> rfl
  have h2' := of_decide_eq_false h2
  simp -dsimp -implicitDefEqProofs only [↓j0, ↓j1, ↓j2, ↓j13, j17, j18, j20, ↓j25, ↓j27, ↓j29, ↓j30, j32, ↓j38, ↓j40, ↓j43, ↓j45, ↓j48, ↓j56, ↓j76, ↓j79, j83, ↓j89, j130, ↓j145, ↓j146, ↓j148, ↓j149, ↓j151, ↓j153, j162, AV.proj, AV.offOf, AV.sizeL, j163, j164, j167, j171, j175, reduceCtorEq, ↓reduceIte, Nat.reduceEqDiff, j182, j185, j195, j197, j250, j360, h2]
  refine ⟨fun h3 => ?_, fun h3 => ?_⟩
  · have h3' := of_decide_eq_true h3
    simp -dsimp -implicitDefEqProofs only [↓j0, ↓j1, ↓j7, ↓j10, ↓j12, ↓j15, j17, j18, j20, ↓j30, j33, ↓j39, ↓j145, j171, h3]
    refine fin 1 d _ _ _ (oob (.inr h3')).symm rfl rfl rfl rfl rfl (fun n h => ?_)
    rcases h with rfl | rfl <;> rfl
  have h3' := of_decide_eq_false h3
  obtain ⟨c, rfl⟩ : ∃ c : Nat, b = c := ⟨b.toNat, by omega⟩
  have hc : c < d.n := by omega
  obtain ⟨q1, q2, q3, q4, q5, q6, q7⟩ := opP_same d
  have hok := opP_ok hd ho
  have hop := op_spec d hd
  have hval : d.writeP c x = if d.opP.1 ≠ 0 then (d.opP.1, d.opP.2) else (0, d.opP.2.wr c x 4) := by
    rw [DS.writeP, if_neg (by simp [h1]), if_neg (by omega), Int.toNat_natCast]
  obtain ⟨e, he⟩ : ∃ e, d.opP.2 = e := ⟨_, rfl⟩
  obtain ⟨k, hk⟩ : ∃ k, d.opP.1 = k := ⟨_, rfl⟩
  rw [he] at hop q1 q2 q3 q4 q5 q6 q7 hval hok
  rw [hk] at hop hval
  simp -dsimp -implicitDefEqProofs only [↓j1, ↓j7, ↓j9, ↓j12, ↓j15, j17, j18, j20, ↓j25, ↓j29, ↓j38, ↓j53, ↓j145, j171, reduceCtorEq, ↓reduceIte, h3]
  refine CallTo.gen (args := [.ptr 0 0 []]) (diskH0 d) (diskH0 e) 6 rfl fok37 (by simp -dsimp -implicitDefEqProofs only [↓j25, ↓j29, j173, j174, ↓reduceIte]) (fun x hx vs h => ?_) hop (fun n b h => ?_) ⟨by simp, put_sameD (by rw [q5]; exact id) (by rw [q4]; exact id)⟩ ?_
  · subst h; simp at hx
  · have h5 : n ≠ 5 := by rintro rfl; have := disk_lt 5 (get_map h); omega
    simp only [Heap.get, h5, if_false]; exact h
  rw [app_disk1 (fun h => by have := disk_lt 5 h; omega)]
  simp -dsimp -implicitDefEqProofs only [↓j0, ↓j1, ↓j7, ↓j12, ↓j13, ↓j15, j17, j18, j20, ↓j25, ↓j29, ↓j30, j33, ↓j38, ↓j39, ↓j48, ↓j89, ↓j145, ↓j146, ↓j149, j158, j170, j171, ↓reduceIte, j185]
  refine ⟨fun h4 => ?_, fun h4 => ?_⟩
  · have h4' : k ≠ 0 := by rintro rfl; simp at h4
    rw [if_pos h4'] at hval
    simp -dsimp -implicitDefEqProofs only [↓j0, ↓j1, ↓j7, ↓j10, ↓j12, ↓j15, j17, j18, j20, ↓j25, ↓j29, ↓j38, ↓j39, ↓j145, j171, ↓reduceIte, Nat.reduceEqDiff, h4]
    refine fin k e _ _ _ hval.symm q4 rfl rfl rfl rfl (fun n h => ?_)
    have h5 : n ≠ 5 ∧ n ≠ 0 ∧ n ≠ 1 ∧ n ≠ 2 := by omega
    simp only [Heap.get, h5, if_false]
    rw [get_append]
    simp only [Heap.get, h5, if_false]
    cases Heap.get (failB e.fails 3 ++ pendB e.pend 4) n <;> rfl
  have h4' : k = 0 := by simpa using h4
  subst h4'
  rw [if_neg (by simp)] at hval
  simp -dsimp -implicitDefEqProofs only [↓j0, ↓j1, ↓j7, ↓j9, ↓j12, ↓j14, ↓j15, ↓j16, j17, j18, j20, ↓j30, j33, ↓j38, ↓j145, j171, h4]
  have hpl : ∀ i, (e.wr c x i).pend.length = e.pend.length + i := fun i => wrPN_len _ _ _ i
  have hel : e.pend.length + 4 ≤ 1000000 := by rw [q4]; exact hp
  have hwok : ∀ i, i ≤ 4 → (e.wr c x i).Ok := fun i hi => wr_ok hok (by omega) hx i hi (by omega)
  have hcn : c < e.n := by omega
  have hen : e.n ≤ 2048 := hok.n2
  have hfl : ∀ i, (e.wr c x i).fails = e.fails := fun i => rfl
  have pd : ∀ (p : List Wr) (a n : Nat), n ≠ a → Heap.del (pendB p a) n = pendB p a := fun p a n h => del_pendB h
  have fd : ∀ n, n ≠ 3 → Heap.del (failB e.fails 3) n = failB e.fails 3 := fun n h => del_failB h
  refine AWp.loopR (Z := Z) mixed hZ (by kernel_rfl) (fun k s => ∃ i, i + k = 4 ∧ s = wrSt e c x i (wrA i) (wrX i)) (n0 := 4) (s0 := wrSt e c x 0 4 6) ?_ ⟨0, by omega, rfl⟩ ?_ rfl
  · refine Wk.mk (fun dd v hv => ?_) (fun n b h => ?_) (Nat.le_refl _) rfl
    · exact (SubT.spec (t0 := [(33, .int .i64 (0 : Nat)), (0, .ptr 0 0 []), (1, .int .i64 c), (5, .ptr 5 0 [])]) (by simp -dsimp -implicitDefEqProofs only [↓j25, j179, reduceCtorEq, ↓reduceIte, Nat.reduceEqDiff, j182, j183, j184, j202, j203, j209] <;> simp)) dd v hv
    · have h : Heap.get ((5, .cells (arrAV x)) :: diskH e 2 3 4) n = some b := h
      show Heap.get ((0, dskC e 2 3 4) :: (1, mapB e.sure) :: (2, mapB e.seen) :: (failB e.fails 3 ++ pendB e.pend 4 ++ [(5, .cells (arrAV x))])) n = some b
      simp only [Heap.get] at h ⊢
      by_cases h5 : n = 5
      · subst h5
        rw [if_pos rfl] at h
        simp only [get_append, get_failB (show (5 : Nat) ≠ 3 by omega), get_pendB (show (5 : Nat) ≠ 4 by omega), Heap.get, if_true]
        simpa using h
      · rw [if_neg h5] at h
        split
        · simpa [*] using h
        · split
          · simpa [*] using h
          · split
            · simpa [*] using h
            · rename_i g0 g1 g2
              simp only [g0, g1, g2, if_false] at h
              rw [get_append, h]
  rintro k s ⟨i, hi, rfl⟩
  refine ⟨rfl, ?_⟩
  match i, hi with
  | 0, hi =>
    have hi4 : 0 ≤ 4 := by omega
    have hwi := hwok 0 hi4
    have hwn := hwok (0 + 1) (by omega)
    have hsl := sec_len hx (show 0 < 4 by omega)
    have hcut := cut_spec x 0 hx (by omega)
    have hup := upd_seen (l := (e.wr c x 0).seen) hen hcn (show 0 < 4 by omega) hwi.seen (sec x 0)
    have hgm := goodW hen hwi.seen hwi.seenN
    have hky : IsKey Try.prog 81 (plAV (c, 0)) := isKey67 ⟨by show c < _; omega, by show (_ : Nat) < _; omega⟩
    have hpl0 := hpl 0
    have hub := unif_wr (e.wr c x 0).pend fun w hw => (hwi.pend w hw).2.2
    have hu1 : Unif 66 [wrAV ((c, 0), sec x 0)] := unif_wr [((c, 0), sec x 0)] fun w hw => by simp only [List.mem_singleton] at hw; subst hw; exact hsl
    have hce : wrA 0 = 4 ∧ wrX 0 = 6 := ⟨rfl, rfl⟩
    have hw2 : IntKind.i64.wrap (((0 : Nat) : Int) + 1) = ((1 : Nat) : Int) := rfl
    have hd4 : decide (((0 : Nat) : Int) < 4) = true := rfl
    have hT : List.take (e.wr c x 0).pend.length ((e.wr c x 0).pend.map wrAV) = (e.wr c x 0).pend.map wrAV := List.take_of_length_le (by simp)
    have hmp : (wrPN e.pend c x 1).map wrAV = (e.wr c x 0).pend.map wrAV ++ [wrAV ((c, 0), sec x 0)] := by simp [wrPN, DS.wr]
    have hpe : dskC (e.wr c x 1) 2 3 8 = .cells (.agg [.int .i64 (e.wr c x 0).n, .mapv 1, .mapv 2, .sl 8 0 [] 0 ((e.wr c x 0).pend.length + 1) ((e.wr c x 0).pend.length + 1) 66, failV (e.wr c x 0).fails 3, .int .i64 (e.wr c x 0).fuse, .int .i64 (e.wr c x 0).ops, .bool (e.wr c x 0).down]) := by
      have h1 : pendV (wrPN e.pend c x 1) 8 = .sl 8 0 [] 0 ((e.wr c x 0).pend.length + 1) ((e.wr c x 0).pend.length + 1) 66 := by
        rw [pendV_eq (by simp [wrPN]), show (wrPN e.pend c x 1).length = (e.wr c x 0).pend.length + 1 by simp [wrPN, DS.wr]]
      show ABlk.cells (.agg [_, _, _, pendV (wrPN e.pend c x 1) 8, _, _, _, _]) = _
      rw [h1]; rfl
    simp -dsimp -implicitDefEqProofs only [↓j0, ↓j1, ↓j7, ↓j9, ↓j12, ↓j13, ↓j14, ↓j15, j17, j18, j20, ↓j25, ↓j27, ↓j29, ↓j30, j33, ↓j38, ↓j39, ↓j43, ↓j48, ↓j53, ↓j54, ↓j76, ↓j89, ↓j124, j125, j126, j127, j128, j129, ↓j145, ↓j146, ↓j147, ↓j149, ↓j153, j159, partsAV, AV.proj, AV.offOf, AV.size, AV.sizeL, AV.layable, j163, j164, j166, j167, j168, j169, j171, j179, j180, reduceCtorEq, ↓reduceIte, Nat.reduceEqDiff, j182, j183, j185, j197, j213, j214, j215, j216, j217, j240, j309, j310, j385, j386, j453, wrSt, hce.1, hce.2, hd4, hx]
    refine CallTo.pure (args := [arrAV x, .int .i64 ((0 : Nat) : Int)]) rfl fok38 (by simp -dsimp -implicitDefEqProofs only [↓j25, ↓j29, j173, j174, ↓reduceIte, Nat.reduceEqDiff]) (fun y hy => (args_ai y hy).2) hcut ?_
    simp -dsimp -implicitDefEqProofs only [↓j0, ↓j1, ↓j4, ↓j8, ↓j12, ↓j15, j17, j18, j19, j20, j21, j23, j24, ↓j25, ↓j27, ↓j29, ↓j38, ↓j41, ↓j43, ↓j44, ↓j45, ↓j54, ↓j56, ↓j65, ↓j76, ↓j78, ↓j79, ↓j124, j125, j126, j127, j128, j129, j138, ↓j145, ↓j146, ↓j153, partsAV, AV.proj, AV.offOf, AV.upd, AV.size, AV.sizeL, AV.layable, j163, j164, j166, j167, j168, j169, j170, j171, j172, j174, j179, j180, reduceCtorEq, ↓reduceIte, Nat.reduceAdd, Nat.reduceEqDiff, j182, j183, j196, j197, j213, j214, j215, j216, j217, j240, j243, j350, j366, j383, j384, j390, j391, j395, j398, j399, j401, j402, j430, j455, hsl]
    refine DoMapUpdate_own (k := plAV (c, 0)) Try.underlying74 rfl keyed67 hky hgm (fun vs h => by cases h) hup ?_
    simp -dsimp -implicitDefEqProofs only [↓j3, j17, j19, j20, j21, j23, j24, j170, j171, j173, j174, reduceCtorEq, ↓reduceIte, Nat.reduceEqDiff, j188, j189, del_app, del_pendB, del_failB]
    refine ⟨by kernel_rfl, ?_⟩
    simp -dsimp -implicitDefEqProofs only [↓j4, ↓j8, ↓j15, j17, j18, j20, j24, ↓j25, ↓j27, ↓j29, ↓j38, ↓j43, ↓j45, ↓j51, ↓j56, ↓j74, ↓j76, ↓j79, j125, j126, j127, j128, j129, ↓j145, ↓j146, ↓j153, partsAV, AV.proj, AV.offOf, AV.size, AV.sizeL, AV.layable, j163, j164, j166, j167, j169, j170, j171, j172, j173, j174, j179, j180, reduceCtorEq, ↓reduceIte, Nat.reduceAdd, Nat.reduceMul, Nat.reduceEqDiff, Nat.reduceLeDiff, j182, j183, j196, j197, j213, j214, j215, j217, Nat.reducePow, List.replicate, j234, j240, j243, j369, j395, j396, j449, hsl, load_pendV]
    by_cases hne : (e.wr c x 0).pend = []
    · have hV : pendV (e.wr c x 0).pend 4 = .nilsl := by rw [hne]; rfl
      have hB : pendB (e.wr c x 0).pend 4 = [] := by rw [hne]; rfl
      simp only [hV, hB]
      refine DoAppend_of rfl rfl at75 ?_
      simp -dsimp -implicitDefEqProofs only [↓j3, ↓j4, j17, j18, j19, j20, j21, j23, j24, ↓j25, ↓j27, ↓j29, ↓j44, ↓j45, ↓j56, ↓j78, ↓j79, ↓j100, ↓j106, j107, ↓j145, ↓j146, ↓j148, ↓j153, AV.proj, AV.offOf, AV.upd, AV.size, AV.sizeL, AV.layable, j163, j164, j166, j167, j168, j169, j170, j171, j172, j173, j174, reduceCtorEq, ↓reduceIte, Nat.reduceAdd, Nat.reduceMul, Nat.reduceEqDiff, Nat.reduceLeDiff, j182, j188, j189, j196, j197, j223, j227, j228, j230, j231, Nat.reduceBEq, j234, j351, j369, hu1, hV, del_failB]
      refine ⟨by kernel_rfl, ?_⟩
      simp -dsimp -implicitDefEqProofs only [↓j0, ↓j1, ↓j7, ↓j15, j17, j18, j20, ↓j25, ↓j29, ↓j30, j33, ↓j38, ↓j48, ↓j89, ↓j145, ↓j146, j154, j171, ↓reduceIte, Nat.reduceEqDiff, j185, hw2]
      have hl0 : (e.wr c x 0).pend.length = 0 := by rw [hne]; rfl
      exact ⟨3, wrSt e c x 1 8 9, by omega, ⟨1, by omega, rfl⟩, Wk.wr (by simp -dsimp -implicitDefEqProofs only [↓j25, reduceCtorEq, ↓reduceIte, Nat.reduceEqDiff, j182, j202, j203]) rfl (by rw [hpe, hl0]; rfl) rfl rfl (fun f hf => by have hf' : (e.wr c x 0).fails = some f := hf; simp [Heap.get, hf', failB]) (by rw [hmp, hne]; rfl)⟩
    · have hV : pendV (e.wr c x 0).pend 4 = .sl 4 0 [] 0 (e.wr c x 0).pend.length (e.wr c x 0).pend.length 66 := pendV_eq hne
      have hB : pendB (e.wr c x 0).pend 4 = [(4, .cells (.agg ((e.wr c x 0).pend.map wrAV)))] := pendB_eq hne
      simp only [hV, hB]
      refine DoAppend_of rfl rfl at75 ?_
      simp -dsimp -implicitDefEqProofs only [↓j27, ↓j101, ↓j102, ↓j106, j107, ↓j145, ↓j146, ↓j153, AV.proj, AV.offOf, j166, reduceCtorEq, ↓reduceIte, Nat.reduceEqDiff, Nat.reduceLeDiff, j182, j184, j188, j189, j196, j197, j213, j214, j215, j222, j223, j227, j228, j230, j231, j234, hu1, hub, get_append, get_failB]
      refine ⟨⟨by omega, by omega⟩, ?_⟩
      simp -dsimp -implicitDefEqProofs only [↓j3, ↓j4, j17, j18, j19, j20, j21, j22, j23, j24, ↓j25, ↓j27, ↓j29, ↓j44, ↓j45, ↓j56, ↓j78, ↓j79, ↓j145, ↓j146, ↓j153, AV.proj, AV.offOf, AV.upd, AV.size, AV.sizeL, AV.layable, j163, j164, j166, j167, j168, j169, j170, j171, j172, j173, j174, reduceCtorEq, ↓reduceIte, Nat.reduceAdd, Nat.reduceEqDiff, j182, j188, j189, j196, j197, j227, j228, j230, j231, j351, j369, hT, size_pendV, del_app, del_failB]
      refine ⟨by kernel_rfl, ?_⟩
      simp -dsimp -implicitDefEqProofs only [↓j0, ↓j1, ↓j7, ↓j15, j17, j18, j20, ↓j25, ↓j29, ↓j30, j33, ↓j38, ↓j48, ↓j89, ↓j145, ↓j146, j154, j171, ↓reduceIte, Nat.reduceEqDiff, j185, hw2]
      exact ⟨3, wrSt e c x 1 8 9, by omega, ⟨1, by omega, rfl⟩, Wk.wr (by simp -dsimp -implicitDefEqProofs only [↓j25, reduceCtorEq, ↓reduceIte, Nat.reduceEqDiff, j182, j202, j203]) rfl (by rw [hpe]; rfl) rfl rfl (fun f hf => by have hf' : (e.wr c x 0).fails = some f := hf; simp [Heap.get, hf', failB]) (by rw [hmp]; rfl)⟩
  | 1, hi =>
    have hi4 : 1 ≤ 4 := by omega
    have hwi := hwok 1 hi4
    have hwn := hwok (1 + 1) (by omega)
    have hsl := sec_len hx (show 1 < 4 by omega)
    have hcut := cut_spec x 1 hx (by omega)
    have hup := upd_seen (l := (e.wr c x 1).seen) hen hcn (show 1 < 4 by omega) hwi.seen (sec x 1)
    have hgm := goodW hen hwi.seen hwi.seenN
    have hky : IsKey Try.prog 81 (plAV (c, 1)) := isKey67 ⟨by show c < _; omega, by show (_ : Nat) < _; omega⟩
    have hpl0 := hpl 1
    have hub := unif_wr (e.wr c x 1).pend fun w hw => (hwi.pend w hw).2.2
    have hu1 : Unif 66 [wrAV ((c, 1), sec x 1)] := unif_wr [((c, 1), sec x 1)] fun w hw => by simp only [List.mem_singleton] at hw; subst hw; exact hsl
    have hce : wrA 1 = 8 ∧ wrX 1 = 9 := ⟨rfl, rfl⟩
    have hw2 : IntKind.i64.wrap (((1 : Nat) : Int) + 1) = ((2 : Nat) : Int) := rfl
    have hd4 : decide (((1 : Nat) : Int) < 4) = true := rfl
    have hT : List.take (e.wr c x 1).pend.length ((e.wr c x 1).pend.map wrAV) = (e.wr c x 1).pend.map wrAV := List.take_of_length_le (by simp)
    have hmp : (wrPN e.pend c x 2).map wrAV = (e.wr c x 1).pend.map wrAV ++ [wrAV ((c, 1), sec x 1)] := by simp [wrPN, DS.wr]
    have hpe : dskC (e.wr c x 2) 2 3 11 = .cells (.agg [.int .i64 (e.wr c x 1).n, .mapv 1, .mapv 2, .sl 11 0 [] 0 ((e.wr c x 1).pend.length + 1) ((e.wr c x 1).pend.length + 1) 66, failV (e.wr c x 1).fails 3, .int .i64 (e.wr c x 1).fuse, .int .i64 (e.wr c x 1).ops, .bool (e.wr c x 1).down]) := by
      have h1 : pendV (wrPN e.pend c x 2) 11 = .sl 11 0 [] 0 ((e.wr c x 1).pend.length + 1) ((e.wr c x 1).pend.length + 1) 66 := by
        rw [pendV_eq (by simp [wrPN]), show (wrPN e.pend c x 2).length = (e.wr c x 1).pend.length + 1 by simp [wrPN, DS.wr]]
      show ABlk.cells (.agg [_, _, _, pendV (wrPN e.pend c x 2) 11, _, _, _, _]) = _
      rw [h1]; rfl
    simp -dsimp -implicitDefEqProofs only [↓j0, ↓j1, ↓j7, ↓j9, ↓j12, ↓j13, ↓j14, ↓j15, j17, j18, j20, ↓j25, ↓j27, ↓j29, ↓j30, j33, ↓j38, ↓j39, ↓j43, ↓j48, ↓j53, ↓j54, ↓j76, ↓j89, ↓j124, j125, j126, j127, j128, j129, ↓j145, ↓j146, ↓j147, ↓j149, ↓j153, j159, partsAV, AV.proj, AV.offOf, AV.size, AV.sizeL, AV.layable, j163, j164, j166, j167, j168, j169, j171, j179, j180, reduceCtorEq, ↓reduceIte, Nat.reduceEqDiff, j182, j183, j185, j197, j213, j214, j215, j216, j217, j240, j309, j310, j385, j386, j453, wrSt, hce.1, hce.2, hd4, hx]
    refine CallTo.pure (args := [arrAV x, .int .i64 ((1 : Nat) : Int)]) rfl fok38 (by simp -dsimp -implicitDefEqProofs only [↓j25, ↓j29, j173, j174, ↓reduceIte, Nat.reduceEqDiff]) (fun y hy => (args_ai y hy).2) hcut ?_
    simp -dsimp -implicitDefEqProofs only [↓j0, ↓j1, ↓j4, ↓j8, ↓j12, ↓j15, j17, j18, j19, j20, j21, j23, j24, ↓j25, ↓j27, ↓j29, ↓j38, ↓j41, ↓j43, ↓j44, ↓j45, ↓j54, ↓j56, ↓j65, ↓j76, ↓j78, ↓j79, ↓j124, j125, j126, j127, j128, j129, j138, ↓j145, ↓j146, ↓j153, partsAV, AV.proj, AV.offOf, AV.upd, AV.size, AV.sizeL, AV.layable, j163, j164, j166, j167, j168, j169, j170, j171, j172, j174, j179, j180, reduceCtorEq, ↓reduceIte, Nat.reduceAdd, Nat.reduceEqDiff, j182, j183, j196, j197, j213, j214, j215, j216, j217, j240, j243, j350, j366, j383, j384, j390, j391, j395, j398, j399, j401, j402, j430, j455, hsl]
    refine DoMapUpdate_own (k := plAV (c, 1)) Try.underlying74 rfl keyed67 hky hgm (fun vs h => by cases h) hup ?_
    simp -dsimp -implicitDefEqProofs only [↓j3, j17, j19, j20, j21, j23, j24, j170, j171, j173, j174, reduceCtorEq, ↓reduceIte, Nat.reduceEqDiff, j188, j189, del_app, del_pendB, del_failB]
    refine ⟨by kernel_rfl, ?_⟩
    simp -dsimp -implicitDefEqProofs only [↓j4, ↓j8, ↓j15, j17, j18, j20, j24, ↓j25, ↓j27, ↓j29, ↓j38, ↓j43, ↓j45, ↓j51, ↓j56, ↓j74, ↓j76, ↓j79, j125, j126, j127, j128, j129, ↓j145, ↓j146, ↓j153, partsAV, AV.proj, AV.offOf, AV.size, AV.sizeL, AV.layable, j163, j164, j166, j167, j169, j170, j171, j172, j173, j174, j179, j180, reduceCtorEq, ↓reduceIte, Nat.reduceAdd, Nat.reduceMul, Nat.reduceEqDiff, Nat.reduceLeDiff, j182, j183, j196, j197, j213, j214, j215, j217, Nat.reducePow, List.replicate, j234, j240, j243, j369, j395, j396, j449, hsl, load_pendV]
    have hne : (e.wr c x 1).pend ≠ [] := fun h => by rw [h] at hpl0; simp at hpl0
    have hV : pendV (e.wr c x 1).pend 8 = .sl 8 0 [] 0 (e.wr c x 1).pend.length (e.wr c x 1).pend.length 66 := pendV_eq hne
    have hB : pendB (e.wr c x 1).pend 8 = [(8, .cells (.agg ((e.wr c x 1).pend.map wrAV)))] := pendB_eq hne
    simp only [hV, hB]
    refine DoAppend_of rfl rfl at75 ?_
    simp -dsimp -implicitDefEqProofs only [↓j27, ↓j101, ↓j102, ↓j106, j107, ↓j145, ↓j146, ↓j153, AV.proj, AV.offOf, j166, reduceCtorEq, ↓reduceIte, Nat.reduceEqDiff, Nat.reduceLeDiff, j182, j184, j188, j189, j196, j197, j213, j214, j215, j222, j223, j227, j228, j230, j231, j234, hu1, hub, get_append, get_failB]
    refine ⟨⟨by omega, by omega⟩, ?_⟩
    simp -dsimp -implicitDefEqProofs only [↓j3, ↓j4, j17, j18, j19, j20, j21, j22, j23, j24, ↓j25, ↓j27, ↓j29, ↓j44, ↓j45, ↓j56, ↓j78, ↓j79, ↓j145, ↓j146, ↓j153, AV.proj, AV.offOf, AV.upd, AV.size, AV.sizeL, AV.layable, j163, j164, j166, j167, j168, j169, j170, j171, j172, j173, j174, reduceCtorEq, ↓reduceIte, Nat.reduceAdd, Nat.reduceEqDiff, j182, j188, j189, j196, j197, j227, j228, j230, j231, j351, j369, hT, size_pendV, del_app, del_failB]
    refine ⟨by kernel_rfl, ?_⟩
    simp -dsimp -implicitDefEqProofs only [↓j0, ↓j1, ↓j7, ↓j15, j17, j18, j20, ↓j25, ↓j29, ↓j30, j33, ↓j38, ↓j48, ↓j89, ↓j145, ↓j146, j154, j171, ↓reduceIte, Nat.reduceEqDiff, j185, hw2]
    exact ⟨2, wrSt e c x 2 11 12, by omega, ⟨2, by omega, rfl⟩, Wk.wr (by simp -dsimp -implicitDefEqProofs only [↓j25, reduceCtorEq, ↓reduceIte, Nat.reduceEqDiff, j182, j202, j203]) rfl (by rw [hpe]; rfl) rfl rfl (fun f hf => by have hf' : (e.wr c x 1).fails = some f := hf; simp [Heap.get, hf', failB]) (by rw [hmp]; rfl)⟩
  | 2, hi =>
    have hi4 : 2 ≤ 4 := by omega
    have hwi := hwok 2 hi4
    have hwn := hwok (2 + 1) (by omega)
    have hsl := sec_len hx (show 2 < 4 by omega)
    have hcut := cut_spec x 2 hx (by omega)
    have hup := upd_seen (l := (e.wr c x 2).seen) hen hcn (show 2 < 4 by omega) hwi.seen (sec x 2)
    have hgm := goodW hen hwi.seen hwi.seenN
    have hky : IsKey Try.prog 81 (plAV (c, 2)) := isKey67 ⟨by show c < _; omega, by show (_ : Nat) < _; omega⟩
    have hpl0 := hpl 2
    have hub := unif_wr (e.wr c x 2).pend fun w hw => (hwi.pend w hw).2.2
    have hu1 : Unif 66 [wrAV ((c, 2), sec x 2)] := unif_wr [((c, 2), sec x 2)] fun w hw => by simp only [List.mem_singleton] at hw; subst hw; exact hsl
    have hce : wrA 2 = 11 ∧ wrX 2 = 12 := ⟨rfl, rfl⟩
    have hw2 : IntKind.i64.wrap (((2 : Nat) : Int) + 1) = ((3 : Nat) : Int) := rfl
    have hd4 : decide (((2 : Nat) : Int) < 4) = true := rfl
    have hT : List.take (e.wr c x 2).pend.length ((e.wr c x 2).pend.map wrAV) = (e.wr c x 2).pend.map wrAV := List.take_of_length_le (by simp)
    have hmp : (wrPN e.pend c x 3).map wrAV = (e.wr c x 2).pend.map wrAV ++ [wrAV ((c, 2), sec x 2)] := by simp [wrPN, DS.wr]
    have hpe : dskC (e.wr c x 3) 2 3 14 = .cells (.agg [.int .i64 (e.wr c x 2).n, .mapv 1, .mapv 2, .sl 14 0 [] 0 ((e.wr c x 2).pend.length + 1) ((e.wr c x 2).pend.length + 1) 66, failV (e.wr c x 2).fails 3, .int .i64 (e.wr c x 2).fuse, .int .i64 (e.wr c x 2).ops, .bool (e.wr c x 2).down]) := by
      have h1 : pendV (wrPN e.pend c x 3) 14 = .sl 14 0 [] 0 ((e.wr c x 2).pend.length + 1) ((e.wr c x 2).pend.length + 1) 66 := by
        rw [pendV_eq (by simp [wrPN]), show (wrPN e.pend c x 3).length = (e.wr c x 2).pend.length + 1 by simp [wrPN, DS.wr]]
      show ABlk.cells (.agg [_, _, _, pendV (wrPN e.pend c x 3) 14, _, _, _, _]) = _
      rw [h1]; rfl
    simp -dsimp -implicitDefEqProofs only [↓j0, ↓j1, ↓j7, ↓j9, ↓j12, ↓j13, ↓j14, ↓j15, j17, j18, j20, ↓j25, ↓j27, ↓j29, ↓j30, j33, ↓j38, ↓j39, ↓j43, ↓j48, ↓j53, ↓j54, ↓j76, ↓j89, ↓j124, j125, j126, j127, j128, j129, ↓j145, ↓j146, ↓j147, ↓j149, ↓j153, j159, partsAV, AV.proj, AV.offOf, AV.size, AV.sizeL, AV.layable, j163, j164, j166, j167, j168, j169, j171, j179, j180, reduceCtorEq, ↓reduceIte, Nat.reduceEqDiff, j182, j183, j185, j197, j213, j214, j215, j216, j217, j240, j309, j310, j385, j386, j453, wrSt, hce.1, hce.2, hd4, hx]
    refine CallTo.pure (args := [arrAV x, .int .i64 ((2 : Nat) : Int)]) rfl fok38 (by simp -dsimp -implicitDefEqProofs only [↓j25, ↓j29, j173, j174, ↓reduceIte, Nat.reduceEqDiff]) (fun y hy => (args_ai y hy).2) hcut ?_
    simp -dsimp -implicitDefEqProofs only [↓j0, ↓j1, ↓j4, ↓j8, ↓j12, ↓j15, j17, j18, j19, j20, j21, j23, j24, ↓j25, ↓j27, ↓j29, ↓j38, ↓j41, ↓j43, ↓j44, ↓j45, ↓j54, ↓j56, ↓j65, ↓j76, ↓j78, ↓j79, ↓j124, j125, j126, j127, j128, j129, j138, ↓j145, ↓j146, ↓j153, partsAV, AV.proj, AV.offOf, AV.upd, AV.size, AV.sizeL, AV.layable, j163, j164, j166, j167, j168, j169, j170, j171, j172, j174, j179, j180, reduceCtorEq, ↓reduceIte, Nat.reduceAdd, Nat.reduceEqDiff, j182, j183, j196, j197, j213, j214, j215, j216, j217, j240, j243, j350, j366, j383, j384, j390, j391, j395, j398, j399, j401, j402, j430, j455, hsl]
    refine DoMapUpdate_own (k := plAV (c, 2)) Try.underlying74 rfl keyed67 hky hgm (fun vs h => by cases h) hup ?_
    simp -dsimp -implicitDefEqProofs only [↓j3, j17, j19, j20, j21, j23, j24, j170, j171, j173, j174, reduceCtorEq, ↓reduceIte, Nat.reduceEqDiff, j188, j189, del_app, del_pendB, del_failB]
    refine ⟨by kernel_rfl, ?_⟩
    simp -dsimp -implicitDefEqProofs only [↓j4, ↓j8, ↓j15, j17, j18, j20, j24, ↓j25, ↓j27, ↓j29, ↓j38, ↓j43, ↓j45, ↓j51, ↓j56, ↓j74, ↓j76, ↓j79, j125, j126, j127, j128, j129, ↓j145, ↓j146, ↓j153, partsAV, AV.proj, AV.offOf, AV.size, AV.sizeL, AV.layable, j163, j164, j166, j167, j169, j170, j171, j172, j173, j174, j179, j180, reduceCtorEq, ↓reduceIte, Nat.reduceAdd, Nat.reduceMul, Nat.reduceEqDiff, Nat.reduceLeDiff, j182, j183, j196, j197, j213, j214, j215, j217, Nat.reducePow, List.replicate, j234, j240, j243, j369, j395, j396, j449, hsl, load_pendV]
    have hne : (e.wr c x 2).pend ≠ [] := fun h => by rw [h] at hpl0; simp at hpl0
    have hV : pendV (e.wr c x 2).pend 11 = .sl 11 0 [] 0 (e.wr c x 2).pend.length (e.wr c x 2).pend.length 66 := pendV_eq hne
    have hB : pendB (e.wr c x 2).pend 11 = [(11, .cells (.agg ((e.wr c x 2).pend.map wrAV)))] := pendB_eq hne
    simp only [hV, hB]
    refine DoAppend_of rfl rfl at75 ?_
    simp -dsimp -implicitDefEqProofs only [↓j27, ↓j101, ↓j102, ↓j106, j107, ↓j145, ↓j146, ↓j153, AV.proj, AV.offOf, j166, reduceCtorEq, ↓reduceIte, Nat.reduceEqDiff, Nat.reduceLeDiff, j182, j184, j188, j189, j196, j197, j213, j214, j215, j222, j223, j227, j228, j230, j231, j234, hu1, hub, get_append, get_failB]
    refine ⟨⟨by omega, by omega⟩, ?_⟩
    simp -dsimp -implicitDefEqProofs only [↓j3, ↓j4, j17, j18, j19, j20, j21, j22, j23, j24, ↓j25, ↓j27, ↓j29, ↓j44, ↓j45, ↓j56, ↓j78, ↓j79, ↓j145, ↓j146, ↓j153, AV.proj, AV.offOf, AV.upd, AV.size, AV.sizeL, AV.layable, j163, j164, j166, j167, j168, j169, j170, j171, j172, j173, j174, reduceCtorEq, ↓reduceIte, Nat.reduceAdd, Nat.reduceEqDiff, j182, j188, j189, j196, j197, j227, j228, j230, j231, j351, j369, hT, size_pendV, del_app, del_failB]
    refine ⟨by kernel_rfl, ?_⟩
    simp -dsimp -implicitDefEqProofs only [↓j0, ↓j1, ↓j7, ↓j15, j17, j18, j20, ↓j25, ↓j29, ↓j30, j33, ↓j38, ↓j48, ↓j89, ↓j145, ↓j146, j154, j171, ↓reduceIte, Nat.reduceEqDiff, j185, hw2]
    exact ⟨1, wrSt e c x 3 14 15, by omega, ⟨3, by omega, rfl⟩, Wk.wr (by simp -dsimp -implicitDefEqProofs only [↓j25, reduceCtorEq, ↓reduceIte, Nat.reduceEqDiff, j182, j202, j203]) rfl (by rw [hpe]; rfl) rfl rfl (fun f hf => by have hf' : (e.wr c x 2).fails = some f := hf; simp [Heap.get, hf', failB]) (by rw [hmp]; rfl)⟩
  | 3, hi =>
    have hi4 : 3 ≤ 4 := by omega
    have hwi := hwok 3 hi4
    have hwn := hwok (3 + 1) (by omega)
    have hsl := sec_len hx (show 3 < 4 by omega)
    have hcut := cut_spec x 3 hx (by omega)
    have hup := upd_seen (l := (e.wr c x 3).seen) hen hcn (show 3 < 4 by omega) hwi.seen (sec x 3)
    have hgm := goodW hen hwi.seen hwi.seenN
    have hky : IsKey Try.prog 81 (plAV (c, 3)) := isKey67 ⟨by show c < _; omega, by show (_ : Nat) < _; omega⟩
    have hpl0 := hpl 3
    have hub := unif_wr (e.wr c x 3).pend fun w hw => (hwi.pend w hw).2.2
    have hu1 : Unif 66 [wrAV ((c, 3), sec x 3)] := unif_wr [((c, 3), sec x 3)] fun w hw => by simp only [List.mem_singleton] at hw; subst hw; exact hsl
    have hce : wrA 3 = 14 ∧ wrX 3 = 15 := ⟨rfl, rfl⟩
    have hw2 : IntKind.i64.wrap (((3 : Nat) : Int) + 1) = ((4 : Nat) : Int) := rfl
    have hd4 : decide (((3 : Nat) : Int) < 4) = true := rfl
    have hT : List.take (e.wr c x 3).pend.length ((e.wr c x 3).pend.map wrAV) = (e.wr c x 3).pend.map wrAV := List.take_of_length_le (by simp)
    have hmp : (wrPN e.pend c x 4).map wrAV = (e.wr c x 3).pend.map wrAV ++ [wrAV ((c, 3), sec x 3)] := by simp [wrPN, DS.wr]
    have hpe : dskC (e.wr c x 4) 2 3 17 = .cells (.agg [.int .i64 (e.wr c x 3).n, .mapv 1, .mapv 2, .sl 17 0 [] 0 ((e.wr c x 3).pend.length + 1) ((e.wr c x 3).pend.length + 1) 66, failV (e.wr c x 3).fails 3, .int .i64 (e.wr c x 3).fuse, .int .i64 (e.wr c x 3).ops, .bool (e.wr c x 3).down]) := by
      have h1 : pendV (wrPN e.pend c x 4) 17 = .sl 17 0 [] 0 ((e.wr c x 3).pend.length + 1) ((e.wr c x 3).pend.length + 1) 66 := by
        rw [pendV_eq (by simp [wrPN]), show (wrPN e.pend c x 4).length = (e.wr c x 3).pend.length + 1 by simp [wrPN, DS.wr]]
      show ABlk.cells (.agg [_, _, _, pendV (wrPN e.pend c x 4) 17, _, _, _, _]) = _
      rw [h1]; rfl
    simp -dsimp -implicitDefEqProofs only [↓j0, ↓j1, ↓j7, ↓j9, ↓j12, ↓j13, ↓j14, ↓j15, j17, j18, j20, ↓j25, ↓j27, ↓j29, ↓j30, j33, ↓j38, ↓j39, ↓j43, ↓j48, ↓j53, ↓j54, ↓j76, ↓j89, ↓j124, j125, j126, j127, j128, j129, ↓j145, ↓j146, ↓j147, ↓j149, ↓j153, j159, partsAV, AV.proj, AV.offOf, AV.size, AV.sizeL, AV.layable, j163, j164, j166, j167, j168, j169, j171, j179, j180, reduceCtorEq, ↓reduceIte, Nat.reduceEqDiff, j182, j183, j185, j197, j213, j214, j215, j216, j217, j240, j309, j310, j385, j386, j453, wrSt, hce.1, hce.2, hd4, hx]
    refine CallTo.pure (args := [arrAV x, .int .i64 ((3 : Nat) : Int)]) rfl fok38 (by simp -dsimp -implicitDefEqProofs only [↓j25, ↓j29, j173, j174, ↓reduceIte, Nat.reduceEqDiff]) (fun y hy => (args_ai y hy).2) hcut ?_
    simp -dsimp -implicitDefEqProofs only [↓j0, ↓j1, ↓j4, ↓j8, ↓j12, ↓j15, j17, j18, j19, j20, j21, j23, j24, ↓j25, ↓j27, ↓j29, ↓j38, ↓j41, ↓j43, ↓j44, ↓j45, ↓j54, ↓j56, ↓j65, ↓j76, ↓j78, ↓j79, ↓j124, j125, j126, j127, j128, j129, j138, ↓j145, ↓j146, ↓j153, partsAV, AV.proj, AV.offOf, AV.upd, AV.size, AV.sizeL, AV.layable, j163, j164, j166, j167, j168, j169, j170, j171, j172, j174, j179, j180, reduceCtorEq, ↓reduceIte, Nat.reduceAdd, Nat.reduceEqDiff, j182, j183, j196, j197, j213, j214, j215, j216, j217, j240, j243, j350, j366, j383, j384, j390, j391, j395, j398, j399, j401, j402, j430, j455, hsl]
    refine DoMapUpdate_own (k := plAV (c, 3)) Try.underlying74 rfl keyed67 hky hgm (fun vs h => by cases h) hup ?_
    simp -dsimp -implicitDefEqProofs only [↓j3, j17, j19, j20, j21, j23, j24, j170, j171, j173, j174, reduceCtorEq, ↓reduceIte, Nat.reduceEqDiff, j188, j189, del_app, del_pendB, del_failB]
    refine ⟨by kernel_rfl, ?_⟩
    simp -dsimp -implicitDefEqProofs only [↓j4, ↓j8, ↓j15, j17, j18, j20, j24, ↓j25, ↓j27, ↓j29, ↓j38, ↓j43, ↓j45, ↓j51, ↓j56, ↓j74, ↓j76, ↓j79, j125, j126, j127, j128, j129, ↓j145, ↓j146, ↓j153, partsAV, AV.proj, AV.offOf, AV.size, AV.sizeL, AV.layable, j163, j164, j166, j167, j169, j170, j171, j172, j173, j174, j179, j180, reduceCtorEq, ↓reduceIte, Nat.reduceAdd, Nat.reduceMul, Nat.reduceEqDiff, Nat.reduceLeDiff, j182, j183, j196, j197, j213, j214, j215, j217, Nat.reducePow, List.replicate, j234, j240, j243, j369, j395, j396, j449, hsl, load_pendV]
    have hne : (e.wr c x 3).pend ≠ [] := fun h => by rw [h] at hpl0; simp at hpl0
    have hV : pendV (e.wr c x 3).pend 14 = .sl 14 0 [] 0 (e.wr c x 3).pend.length (e.wr c x 3).pend.length 66 := pendV_eq hne
    have hB : pendB (e.wr c x 3).pend 14 = [(14, .cells (.agg ((e.wr c x 3).pend.map wrAV)))] := pendB_eq hne
    simp only [hV, hB]
    refine DoAppend_of rfl rfl at75 ?_
    simp -dsimp -implicitDefEqProofs only [↓j27, ↓j101, ↓j102, ↓j106, j107, ↓j145, ↓j146, ↓j153, AV.proj, AV.offOf, j166, reduceCtorEq, ↓reduceIte, Nat.reduceEqDiff, Nat.reduceLeDiff, j182, j184, j188, j189, j196, j197, j213, j214, j215, j222, j223, j227, j228, j230, j231, j234, hu1, hub, get_append, get_failB]
    refine ⟨⟨by omega, by omega⟩, ?_⟩
    simp -dsimp -implicitDefEqProofs only [↓j3, ↓j4, j17, j18, j19, j20, j21, j22, j23, j24, ↓j25, ↓j27, ↓j29, ↓j44, ↓j45, ↓j56, ↓j78, ↓j79, ↓j145, ↓j146, ↓j153, AV.proj, AV.offOf, AV.upd, AV.size, AV.sizeL, AV.layable, j163, j164, j166, j167, j168, j169, j170, j171, j172, j173, j174, reduceCtorEq, ↓reduceIte, Nat.reduceAdd, Nat.reduceEqDiff, j182, j188, j189, j196, j197, j227, j228, j230, j231, j351, j369, hT, size_pendV, del_app, del_failB]
    refine ⟨by kernel_rfl, ?_⟩
    simp -dsimp -implicitDefEqProofs only [↓j0, ↓j1, ↓j7, ↓j15, j17, j18, j20, ↓j25, ↓j29, ↓j30, j33, ↓j38, ↓j48, ↓j89, ↓j145, ↓j146, j154, j171, ↓reduceIte, Nat.reduceEqDiff, j185, hw2]
    exact ⟨0, wrSt e c x 4 17 18, by omega, ⟨4, by omega, rfl⟩, Wk.wr (by simp -dsimp -implicitDefEqProofs only [↓j25, reduceCtorEq, ↓reduceIte, Nat.reduceEqDiff, j182, j202, j203]) rfl (by rw [hpe]; rfl) rfl rfl (fun f hf => by have hf' : (e.wr c x 3).fails = some f := hf; simp [Heap.get, hf', failB]) (by rw [hmp]; rfl)⟩
  | 4, hi =>
    have hd4 : decide (((4 : Nat) : Int) < 4) = false := rfl
    simp -dsimp -implicitDefEqProofs only [↓j0, ↓j1, ↓j7, ↓j10, ↓j11, ↓j12, ↓j13, ↓j15, j17, j18, j20, ↓j25, ↓j29, ↓j30, j33, ↓j39, ↓j48, ↓j89, ↓j145, ↓j146, ↓j148, ↓j149, j159, j171, ↓reduceIte, j185, wrSt, hd4]
    have hne : (e.wr c x 4).pend ≠ d.pend := fun h => by
      have := congrArg List.length h
      rw [hpl 4, q4] at this; omega
    have hne0 : (e.wr c x 4).pend ≠ [] := fun h => by
      have := congrArg List.length h
      rw [hpl 4] at this; simp at this
    rw [hval]
    simp only [hne, if_false]
    refine Final.oneH (.inr rfl) (r := .tmp 6) rfl ⟨rfl, fun vs h => by cases h⟩ (fun vs h => by cases h) (fun vs h => by cases h) (.same _ trivial) ?_
    have nm17 : Nm 2 3 17 := ⟨by omega, by omega, by omega, by omega, by omega, by omega⟩
    exact disk_keep rfl rfl rfl (fun f hf => get_fail (d := e.wr c x 4) nm17 hf) (fun hp => get_pend (d := e.wr c x 4) nm17 hp)
  | j + 5, hi => omega
end Go.Proofs.Ythfaldoagmkllaa
