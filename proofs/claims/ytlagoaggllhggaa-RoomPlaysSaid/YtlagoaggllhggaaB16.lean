/- The law RoomPlays. -/
import Derived.Test.YtlagoaggllhggaaB15
import Derived.Test.YtlagoaggllhggaaB8
import Derived.Test.YtlagoaggllhggaaF41
set_option linter.unusedVariables false
set_option linter.unusedSimpArgs false
namespace Go.Proofs.Ytlagoaggllhggaa
open Go Go.RowKit

structure Rop where
  kind : Int
  no : Int
  lsn : Int
  olds : List Old
abbrev Rop.av (o : Rop) : AV := .agg [.int .i64 o.kind, .int .i64 o.no, undoAV o.lsn o.olds]
abbrev ropsAV (l : List Rop) : AV := .vsl (l.map Rop.av) l.length
theorem unif_rop (l : List Rop) : Unif 4 (l.map Rop.av) := fun x hx => by
  obtain ⟨o, _, rfl⟩ := List.mem_map.1 hx; rfl
theorem sizeL_rop (l : List Rop) (i : Nat) (h : i ≤ l.length) : AV.sizeL ((l.map Rop.av).take i) = i * 4 := (unif_rop l).sizeL_take (by simpa using h)
theorem on_rop (S : Nat → Prop) (o : Rop) : AV.on S o.av := ⟨trivial, trivial, on_undo _ _ _, trivial⟩
theorem on_rops (S : Nat → Prop) (l : List Rop) : AV.on S (ropsAV l) := by
  show AV.onL S _
  rw [AV.onL_iff]
  intro x hx
  obtain ⟨o, _, rfl⟩ := List.mem_map.1 hx
  exact on_rop _ _
theorem argsP {n : Int} {l : List Rop} : ∀ x, x ∈ [AV.int .i64 n, ropsAV l] → AV.on (fun _ => False) x ∧ ∀ vs, x ≠ .tuple vs := fun x hx => by
  simp only [List.mem_cons, List.not_mem_nil, or_false] at hx
  rcases hx with rfl | rfl
  · exact ⟨trivial, fun vs h => by cases h⟩
  · exact ⟨on_rops _ _, fun vs h => by cases h⟩
theorem small_note {L : List Pg} {no : Int} {p : Pg} (hs : Small L) (hp : p.2.length ≤ 100) : Small (noteP L no p) ∧ (noteP L no p).length = L.length := by
  unfold noteP
  split
  · refine ⟨⟨by rw [List.length_set]; exact hs.1, fun q hq => ?_⟩, List.length_set⟩
    rcases List.mem_or_eq_of_mem_set hq with h1 | rfl
    · exact hs.2 q h1
    · exact hp
  · exact ⟨hs, rfl⟩
theorem find_last {L : List Pg} {last : Nat} {n : Int} (hl : last < L.length) : (findP L last n).2.2 < L.length := by
  cases h : (findP L last n).2.1
  · rw [(find_no hl h).1]; exact hl
  · obtain ⟨i, p, h1, _, _, h2⟩ := find_ok hl h
    rw [h1]; exact h2
theorem pw_on {n : Nat} {script : List Rop} {i : Nat} : onT (fun m => m < 100) [(7, .int .i64 i), (5, .ptr 1 0 []), (6, .ptr 3 0 []), (0, .int .i64 n), (1, ropsAV script), (4, .bool false)] :=
  (onTL_cons trivial (onTL_cons (show (1 : Nat) < 100 by decide) (onTL_cons (show (3 : Nat) < 100 by decide) (onTL_cons trivial (onTL_cons (on_rops _ _) (onTL_cons trivial onTL_nil))))) : onTL (fun m => m < 100) [(7, .int .i64 i), (5, .ptr 1 0 []), (6, .ptr 3 0 []), (0, .int .i64 n), (1, ropsAV script), (4, .bool false)]).onT
def twoH (L : List Pg) (last : Nat) : Heap := [(1, roomB 0 L last), (0, listB L), (3, roomB 2 L last), (2, listB L)]
theorem twoH_on {L : List Pg} {last : Nat} : onH (fun m => m < 100) (twoH L last) :=
  (onHL_cons (show (1 : Nat) < 100 by decide) ⟨show (0 : Nat) < 100 by decide, trivial, trivial⟩ (onHL_cons (show (0 : Nat) < 100 by decide) (on_pg _ _) (onHL_cons (show (3 : Nat) < 100 by decide) ⟨show (2 : Nat) < 100 by decide, trivial, trivial⟩ (onHL_cons (show (2 : Nat) < 100 by decide) (on_pg _ _) onHL_nil))) : onHL (fun m => m < 100) (twoH L last)).onH
def plT (n : Nat) (script : List Rop) (i : Nat) : Env := [(7, .int .i64 i), (5, .ptr 1 0 []), (6, .ptr 3 0 []), (0, .int .i64 n), (1, ropsAV script), (4, .bool false)]
def plSt (n : Nat) (script : List Rop) (L : List Pg) (last i : Nat) : St := ⟨194, plT n script i, twoH L last, 100⟩
theorem rput_same {L L' : List Pg} {last last' m k : Nat} : ∀ n x, Heap.get (rroomH L last) n = some x → n ∉ (rroomH L' last').map (·.1) → m ≤ n ∧ n < k := by
  intro n x h h2
  rcases get_rroom h with ⟨rfl, _⟩ | ⟨rfl, _⟩ <;> simp at h2
theorem refs_get {L : List Pg} {i j : Nat} {p : Pg} {o : Old} (hp : L[i]? = some p) (ho : p.2[j]? = some o) (hl : o.live = true) : (refs 0 L)[liveAll (L.take i) + liveN (p.2.take j)]? = some (i, j) := by
  have h1 : refs 0 L = refs 0 (L.take (i + 1)) ++ refs (0 + (L.take (i + 1)).length) (L.drop (i + 1)) := by rw [← refs_append, List.take_append_drop]
  have h2 : slots i 0 p.2 = slots i 0 (p.2.take (j + 1)) ++ slots i (0 + (p.2.take (j + 1)).length) (p.2.drop (j + 1)) := by rw [← slots_append, List.take_append_drop]
  rw [slots_take ho, hl, if_pos rfl] at h2
  rw [refs_take hp, h2] at h1
  have hA := refs_len 0 (L.take i)
  have hB := slots_len i 0 (p.2.take j)
  generalize refs 0 (L.take i) = A at h1 hA
  generalize slots i 0 (p.2.take j) = B at h1 hB
  rw [h1, ← hA, ← hB]
  rw [List.getElem?_append_left (by simp), List.getElem?_append_right (by omega), List.getElem?_append_left (by simp), List.getElem?_append_right (by omega)]
  simp
theorem Small.live {L : List Pg} (h : Small L) (i : Nat) : liveAll (L.take i) ≤ 3200 := by
  have := liveAll_le (L := L.take i) fun p hp => h.2 p (List.mem_of_mem_take hp)
  have h2 := List.length_take_le i L
  have h3 := h.1
  have h4 : (L.take i).length ≤ 32 := by rw [List.length_take]; omega
  omega
def rpsT (L : List Pg) (i : Nat) (a b : Nat) : Env := [(132, .int .i64 i), (131, .int .i64 L.length), (130, .sl 2 0 [] 0 L.length L.length 2), (14, .int .i64 a), (15, .int .i64 b), (16, refsAV (refs 0 L)), (5, .ptr 1 0 []), (4, .bool false)]
def rpsSt (L : List Pg) (last : Nat) (i : Nat) : St := ⟨194, rpsT L i (liveAll (L.take i)) (liveAll (L.take i)), twoH L last, 100⟩
def rqT (L : List Pg) (p : Pg) (i j : Nat) (a b : Nat) : Env := [(145, .int .i64 j), (144, .int .i64 p.2.length), (143, rowAV p.2), (17, .int .i64 i), (132, .int .i64 i), (131, .int .i64 L.length), (130, .sl 2 0 [] 0 L.length L.length 2), (14, .int .i64 a), (15, .int .i64 b), (16, refsAV (refs 0 L)), (5, .ptr 1 0 []), (4, .bool false)]
def rqSt (L : List Pg) (last : Nat) (p : Pg) (i j : Nat) : St := ⟨194, rqT L p i j (liveAll (L.take (i + 1))) (liveAll (L.take i) + liveN (p.2.take j)), twoH L last, 100⟩
theorem on_refs (S : Nat → Prop) (l : List (Nat × Nat)) : AV.on S (refsAV l) := on_ref S l
theorem rp_on {L : List Pg} {i a b : Nat} : onT (fun m => m < 100) (rpsT L i a b) :=
  (onTL_cons trivial (onTL_cons trivial (onTL_cons (show (2 : Nat) < 100 by decide) (onTL_cons trivial (onTL_cons trivial (onTL_cons (on_refs _ _) (onTL_cons (show (1 : Nat) < 100 by decide) (onTL_cons trivial onTL_nil))))))) : onTL (fun m => m < 100) (rpsT L i a b)).onT
theorem rq_on {L : List Pg} {p : Pg} {i j a b : Nat} : onT (fun m => m < 100) (rqT L p i j a b) :=
  (onTL_cons trivial (onTL_cons trivial (onTL_cons (on_olds _ _) (onTL_cons trivial (onTL_cons trivial (onTL_cons trivial (onTL_cons (show (2 : Nat) < 100 by decide) (onTL_cons trivial (onTL_cons trivial (onTL_cons (on_refs _ _) (onTL_cons (show (1 : Nat) < 100 by decide) (onTL_cons trivial onTL_nil))))))))))) : onTL (fun m => m < 100) (rqT L p i j a b)).onT
theorem notup3 {x y z : AV} (hx : ∀ vs, x ≠ .tuple vs) (hy : ∀ vs, y ≠ .tuple vs) (hz : ∀ vs, z ≠ .tuple vs) : ∀ w, w ∈ [x, y, z] → ∀ vs, w ≠ .tuple vs := fun w hw => by
  simp only [List.mem_cons, List.not_mem_nil, or_false] at hw
  rcases hw with rfl | rfl | rfl
  · exact hx
  · exact hy
  · exact hz
theorem fok10 : fnOk Try.prog 10 = true := by kernel_rfl
theorem fok12 : fnOk Try.prog 12 = true := by kernel_rfl
theorem fok13 : fnOk Try.prog 13 = true := by kernel_rfl
set_option maxRecDepth 8000
set_option maxHeartbeats 6400000 in
theorem roomPlays_spec (n0 : Int) (script : List Rop) (hl : script.length ≤ 9223372036854775807) : ACall Try.prog 3 [.int .i64 n0, ropsAV script] [] (.bool true) [] := by
  refine ACall.run (Z := Z) (N := 194) mixed hZ Try.func3 rfl rfl (by kernel_rfl) (by simp) argsP 0 ?_
  have ret : ∀ (t : Env) (H : Heap) (m : Nat), look t 4 = some (.bool true) → Final Try.prog Try.f3 (.bool true) [] .ret ⟨194, t, H, m⟩ := fun t H m h =>
    Final.one (.inr rfl) (r := .tmp 4) rfl ⟨h, fun vs h => by cases h⟩ (fun vs h => by cases h) (fun vs h => by cases h) (.same _ trivial)
  have nil0 : ∀ x : AV, x ∈ ([] : List AV) → ∀ vs, x ≠ .tuple vs := fun x hx => by simp at hx
  by_cases hb : n0 < 1 ∨ 32 < n0
  · have hnew := new_bad n0 hb
    simp -dsimp -implicitDefEqProofs only [↓j0, ↓j1, ↓j7, ↓j12, ↓j15, j17, j18, j20, ↓j25, ↓j29, ↓j30, j32, ↓j38, ↓j39, ↓j53, ↓j145, argEnv, j172, reduceCtorEq, ↓reduceIte, j196]
    refine CallTo.pure (args := [.int .i64 n0]) rfl fok6 (by simp -dsimp -implicitDefEqProofs only [↓j25, ↓j29, j173, j174, ↓reduceIte]) (notup1 fun vs h => by cases h) hnew ?_
    rcases hb with hb | hb
    · have e1 : decide (n0 < 1) = true := decide_eq_true hb
      simp -dsimp -implicitDefEqProofs only [↓j0, ↓j1, ↓j2, ↓j7, ↓j12, ↓j13, ↓j15, j17, j18, j20, ↓j25, ↓j29, ↓j30, j32, j33, j35, ↓j38, ↓j39, ↓j40, ↓j48, ↓j53, j81, ↓j89, ↓j145, ↓j146, ↓j147, ↓j149, ↓j150, ↓j151, j159, j163, j164, j172, j175, reduceCtorEq, ↓reduceIte, Nat.reduceEqDiff, j185, j194, j211, ↓j236, j266, e1]
      refine CallTo.pure (args := []) rfl fok7 rfl nil0 awake_spec ?_
      simp -dsimp -implicitDefEqProofs only [↓j0, ↓j1, ↓j10, j17, j18, j20, ↓j25, ↓j29, ↓j30, j32, ↓j39, ↓j40, j83, ↓j145, j172, ↓reduceIte, Nat.reduceEqDiff]
      exact ret _ _ _ rfl
    · have e1 : decide (n0 < 1) = false := decide_eq_false (by omega)
      have e2 : decide (32 < n0) = true := decide_eq_true hb
      simp -dsimp -implicitDefEqProofs only [↓j0, ↓j1, ↓j2, ↓j7, ↓j12, ↓j13, ↓j15, j17, j18, j20, ↓j25, ↓j29, ↓j30, j32, j33, j35, ↓j38, ↓j39, ↓j40, ↓j48, ↓j53, j83, ↓j89, ↓j145, ↓j146, ↓j147, ↓j148, ↓j149, ↓j150, ↓j151, j159, j161, j163, j164, j172, j175, reduceCtorEq, ↓reduceIte, Nat.reduceEqDiff, j185, j194, j195, j211, ↓j236, j266, e1, e2]
      refine CallTo.pure (args := []) rfl fok7 rfl nil0 awake_spec ?_
      simp -dsimp -implicitDefEqProofs only [↓j0, ↓j1, ↓j10, j17, j18, j20, ↓j25, ↓j29, ↓j30, j32, ↓j39, ↓j40, j83, ↓j145, j172, ↓reduceIte, Nat.reduceEqDiff]
      exact ret _ _ _ rfl
  obtain ⟨n, rfl⟩ : ∃ n : Nat, n0 = (n : Int) := ⟨n0.toNat, by omega⟩
  have e1 : decide ((n : Int) < 1) = false := decide_eq_false (by omega)
  have e2 : decide (32 < (n : Int)) = false := decide_eq_false (by omega)
  simp -dsimp -implicitDefEqProofs only [↓j0, ↓j1, ↓j7, ↓j12, ↓j15, j17, j18, j20, ↓j25, ↓j29, ↓j30, j32, ↓j38, ↓j39, ↓j53, ↓j145, argEnv, j172, reduceCtorEq, ↓reduceIte, j196]
  refine CallTo.gen (args := [.int .i64 n]) [] (roomH (L0 n) 0) 2 rfl fok6 (by simp -dsimp -implicitDefEqProofs only [↓j25, ↓j29, j173, j174, ↓reduceIte]) (notup1 fun vs h => by cases h) (new_spec n (by omega) (by omega)) (fun n b h => by simp [Heap.get] at h) ⟨by simp, put_new⟩ ?_
  simp -dsimp -implicitDefEqProofs only [↓j0, ↓j1, ↓j2, ↓j7, ↓j9, ↓j12, ↓j13, ↓j15, j17, j18, j20, ↓j25, ↓j29, ↓j30, j32, j33, j35, ↓j38, ↓j39, ↓j40, ↓j48, ↓j75, j83, j88, ↓j89, ↓j145, ↓j146, ↓j148, ↓j149, ↓j151, j159, j161, j163, j164, j171, j172, j174, j175, reduceCtorEq, ↓reduceIte, Nat.reduceEqDiff, j184, j185, j195, j208, j211, j232, ↓j235, j266, j388, e1, e2]
  refine ⟨⟨by omega, by omega⟩, ?_⟩
  simp -dsimp -implicitDefEqProofs only [↓j0, ↓j1, ↓j7, ↓j12, ↓j14, ↓j15, ↓j16, j17, j18, j20, ↓j25, ↓j29, ↓j30, j33, ↓j39, ↓j42, ↓j54, ↓j124, j125, j126, j127, j128, ↓j145, ↓j146, partsAV, AV.size, AV.sizeL, AV.layable, j163, j167, j169, j170, j171, j179, j180, ↓reduceIte, Nat.reduceAdd, j182, j183, j207, j213, j214, j215, j217, j278, j390]
  refine AWp.loopR (Z := Z) mixed hZ (by kernel_rfl) (fun k s => ∃ L last i, i + k = 40 ∧ L.length = n ∧ last < n ∧ Small L ∧ s = plSt n script L last i) (n0 := 40) (s0 := plSt n script (L0 n) 0 0) ?_ ⟨L0 n, 0, 0, by omega, List.length_replicate, by omega, ⟨by rw [List.length_replicate]; omega, fun p hp => by rw [List.eq_of_mem_replicate hp]; simp⟩, rfl⟩ ?_ rfl
  · have hm := map_replicate_pg n
    exact Wk.sub (by simp -dsimp -implicitDefEqProofs only [↓j25, ↓j27, j179, reduceCtorEq, ↓reduceIte, Nat.reduceEqDiff, Nat.reduceLeDiff, j182, j183, j184, j202, j203, j204, j205, j209, plT, twoH] <;> simp)
  rintro k s ⟨L, last, i, hi, hL, hlast, hs, rfl⟩
  refine ⟨rfl, ?_⟩
  have hsn := hs.1
  by_cases hin : i < script.length ∧ i < 40
  · have e3 : decide ((i : Int) < (script.length : Int)) = true := decide_eq_true (by omega)
    have e4 : decide ((i : Int) < 40) = true := decide_eq_true (by omega)
    have hi1 : (i : Int) < (script.length : Int) := by omega
    obtain ⟨o, ho⟩ := list_get (xs := script) (i := i) (by omega)
    have hsz := sizeL_rop script i (by omega)
    have hw : IntKind.i64.wrap ((i : Int) + 1) = ((i + 1 : Nat) : Int) := by rw [wrap_i64 (by omega) (by omega)]; omega
    rcases Nat.lt_or_ge 100 o.olds.length with h100 | h100
    · have e5 : decide (100 < (o.olds.length : Int)) = true := decide_eq_true (by omega)
      simp -dsimp -implicitDefEqProofs only [↓j0, ↓j1, ↓j2, ↓j7, ↓j9, ↓j10, ↓j12, ↓j13, ↓j14, ↓j15, j17, j18, j19, j20, j21, j22, j23, ↓j25, ↓j27, ↓j29, ↓j30, j32, j33, ↓j38, ↓j39, ↓j40, ↓j41, ↓j43, ↓j44, ↓j45, ↓j46, ↓j48, ↓j58, ↓j62, ↓j76, ↓j77, ↓j78, ↓j79, j83, ↓j89, ↓j92, j129, j133, j142, ↓j145, ↓j146, ↓j147, ↓j149, ↓j150, ↓j153, j159, j161, AV.proj, AV.offOf, AV.upd, AV.size, AV.sizeL, AV.layable, j163, j164, j166, j167, j170, j171, j175, j177, reduceCtorEq, ↓reduceIte, Nat.reduceAdd, Nat.reduceEqDiff, j182, j185, j191, j196, j197, j206, j207, j208, j262, j286, j295, j297, j298, j306, j375, j410, j416, plSt, plT, twoH, e4, hi1, ho, hsz, e5]
      exact ret _ _ _ rfl
    have e5 : decide (100 < (o.olds.length : Int)) = false := decide_eq_false (by omega)
    have hsm := small_note (no := o.no) (p := (o.lsn, o.olds)) hs h100
    have hnt := note_spec L last o.no o.lsn o.olds h100
    have hrnt := rnote_spec L last o.no o.lsn o.olds h100
    have hkp := kept_spec o.lsn o.olds (by omega)
    have hfd := find_spec L last o.no hs (by omega)
    have hrfd := rfind_spec L last o.no hs (by omega)
    have hlf := find_last (n := o.no) (show last < L.length by omega)
    obtain ⟨⟨fa, fb, fl⟩, hfa⟩ : ∃ x, findP L last o.no = x := ⟨_, rfl⟩
    rw [hfa] at hfd hrfd hlf
    have three : (o.kind == 0) = true ∨ ((o.kind == 0) = false ∧ (o.kind == 1) = true) ∨ ((o.kind == 0) = false ∧ (o.kind == 1) = false) := by
      cases o.kind == 0
      · cases o.kind == 1
        · exact .inr (.inr ⟨rfl, rfl⟩)
        · exact .inr (.inl ⟨rfl, rfl⟩)
      · exact .inl rfl
    have step : ∀ (M : List Pg) (lt : Nat) (t : Env) (H : Heap) (nx : Nat), M.length = n → lt < n → Small M → SubT (plT n script (i + 1)) t → SubH (twoH M lt) H → ∃ m s'', m < k ∧ (∃ L last i, i + m = 40 ∧ L.length = n ∧ last < n ∧ Small L ∧ s'' = plSt n script L last i) ∧ Wk ⟨194, t, H, nx⟩ s'' := fun M lt t H nx h1 h2 h3 ht hH =>
      ⟨k - 1, plSt n script M lt (i + 1), by omega, ⟨M, lt, i + 1, by omega, h1, h2, h3, rfl⟩, Wk.trans (Wk.mk (s' := ⟨194, plT n script (i + 1), twoH M lt, nx⟩) ht.spec hH.spec (Nat.le_refl _) rfl) (Wk.gc (by omega) pw_on twoH_on)⟩
    have pages : ∀ (M : List Pg), Small M → M.length = n → (∃ q : Pg, decide (0 ≤ o.no) = true ∧ decide (o.no < (n : Int)) = true ∧ 0 ≤ o.no ∧ o.no < (n : Int) ∧ M[o.no.toNat]? = some q ∧ pageP M o.no = q ∧ q.2.length ≤ 100) ∨ (∃ q : Pg, (decide (0 ≤ o.no) = false ∨ (decide (0 ≤ o.no) = true ∧ decide (o.no < (n : Int)) = false)) ∧ pageP M o.no = (0, [])) := by
      intro M hM hMn
      by_cases a : 0 ≤ o.no
      · by_cases b : o.no < (n : Int)
        · obtain ⟨q, hq⟩ := list_get (xs := M) (i := o.no.toNat) (by omega)
          refine .inl ⟨q, decide_eq_true a, decide_eq_true b, a, b, hq, ?_, hM.2 q (List.mem_of_getElem? hq)⟩
          rw [pageP, if_pos (hasP_iff.2 ⟨a, by omega⟩), hq]; rfl
        · refine .inr ⟨(0, []), .inr ⟨decide_eq_true a, decide_eq_false b⟩, ?_⟩
          rw [pageP, if_neg (fun h => b (by have := (hasP_iff.1 h).2; omega))]
      · refine .inr ⟨(0, []), .inl (decide_eq_false a), ?_⟩
        rw [pageP, if_neg (fun h => a (hasP_iff.1 h).1)]
    have e6 : ((fb == fb) : Bool) = true := by simp
    have e7 : (fa != fa) = false := by simp
    have e8 : (fb != fb) = false := by simp
    rcases three with k0 | ⟨k0, k1⟩ | ⟨k0, k1⟩
    · obtain ⟨M, hM⟩ : ∃ M, noteP L o.no (o.lsn, o.olds) = M := ⟨_, rfl⟩
      rw [hM] at hsm hnt hrnt
      have hsM : Small M ∧ M.length = n := ⟨hsm.1, by rw [hsm.2, hL]⟩
      have hltM := hlast
      have pq := pages M hsM.1 hsM.2
      simp -dsimp -implicitDefEqProofs only [↓j0, ↓j1, ↓j2, ↓j4, ↓j7, ↓j8, ↓j9, ↓j12, ↓j13, ↓j14, ↓j15, j17, j18, j19, j20, j21, j22, j23, j24, ↓j25, ↓j27, ↓j29, ↓j30, j32, j33, ↓j38, ↓j39, ↓j40, ↓j41, ↓j43, ↓j44, ↓j45, ↓j46, ↓j48, ↓j53, ↓j58, ↓j62, ↓j76, ↓j77, ↓j78, ↓j79, j83, ↓j89, ↓j92, j129, j130, j133, j142, ↓j145, ↓j146, ↓j147, ↓j148, ↓j149, ↓j150, ↓j153, j157, j159, j161, AV.proj, AV.offOf, AV.upd, AV.size, AV.sizeL, AV.layable, j163, j164, j166, j167, j170, j171, j172, j174, j175, j177, reduceCtorEq, ↓reduceIte, Nat.reduceAdd, Nat.reduceEqDiff, j182, j185, j191, j196, j197, j206, j207, j208, j250, j262, j286, j289, j290, j295, j297, j298, j300, j303, j306, j375, j410, j416, plSt, plT, twoH, e4, hi1, ho, hsz, e5, k0]
      refine CallTo.pure (args := [undoAV o.lsn o.olds]) rfl fok9 (by simp -dsimp -implicitDefEqProofs only [↓j25, ↓j29, j173, j174, ↓reduceIte]) (fun x hx => (args1 x hx).2) hkp ?_
      simp -dsimp -implicitDefEqProofs only [↓j4, j17, j18, j20, j24, ↓j53, j170, j171, j172, j174]
      refine CallTo.gen (args := [.ptr 1 0 [], .int .i64 o.no, undoAV o.lsn o.olds]) (roomH L last) (roomH M last) 101 rfl fok8 (by simp -dsimp -implicitDefEqProofs only [↓j25, ↓j29, j173, j174, ↓reduceIte, Nat.reduceEqDiff]) (notup3 (fun vs h => by cases h) (fun vs h => by cases h) fun vs h => by cases h) hnt (SubH.of (by simp -dsimp -implicitDefEqProofs only [↓j27, reduceCtorEq, ↓reduceIte, Nat.reduceEqDiff, j182, j204, j205])) ⟨by simp, put_same⟩ ?_
      simp -dsimp -implicitDefEqProofs only [↓j3, j17, j18, j20, j21, j22, j23, j24, j170, j171, j173, j174, reduceCtorEq, ↓reduceIte, Nat.reduceEqDiff]
      refine ⟨by kernel_rfl, ?_⟩
      simp -dsimp -implicitDefEqProofs only [↓j1, ↓j7, ↓j15, j17, j18, j20, ↓j25, ↓j27, ↓j29, ↓j38, ↓j43, ↓j45, ↓j53, ↓j76, ↓j79, j129, j130, ↓j145, ↓j146, ↓j153, AV.proj, AV.offOf, AV.size, AV.sizeL, j163, j164, j166, j167, j171, reduceCtorEq, ↓reduceIte, Nat.reduceAdd, Nat.reduceEqDiff, j182, j196, j197, j250, j289, j290, j303, j306]
      refine CallTo.gen (args := [.ptr 3 0 [], .int .i64 o.no, undoAV o.lsn o.olds]) (rroomH L last) (rroomH M last) 101 rfl fok10 (by simp -dsimp -implicitDefEqProofs only [↓j25, ↓j29, j173, j174, ↓reduceIte, Nat.reduceEqDiff]) (notup3 (fun vs h => by cases h) (fun vs h => by cases h) fun vs h => by cases h) hrnt (SubH.of (by simp -dsimp -implicitDefEqProofs only [↓j27, reduceCtorEq, ↓reduceIte, Nat.reduceEqDiff, j182, j204, j205])) ⟨by simp, rput_same⟩ ?_
      simp -dsimp -implicitDefEqProofs only [↓j0, ↓j1, ↓j2, ↓j7, ↓j12, ↓j15, j17, j18, j19, j20, j21, j22, j23, ↓j25, ↓j27, ↓j29, ↓j30, j33, ↓j38, ↓j41, ↓j43, ↓j44, ↓j45, ↓j48, ↓j54, ↓j76, ↓j78, ↓j79, ↓j89, ↓j124, j125, j127, j130, ↓j145, ↓j146, ↓j150, ↓j153, j162, partsAV, AV.proj, AV.offOf, AV.upd, AV.size, AV.sizeL, AV.layable, j163, j164, j166, j167, j170, j171, j173, j174, j175, reduceCtorEq, ↓reduceIte, Nat.reduceAdd, Nat.reduceEqDiff, j182, j185, j196, j197, j214, j218, j219, j250, j289, j303, j374, j394]
      have h0x : True := trivial
      rcases pq with ⟨q, c0, c1, c2, c4, hq, hpg, hq1⟩ | ⟨q, c0, hpg⟩
      · have hMn := hsM.2
        have hsz2 := sizeL_pg M o.no.toNat (by omega)
        have c3 : o.no < (M.length : Int) := by omega
        have hsame := same_spec q.1 q.1 q.2 q.2 (by omega)
        rw [sameU_self] at hsame
        have hpgs := page_spec M last o.no hsM.1
        rw [hpg] at hpgs
        simp -dsimp -implicitDefEqProofs only [↓j0, ↓j1, ↓j2, ↓j3, ↓j4, ↓j8, ↓j13, ↓j15, j17, j18, j19, j20, j21, j22, j23, j24, ↓j25, ↓j27, ↓j29, ↓j30, j32, ↓j38, ↓j40, ↓j43, ↓j44, ↓j45, ↓j46, ↓j48, ↓j56, ↓j76, ↓j78, ↓j79, j83, ↓j89, ↓j93, j129, j130, j135, ↓j145, ↓j146, ↓j147, ↓j149, ↓j150, ↓j153, j159, AV.proj, AV.offOf, AV.upd, AV.size, AV.sizeL, AV.layable, j163, j164, j166, j167, j170, j171, j172, j173, j174, j175, j177, reduceCtorEq, ↓reduceIte, Nat.reduceAdd, Nat.reduceEqDiff, j182, j185, j191, j196, j197, j206, j250, j271, j272, j277, j289, j290, j303, c1, c2, c3, hq, hsz2]
        refine ⟨by kernel_rfl, ?_⟩
        simp -dsimp -implicitDefEqProofs only [↓j4, ↓j8, ↓j12, ↓j15, j17, j18, j20, j24, ↓j25, ↓j27, ↓j29, ↓j38, ↓j43, ↓j45, ↓j53, ↓j76, ↓j79, j130, ↓j145, ↓j146, ↓j153, AV.proj, AV.offOf, AV.size, AV.sizeL, j163, j164, j166, j167, j170, j171, j172, j174, reduceCtorEq, ↓reduceIte, Nat.reduceEqDiff, j182, j196, j197, j250, j303]
        refine CallTo.gen (args := [.ptr 1 0 [], .int .i64 o.no]) (roomH M last) (roomH M last) 102 rfl fok14 (by simp -dsimp -implicitDefEqProofs only [↓j25, ↓j29, j173, j174, ↓reduceIte, Nat.reduceEqDiff]) (notup (fun vs h => by cases h) fun vs h => by cases h) hpgs (SubH.of (by simp -dsimp -implicitDefEqProofs only [↓j27, reduceCtorEq, ↓reduceIte, Nat.reduceEqDiff, j182, j204, j205])) ⟨by simp, put_same⟩ ?_
        simp -dsimp -implicitDefEqProofs only [↓j4, j17, j18, j20, j21, j22, j23, j24, ↓j25, ↓j27, ↓j29, ↓j43, ↓j53, ↓j76, j129, ↓j145, ↓j146, ↓j153, AV.proj, AV.offOf, AV.size, AV.sizeL, j170, j171, j172, j173, j174, reduceCtorEq, ↓reduceIte, Nat.reduceAdd, Nat.reduceEqDiff, j182, j197, j289, j290]
        refine CallTo.pure (args := [undoAV q.1 q.2, undoAV q.1 q.2]) rfl fok13 (by simp -dsimp -implicitDefEqProofs only [↓j25, ↓j29, j173, j174, ↓reduceIte, Nat.reduceEqDiff] <;> rfl) (fun x hx => (argsU x hx).2) hsame ?_
        simp -dsimp -implicitDefEqProofs only [↓j3, ↓j4, j17, j18, j20, j24, ↓j25, ↓j29, ↓j55, j84, ↓j145, j170, j171, j172, j174, ↓reduceIte, j193]
        refine ⟨by kernel_rfl, ?_⟩
        simp -dsimp -implicitDefEqProofs only [↓j0, ↓j1, ↓j7, ↓j9, ↓j13, ↓j15, j17, j18, j20, ↓j25, ↓j29, ↓j30, j33, ↓j38, ↓j39, ↓j48, ↓j89, ↓j145, ↓j146, ↓j148, ↓j149, j154, j171, ↓reduceIte, Nat.reduceEqDiff, j185]
        refine step M last _ _ _ hsM.2 hltM hsM.1 ?_ ?_
        · simp -dsimp -implicitDefEqProofs only [↓j25, reduceCtorEq, ↓reduceIte, Nat.reduceEqDiff, j182, j202, j203, plT, hw] <;> simp
        · simp -dsimp -implicitDefEqProofs only [↓j27, reduceCtorEq, ↓reduceIte, Nat.reduceEqDiff, j182, j204, j205, twoH] <;> simp
      · have hsame := same_spec 0 0 [] [] (by simp)
        rw [sameU_self] at hsame
        have hpgs := page_spec M last o.no hsM.1
        rw [hpg] at hpgs
        rcases c0 with c0 | ⟨c0, c1⟩
        · simp -dsimp -implicitDefEqProofs only [↓j0, ↓j1, ↓j2, ↓j4, ↓j8, ↓j9, ↓j12, ↓j13, ↓j15, j17, j18, j20, j24, ↓j25, ↓j27, ↓j29, ↓j30, j32, ↓j38, ↓j40, ↓j43, ↓j45, ↓j53, ↓j76, ↓j79, j82, j130, ↓j145, ↓j146, ↓j148, ↓j149, ↓j150, ↓j153, AV.proj, AV.offOf, AV.size, AV.sizeL, j163, j164, j166, j167, j170, j171, j172, j174, j175, reduceCtorEq, ↓reduceIte, Nat.reduceEqDiff, j182, j196, j197, j250, j303, c0]
          refine CallTo.gen (args := [.ptr 1 0 [], .int .i64 o.no]) (roomH M last) (roomH M last) 102 rfl fok14 (by simp -dsimp -implicitDefEqProofs only [↓j25, ↓j29, j173, j174, ↓reduceIte, Nat.reduceEqDiff]) (notup (fun vs h => by cases h) fun vs h => by cases h) hpgs (SubH.of (by simp -dsimp -implicitDefEqProofs only [↓j27, reduceCtorEq, ↓reduceIte, Nat.reduceEqDiff, j182, j204, j205])) ⟨by simp, put_same⟩ ?_
          simp -dsimp -implicitDefEqProofs only [↓j4, j17, j18, j20, j21, j22, j23, j24, ↓j25, ↓j27, ↓j29, ↓j43, ↓j53, ↓j76, j129, ↓j145, ↓j146, ↓j153, AV.proj, AV.offOf, AV.size, AV.sizeL, j170, j171, j172, j173, j174, reduceCtorEq, ↓reduceIte, Nat.reduceAdd, Nat.reduceEqDiff, j182, j197, j289, j290]
          refine CallTo.pure (args := [undoAV 0 [], undoAV 0 []]) rfl fok13 (by simp -dsimp -implicitDefEqProofs only [↓j25, ↓j29, j173, j174, ↓reduceIte, Nat.reduceEqDiff] <;> rfl) (fun x hx => (argsU x hx).2) hsame ?_
          simp -dsimp -implicitDefEqProofs only [↓j3, ↓j4, j17, j18, j20, j24, ↓j25, ↓j29, ↓j55, j84, ↓j145, j170, j171, j172, j174, ↓reduceIte, j193]
          refine ⟨by kernel_rfl, ?_⟩
          simp -dsimp -implicitDefEqProofs only [↓j0, ↓j1, ↓j7, ↓j9, ↓j13, ↓j15, j17, j18, j20, ↓j25, ↓j29, ↓j30, j33, ↓j38, ↓j39, ↓j48, ↓j89, ↓j145, ↓j146, ↓j148, ↓j149, j154, j171, ↓reduceIte, Nat.reduceEqDiff, j185]
          refine step M last _ _ _ hsM.2 hltM hsM.1 ?_ ?_
          · simp -dsimp -implicitDefEqProofs only [↓j25, reduceCtorEq, ↓reduceIte, Nat.reduceEqDiff, j182, j202, j203, plT, hw] <;> simp
          · simp -dsimp -implicitDefEqProofs only [↓j27, reduceCtorEq, ↓reduceIte, Nat.reduceEqDiff, j182, j204, j205, twoH] <;> simp
        · simp -dsimp -implicitDefEqProofs only [↓j0, ↓j1, ↓j2, ↓j4, ↓j8, ↓j9, ↓j12, ↓j13, ↓j15, j17, j18, j20, j24, ↓j25, ↓j27, ↓j29, ↓j30, j32, ↓j38, ↓j40, ↓j43, ↓j45, ↓j48, ↓j53, ↓j76, ↓j79, j83, ↓j89, j130, ↓j145, ↓j146, ↓j147, ↓j148, ↓j149, ↓j150, ↓j153, j159, AV.proj, AV.offOf, AV.size, AV.sizeL, j163, j164, j166, j167, j170, j171, j172, j174, j175, reduceCtorEq, ↓reduceIte, Nat.reduceEqDiff, j182, j185, j196, j197, j250, j303, c0, c1]
          refine CallTo.gen (args := [.ptr 1 0 [], .int .i64 o.no]) (roomH M last) (roomH M last) 102 rfl fok14 (by simp -dsimp -implicitDefEqProofs only [↓j25, ↓j29, j173, j174, ↓reduceIte, Nat.reduceEqDiff]) (notup (fun vs h => by cases h) fun vs h => by cases h) hpgs (SubH.of (by simp -dsimp -implicitDefEqProofs only [↓j27, reduceCtorEq, ↓reduceIte, Nat.reduceEqDiff, j182, j204, j205])) ⟨by simp, put_same⟩ ?_
          simp -dsimp -implicitDefEqProofs only [↓j4, j17, j18, j20, j21, j22, j23, j24, ↓j25, ↓j27, ↓j29, ↓j43, ↓j53, ↓j76, j129, ↓j145, ↓j146, ↓j153, AV.proj, AV.offOf, AV.size, AV.sizeL, j170, j171, j172, j173, j174, reduceCtorEq, ↓reduceIte, Nat.reduceAdd, Nat.reduceEqDiff, j182, j197, j289, j290]
          refine CallTo.pure (args := [undoAV 0 [], undoAV 0 []]) rfl fok13 (by simp -dsimp -implicitDefEqProofs only [↓j25, ↓j29, j173, j174, ↓reduceIte, Nat.reduceEqDiff] <;> rfl) (fun x hx => (argsU x hx).2) hsame ?_
          simp -dsimp -implicitDefEqProofs only [↓j3, ↓j4, j17, j18, j20, j24, ↓j25, ↓j29, ↓j55, j84, ↓j145, j170, j171, j172, j174, ↓reduceIte, j193]
          refine ⟨by kernel_rfl, ?_⟩
          simp -dsimp -implicitDefEqProofs only [↓j0, ↓j1, ↓j7, ↓j9, ↓j13, ↓j15, j17, j18, j20, ↓j25, ↓j29, ↓j30, j33, ↓j38, ↓j39, ↓j48, ↓j89, ↓j145, ↓j146, ↓j148, ↓j149, j154, j171, ↓reduceIte, Nat.reduceEqDiff, j185]
          refine step M last _ _ _ hsM.2 hltM hsM.1 ?_ ?_
          · simp -dsimp -implicitDefEqProofs only [↓j25, reduceCtorEq, ↓reduceIte, Nat.reduceEqDiff, j182, j202, j203, plT, hw] <;> simp
          · simp -dsimp -implicitDefEqProofs only [↓j27, reduceCtorEq, ↓reduceIte, Nat.reduceEqDiff, j182, j204, j205, twoH] <;> simp
    · have hsM : Small L ∧ L.length = n := ⟨hs, hL⟩
      have hltM : fl < n := by rw [← hL]; exact hlf
      have pq := pages L hsM.1 hsM.2
      simp -dsimp -implicitDefEqProofs only [↓j0, ↓j1, ↓j2, ↓j7, ↓j9, ↓j12, ↓j13, ↓j14, ↓j15, j17, j18, j19, j20, j21, j22, j23, ↓j25, ↓j27, ↓j29, ↓j30, j32, j33, ↓j38, ↓j39, ↓j40, ↓j41, ↓j43, ↓j44, ↓j45, ↓j46, ↓j48, ↓j53, ↓j58, ↓j62, ↓j76, ↓j77, ↓j78, ↓j79, j83, ↓j89, ↓j92, j129, j130, j133, j142, ↓j145, ↓j146, ↓j147, ↓j148, ↓j149, ↓j150, ↓j153, j157, j159, j161, AV.proj, AV.offOf, AV.upd, AV.size, AV.sizeL, AV.layable, j163, j164, j166, j167, j170, j171, j175, j177, reduceCtorEq, ↓reduceIte, Nat.reduceAdd, Nat.reduceEqDiff, j182, j185, j191, j196, j197, j206, j207, j208, j250, j262, j286, j295, j297, j298, j300, j303, j306, j375, j410, j416, plSt, plT, twoH, e4, hi1, ho, hsz, e5, k0, k1]
      refine CallTo.gen (args := [.ptr 1 0 [], .int .i64 o.no]) (roomH L last) (roomH L fl) 101 rfl fok11' (by simp -dsimp -implicitDefEqProofs only [↓j25, ↓j29, j173, j174, ↓reduceIte, Nat.reduceEqDiff]) (notup (fun vs h => by cases h) fun vs h => by cases h) hfd (SubH.of (by simp -dsimp -implicitDefEqProofs only [↓j27, reduceCtorEq, ↓reduceIte, Nat.reduceEqDiff, j182, j204, j205])) ⟨by simp, put_same⟩ ?_
      simp -dsimp -implicitDefEqProofs only [↓j0, ↓j1, ↓j7, ↓j12, ↓j15, j17, j18, j20, j21, j22, j23, ↓j25, ↓j27, ↓j29, ↓j38, ↓j39, ↓j43, ↓j45, ↓j53, ↓j57, ↓j76, ↓j79, j85, j130, ↓j145, ↓j146, ↓j153, AV.proj, AV.offOf, AV.size, AV.sizeL, j163, j164, j166, j167, j170, j171, j173, j174, reduceCtorEq, ↓reduceIte, Nat.reduceEqDiff, j182, j196, j197, j250, j303]
      refine CallTo.gen (args := [.ptr 3 0 [], .int .i64 o.no]) (rroomH L last) (rroomH L fl) 101 rfl fok12 (by simp -dsimp -implicitDefEqProofs only [↓j25, ↓j29, j173, j174, ↓reduceIte, Nat.reduceEqDiff]) (notup (fun vs h => by cases h) fun vs h => by cases h) hrfd (SubH.of (by simp -dsimp -implicitDefEqProofs only [↓j27, reduceCtorEq, ↓reduceIte, Nat.reduceEqDiff, j182, j204, j205])) ⟨by simp, rput_same⟩ ?_
      simp -dsimp -implicitDefEqProofs only [↓j0, ↓j1, ↓j2, ↓j7, ↓j9, ↓j12, ↓j13, ↓j15, j17, j18, j19, j20, j21, j22, j23, ↓j25, ↓j27, ↓j29, ↓j30, j32, j33, ↓j38, ↓j39, ↓j40, ↓j41, ↓j43, ↓j44, ↓j45, ↓j48, ↓j54, ↓j57, ↓j76, ↓j78, ↓j79, j83, j85, ↓j89, ↓j90, ↓j124, j125, j127, j130, ↓j145, ↓j146, ↓j148, ↓j149, ↓j150, ↓j151, ↓j153, j158, j162, partsAV, AV.proj, AV.offOf, AV.upd, AV.size, AV.sizeL, AV.layable, j163, j164, j166, j167, j170, j171, j173, j174, j175, reduceCtorEq, ↓reduceIte, Nat.reduceAdd, Nat.reduceEqDiff, j182, j185, j195, j196, j197, j212, j214, j218, j219, j250, j289, j303, j374, j394, j407, e7, e8]
      have h0x : True := trivial
      rcases pq with ⟨q, c0, c1, c2, c4, hq, hpg, hq1⟩ | ⟨q, c0, hpg⟩
      · have hMn := hsM.2
        have hsz2 := sizeL_pg L o.no.toNat (by omega)
        have c3 : o.no < (L.length : Int) := by omega
        have hsame := same_spec q.1 q.1 q.2 q.2 (by omega)
        rw [sameU_self] at hsame
        have hpgs := page_spec L fl o.no hsM.1
        rw [hpg] at hpgs
        simp -dsimp -implicitDefEqProofs only [↓j0, ↓j1, ↓j2, ↓j3, ↓j4, ↓j8, ↓j13, ↓j15, j17, j18, j19, j20, j21, j22, j23, j24, ↓j25, ↓j27, ↓j29, ↓j30, j32, ↓j38, ↓j40, ↓j43, ↓j44, ↓j45, ↓j46, ↓j48, ↓j56, ↓j76, ↓j78, ↓j79, j83, ↓j89, ↓j93, j129, j130, j135, ↓j145, ↓j146, ↓j147, ↓j149, ↓j150, ↓j153, j159, AV.proj, AV.offOf, AV.upd, AV.size, AV.sizeL, AV.layable, j163, j164, j166, j167, j170, j171, j172, j173, j174, j175, j177, reduceCtorEq, ↓reduceIte, Nat.reduceAdd, Nat.reduceEqDiff, j182, j185, j191, j196, j197, j206, j250, j271, j272, j277, j289, j290, j303, c1, c2, c3, hq, hsz2]
        refine ⟨by kernel_rfl, ?_⟩
        simp -dsimp -implicitDefEqProofs only [↓j4, ↓j8, ↓j12, ↓j15, j17, j18, j20, j24, ↓j25, ↓j27, ↓j29, ↓j38, ↓j43, ↓j45, ↓j53, ↓j76, ↓j79, j130, ↓j145, ↓j146, ↓j153, AV.proj, AV.offOf, AV.size, AV.sizeL, j163, j164, j166, j167, j170, j171, j172, j174, reduceCtorEq, ↓reduceIte, Nat.reduceEqDiff, j182, j196, j197, j250, j303]
        refine CallTo.gen (args := [.ptr 1 0 [], .int .i64 o.no]) (roomH L fl) (roomH L fl) 102 rfl fok14 (by simp -dsimp -implicitDefEqProofs only [↓j25, ↓j29, j173, j174, ↓reduceIte, Nat.reduceEqDiff]) (notup (fun vs h => by cases h) fun vs h => by cases h) hpgs (SubH.of (by simp -dsimp -implicitDefEqProofs only [↓j27, reduceCtorEq, ↓reduceIte, Nat.reduceEqDiff, j182, j204, j205])) ⟨by simp, put_same⟩ ?_
        simp -dsimp -implicitDefEqProofs only [↓j4, j17, j18, j20, j21, j22, j23, j24, ↓j25, ↓j27, ↓j29, ↓j43, ↓j53, ↓j76, j129, ↓j145, ↓j146, ↓j153, AV.proj, AV.offOf, AV.size, AV.sizeL, j170, j171, j172, j173, j174, reduceCtorEq, ↓reduceIte, Nat.reduceAdd, Nat.reduceEqDiff, j182, j197, j289, j290]
        refine CallTo.pure (args := [undoAV q.1 q.2, undoAV q.1 q.2]) rfl fok13 (by simp -dsimp -implicitDefEqProofs only [↓j25, ↓j29, j173, j174, ↓reduceIte, Nat.reduceEqDiff] <;> rfl) (fun x hx => (argsU x hx).2) hsame ?_
        simp -dsimp -implicitDefEqProofs only [↓j3, ↓j4, j17, j18, j20, j24, ↓j25, ↓j29, ↓j55, j84, ↓j145, j170, j171, j172, j174, ↓reduceIte, j193]
        refine ⟨by kernel_rfl, ?_⟩
        simp -dsimp -implicitDefEqProofs only [↓j0, ↓j1, ↓j7, ↓j9, ↓j13, ↓j15, j17, j18, j20, ↓j25, ↓j29, ↓j30, j33, ↓j38, ↓j39, ↓j48, ↓j89, ↓j145, ↓j146, ↓j148, ↓j149, j154, j171, ↓reduceIte, Nat.reduceEqDiff, j185]
        refine step L fl _ _ _ hsM.2 hltM hsM.1 ?_ ?_
        · simp -dsimp -implicitDefEqProofs only [↓j25, reduceCtorEq, ↓reduceIte, Nat.reduceEqDiff, j182, j202, j203, plT, hw] <;> simp
        · simp -dsimp -implicitDefEqProofs only [↓j27, reduceCtorEq, ↓reduceIte, Nat.reduceEqDiff, j182, j204, j205, twoH] <;> simp
      · have hsame := same_spec 0 0 [] [] (by simp)
        rw [sameU_self] at hsame
        have hpgs := page_spec L fl o.no hsM.1
        rw [hpg] at hpgs
        rcases c0 with c0 | ⟨c0, c1⟩
        · simp -dsimp -implicitDefEqProofs only [↓j0, ↓j1, ↓j2, ↓j4, ↓j8, ↓j9, ↓j12, ↓j13, ↓j15, j17, j18, j20, j24, ↓j25, ↓j27, ↓j29, ↓j30, j32, ↓j38, ↓j40, ↓j43, ↓j45, ↓j53, ↓j76, ↓j79, j82, j130, ↓j145, ↓j146, ↓j148, ↓j149, ↓j150, ↓j153, AV.proj, AV.offOf, AV.size, AV.sizeL, j163, j164, j166, j167, j170, j171, j172, j174, j175, reduceCtorEq, ↓reduceIte, Nat.reduceEqDiff, j182, j196, j197, j250, j303, c0]
          refine CallTo.gen (args := [.ptr 1 0 [], .int .i64 o.no]) (roomH L fl) (roomH L fl) 102 rfl fok14 (by simp -dsimp -implicitDefEqProofs only [↓j25, ↓j29, j173, j174, ↓reduceIte, Nat.reduceEqDiff]) (notup (fun vs h => by cases h) fun vs h => by cases h) hpgs (SubH.of (by simp -dsimp -implicitDefEqProofs only [↓j27, reduceCtorEq, ↓reduceIte, Nat.reduceEqDiff, j182, j204, j205])) ⟨by simp, put_same⟩ ?_
          simp -dsimp -implicitDefEqProofs only [↓j4, j17, j18, j20, j21, j22, j23, j24, ↓j25, ↓j27, ↓j29, ↓j43, ↓j53, ↓j76, j129, ↓j145, ↓j146, ↓j153, AV.proj, AV.offOf, AV.size, AV.sizeL, j170, j171, j172, j173, j174, reduceCtorEq, ↓reduceIte, Nat.reduceAdd, Nat.reduceEqDiff, j182, j197, j289, j290]
          refine CallTo.pure (args := [undoAV 0 [], undoAV 0 []]) rfl fok13 (by simp -dsimp -implicitDefEqProofs only [↓j25, ↓j29, j173, j174, ↓reduceIte, Nat.reduceEqDiff] <;> rfl) (fun x hx => (argsU x hx).2) hsame ?_
          simp -dsimp -implicitDefEqProofs only [↓j3, ↓j4, j17, j18, j20, j24, ↓j25, ↓j29, ↓j55, j84, ↓j145, j170, j171, j172, j174, ↓reduceIte, j193]
          refine ⟨by kernel_rfl, ?_⟩
          simp -dsimp -implicitDefEqProofs only [↓j0, ↓j1, ↓j7, ↓j9, ↓j13, ↓j15, j17, j18, j20, ↓j25, ↓j29, ↓j30, j33, ↓j38, ↓j39, ↓j48, ↓j89, ↓j145, ↓j146, ↓j148, ↓j149, j154, j171, ↓reduceIte, Nat.reduceEqDiff, j185]
          refine step L fl _ _ _ hsM.2 hltM hsM.1 ?_ ?_
          · simp -dsimp -implicitDefEqProofs only [↓j25, reduceCtorEq, ↓reduceIte, Nat.reduceEqDiff, j182, j202, j203, plT, hw] <;> simp
          · simp -dsimp -implicitDefEqProofs only [↓j27, reduceCtorEq, ↓reduceIte, Nat.reduceEqDiff, j182, j204, j205, twoH] <;> simp
        · simp -dsimp -implicitDefEqProofs only [↓j0, ↓j1, ↓j2, ↓j4, ↓j8, ↓j9, ↓j12, ↓j13, ↓j15, j17, j18, j20, j24, ↓j25, ↓j27, ↓j29, ↓j30, j32, ↓j38, ↓j40, ↓j43, ↓j45, ↓j48, ↓j53, ↓j76, ↓j79, j83, ↓j89, j130, ↓j145, ↓j146, ↓j147, ↓j148, ↓j149, ↓j150, ↓j153, j159, AV.proj, AV.offOf, AV.size, AV.sizeL, j163, j164, j166, j167, j170, j171, j172, j174, j175, reduceCtorEq, ↓reduceIte, Nat.reduceEqDiff, j182, j185, j196, j197, j250, j303, c0, c1]
          refine CallTo.gen (args := [.ptr 1 0 [], .int .i64 o.no]) (roomH L fl) (roomH L fl) 102 rfl fok14 (by simp -dsimp -implicitDefEqProofs only [↓j25, ↓j29, j173, j174, ↓reduceIte, Nat.reduceEqDiff]) (notup (fun vs h => by cases h) fun vs h => by cases h) hpgs (SubH.of (by simp -dsimp -implicitDefEqProofs only [↓j27, reduceCtorEq, ↓reduceIte, Nat.reduceEqDiff, j182, j204, j205])) ⟨by simp, put_same⟩ ?_
          simp -dsimp -implicitDefEqProofs only [↓j4, j17, j18, j20, j21, j22, j23, j24, ↓j25, ↓j27, ↓j29, ↓j43, ↓j53, ↓j76, j129, ↓j145, ↓j146, ↓j153, AV.proj, AV.offOf, AV.size, AV.sizeL, j170, j171, j172, j173, j174, reduceCtorEq, ↓reduceIte, Nat.reduceAdd, Nat.reduceEqDiff, j182, j197, j289, j290]
          refine CallTo.pure (args := [undoAV 0 [], undoAV 0 []]) rfl fok13 (by simp -dsimp -implicitDefEqProofs only [↓j25, ↓j29, j173, j174, ↓reduceIte, Nat.reduceEqDiff] <;> rfl) (fun x hx => (argsU x hx).2) hsame ?_
          simp -dsimp -implicitDefEqProofs only [↓j3, ↓j4, j17, j18, j20, j24, ↓j25, ↓j29, ↓j55, j84, ↓j145, j170, j171, j172, j174, ↓reduceIte, j193]
          refine ⟨by kernel_rfl, ?_⟩
          simp -dsimp -implicitDefEqProofs only [↓j0, ↓j1, ↓j7, ↓j9, ↓j13, ↓j15, j17, j18, j20, ↓j25, ↓j29, ↓j30, j33, ↓j38, ↓j39, ↓j48, ↓j89, ↓j145, ↓j146, ↓j148, ↓j149, j154, j171, ↓reduceIte, Nat.reduceEqDiff, j185]
          refine step L fl _ _ _ hsM.2 hltM hsM.1 ?_ ?_
          · simp -dsimp -implicitDefEqProofs only [↓j25, reduceCtorEq, ↓reduceIte, Nat.reduceEqDiff, j182, j202, j203, plT, hw] <;> simp
          · simp -dsimp -implicitDefEqProofs only [↓j27, reduceCtorEq, ↓reduceIte, Nat.reduceEqDiff, j182, j204, j205, twoH] <;> simp
    · have hsM : Small L ∧ L.length = n := ⟨hs, hL⟩
      have hltM := hlast
      have pq := pages L hsM.1 hsM.2
      simp -dsimp -implicitDefEqProofs only [↓j0, ↓j1, ↓j2, ↓j7, ↓j9, ↓j12, ↓j13, ↓j14, ↓j15, j17, j18, j19, j20, j21, j22, j23, ↓j25, ↓j27, ↓j29, ↓j30, j32, j33, ↓j38, ↓j39, ↓j40, ↓j41, ↓j43, ↓j44, ↓j45, ↓j46, ↓j48, ↓j54, ↓j58, ↓j62, ↓j76, ↓j77, ↓j78, ↓j79, j83, ↓j89, ↓j92, ↓j124, j125, j127, j129, j130, j133, j142, ↓j145, ↓j146, ↓j147, ↓j148, ↓j149, ↓j150, ↓j153, j157, j159, j161, j162, partsAV, AV.proj, AV.offOf, AV.upd, AV.size, AV.sizeL, AV.layable, j163, j164, j166, j167, j170, j171, j175, j177, reduceCtorEq, ↓reduceIte, Nat.reduceAdd, Nat.reduceEqDiff, j182, j185, j191, j196, j197, j206, j207, j208, j214, j218, j219, j250, j262, j286, j289, j295, j297, j298, j300, j303, j306, j374, j375, j394, j410, j416, plSt, plT, twoH, e4, hi1, ho, hsz, e5, k0, k1]
      have h0x : True := trivial
      rcases pq with ⟨q, c0, c1, c2, c4, hq, hpg, hq1⟩ | ⟨q, c0, hpg⟩
      · have hMn := hsM.2
        have hsz2 := sizeL_pg L o.no.toNat (by omega)
        have c3 : o.no < (L.length : Int) := by omega
        have hsame := same_spec q.1 q.1 q.2 q.2 (by omega)
        rw [sameU_self] at hsame
        have hpgs := page_spec L last o.no hsM.1
        rw [hpg] at hpgs
        simp -dsimp -implicitDefEqProofs only [↓j0, ↓j1, ↓j2, ↓j3, ↓j4, ↓j8, ↓j13, ↓j15, j17, j18, j19, j20, j21, j22, j23, j24, ↓j25, ↓j27, ↓j29, ↓j30, j32, ↓j38, ↓j40, ↓j43, ↓j44, ↓j45, ↓j46, ↓j48, ↓j56, ↓j76, ↓j78, ↓j79, j83, ↓j89, ↓j93, j129, j130, j135, ↓j145, ↓j146, ↓j147, ↓j149, ↓j150, ↓j153, j159, AV.proj, AV.offOf, AV.upd, AV.size, AV.sizeL, AV.layable, j163, j164, j166, j167, j170, j171, j172, j173, j174, j175, j177, reduceCtorEq, ↓reduceIte, Nat.reduceAdd, Nat.reduceEqDiff, j182, j185, j191, j196, j197, j206, j250, j271, j272, j277, j289, j290, j303, c1, c2, c3, hq, hsz2]
        refine ⟨by kernel_rfl, ?_⟩
        simp -dsimp -implicitDefEqProofs only [↓j4, ↓j8, ↓j12, ↓j15, j17, j18, j20, j24, ↓j25, ↓j27, ↓j29, ↓j38, ↓j43, ↓j45, ↓j53, ↓j76, ↓j79, j130, ↓j145, ↓j146, ↓j153, AV.proj, AV.offOf, AV.size, AV.sizeL, j163, j164, j166, j167, j170, j171, j172, j174, ↓reduceIte, Nat.reduceEqDiff, j182, j196, j197, j250, j303]
        refine CallTo.gen (args := [.ptr 1 0 [], .int .i64 o.no]) (roomH L last) (roomH L last) 102 rfl fok14 (by simp -dsimp -implicitDefEqProofs only [↓j25, ↓j29, j173, j174, ↓reduceIte, Nat.reduceEqDiff]) (notup (fun vs h => by cases h) fun vs h => by cases h) hpgs (SubH.of (by simp -dsimp -implicitDefEqProofs only [↓j27, reduceCtorEq, ↓reduceIte, Nat.reduceEqDiff, j182, j204, j205])) ⟨by simp, put_same⟩ ?_
        simp -dsimp -implicitDefEqProofs only [↓j4, j17, j18, j20, j21, j22, j23, j24, ↓j25, ↓j27, ↓j29, ↓j43, ↓j53, ↓j76, j129, ↓j145, ↓j146, ↓j153, AV.proj, AV.offOf, AV.size, AV.sizeL, j170, j171, j172, j173, j174, reduceCtorEq, ↓reduceIte, Nat.reduceAdd, Nat.reduceEqDiff, j182, j197, j289, j290]
        refine CallTo.pure (args := [undoAV q.1 q.2, undoAV q.1 q.2]) rfl fok13 (by simp -dsimp -implicitDefEqProofs only [↓j25, ↓j29, j173, j174, ↓reduceIte, Nat.reduceEqDiff] <;> rfl) (fun x hx => (argsU x hx).2) hsame ?_
        simp -dsimp -implicitDefEqProofs only [↓j3, ↓j4, j17, j18, j20, j24, ↓j25, ↓j29, ↓j55, j84, ↓j145, j170, j171, j172, j174, ↓reduceIte, j193]
        refine ⟨by kernel_rfl, ?_⟩
        simp -dsimp -implicitDefEqProofs only [↓j0, ↓j1, ↓j7, ↓j9, ↓j13, ↓j15, j17, j18, j20, ↓j25, ↓j29, ↓j30, j33, ↓j38, ↓j39, ↓j48, ↓j89, ↓j145, ↓j146, ↓j148, ↓j149, j154, j171, ↓reduceIte, Nat.reduceEqDiff, j185]
        refine step L last _ _ _ hsM.2 hltM hsM.1 ?_ ?_
        · simp -dsimp -implicitDefEqProofs only [↓j25, reduceCtorEq, ↓reduceIte, Nat.reduceEqDiff, j182, j202, j203, plT, hw] <;> simp
        · simp -dsimp -implicitDefEqProofs only [↓j27, reduceCtorEq, ↓reduceIte, Nat.reduceEqDiff, j182, j204, j205, twoH] <;> simp
      · have hsame := same_spec 0 0 [] [] (by simp)
        rw [sameU_self] at hsame
        have hpgs := page_spec L last o.no hsM.1
        rw [hpg] at hpgs
        rcases c0 with c0 | ⟨c0, c1⟩
        · simp -dsimp -implicitDefEqProofs only [↓j0, ↓j1, ↓j2, ↓j4, ↓j8, ↓j9, ↓j12, ↓j13, ↓j15, j17, j18, j20, j24, ↓j25, ↓j27, ↓j29, ↓j30, j32, ↓j38, ↓j40, ↓j43, ↓j45, ↓j53, ↓j76, ↓j79, j82, j130, ↓j145, ↓j146, ↓j148, ↓j149, ↓j150, ↓j153, AV.proj, AV.offOf, AV.size, AV.sizeL, j163, j164, j166, j167, j170, j171, j172, j174, j175, ↓reduceIte, Nat.reduceEqDiff, j182, j196, j197, j250, j303, c0]
          refine CallTo.gen (args := [.ptr 1 0 [], .int .i64 o.no]) (roomH L last) (roomH L last) 102 rfl fok14 (by simp -dsimp -implicitDefEqProofs only [↓j25, ↓j29, j173, j174, ↓reduceIte, Nat.reduceEqDiff]) (notup (fun vs h => by cases h) fun vs h => by cases h) hpgs (SubH.of (by simp -dsimp -implicitDefEqProofs only [↓j27, reduceCtorEq, ↓reduceIte, Nat.reduceEqDiff, j182, j204, j205])) ⟨by simp, put_same⟩ ?_
          simp -dsimp -implicitDefEqProofs only [↓j4, j17, j18, j20, j21, j22, j23, j24, ↓j25, ↓j27, ↓j29, ↓j43, ↓j53, ↓j76, j129, ↓j145, ↓j146, ↓j153, AV.proj, AV.offOf, AV.size, AV.sizeL, j170, j171, j172, j173, j174, reduceCtorEq, ↓reduceIte, Nat.reduceAdd, Nat.reduceEqDiff, j182, j197, j289, j290]
          refine CallTo.pure (args := [undoAV 0 [], undoAV 0 []]) rfl fok13 (by simp -dsimp -implicitDefEqProofs only [↓j25, ↓j29, j173, j174, ↓reduceIte, Nat.reduceEqDiff] <;> rfl) (fun x hx => (argsU x hx).2) hsame ?_
          simp -dsimp -implicitDefEqProofs only [↓j3, ↓j4, j17, j18, j20, j24, ↓j25, ↓j29, ↓j55, j84, ↓j145, j170, j171, j172, j174, ↓reduceIte, j193]
          refine ⟨by kernel_rfl, ?_⟩
          simp -dsimp -implicitDefEqProofs only [↓j0, ↓j1, ↓j7, ↓j9, ↓j13, ↓j15, j17, j18, j20, ↓j25, ↓j29, ↓j30, j33, ↓j38, ↓j39, ↓j48, ↓j89, ↓j145, ↓j146, ↓j148, ↓j149, j154, j171, ↓reduceIte, Nat.reduceEqDiff, j185]
          refine step L last _ _ _ hsM.2 hltM hsM.1 ?_ ?_
          · simp -dsimp -implicitDefEqProofs only [↓j25, reduceCtorEq, ↓reduceIte, Nat.reduceEqDiff, j182, j202, j203, plT, hw] <;> simp
          · simp -dsimp -implicitDefEqProofs only [↓j27, reduceCtorEq, ↓reduceIte, Nat.reduceEqDiff, j182, j204, j205, twoH] <;> simp
        · simp -dsimp -implicitDefEqProofs only [↓j0, ↓j1, ↓j2, ↓j4, ↓j8, ↓j9, ↓j12, ↓j13, ↓j15, j17, j18, j20, j24, ↓j25, ↓j27, ↓j29, ↓j30, j32, ↓j38, ↓j40, ↓j43, ↓j45, ↓j48, ↓j53, ↓j76, ↓j79, j83, ↓j89, j130, ↓j145, ↓j146, ↓j147, ↓j148, ↓j149, ↓j150, ↓j153, j159, AV.proj, AV.offOf, AV.size, AV.sizeL, j163, j164, j166, j167, j170, j171, j172, j174, j175, reduceCtorEq, ↓reduceIte, Nat.reduceEqDiff, j182, j185, j196, j197, j250, j303, c0, c1]
          refine CallTo.gen (args := [.ptr 1 0 [], .int .i64 o.no]) (roomH L last) (roomH L last) 102 rfl fok14 (by simp -dsimp -implicitDefEqProofs only [↓j25, ↓j29, j173, j174, ↓reduceIte, Nat.reduceEqDiff]) (notup (fun vs h => by cases h) fun vs h => by cases h) hpgs (SubH.of (by simp -dsimp -implicitDefEqProofs only [↓j27, reduceCtorEq, ↓reduceIte, Nat.reduceEqDiff, j182, j204, j205])) ⟨by simp, put_same⟩ ?_
          simp -dsimp -implicitDefEqProofs only [↓j4, j17, j18, j20, j21, j22, j23, j24, ↓j25, ↓j27, ↓j29, ↓j43, ↓j53, ↓j76, j129, ↓j145, ↓j146, ↓j153, AV.proj, AV.offOf, AV.size, AV.sizeL, j170, j171, j172, j173, j174, reduceCtorEq, ↓reduceIte, Nat.reduceAdd, Nat.reduceEqDiff, j182, j197, j289, j290]
          refine CallTo.pure (args := [undoAV 0 [], undoAV 0 []]) rfl fok13 (by simp -dsimp -implicitDefEqProofs only [↓j25, ↓j29, j173, j174, ↓reduceIte, Nat.reduceEqDiff] <;> rfl) (fun x hx => (argsU x hx).2) hsame ?_
          simp -dsimp -implicitDefEqProofs only [↓j3, ↓j4, j17, j18, j20, j24, ↓j25, ↓j29, ↓j55, j84, ↓j145, j170, j171, j172, j174, ↓reduceIte, j193]
          refine ⟨by kernel_rfl, ?_⟩
          simp -dsimp -implicitDefEqProofs only [↓j0, ↓j1, ↓j7, ↓j9, ↓j13, ↓j15, j17, j18, j20, ↓j25, ↓j29, ↓j30, j33, ↓j38, ↓j39, ↓j48, ↓j89, ↓j145, ↓j146, ↓j148, ↓j149, j154, j171, ↓reduceIte, Nat.reduceEqDiff, j185]
          refine step L last _ _ _ hsM.2 hltM hsM.1 ?_ ?_
          · simp -dsimp -implicitDefEqProofs only [↓j25, reduceCtorEq, ↓reduceIte, Nat.reduceEqDiff, j182, j202, j203, plT, hw] <;> simp
          · simp -dsimp -implicitDefEqProofs only [↓j27, reduceCtorEq, ↓reduceIte, Nat.reduceEqDiff, j182, j204, j205, twoH] <;> simp
  · have two : decide ((i : Int) < (script.length : Int)) = false ∨ (decide ((i : Int) < (script.length : Int)) = true ∧ decide ((i : Int) < 40) = false) := by
      by_cases h : i < script.length
      · exact .inr ⟨decide_eq_true (by omega), decide_eq_false (by omega)⟩
      · exact .inl (decide_eq_false (by omega))
    have hrf := refs_spec L last hs
    have hlf := lives_spec L last hs
    have hrl := refs_len 0 L
    have hla : liveAll L ≤ 3200 := by have := hs.live L.length; rwa [List.take_of_length_le (Nat.le_refl _)] at this
    have hee : (((liveAll L : Nat) : Int) == ((liveAll L : Nat) : Int)) = true := by simp
    rcases two with e3 | ⟨e3, e4⟩
    · have e4 : True := trivial
      simp -dsimp -implicitDefEqProofs only [↓j0, ↓j1, ↓j2, ↓j7, ↓j11, ↓j12, ↓j13, ↓j15, j17, j18, j20, ↓j25, ↓j29, ↓j30, j32, j33, ↓j38, ↓j39, ↓j40, ↓j48, ↓j53, ↓j58, ↓j62, j82, ↓j89, j142, ↓j145, ↓j146, ↓j148, ↓j149, ↓j150, j159, j163, j164, j171, j175, reduceCtorEq, ↓reduceIte, Nat.reduceEqDiff, j185, j410, plSt, plT, twoH, e3]
      refine CallTo.gen (args := [.ptr 1 0 []]) (roomH L last) (roomH L last) 100 rfl fok15 (by simp -dsimp -implicitDefEqProofs only [↓j25, ↓j29, j173, j174, ↓reduceIte]) (notup1 fun vs h => by cases h) hrf (SubH.of (by simp -dsimp -implicitDefEqProofs only [↓j27, reduceCtorEq, ↓reduceIte, j182, j204, j205])) ⟨by simp, put_same⟩ ?_
      simp -dsimp -implicitDefEqProofs only [↓j0, ↓j1, ↓j7, ↓j12, ↓j14, ↓j15, ↓j16, j17, j18, j20, j21, j22, j23, ↓j25, ↓j27, ↓j29, ↓j30, j33, ↓j38, ↓j39, ↓j43, ↓j45, ↓j56, ↓j58, ↓j61, ↓j76, ↓j79, j135, j143, ↓j145, ↓j146, ↓j153, AV.proj, AV.offOf, AV.sizeL, j163, j167, j170, j171, j173, j174, reduceCtorEq, ↓reduceIte, Nat.reduceEqDiff, j182, j197, j271, j277, j413]
      refine AWp.loopR (Z := Z) mixed hZ (by kernel_rfl) (fun n s => ∃ i, i + n = L.length ∧ s = rpsSt L last i) (n0 := L.length) (s0 := rpsSt L last 0) ?_ ⟨0, by omega, rfl⟩ ?_ rfl
      · exact Wk.sub (by simp -dsimp -implicitDefEqProofs only [↓j25, ↓j27, j167, j179, reduceCtorEq, ↓reduceIte, Nat.reduceEqDiff, j182, j183, j184, j202, j203, j204, j205, j209, j223, rpsT, twoH] <;> simp [liveAll])
      rintro z s ⟨u, hu, rfl⟩
      refine ⟨rfl, ?_⟩
      rcases Nat.lt_or_ge u L.length with hlt | hge
      · have hd : decide ((u : Int) < (L.length : Int)) = true := decide_eq_true (by omega)
        have hlt' : (u : Int) < (L.length : Int) := by omega
        obtain ⟨p, hp⟩ := list_get (xs := L) hlt
        have hpm := hs.2 p (List.mem_of_getElem? hp)
        have hsz := sizeL_pg L u (by omega)
        have hw : IntKind.i64.wrap ((u : Int) + 1) = ((u + 1 : Nat) : Int) := by rw [wrap_i64 (by omega) (by omega)]; omega
        have hw16 : IntKind.u16.wrap ((u + 1 : Nat) : Int) = ((u + 1 : Nat) : Int) := wrap_id (by simp [IntKind.min, IntKind.signed]; omega) (by simp [IntKind.max, IntKind.bits, IntKind.signed]; omega)
        have hlt1 := hs.live u
        have hlt2 := hs.live (u + 1)
        have htk := liveAll_take hp
        have hwl : IntKind.i64.wrap ((liveAll (L.take u) : Int) + (liveN p.2 : Int)) = ((liveAll (L.take (u + 1)) : Nat) : Int) := by rw [wrap_i64 (by omega) (by omega)]; omega
        have hkp := kept_spec p.1 p.2 (by omega)
        have hlv := live_spec p.1 p.2 (by omega)
        simp -dsimp -implicitDefEqProofs only [↓j0, ↓j1, ↓j7, ↓j9, ↓j12, ↓j13, ↓j14, ↓j15, j17, j18, j19, j20, j21, j22, j23, ↓j25, ↓j27, ↓j29, ↓j38, ↓j39, ↓j41, ↓j43, ↓j44, ↓j46, ↓j48, ↓j53, ↓j76, ↓j78, ↓j89, ↓j93, j129, ↓j145, ↓j146, ↓j147, ↓j149, ↓j153, j159, AV.proj, AV.offOf, AV.upd, AV.size, AV.sizeL, AV.layable, j170, j171, j177, reduceCtorEq, ↓reduceIte, Nat.reduceAdd, Nat.reduceEqDiff, j182, j185, j191, j196, j197, j206, j207, j208, j272, j289, j290, j374, rpsSt, rpsT, twoH, hlt', hp, hsz]
        refine CallTo.pure (args := [undoAV p.1 p.2]) rfl fok9 (by simp -dsimp -implicitDefEqProofs only [↓j25, ↓j29, j173, j174, ↓reduceIte]) (fun x hx => (args1 x hx).2) hkp ?_
        simp -dsimp -implicitDefEqProofs only [↓j1, j17, j18, j20, ↓j53, j171]
        refine CallTo.pure (args := [undoAV p.1 p.2]) rfl fok16 (by simp -dsimp -implicitDefEqProofs only [↓j25, ↓j29, j173, j174, ↓reduceIte]) (fun x hx => (args1 x hx).2) hlv ?_
        simp -dsimp -implicitDefEqProofs only [↓j0, ↓j1, ↓j7, ↓j12, ↓j14, ↓j15, ↓j16, j17, j18, j20, ↓j25, ↓j27, ↓j29, ↓j30, j33, ↓j38, ↓j39, ↓j43, ↓j45, ↓j48, ↓j58, ↓j62, ↓j76, ↓j79, ↓j89, j133, j142, ↓j145, ↓j146, ↓j153, j154, AV.proj, AV.offOf, AV.size, AV.sizeL, j163, j164, j166, j167, j171, ↓reduceIte, Nat.reduceEqDiff, j182, j185, j196, j197, j286, j295, j416, hwl]
        refine AWp.loopR (Z := Z) mixed hZ (by kernel_rfl) (fun m s => ∃ j, j + m = p.2.length ∧ s = rqSt L last p u j) (n0 := p.2.length) (s0 := rqSt L last p u 0) ?_ ⟨0, by omega, rfl⟩ ?_ rfl
        · refine Wk.trans (Wk.mk (s' := ⟨194, rqT L p u 0 (liveAll (L.take (u + 1))) (liveAll (L.take u) + liveN (p.2.take 0)), twoH L last, 101⟩) (SubT.spec ?_) (SubH.spec ?_) (Nat.le_refl _) rfl) (Wk.gc (by omega) rq_on twoH_on)
          · simp -dsimp -implicitDefEqProofs only [↓j25, j167, j179, ↓reduceIte, Nat.reduceEqDiff, j182, j183, j184, j202, j203, j209, rqT] <;> simp [liveN]
          · simp -dsimp -implicitDefEqProofs only [↓j27, reduceCtorEq, ↓reduceIte, Nat.reduceEqDiff, j182, j204, j205, twoH] <;> simp
        rintro m s ⟨j, hj, rfl⟩
        refine ⟨rfl, ?_⟩
        have hln := liveN_le (p.2.take j)
        rw [List.length_take] at hln
        rcases Nat.lt_or_ge j p.2.length with hlj | hgj
        · have hdj : decide ((j : Int) < (p.2.length : Int)) = true := decide_eq_true (by omega)
          have hlj' : (j : Int) < (p.2.length : Int) := by omega
          obtain ⟨o, ho⟩ := list_get (xs := p.2) hlj
          have hszj := sizeL_olds p.2 j (by omega)
          have hwj : IntKind.i64.wrap ((j : Int) + 1) = ((j + 1 : Nat) : Int) := by rw [wrap_i64 (by omega) (by omega)]; omega
          have hw8 : IntKind.u8.wrap (j : Int) = (j : Int) := wrap_id (by simp [IntKind.min, IntKind.signed]) (by simp [IntKind.max, IntKind.bits, IntKind.signed]; omega)
          have hlt := liveN_take ho
          cases hol : o.live
          · have hl2 : liveN (p.2.take (j + 1)) = liveN (p.2.take j) := by rw [hlt, hol]; rfl
            simp -dsimp -implicitDefEqProofs only [↓j0, ↓j1, ↓j7, ↓j9, ↓j12, ↓j13, ↓j14, ↓j15, j17, j18, j19, j20, j21, j22, j23, ↓j25, ↓j27, ↓j29, ↓j30, j33, ↓j38, ↓j39, ↓j41, ↓j43, ↓j44, ↓j45, ↓j46, ↓j48, ↓j76, ↓j77, ↓j78, ↓j79, ↓j89, ↓j92, j129, j131, ↓j145, ↓j146, ↓j147, ↓j148, ↓j149, ↓j153, j154, j159, AV.proj, AV.offOf, AV.upd, AV.size, AV.sizeL, AV.layable, j163, j167, j170, j171, j177, reduceCtorEq, ↓reduceIte, Nat.reduceAdd, Nat.reduceEqDiff, j182, j185, j191, j197, j206, j207, j208, j253, j287, j328, j329, j331, j380, rqSt, rqT, twoH, hlj', ho, hszj, hol]
            refine ⟨m - 1, rqSt L last p u (j + 1), by omega, ⟨j + 1, by omega, rfl⟩, Wk.trans (Wk.mk (s' := ⟨194, rqT L p u (j + 1) (liveAll (L.take (u + 1))) (liveAll (L.take u) + liveN (p.2.take (j + 1))), twoH L last, 101⟩) (SubT.spec ?_) (SubH.spec ?_) (Nat.le_refl _) rfl) (Wk.gc (by omega) rq_on twoH_on)⟩
            · simp -dsimp -implicitDefEqProofs only [↓j25, ↓reduceIte, Nat.reduceEqDiff, j182, j202, j203, rqT, hwj, hl2] <;> simp
            · simp -dsimp -implicitDefEqProofs only [↓j27, reduceCtorEq, ↓reduceIte, Nat.reduceEqDiff, j182, j204, j205, twoH] <;> simp
          · have hl2 : liveN (p.2.take (j + 1)) = liveN (p.2.take j) + 1 := by rw [hlt, hol]; rfl
            have hgt := refs_get hp ho hol
            obtain ⟨R, hR⟩ : ∃ R, refs 0 L = R := ⟨_, rfl⟩
            rw [hR] at hgt
            have hwj2 : IntKind.i64.wrap (((liveAll (L.take u) + liveN (p.2.take j) : Nat) : Int) + 1) = ((liveAll (L.take u) + liveN (p.2.take (j + 1)) : Nat) : Int) := by rw [hl2, wrap_i64 (by omega) (by omega)]; omega
            obtain ⟨d, hd2⟩ : ∃ d, liveAll (L.take u) + liveN (p.2.take j) = d := ⟨_, rfl⟩
            rw [hd2] at hgt hwj2
            have hdR : d < R.length := by
              rcases Nat.lt_or_ge d R.length with h3 | h3
              · exact h3
              · rw [List.getElem?_eq_none h3] at hgt; cases hgt
            have hdR1 : decide ((R.length : Int) ≤ (d : Int)) = false := decide_eq_false (by omega)
            have hdR2 : (d : Int) < (R.length : Int) := by omega
            have hszd : AV.sizeL ((R.map refAV).take d) = d * 2 := (unif_ref R).sizeL_take (by simp; omega)
            have n1 : (((u + 1 : Nat) : Int) != ((u + 1 : Nat) : Int)) = false := by simp
            have n2 : (((j : Nat) : Int) != ((j : Nat) : Int)) = false := by simp
            simp -dsimp -implicitDefEqProofs only [↓j0, ↓j1, ↓j2, ↓j7, ↓j9, ↓j12, ↓j13, ↓j14, ↓j15, j17, j18, j19, j20, j21, j22, j23, ↓j25, ↓j27, ↓j29, ↓j30, j32, j33, ↓j38, ↓j39, ↓j40, ↓j41, ↓j43, ↓j44, ↓j45, ↓j46, ↓j48, ↓j50, ↓j58, ↓j62, ↓j76, ↓j77, ↓j78, ↓j79, ↓j80, j83, ↓j89, ↓j92, j129, j130, j131, j142, ↓j145, ↓j146, ↓j147, ↓j148, ↓j149, ↓j151, ↓j153, j154, j158, j159, j162, AV.proj, AV.offOf, AV.upd, AV.size, AV.sizeL, AV.layable, j163, j164, j166, j167, j170, j171, j175, j177, reduceCtorEq, ↓reduceIte, Nat.reduceAdd, Nat.reduceEqDiff, j182, j185, j191, j195, j197, j206, j207, j208, ↓j225, j253, j255, j256, j287, j310, j313, j314, j321, j324, j328, j329, j331, j380, j406, j419, rqSt, rqT, twoH, hlj', ho, hszj, hol, hR, hd2, hdR1, hdR2, hgt, hszd, hw, hw16, n1, hw8, n2, hwj2]
            refine ⟨m - 1, rqSt L last p u (j + 1), by omega, ⟨j + 1, by omega, by subst hR; rfl⟩, Wk.trans (Wk.mk (s' := ⟨194, rqT L p u (j + 1) (liveAll (L.take (u + 1))) (liveAll (L.take u) + liveN (p.2.take (j + 1))), twoH L last, 101⟩) (SubT.spec ?_) (SubH.spec ?_) (Nat.le_refl _) rfl) (Wk.gc (by omega) rq_on twoH_on)⟩
            · simp -dsimp -implicitDefEqProofs only [↓j25, ↓reduceIte, Nat.reduceEqDiff, j182, j202, j203, rqT, hwj, hR] <;> simp
            · simp -dsimp -implicitDefEqProofs only [↓j27, reduceCtorEq, ↓reduceIte, Nat.reduceEqDiff, j182, j204, j205, twoH] <;> simp
        · have hdj : decide ((j : Int) < (p.2.length : Int)) = false := decide_eq_false (by omega)
          have hje : p.2.take j = p.2 := List.take_of_length_le hgj
          have hq : liveAll (L.take u) + liveN (p.2.take j) = liveAll (L.take (u + 1)) := by rw [hje, htk]
          simp -dsimp -implicitDefEqProofs only [↓j0, ↓j1, ↓j7, ↓j11, ↓j12, ↓j13, ↓j15, j17, j18, j20, ↓j25, ↓j29, ↓j30, j33, ↓j38, ↓j48, ↓j89, ↓j145, ↓j146, ↓j148, ↓j149, j154, j159, j171, ↓reduceIte, Nat.reduceEqDiff, j185, rqSt, rqT, twoH, hdj, hq]
          exact ⟨z - 1, rpsSt L last (u + 1), by omega, ⟨u + 1, by omega, rfl⟩, Wk.sub (by simp -dsimp -implicitDefEqProofs only [↓j25, ↓j27, reduceCtorEq, ↓reduceIte, Nat.reduceEqDiff, j182, j202, j203, j204, j205, j223, rpsT, twoH, hw] <;> simp)⟩
      · have hd : decide ((u : Int) < (L.length : Int)) = false := decide_eq_false (by omega)
        have hT : L.take u = L := List.take_of_length_le hge
        simp -dsimp -implicitDefEqProofs only [↓j0, ↓j1, ↓j2, ↓j7, ↓j11, ↓j12, ↓j13, ↓j15, j17, j18, j20, ↓j25, ↓j29, ↓j38, ↓j48, ↓j53, ↓j58, ↓j62, ↓j89, j142, ↓j145, ↓j146, ↓j147, ↓j148, ↓j149, ↓j150, j157, j159, j163, j164, j171, j175, ↓reduceIte, Nat.reduceEqDiff, j185, j419, rpsSt, rpsT, twoH, hd, hT, hrl, hee]
        refine CallTo.gen (args := [.ptr 1 0 []]) (roomH L last) (roomH L last) 100 rfl fok17 (by simp -dsimp -implicitDefEqProofs only [↓j25, ↓j29, j173, j174, ↓reduceIte]) (notup1 fun vs h => by cases h) hlf (SubH.of (by simp -dsimp -implicitDefEqProofs only [↓j27, reduceCtorEq, ↓reduceIte, j182, j204, j205])) ⟨by simp, put_same⟩ ?_
        simp -dsimp -implicitDefEqProofs only [↓j1, ↓j2, j17, j18, j20, j21, j22, j23, ↓j25, ↓j29, ↓j30, j32, ↓j38, ↓j40, ↓j48, ↓j53, j83, ↓j89, ↓j145, ↓j146, ↓j147, ↓j150, j157, j163, j164, j170, j171, j173, j174, j175, reduceCtorEq, ↓reduceIte, Nat.reduceEqDiff, j185, hee]
        refine CallTo.pure (args := []) rfl fok7 rfl nil0 awake_spec ?_
        simp -dsimp -implicitDefEqProofs only [↓j0, ↓j1, ↓j10, j17, j18, j20, ↓j25, ↓j29, ↓j30, j32, ↓j39, ↓j40, j83, ↓j145, j171, ↓reduceIte, Nat.reduceEqDiff]
        exact ret _ _ _ rfl
    · simp -dsimp -implicitDefEqProofs only [↓j0, ↓j1, ↓j2, ↓j7, ↓j11, ↓j12, ↓j13, ↓j15, j17, j18, j20, ↓j25, ↓j29, ↓j30, j32, j33, ↓j38, ↓j39, ↓j40, ↓j48, ↓j53, ↓j58, ↓j62, j83, ↓j89, j142, ↓j145, ↓j146, ↓j147, ↓j148, ↓j149, ↓j150, j159, j163, j164, j171, j175, reduceCtorEq, ↓reduceIte, Nat.reduceEqDiff, j185, j410, plSt, plT, twoH, e3, e4]
      refine CallTo.gen (args := [.ptr 1 0 []]) (roomH L last) (roomH L last) 100 rfl fok15 (by simp -dsimp -implicitDefEqProofs only [↓j25, ↓j29, j173, j174, ↓reduceIte]) (notup1 fun vs h => by cases h) hrf (SubH.of (by simp -dsimp -implicitDefEqProofs only [↓j27, reduceCtorEq, ↓reduceIte, j182, j204, j205])) ⟨by simp, put_same⟩ ?_
      simp -dsimp -implicitDefEqProofs only [↓j0, ↓j1, ↓j7, ↓j12, ↓j14, ↓j15, ↓j16, j17, j18, j20, j21, j22, j23, ↓j25, ↓j27, ↓j29, ↓j30, j33, ↓j38, ↓j39, ↓j43, ↓j45, ↓j56, ↓j58, ↓j61, ↓j76, ↓j79, j135, j143, ↓j145, ↓j146, ↓j153, AV.proj, AV.offOf, AV.sizeL, j163, j167, j170, j171, j173, j174, reduceCtorEq, ↓reduceIte, Nat.reduceEqDiff, j182, j197, j271, j277, j413]
      refine AWp.loopR (Z := Z) mixed hZ (by kernel_rfl) (fun n s => ∃ i, i + n = L.length ∧ s = rpsSt L last i) (n0 := L.length) (s0 := rpsSt L last 0) ?_ ⟨0, by omega, rfl⟩ ?_ rfl
      · exact Wk.sub (by simp -dsimp -implicitDefEqProofs only [↓j25, ↓j27, j167, j179, reduceCtorEq, ↓reduceIte, Nat.reduceEqDiff, j182, j183, j184, j202, j203, j204, j205, j209, j223, rpsT, twoH] <;> simp [liveAll])
      rintro z s ⟨u, hu, rfl⟩
      refine ⟨rfl, ?_⟩
      rcases Nat.lt_or_ge u L.length with hlt | hge
      · have hd : decide ((u : Int) < (L.length : Int)) = true := decide_eq_true (by omega)
        have hlt' : (u : Int) < (L.length : Int) := by omega
        obtain ⟨p, hp⟩ := list_get (xs := L) hlt
        have hpm := hs.2 p (List.mem_of_getElem? hp)
        have hsz := sizeL_pg L u (by omega)
        have hw : IntKind.i64.wrap ((u : Int) + 1) = ((u + 1 : Nat) : Int) := by rw [wrap_i64 (by omega) (by omega)]; omega
        have hw16 : IntKind.u16.wrap ((u + 1 : Nat) : Int) = ((u + 1 : Nat) : Int) := wrap_id (by simp [IntKind.min, IntKind.signed]; omega) (by simp [IntKind.max, IntKind.bits, IntKind.signed]; omega)
        have hlt1 := hs.live u
        have hlt2 := hs.live (u + 1)
        have htk := liveAll_take hp
        have hwl : IntKind.i64.wrap ((liveAll (L.take u) : Int) + (liveN p.2 : Int)) = ((liveAll (L.take (u + 1)) : Nat) : Int) := by rw [wrap_i64 (by omega) (by omega)]; omega
        have hkp := kept_spec p.1 p.2 (by omega)
        have hlv := live_spec p.1 p.2 (by omega)
        simp -dsimp -implicitDefEqProofs only [↓j0, ↓j1, ↓j7, ↓j9, ↓j12, ↓j13, ↓j14, ↓j15, j17, j18, j19, j20, j21, j22, j23, ↓j25, ↓j27, ↓j29, ↓j38, ↓j39, ↓j41, ↓j43, ↓j44, ↓j46, ↓j48, ↓j53, ↓j76, ↓j78, ↓j89, ↓j93, j129, ↓j145, ↓j146, ↓j147, ↓j149, ↓j153, j159, AV.proj, AV.offOf, AV.upd, AV.size, AV.sizeL, AV.layable, j170, j171, j177, reduceCtorEq, ↓reduceIte, Nat.reduceAdd, Nat.reduceEqDiff, j182, j185, j191, j196, j197, j206, j207, j208, j272, j289, j290, j374, rpsSt, rpsT, twoH, hlt', hp, hsz]
        refine CallTo.pure (args := [undoAV p.1 p.2]) rfl fok9 (by simp -dsimp -implicitDefEqProofs only [↓j25, ↓j29, j173, j174, ↓reduceIte]) (fun x hx => (args1 x hx).2) hkp ?_
        simp -dsimp -implicitDefEqProofs only [↓j1, j17, j18, j20, ↓j53, j171]
        refine CallTo.pure (args := [undoAV p.1 p.2]) rfl fok16 (by simp -dsimp -implicitDefEqProofs only [↓j25, ↓j29, j173, j174, ↓reduceIte]) (fun x hx => (args1 x hx).2) hlv ?_
        simp -dsimp -implicitDefEqProofs only [↓j0, ↓j1, ↓j7, ↓j12, ↓j14, ↓j15, ↓j16, j17, j18, j20, ↓j25, ↓j27, ↓j29, ↓j30, j33, ↓j38, ↓j39, ↓j43, ↓j45, ↓j48, ↓j58, ↓j62, ↓j76, ↓j79, ↓j89, j133, j142, ↓j145, ↓j146, ↓j153, j154, AV.proj, AV.offOf, AV.size, AV.sizeL, j163, j164, j166, j167, j171, ↓reduceIte, Nat.reduceEqDiff, j182, j185, j196, j197, j286, j295, j416, hwl]
        refine AWp.loopR (Z := Z) mixed hZ (by kernel_rfl) (fun m s => ∃ j, j + m = p.2.length ∧ s = rqSt L last p u j) (n0 := p.2.length) (s0 := rqSt L last p u 0) ?_ ⟨0, by omega, rfl⟩ ?_ rfl
        · refine Wk.trans (Wk.mk (s' := ⟨194, rqT L p u 0 (liveAll (L.take (u + 1))) (liveAll (L.take u) + liveN (p.2.take 0)), twoH L last, 101⟩) (SubT.spec ?_) (SubH.spec ?_) (Nat.le_refl _) rfl) (Wk.gc (by omega) rq_on twoH_on)
          · simp -dsimp -implicitDefEqProofs only [↓j25, j167, j179, ↓reduceIte, Nat.reduceEqDiff, j182, j183, j184, j202, j203, j209, rqT] <;> simp [liveN]
          · simp -dsimp -implicitDefEqProofs only [↓j27, reduceCtorEq, ↓reduceIte, Nat.reduceEqDiff, j182, j204, j205, twoH] <;> simp
        rintro m s ⟨j, hj, rfl⟩
        refine ⟨rfl, ?_⟩
        have hln := liveN_le (p.2.take j)
        rw [List.length_take] at hln
        rcases Nat.lt_or_ge j p.2.length with hlj | hgj
        · have hdj : decide ((j : Int) < (p.2.length : Int)) = true := decide_eq_true (by omega)
          have hlj' : (j : Int) < (p.2.length : Int) := by omega
          obtain ⟨o, ho⟩ := list_get (xs := p.2) hlj
          have hszj := sizeL_olds p.2 j (by omega)
          have hwj : IntKind.i64.wrap ((j : Int) + 1) = ((j + 1 : Nat) : Int) := by rw [wrap_i64 (by omega) (by omega)]; omega
          have hw8 : IntKind.u8.wrap (j : Int) = (j : Int) := wrap_id (by simp [IntKind.min, IntKind.signed]) (by simp [IntKind.max, IntKind.bits, IntKind.signed]; omega)
          have hlt := liveN_take ho
          cases hol : o.live
          · have hl2 : liveN (p.2.take (j + 1)) = liveN (p.2.take j) := by rw [hlt, hol]; rfl
            simp -dsimp -implicitDefEqProofs only [↓j0, ↓j1, ↓j7, ↓j9, ↓j12, ↓j13, ↓j14, ↓j15, j17, j18, j19, j20, j21, j22, j23, ↓j25, ↓j27, ↓j29, ↓j30, j33, ↓j38, ↓j39, ↓j41, ↓j43, ↓j44, ↓j45, ↓j46, ↓j48, ↓j76, ↓j77, ↓j78, ↓j79, ↓j89, ↓j92, j129, j131, ↓j145, ↓j146, ↓j147, ↓j148, ↓j149, ↓j153, j154, j159, AV.proj, AV.offOf, AV.upd, AV.size, AV.sizeL, AV.layable, j163, j167, j170, j171, j177, reduceCtorEq, ↓reduceIte, Nat.reduceAdd, Nat.reduceEqDiff, j182, j185, j191, j197, j206, j207, j208, j253, j287, j328, j329, j331, j380, rqSt, rqT, twoH, hlj', ho, hszj, hol]
            refine ⟨m - 1, rqSt L last p u (j + 1), by omega, ⟨j + 1, by omega, rfl⟩, Wk.trans (Wk.mk (s' := ⟨194, rqT L p u (j + 1) (liveAll (L.take (u + 1))) (liveAll (L.take u) + liveN (p.2.take (j + 1))), twoH L last, 101⟩) (SubT.spec ?_) (SubH.spec ?_) (Nat.le_refl _) rfl) (Wk.gc (by omega) rq_on twoH_on)⟩
            · simp -dsimp -implicitDefEqProofs only [↓j25, ↓reduceIte, Nat.reduceEqDiff, j182, j202, j203, rqT, hwj, hl2] <;> simp
            · simp -dsimp -implicitDefEqProofs only [↓j27, reduceCtorEq, ↓reduceIte, Nat.reduceEqDiff, j182, j204, j205, twoH] <;> simp
          · have hl2 : liveN (p.2.take (j + 1)) = liveN (p.2.take j) + 1 := by rw [hlt, hol]; rfl
            have hgt := refs_get hp ho hol
            obtain ⟨R, hR⟩ : ∃ R, refs 0 L = R := ⟨_, rfl⟩
            rw [hR] at hgt
            have hwj2 : IntKind.i64.wrap (((liveAll (L.take u) + liveN (p.2.take j) : Nat) : Int) + 1) = ((liveAll (L.take u) + liveN (p.2.take (j + 1)) : Nat) : Int) := by rw [hl2, wrap_i64 (by omega) (by omega)]; omega
            obtain ⟨d, hd2⟩ : ∃ d, liveAll (L.take u) + liveN (p.2.take j) = d := ⟨_, rfl⟩
            rw [hd2] at hgt hwj2
            have hdR : d < R.length := by
              rcases Nat.lt_or_ge d R.length with h3 | h3
              · exact h3
              · rw [List.getElem?_eq_none h3] at hgt; cases hgt
            have hdR1 : decide ((R.length : Int) ≤ (d : Int)) = false := decide_eq_false (by omega)
            have hdR2 : (d : Int) < (R.length : Int) := by omega
            have hszd : AV.sizeL ((R.map refAV).take d) = d * 2 := (unif_ref R).sizeL_take (by simp; omega)
            have n1 : (((u + 1 : Nat) : Int) != ((u + 1 : Nat) : Int)) = false := by simp
            have n2 : (((j : Nat) : Int) != ((j : Nat) : Int)) = false := by simp
            simp -dsimp -implicitDefEqProofs only [↓j0, ↓j1, ↓j2, ↓j7, ↓j9, ↓j12, ↓j13, ↓j14, ↓j15, j17, j18, j19, j20, j21, j22, j23, ↓j25, ↓j27, ↓j29, ↓j30, j32, j33, ↓j38, ↓j39, ↓j40, ↓j41, ↓j43, ↓j44, ↓j45, ↓j46, ↓j48, ↓j50, ↓j58, ↓j62, ↓j76, ↓j77, ↓j78, ↓j79, ↓j80, j83, ↓j89, ↓j92, j129, j130, j131, j142, ↓j145, ↓j146, ↓j147, ↓j148, ↓j149, ↓j151, ↓j153, j154, j158, j159, j162, AV.proj, AV.offOf, AV.upd, AV.size, AV.sizeL, AV.layable, j163, j164, j166, j167, j170, j171, j175, j177, reduceCtorEq, ↓reduceIte, Nat.reduceAdd, Nat.reduceEqDiff, j182, j185, j191, j195, j197, j206, j207, j208, ↓j225, j253, j255, j256, j287, j310, j313, j314, j321, j324, j328, j329, j331, j380, j406, j419, rqSt, rqT, twoH, hlj', ho, hszj, hol, hR, hd2, hdR1, hdR2, hgt, hszd, hw, hw16, n1, hw8, n2, hwj2]
            refine ⟨m - 1, rqSt L last p u (j + 1), by omega, ⟨j + 1, by omega, by subst hR; rfl⟩, Wk.trans (Wk.mk (s' := ⟨194, rqT L p u (j + 1) (liveAll (L.take (u + 1))) (liveAll (L.take u) + liveN (p.2.take (j + 1))), twoH L last, 101⟩) (SubT.spec ?_) (SubH.spec ?_) (Nat.le_refl _) rfl) (Wk.gc (by omega) rq_on twoH_on)⟩
            · simp -dsimp -implicitDefEqProofs only [↓j25, ↓reduceIte, Nat.reduceEqDiff, j182, j202, j203, rqT, hwj, hR] <;> simp
            · simp -dsimp -implicitDefEqProofs only [↓j27, reduceCtorEq, ↓reduceIte, Nat.reduceEqDiff, j182, j204, j205, twoH] <;> simp
        · have hdj : decide ((j : Int) < (p.2.length : Int)) = false := decide_eq_false (by omega)
          have hje : p.2.take j = p.2 := List.take_of_length_le hgj
          have hq : liveAll (L.take u) + liveN (p.2.take j) = liveAll (L.take (u + 1)) := by rw [hje, htk]
          simp -dsimp -implicitDefEqProofs only [↓j0, ↓j1, ↓j7, ↓j11, ↓j12, ↓j13, ↓j15, j17, j18, j20, ↓j25, ↓j29, ↓j30, j33, ↓j38, ↓j48, ↓j89, ↓j145, ↓j146, ↓j148, ↓j149, j154, j159, j171, ↓reduceIte, Nat.reduceEqDiff, j185, rqSt, rqT, twoH, hdj, hq]
          exact ⟨z - 1, rpsSt L last (u + 1), by omega, ⟨u + 1, by omega, rfl⟩, Wk.sub (by simp -dsimp -implicitDefEqProofs only [↓j25, ↓j27, reduceCtorEq, ↓reduceIte, Nat.reduceEqDiff, j182, j202, j203, j204, j205, j223, rpsT, twoH, hw] <;> simp)⟩
      · have hd : decide ((u : Int) < (L.length : Int)) = false := decide_eq_false (by omega)
        have hT : L.take u = L := List.take_of_length_le hge
        simp -dsimp -implicitDefEqProofs only [↓j0, ↓j1, ↓j2, ↓j7, ↓j11, ↓j12, ↓j13, ↓j15, j17, j18, j20, ↓j25, ↓j29, ↓j38, ↓j48, ↓j53, ↓j58, ↓j62, ↓j89, j142, ↓j145, ↓j146, ↓j147, ↓j148, ↓j149, ↓j150, j157, j159, j163, j164, j171, j175, ↓reduceIte, Nat.reduceEqDiff, j185, j419, rpsSt, rpsT, twoH, hd, hT, hrl, hee]
        refine CallTo.gen (args := [.ptr 1 0 []]) (roomH L last) (roomH L last) 100 rfl fok17 (by simp -dsimp -implicitDefEqProofs only [↓j25, ↓j29, j173, j174, ↓reduceIte]) (notup1 fun vs h => by cases h) hlf (SubH.of (by simp -dsimp -implicitDefEqProofs only [↓j27, reduceCtorEq, ↓reduceIte, j182, j204, j205])) ⟨by simp, put_same⟩ ?_
        simp -dsimp -implicitDefEqProofs only [↓j1, ↓j2, j17, j18, j20, j21, j22, j23, ↓j25, ↓j29, ↓j30, j32, ↓j38, ↓j40, ↓j48, ↓j53, j83, ↓j89, ↓j145, ↓j146, ↓j147, ↓j150, j157, j163, j164, j170, j171, j173, j174, j175, reduceCtorEq, ↓reduceIte, Nat.reduceEqDiff, j185, hee]
        refine CallTo.pure (args := []) rfl fok7 rfl nil0 awake_spec ?_
        simp -dsimp -implicitDefEqProofs only [↓j0, ↓j1, ↓j10, j17, j18, j20, ↓j25, ↓j29, ↓j30, j32, ↓j39, ↓j40, j83, ↓j145, j171, ↓reduceIte, Nat.reduceEqDiff]
        exact ret _ _ _ rfl
end Go.Proofs.Ytlagoaggllhggaa
