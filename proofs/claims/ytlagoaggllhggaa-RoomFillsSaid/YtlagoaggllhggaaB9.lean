/- The law RoomFills. -/
import Derived.Test.YtlagoaggllhggaaB8
set_option linter.unusedVariables false
set_option linter.unusedSimpArgs false
namespace Go.Proofs.Ytlagoaggllhggaa
open Go Go.RowKit

abbrev byAV (bs : List Int) : AV := .vsl (bs.map (AV.int .u8)) bs.length
theorem unif_by (bs : List Int) : Unif 1 (bs.map (AV.int .u8)) := fun x hx => by
  obtain ⟨o, _, rfl⟩ := List.mem_map.1 hx; rfl
theorem sizeL_by (bs : List Int) (i : Nat) (h : i ≤ bs.length) : AV.sizeL ((bs.map (AV.int .u8)).take i) = i * 1 := (unif_by bs).sizeL_take (by simpa using h)
theorem on_by (S : Nat → Prop) (bs : List Int) : AV.on S (byAV bs) := by
  show AV.onL S _
  rw [AV.onL_iff]
  intro x hx
  obtain ⟨o, _, rfl⟩ := List.mem_map.1 hx
  trivial
theorem argsF {n out : Int} {bs : List Int} : ∀ x, x ∈ [.int .u8 n, byAV bs, .int .u16 out] → AV.on (fun _ => False) x ∧ ∀ vs, x ≠ .tuple vs := fun x hx => by
  simp only [List.mem_cons, List.not_mem_nil, or_false] at hx
  rcases hx with rfl | rfl | rfl
  · exact ⟨trivial, fun vs h => by cases h⟩
  · exact ⟨on_by _ _, fun vs h => by cases h⟩
  · exact ⟨trivial, fun vs h => by cases h⟩
theorem bytesOf_zeros (n : Nat) : bytesOf (List.replicate n (.int .u8 0)) = some (List.replicate n 0) := by
  induction n with
  | zero => rfl
  | succ n ih => simp [List.replicate_succ, bytesOf, ih]
theorem notup3 {x y z : AV} (hx : ∀ vs, x ≠ .tuple vs) (hy : ∀ vs, y ≠ .tuple vs) (hz : ∀ vs, z ≠ .tuple vs) : ∀ w, w ∈ [x, y, z] → ∀ vs, w ≠ .tuple vs := fun w hw => by
  simp only [List.mem_cons, List.not_mem_nil, or_false] at hw
  rcases hw with rfl | rfl | rfl
  · exact hx
  · exact hy
  · exact hz
theorem fok21 : fnOk Try.prog 21 = true := by kernel_rfl
theorem fok20 : fnOk Try.prog 20 = true := by kernel_rfl

def flSt (n out : Int) (bs : List Int) (k : Nat) (L : List Pg) (last i c : Nat) : St := ⟨166, [(9, .int .i64 i), (7, .int .i64 k), (8, .ptr 1 0 []), (0, .int .u8 n), (1, byAV bs), (2, .int .u16 out), (6, .bool false)], roomH L last, c + 2⟩
def pgSt (n out : Int) (bs : List Int) (k : Nat) (L : List Pg) (last i m p c : Nat) : St := ⟨166, [(13, .int .i64 p), (10, .int .i64 m), (9, .int .i64 i), (7, .int .i64 k), (8, .ptr 1 0 []), (0, .int .u8 n), (1, byAV bs), (2, .int .u16 out), (6, .bool false)], roomH L last, c + 2⟩

theorem roomFills_spec (n out : Int) (bs : List Int) (hn0 : 0 ≤ n) (hn1 : n ≤ 255) (ho0 : 0 ≤ out) (ho1 : out ≤ 65535) (hb : ∀ b, b ∈ bs → 0 ≤ b ∧ b ≤ 255) (hl : bs.length ≤ 9223372036854775807) : ACall Try.prog 5 [.int .u8 n, byAV bs, .int .u16 out] [] (.bool true) [] := by
  refine ACall.run (Z := Z) (N := 166) mixed hZ Try.func5 rfl rfl (by kernel_rfl) (by simp) argsF 0 ?_
  have ret : ∀ (t : Env) (H : Heap) (m : Nat), look t 6 = some (.bool true) → Final Try.prog Try.f5 (.bool true) [] .ret ⟨166, t, H, m⟩ := fun t H m h =>
    Final.one (.inr rfl) (r := .tmp 6) rfl ⟨h, fun vs h => by cases h⟩ (fun vs h => by cases h) (fun vs h => by cases h) (.same _ trivial)
  have nil0 : ∀ x : AV, x ∈ ([] : List AV) → ∀ vs, x ≠ .tuple vs := fun x hx => by simp at hx
  obtain ⟨k, hk, hk1, hk4⟩ : ∃ k : Nat, IntKind.i64.wrap (1 + IntKind.i64.wrap (n.tmod 4)) = (k : Int) ∧ 1 ≤ k ∧ k ≤ 4 := by
    have e := Int.tmod_eq_emod_of_nonneg (b := 4) hn0
    refine ⟨(1 + n.tmod 4).toNat, ?_, by omega, by omega⟩
    have e2 : IntKind.i64.wrap (n.tmod 4) = n.tmod 4 := wrap_i64 (by omega) (by omega)
    rw [e2, wrap_i64 (by omega) (by omega)]; omega
  have hwk : True := trivial
  simp -dsimp -implicitDefEqProofs only [↓j0, ↓j1, ↓j7, ↓j12, ↓j15, j17, j18, j20, ↓j25, ↓j29, ↓j30, j32, j33, ↓j38, ↓j39, ↓j48, ↓j50, ↓j53, ↓j76, j96, ↓j129, ↓j130, j138, argEnv, j156, reduceCtorEq, ↓reduceIte, Nat.reduceAdd, Int.reduceEq, j169, j180, ↓j209, j224, j380, hk]
  refine CallTo.gen (args := [.int .i64 k]) [] (roomH (L0 k) 0) 2 rfl fok6 (by simp -dsimp -implicitDefEqProofs only [↓j25, ↓j29, j157, j158, ↓reduceIte]) (notup1 fun vs h => by cases h) (new_spec k hk1 (by omega)) (fun n b h => by simp [Heap.get] at h) ⟨by simp, put_new⟩ ?_
  simp -dsimp -implicitDefEqProofs only [↓j0, ↓j1, ↓j2, ↓j7, ↓j12, ↓j13, ↓j15, j17, j18, j20, ↓j25, ↓j29, ↓j30, j32, j33, j35, ↓j38, ↓j39, ↓j40, ↓j48, ↓j58, j70, ↓j76, j126, ↓j129, ↓j130, ↓j132, ↓j133, ↓j135, j141, j147, j148, j155, j156, j158, j159, reduceCtorEq, ↓reduceIte, Nat.reduceEqDiff, j169, j179, j195, ↓j219, j239, j396]
  refine ⟨fun h0 => ?_, fun h0 => ?_⟩
  · simp -dsimp -implicitDefEqProofs only [↓j1, ↓j2, ↓j7, ↓j12, ↓j15, j17, j18, j20, ↓j25, ↓j29, ↓j30, j35, ↓j38, ↓j48, ↓j53, ↓j129, ↓j130, ↓j131, ↓j134, j147, j148, j155, j159, ↓reduceIte, Nat.reduceEqDiff, j196, ↓j219, j239, h0]
    refine CallTo.pure (args := []) rfl fok7 rfl nil0 awake_spec ?_
    simp -dsimp -implicitDefEqProofs only [↓j0, ↓j1, ↓j10, j17, j18, j20, ↓j25, ↓j29, ↓j30, j32, ↓j39, ↓j40, j70, ↓j129, j155, ↓reduceIte, Nat.reduceEqDiff]
    exact ret _ _ _ rfl
  have hbl : bs.length ≠ 0 := by
    intro h; rw [h] at h0; simp at h0
  have hln : (((bs.length : Nat) : Int) = 0) = False := by simp; exact fun h => hbl (by rw [h]; rfl)
  simp -dsimp -implicitDefEqProofs only [↓j0, ↓j1, ↓j7, ↓j9, ↓j12, ↓j14, ↓j15, ↓j16, j17, j18, j20, ↓j30, j33, ↓j39, ↓j129, j155, h0]
  refine AWp.loopR (Z := Z) mixed hZ (by kernel_rfl) (fun j s => ∃ L last i c, i + j = 100 ∧ L.length = k ∧ last < k ∧ Good L ∧ liveAll L = i ∧ s = flSt n out bs k L last i c) (n0 := 100) (s0 := flSt n out bs k (L0 k) 0 0 0) ?_ ⟨L0 k, 0, 0, 0, by omega, List.length_replicate, by omega, good0 k, live0 k, rfl⟩ ?_ rfl
  · exact Wk.sub (by simp -dsimp -implicitDefEqProofs only [↓j25, ↓j27, j163, reduceCtorEq, ↓reduceIte, Nat.reduceEqDiff, j166, j167, j168, j180, j186, j187, j188, j189, j193, j207] <;> simp)
  rintro j s ⟨L, last, i, c, hi, hL, hlast, hg, hlv, rfl⟩
  refine ⟨rfl, ?_⟩
  have hs := hg.small (by omega)
  have hll := hg.live
  have hi100 : decide ((i : Int) < 100) = true := decide_eq_true (by omega)
  obtain ⟨r, hr, hrl⟩ : ∃ r : Nat, (i : Int).tmod (bs.length : Int) = (r : Int) ∧ r < bs.length := by
    have e := Int.tmod_eq_emod_of_nonneg (b := (bs.length : Int)) (show (0 : Int) ≤ (i : Int) by omega)
    have e1 := Int.emod_nonneg (i : Int) (b := (bs.length : Int)) (by omega)
    have e2 := Int.emod_lt_of_pos (i : Int) (b := (bs.length : Int)) (by omega)
    exact ⟨((i : Int).tmod (bs.length : Int)).toNat, by omega, by omega⟩
  obtain ⟨b, hbr⟩ := list_get (xs := bs) hrl
  have hb' := hb b (List.mem_of_getElem? hbr)
  have hszb := sizeL_by bs r (by omega)
  have hrlt : (r : Int) < (bs.length : Int) := by omega
  obtain ⟨m, hm, hm66⟩ : ∃ m : Nat, IntKind.i64.wrap (b.tmod 67) = (m : Int) ∧ m ≤ 66 := by
    have e := Int.tmod_eq_emod_of_nonneg (b := 67) hb'.1
    refine ⟨(b.tmod 67).toNat, ?_, by omega⟩
    rw [wrap_i64 (by omega) (by omega)]; omega
  have hfd := find_spec L last (m : Int) hs (by omega)
  simp -dsimp -implicitDefEqProofs only [↓j0, ↓j1, ↓j7, ↓j9, ↓j12, ↓j13, ↓j14, ↓j15, j17, j18, j20, ↓j25, ↓j29, ↓j30, j33, ↓j38, ↓j39, ↓j43, ↓j46, ↓j48, ↓j50, ↓j53, ↓j58, ↓j64, ↓j76, ↓j79, j96, j117, j126, ↓j129, ↓j130, ↓j131, ↓j133, j143, AV.proj, AV.offOf, j155, j161, reduceCtorEq, ↓reduceIte, Nat.reduceEqDiff, Int.reduceEq, j166, j169, j181, j190, j191, j192, ↓j209, j224, j228, j322, j380, j396, flSt, hi100, hln, hr, hbr, hrlt, hszb, hm]
  refine CallTo.gen (args := [.ptr 1 0 [], .int .i64 m]) (roomH L last) (roomH L (findP L last m).2.2) (c + 2) rfl fok11' (by simp -dsimp -implicitDefEqProofs only [↓j25, ↓j29, j157, j158, ↓reduceIte, Nat.reduceEqDiff]) (notup (fun vs h => by cases h) fun vs h => by cases h) hfd (SubH.of (by simp -dsimp -implicitDefEqProofs only [↓j27, reduceCtorEq, ↓reduceIte, j166, j188, j189])) ⟨by simp, put_same⟩ ?_
  cases hok : (findP L last m).2.1
  · -- no room
    obtain ⟨hfe, hno⟩ := find_no (by omega) hok
    have hpos := full_live hg (by omega) hm66 hok
    rw [hfe]
    simp -dsimp -implicitDefEqProofs only [↓j0, ↓j1, ↓j7, ↓j12, ↓j13, ↓j14, ↓j15, ↓j16, j17, j18, j20, j21, j22, j23, ↓j25, ↓j29, ↓j30, j33, ↓j38, ↓j39, ↓j55, ↓j57, j71, j72, ↓j129, ↓j131, ↓j133, j147, j148, j155, j156, j157, j158, reduceCtorEq, ↓reduceIte, Nat.reduceEqDiff, j178]
    have hget : ∀ q : Nat, q < k → ∃ w, L[q]? = some w ∧ pageP L (q : Int) = w := fun q hq => by
      obtain ⟨w, hw⟩ := list_get (xs := L) (i := q) (by omega)
      refine ⟨w, hw, ?_⟩
      rw [pageP, hasP_iff.2 ⟨by omega, by omega⟩, Int.toNat_natCast, hw]; rfl
    refine AWp.loopR (Z := Z) mixed hZ (by kernel_rfl) (fun q s => ∃ p c, p + q = k ∧ s = pgSt n out bs k L last i m p c) (n0 := k) (s0 := pgSt n out bs k L last i m 0 c) ?_ ⟨0, c, by omega, rfl⟩ ?_ rfl
    · exact Wk.sub (by simp -dsimp -implicitDefEqProofs only [↓j25, ↓j27, j163, reduceCtorEq, ↓reduceIte, Nat.reduceEqDiff, j166, j167, j168, j186, j187, j188, j189, j193, j207] <;> simp)
    rintro q s ⟨p, c, hpq, rfl⟩
    refine ⟨rfl, ?_⟩
    rcases Nat.lt_or_ge p k with hpk | hpk
    · have hd : decide ((p : Int) < (k : Int)) = true := decide_eq_true (by omega)
      obtain ⟨w, hw, hpw⟩ := hget p hpk
      have hwm := hs.2 w (List.mem_of_getElem? hw)
      have hpg := page_spec L last (p : Int) hs
      rw [hpw] at hpg
      have hfw := fits_spec w.1 w.2 (m : Int) (by omega)
      rw [hno w (List.mem_of_getElem? hw)] at hfw
      have hw1 : IntKind.i64.wrap ((p : Int) + 1) = ((p + 1 : Nat) : Int) := by rw [wrap_i64 (by omega) (by omega)]; omega
      simp -dsimp -implicitDefEqProofs only [↓j0, ↓j1, ↓j7, ↓j9, ↓j12, ↓j13, ↓j14, ↓j15, j17, j18, j20, ↓j25, ↓j29, ↓j38, ↓j48, ↓j53, ↓j76, ↓j129, ↓j130, ↓j131, ↓j133, j143, j155, ↓reduceIte, Nat.reduceEqDiff, j169, pgSt, hd]
      refine CallTo.gen (args := [.ptr 1 0 [], .int .i64 p]) (roomH L last) (roomH L last) (c + 2) rfl fok14 (by simp -dsimp -implicitDefEqProofs only [↓j25, ↓j29, j157, j158, ↓reduceIte, Nat.reduceEqDiff]) (notup (fun vs h => by cases h) fun vs h => by cases h) hpg (SubH.of (by simp -dsimp -implicitDefEqProofs only [↓j27, reduceCtorEq, ↓reduceIte, j166, j188, j189])) ⟨by simp, put_same⟩ ?_
      simp -dsimp -implicitDefEqProofs only [↓j1, j17, j18, j20, j21, j22, j23, ↓j25, ↓j29, ↓j38, ↓j53, ↓j129, j155, j156, j157, j158, reduceCtorEq, ↓reduceIte, Nat.reduceEqDiff]
      refine CallTo.pure (args := [undoAV w.1 w.2, .int .i64 m]) rfl fok18 (by simp -dsimp -implicitDefEqProofs only [↓j25, ↓j29, j157, j158, ↓reduceIte, Nat.reduceEqDiff]) (fun x hx => (args2 x hx).2) hfw ?_
      simp -dsimp -implicitDefEqProofs only [↓j0, ↓j1, ↓j7, ↓j9, ↓j13, ↓j15, j17, j18, j20, ↓j25, ↓j29, ↓j30, j33, ↓j38, ↓j39, ↓j48, ↓j76, ↓j129, ↓j130, ↓j132, ↓j133, j138, j155, ↓reduceIte, Nat.reduceEqDiff, j169]
      exact ⟨q - 1, pgSt n out bs k L last i m (p + 1) c, by omega, ⟨p + 1, c, by omega, rfl⟩, Wk.sub (by simp -dsimp -implicitDefEqProofs only [↓j25, ↓j27, reduceCtorEq, ↓reduceIte, Nat.reduceEqDiff, j166, j186, j187, j188, j189, j207, hw1] <;> simp)⟩
    · have hd : decide ((p : Int) < (k : Int)) = false := decide_eq_false (by omega)
      have hrf := refs_spec L last hs
      obtain ⟨l, hle⟩ : ∃ l, refs 0 L = l := ⟨_, rfl⟩
      have hlen : l.length = i := by rw [← hle, refs_len, hlv]
      rw [hle] at hrf
      have hil : (((l.length : Nat) : Int) = 0) = False := by simp; intro h; rw [h] at hlen; simp at hlen; omega
      obtain ⟨t, ht, htl⟩ : ∃ t : Nat, (IntKind.i64.wrap out).tmod (l.length : Int) = (t : Int) ∧ t < l.length := by
        have e0 : IntKind.i64.wrap out = out := wrap_i64 (by omega) (by omega)
        have e := Int.tmod_eq_emod_of_nonneg (b := (l.length : Int)) ho0
        have e1 := Int.emod_nonneg out (b := (l.length : Int)) (by omega)
        have e2 := Int.emod_lt_of_pos out (b := (l.length : Int)) (by omega)
        rw [e0]
        exact ⟨(out.tmod (l.length : Int)).toNat, by omega, by omega⟩
      obtain ⟨a, ha⟩ := list_get (xs := l) htl
      have hszl : AV.sizeL ((l.map refAV).take t) = t * 2 := (unif_ref l).sizeL_take (by simp; omega)
      have htlt : (t : Int) < (l.length : Int) := by omega
      obtain ⟨z, w, d, hz1, hw, hwd, hdl⟩ := refs_mem 0 L a (by rw [hle]; exact List.mem_of_getElem? ha)
      have haz : a.1 = z := by omega
      have hzL : z < L.length := by
        rcases Nat.lt_or_ge z L.length with h3 | h3
        · exact h3
        · rw [List.getElem?_eq_none h3] at hw; cases hw
      have hgw := hg w (List.mem_of_getElem? hw)
      have hwl := may_len hgw.1
      have hal : a.2 < w.2.length := by
        rcases Nat.lt_or_ge a.2 w.2.length with h3 | h3
        · exact h3
        · rw [List.getElem?_eq_none h3] at hwd; cases hwd
      have hwz : IntKind.i64.wrap (IntKind.i64.wrap ((a.1 + 1 : Nat) : Int) - 1) = (a.1 : Int) := by
        have e : IntKind.i64.wrap ((a.1 + 1 : Nat) : Int) = ((a.1 + 1 : Nat) : Int) := wrap_i64 (by omega) (by omega)
        rw [e, wrap_i64 (by omega) (by omega)]; omega
      have hpa : pageP L (a.1 : Int) = w := by
        obtain ⟨w', h1, h2⟩ := hget a.1 (by omega)
        rw [haz, hw] at h1
        cases h1
        exact h2
      have hpg := page_spec L last (a.1 : Int) hs
      rw [hpa] at hpg
      have hgt := get_spec w.1 (a.2 : Int) w.2 (by omega) (by omega)
      have hgp : getP w.2 (a.2 : Int) = (d, true) := by simp [getP, hwd, hdl]
      rw [hgp] at hgt
      obtain ⟨mn, hmn, hmd⟩ : ∃ mn : Nat, (if (d.delta.size : Int) < (m : Int) then (d.delta.size : Int) else (m : Int)) = (mn : Int) ∧ mn ≤ d.delta.size := by
        by_cases h : (d.delta.size : Int) < (m : Int)
        · exact ⟨d.delta.size, by rw [if_pos h], Nat.le_refl _⟩
        · exact ⟨m, by rw [if_neg h], by omega⟩
      obtain ⟨ys, hfr, hyl, hyf⟩ := full_free (lsn := w.1) hgw.1 hgw.2 hwd hmd
      have hfs := free_spec w.1 (a.2 : Int) w.2 (by omega) (by omega) (by omega)
      rw [hfr] at hfs
      have hyv := free_live hgw.1 hwd hdl hfr
      have hnt := note_spec L last (a.1 : Int) w.1 ys (by omega)
      have hne : noteP L (a.1 : Int) (w.1, ys) = L.set a.1 (w.1, ys) := by
        rw [noteP, hasP_iff.2 ⟨by omega, by omega⟩, Int.toNat_natCast]; rfl
      rw [hne] at hnt
      obtain ⟨L', hL'⟩ : ∃ L', L.set a.1 (w.1, ys) = L' := ⟨_, rfl⟩
      have hLl : L'.length = L.length := by rw [← hL', List.length_set]
      have hls := liveAll_set (w.1, ys) (by rw [haz]; exact hw : L[a.1]? = some w)
      rw [hL'] at hnt hls
      have hls : liveAll L' + liveN w.2 = liveAll L + liveN ys := hls
      have hmem : (w.1, ys) ∈ L' := by rw [← hL']; exact List.mem_iff_getElem?.2 ⟨a.1, get_set (by rw [haz]; exact hw)⟩
      have hs' : Small L' := ⟨by omega, fun q hq => by
        rw [← hL'] at hq
        rcases List.mem_or_eq_of_mem_set hq with h1 | rfl
        · exact hs.2 q h1
        · show ys.length ≤ 100; omega⟩
      have hfd' := find_spec L' last (mn : Int) hs' (by omega)
      have hyes := find_yes (n := (mn : Int)) (last := last) (by omega) hmem hyf
      obtain ⟨⟨fa, fb, fl⟩, hfa⟩ : ∃ x, findP L' last (mn : Int) = x := ⟨_, rfl⟩
      rw [hfa] at hfd' hyes
      have hyes : fb = true := hyes
      subst hyes
      have hlf := lives_spec L' fl hs'
      have hlq : IntKind.i64.wrap ((l.length : Int) - 1) = (liveAll L' : Int) := by rw [wrap_i64 (by omega) (by omega)]; omega
      have hqq : (((liveAll L' : Nat) : Int) == ((liveAll L' : Nat) : Int)) = true := by simp
      simp -dsimp -implicitDefEqProofs only [↓j0, ↓j1, ↓j7, ↓j11, ↓j12, ↓j13, ↓j15, j17, j18, j20, ↓j25, ↓j29, ↓j38, ↓j48, ↓j53, ↓j76, ↓j129, ↓j130, ↓j132, ↓j133, j143, j155, ↓reduceIte, Nat.reduceEqDiff, j169, pgSt, hd]
      refine CallTo.gen (args := [.ptr 1 0 []]) (roomH L last) (roomH L last) (c + 2) rfl fok15 (by simp -dsimp -implicitDefEqProofs only [↓j25, ↓j29, j157, j158, ↓reduceIte]) (notup1 fun vs h => by cases h) hrf (SubH.of (by simp -dsimp -implicitDefEqProofs only [↓j27, reduceCtorEq, ↓reduceIte, j166, j188, j189])) ⟨by simp, put_same⟩ ?_
      simp -dsimp -implicitDefEqProofs only [↓j0, ↓j1, ↓j7, ↓j12, ↓j15, j17, j18, j19, j20, j21, j22, j23, ↓j25, ↓j27, ↓j29, ↓j30, j33, ↓j38, ↓j39, ↓j41, ↓j43, ↓j44, ↓j45, ↓j46, ↓j48, ↓j50, ↓j53, ↓j58, ↓j63, ↓j64, ↓j65, ↓j66, ↓j76, ↓j79, j96, j116, j117, j126, ↓j129, ↓j130, ↓j137, j139, AV.proj, AV.offOf, AV.upd, AV.size, AV.sizeL, AV.layable, j147, j151, j154, j155, j156, j157, j158, j161, reduceCtorEq, ↓reduceIte, Nat.reduceAdd, Nat.reduceEqDiff, j166, j169, j181, j190, j191, j192, j208, ↓j209, j224, j283, j286, j291, j292, j294, j352, j391, j392, hil, ht, ha, hszl, htlt, hwz]
      refine CallTo.gen (args := [.ptr 1 0 [], .int .i64 a.1]) (roomH L last) (roomH L last) (c + 3) rfl fok14 (by simp -dsimp -implicitDefEqProofs only [↓j25, ↓j29, j157, j158, ↓reduceIte, Nat.reduceEqDiff]) (notup (fun vs h => by cases h) fun vs h => by cases h) hpg (SubH.of (by simp -dsimp -implicitDefEqProofs only [↓j27, reduceCtorEq, ↓reduceIte, Nat.reduceEqDiff, j166, j188, j189])) ⟨by simp, put_same⟩ ?_
      simp -dsimp -implicitDefEqProofs only [↓j0, ↓j1, ↓j7, ↓j12, ↓j15, j17, j18, j19, j20, j21, j22, j23, ↓j25, ↓j27, ↓j29, ↓j41, ↓j43, ↓j44, ↓j45, ↓j53, ↓j63, ↓j65, ↓j66, j116, j117, ↓j129, ↓j130, ↓j137, AV.proj, AV.offOf, AV.upd, AV.size, AV.sizeL, AV.layable, j147, j148, j150, j151, j154, j155, j157, j158, reduceCtorEq, ↓reduceIte, Nat.reduceAdd, Nat.reduceEqDiff, j166, j180, j181, j204, j205, j208, j228, j262, j263, j297, j347]
      refine CallTo.pure (args := [undoAV w.1 w.2, .int .u8 a.2]) rfl fok19 (by simp -dsimp -implicitDefEqProofs only [↓j25, ↓j29, j157, j158, ↓reduceIte, Nat.reduceEqDiff]) (fun x hx => (args5 x hx).2) hgt ?_
      simp -dsimp -implicitDefEqProofs only [↓j0, ↓j1, ↓j7, ↓j12, ↓j15, j17, j18, j19, j20, j21, j22, j23, ↓j25, ↓j27, ↓j29, ↓j38, ↓j39, ↓j41, ↓j43, ↓j44, ↓j45, ↓j53, ↓j57, ↓j63, ↓j65, ↓j66, j72, j116, j117, ↓j129, ↓j130, ↓j137, AV.proj, AV.offOf, AV.upd, AV.size, AV.sizeL, AV.layable, j147, j148, j150, j151, j154, j155, reduceCtorEq, ↓reduceIte, Nat.reduceAdd, Nat.reduceEqDiff, j166, j180, j181, j204, j205, j208, j228, j262, j263, j297, j301, j353]
      refine CallTo.pure (args := [undoAV w.1 w.2, .int .u8 a.2]) rfl fok20 (by simp -dsimp -implicitDefEqProofs only [↓j25, ↓j29, j157, j158, ↓reduceIte, Nat.reduceEqDiff]) (fun x hx => (args5 x hx).2) hfs ?_
      simp -dsimp -implicitDefEqProofs only [↓j0, ↓j1, ↓j7, ↓j12, ↓j15, j17, j18, j19, j20, j21, j22, j23, ↓j25, ↓j27, ↓j29, ↓j30, j33, ↓j38, ↓j39, ↓j41, ↓j43, ↓j44, ↓j45, ↓j48, ↓j50, ↓j53, ↓j57, ↓j63, ↓j65, ↓j66, j72, ↓j76, j116, j117, ↓j129, ↓j130, ↓j137, j139, AV.proj, AV.offOf, AV.upd, AV.size, AV.sizeL, AV.layable, j147, j148, j151, j154, j155, reduceCtorEq, ↓reduceIte, Nat.reduceAdd, Nat.reduceEqDiff, j166, j169, j181, j204, j205, j208, ↓j209, j224, j262, j263, j286, j294, j347, j392, hwz]
      refine CallTo.gen (args := [.ptr 1 0 [], .int .i64 a.1, undoAV w.1 ys]) (roomH L last) (roomH L' last) (c + 6) rfl fok8 (by simp -dsimp -implicitDefEqProofs only [↓j25, ↓j29, j157, j158, ↓reduceIte, Nat.reduceEqDiff]) (notup3 (fun vs h => by cases h) (fun vs h => by cases h) fun vs h => by cases h) hnt (SubH.of (by simp -dsimp -implicitDefEqProofs only [↓j27, reduceCtorEq, ↓reduceIte, Nat.reduceEqDiff, j166, j188, j189])) ⟨by simp, put_same⟩ ?_
      simp -dsimp -implicitDefEqProofs only [↓j0, ↓j1, ↓j7, ↓j12, ↓j15, j17, j18, j20, j21, j22, j23, ↓j25, ↓j27, ↓j29, ↓j38, ↓j43, ↓j45, ↓j53, ↓j58, ↓j59, ↓j63, ↓j66, j73, j119, j125, ↓j129, ↓j130, ↓j137, AV.proj, AV.offOf, AV.size, AV.sizeL, j147, j148, j150, j151, j154, j155, j157, j158, reduceCtorEq, ↓reduceIte, Nat.reduceAdd, Nat.reduceEqDiff, j166, j180, j181, j205, j231, j232, j316, hmn]
      refine CallTo.gen (args := [.ptr 1 0 [], .int .i64 mn]) (roomH L' last) (roomH L' fl) (c + 6) rfl fok11' (by simp -dsimp -implicitDefEqProofs only [↓j25, ↓j29, j157, j158, ↓reduceIte, Nat.reduceEqDiff]) (notup (fun vs h => by cases h) fun vs h => by cases h) hfd' (SubH.of (by simp -dsimp -implicitDefEqProofs only [↓j27, reduceCtorEq, ↓reduceIte, j166, j188, j189])) ⟨by simp, put_same⟩ ?_
      simp -dsimp -implicitDefEqProofs only [↓j0, ↓j1, ↓j2, ↓j7, ↓j12, ↓j15, j17, j18, j20, j21, j22, j23, ↓j25, ↓j29, ↓j30, j32, j33, ↓j38, ↓j39, ↓j40, ↓j48, ↓j53, ↓j57, j70, j72, ↓j76, ↓j129, ↓j130, ↓j131, ↓j134, j141, j147, j148, j154, j155, j157, j158, j159, reduceCtorEq, ↓reduceIte, Nat.reduceEqDiff, j169, Int.reduceBEq]
      refine CallTo.gen (args := [.ptr 1 0 []]) (roomH L' fl) (roomH L' fl) (c + 6) rfl fok17 (by simp -dsimp -implicitDefEqProofs only [↓j25, ↓j29, j157, j158, ↓reduceIte]) (notup1 fun vs h => by cases h) hlf (SubH.of (by simp -dsimp -implicitDefEqProofs only [↓j27, reduceCtorEq, ↓reduceIte, j166, j188, j189])) ⟨by simp, put_same⟩ ?_
      simp -dsimp -implicitDefEqProofs only [↓j1, ↓j2, j17, j18, j20, j21, j22, j23, ↓j25, ↓j29, ↓j30, j32, j33, ↓j38, ↓j40, ↓j48, ↓j53, ↓j58, j70, ↓j76, j126, ↓j129, ↓j130, ↓j131, ↓j134, j139, j141, j147, j148, j154, j155, j157, j158, j159, reduceCtorEq, ↓reduceIte, Nat.reduceEqDiff, j169, j391, hlq, hqq]
      refine CallTo.pure (args := []) rfl fok7 rfl nil0 awake_spec ?_
      simp -dsimp -implicitDefEqProofs only [↓j0, ↓j1, ↓j10, j17, j18, j20, ↓j25, ↓j29, ↓j30, j32, ↓j39, ↓j40, j70, ↓j129, j155, ↓reduceIte, Nat.reduceEqDiff]
      exact ret _ _ _ rfl
  · obtain ⟨no, p, hfe, hp, hfp, hnoL⟩ := find_ok (by omega) hok
    rw [hfe]
    have hgp := hg p (List.mem_of_getElem? hp)
    have hpg := page_spec L no (no : Int) hs
    have hpa : pageP L (no : Int) = p := by
      rw [pageP, hasP_iff.2 ⟨by omega, by omega⟩, Int.toNat_natCast, hp]; rfl
    rw [hpa] at hpg
    have hpl := may_len hgp.1
    have hu : Unif 1 (List.replicate m (AV.int .u8 0)) := fun x hx => by rw [List.eq_of_mem_replicate hx]; rfl
    have hbz : bytesOf (List.take m (List.replicate m (AV.int .u8 0))) = some (List.replicate m 0) := by rw [List.take_of_length_le (by simp), bytesOf_zeros]
    simp -dsimp -implicitDefEqProofs only [↓j0, ↓j1, ↓j4, ↓j7, ↓j8, ↓j9, ↓j12, ↓j13, ↓j15, j17, j18, j20, j21, j22, j23, j24, ↓j25, ↓j29, ↓j38, ↓j39, ↓j53, ↓j55, ↓j57, j71, j72, ↓j129, ↓j132, ↓j133, j147, j148, j154, j155, j156, j157, j158, reduceCtorEq, ↓reduceIte, Nat.reduceEqDiff, j177]
    refine CallTo.gen (args := [.ptr 1 0 [], .int .i64 no]) (roomH L no) (roomH L no) (c + 2) rfl fok14 (by simp -dsimp -implicitDefEqProofs only [↓j25, ↓j29, j157, j158, ↓reduceIte, Nat.reduceEqDiff]) (notup (fun vs h => by cases h) fun vs h => by cases h) hpg (SubH.of (by simp -dsimp -implicitDefEqProofs only [↓j27, reduceCtorEq, ↓reduceIte, j166, j188, j189])) ⟨by simp, put_same⟩ ?_
    obtain ⟨o, hoav, holive, hosz⟩ : ∃ o : Old, AV.agg [AV.bool true, AV.int .u16 0, AV.int .u32 (IntKind.u32.wrap i), AV.agg [AV.int .u16 0, AV.int .u8 0], AV.str ⟨(List.replicate m (0 : UInt8)).toArray⟩] = o.av ∧ o.live = true ∧ o.delta.size = m :=
      ⟨⟨true, 0, IntKind.u32.wrap i, 0, 0, ⟨(List.replicate m 0).toArray⟩⟩, rfl, rfl, by simp [ByteArray.size]⟩
    simp -dsimp -implicitDefEqProofs only [↓j4, j17, j18, j20, j21, j22, j23, j24, ↓j25, ↓j29, ↓j38, ↓j50, ↓j62, j75, ↓j129, j154, j155, j156, j157, j158, reduceCtorEq, ↓reduceIte, Nat.reduceEqDiff, j168, j192, ↓j209, j216, j290, j375, j378]
    refine ⟨⟨by omega, by omega⟩, ?_⟩
    have hadd := add_spec p.1 p.2 o (by omega)
    have hz := add_fits (lsn := p.1) hgp.1 holive (by omega) (by rw [hosz]; exact hfp)
    obtain ⟨hae, ham, hal⟩ := full_ok hgp.2 hz
    rw [hae] at hadd
    obtain ⟨zs, hzs⟩ : ∃ zs, p.2 ++ [o] = zs := ⟨_, rfl⟩
    rw [hzs] at hadd ham hal
    have hzl := may_len ham
    have hnt := note_spec L no (no : Int) p.1 zs (by omega)
    have hne : noteP L (no : Int) (p.1, zs) = L.set no (p.1, zs) := by
      rw [noteP, hasP_iff.2 ⟨by omega, by omega⟩, Int.toNat_natCast]; rfl
    rw [hne] at hnt
    have hls := liveAll_set (p.1, zs) hp
    have hls : liveAll (L.set no (p.1, zs)) + liveN p.2 = liveAll L + liveN zs := hls
    have hlz : liveN zs = liveN p.2 + 1 := by rw [← hzs]; exact liveN_append p.2 o holive
    have hg' : Good (L.set no (p.1, zs)) := hg.set ⟨ham, hal⟩
    have hLl : (L.set no (p.1, zs)).length = L.length := List.length_set
    obtain ⟨L', hL'⟩ : ∃ L', L.set no (p.1, zs) = L' := ⟨_, rfl⟩
    rw [hL'] at hnt hls hg' hLl
    have hlf := lives_spec L' no (hg'.small (by omega))
    have hll' := hg'.live
    have hw1 : IntKind.i64.wrap ((i : Int) + 1) = ((i + 1 : Nat) : Int) := by rw [wrap_i64 (by omega) (by omega)]; omega
    have hne2 : (((liveAll L' : Nat) : Int) != ((i + 1 : Nat) : Int)) = false := by
      have : liveAll L' = i + 1 := by omega
      rw [this]; simp
    simp -dsimp -implicitDefEqProofs only [↓j4, j17, j18, j20, j24, ↓j25, ↓j27, ↓j29, ↓j30, j32, ↓j50, ↓j53, ↓j54, ↓j93, j94, ↓j108, ↓j111, j112, j113, j114, j115, ↓j129, ↓j130, ↓j137, partsAV, AV.proj, AV.offOf, AV.size, AV.sizeL, AV.layable, j147, j148, j150, j151, j152, j153, j154, j155, j156, j157, j158, j163, j164, ↓reduceIte, Nat.reduceAdd, Nat.reduceEqDiff, j166, j167, j180, j181, j191, j197, j198, j199, j200, j201, j207, j208, j211, j218, j232, j305, j311, j317, j324, j373, hu, hbz, List.length_replicate, hoav]
    refine CallTo.pure (args := [undoAV p.1 p.2, o.av]) rfl fok21 (by simp -dsimp -implicitDefEqProofs only [↓j25, ↓j29, j157, j158, ↓reduceIte, Nat.reduceEqDiff]) (fun x hx => (argsO x hx).2) hadd ?_
    simp -dsimp -implicitDefEqProofs only [↓j3, ↓j4, j17, j18, j19, j20, j21, j22, j23, j24, ↓j25, ↓j27, ↓j29, ↓j38, ↓j39, ↓j41, ↓j44, ↓j57, ↓j65, j72, ↓j129, ↓j130, ↓j137, AV.proj, AV.offOf, AV.upd, AV.size, AV.sizeL, AV.layable, j147, j148, j154, j155, j156, j157, j158, reduceCtorEq, ↓reduceIte, Nat.reduceAdd, Nat.reduceEqDiff, j166, j181, j204, j208, j262, j347]
    refine ⟨confOk_shift 2 c [([],[]),([],[]),([],[1,0,1,0]),([],[]),([],[]),([],[]),([],[2]),([2],[]),([],[]),([],[]),([],[]),([],[]),([],[]),([],[]),([],[3]),([],[3,3]),([],[]),([],[])] rfl (by kernel_rfl), ?_⟩
    have n0 : ((0 : Int) != 0) = false := rfl
    simp -dsimp -implicitDefEqProofs only [↓j0, ↓j1, ↓j7, ↓j9, ↓j12, ↓j13, ↓j15, j17, j18, j20, ↓j25, ↓j27, ↓j29, ↓j30, j33, ↓j38, ↓j43, ↓j48, ↓j53, ↓j63, ↓j76, j116, ↓j129, ↓j130, ↓j132, ↓j133, ↓j137, j142, AV.proj, AV.offOf, AV.size, AV.sizeL, j155, ↓reduceIte, Nat.reduceAdd, Nat.reduceEqDiff, j166, j169, j181, j262, j263, n0]
    refine CallTo.gen (args := [.ptr 1 0 [], .int .i64 no, undoAV p.1 zs]) (roomH L no) (roomH L' no) (c + 4) rfl fok8 (by simp -dsimp -implicitDefEqProofs only [↓j25, ↓j29, j157, j158, ↓reduceIte, Nat.reduceEqDiff]) (notup3 (fun vs h => by cases h) (fun vs h => by cases h) fun vs h => by cases h) hnt (SubH.of (by simp -dsimp -implicitDefEqProofs only [↓j27, reduceCtorEq, ↓reduceIte, Nat.reduceEqDiff, j166, j188, j189])) ⟨by simp, put_same⟩ ?_
    simp -dsimp -implicitDefEqProofs only [↓j0, ↓j1, ↓j7, ↓j12, ↓j15, j17, j18, j20, j21, j22, j23, ↓j25, ↓j29, ↓j38, ↓j53, ↓j129, j154, j155, j157, j158, reduceCtorEq, ↓reduceIte, Nat.reduceEqDiff]
    refine CallTo.gen (args := [.ptr 1 0 []]) (roomH L' no) (roomH L' no) (c + 4) rfl fok17 (by simp -dsimp -implicitDefEqProofs only [↓j25, ↓j29, j157, j158, ↓reduceIte]) (notup1 fun vs h => by cases h) hlf (SubH.of (by simp -dsimp -implicitDefEqProofs only [↓j27, reduceCtorEq, ↓reduceIte, j166, j188, j189])) ⟨by simp, put_same⟩ ?_
    simp -dsimp -implicitDefEqProofs only [↓j0, ↓j1, ↓j7, ↓j9, ↓j13, ↓j15, j17, j18, j20, j21, j22, j23, ↓j25, ↓j29, ↓j30, j33, ↓j38, ↓j39, ↓j48, ↓j76, ↓j129, ↓j130, ↓j132, ↓j133, j138, j142, j154, j155, j157, j158, reduceCtorEq, ↓reduceIte, Nat.reduceEqDiff, j169, hw1, hne2]
    exact ⟨j - 1, flSt n out bs k L' no (i + 1) (c + 2), by omega, ⟨L', no, i + 1, c + 2, by omega, by omega, by omega, hg', by omega, rfl⟩, Wk.sub (by simp -dsimp -implicitDefEqProofs only [↓j25, ↓j27, reduceCtorEq, ↓reduceIte, Nat.reduceAdd, Nat.reduceEqDiff, j166, j186, j187, j188, j189, j207, j208] <;> simp)⟩
end Go.Proofs.Ytlagoaggllhggaa
