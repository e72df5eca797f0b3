/- Blocks are gathered: Seen, Sure, Read. -/
import Derived.Test.YthfaldoagmkllaaD3
set_option linter.unusedVariables false
set_option linter.unusedSimpArgs false
namespace Go.Proofs.Ythfaldoagmkllaa
open Go Go.RowKit

def secOf (l : List Wr) (k : Pl) : List UInt8 := (aGet l k).getD (zb 64)
theorem secOf_len {n : Nat} {l : List Wr} (hl : ∀ w, w ∈ l → wrOk n w) (k : Pl) : (secOf l k).length = 64 := by
  unfold secOf
  cases h : aGet l k with
  | none => exact zb_len 64
  | some v => exact (hl _ (aGet_mem h)).2.2
def gatN (l : List Wr) (b : Nat) : Nat → List UInt8
  | 0 => zb 256
  | i + 1 => layL (gatN l b i) i (secOf l (b, i))
abbrev gatherP (l : List Wr) (b : Nat) : List UInt8 := gatN l b 4
theorem gatN_len {n : Nat} {l : List Wr} (hl : ∀ w, w ∈ l → wrOk n w) (b : Nat) : ∀ i, i ≤ 4 → (gatN l b i).length = 256
  | 0, _ => zb_len 256
  | i + 1, h => layL_len (gatN_len hl b i (by omega)) (secOf_len hl _) (by omega)
theorem fok43 : fnOk Try.prog 43 = true := by kernel_rfl
theorem z69 : Z 83 = some (arrAV (zb 64)) := Z83
def gaSt (l : List Wr) (b i : Nat) : St := ⟨20, [(7, .int .i64 i), (4, .ptr 1 0 []), (5, .ptr 2 0 []), (0, .mapv 0), (1, .int .i64 b)], [(2, .cells (arrAV (gatN l b i))), (1, .cells (arrAV (zb 256))), (0, mapB l)], 3⟩
theorem gather_spec (l : List Wr) (b n : Nat) (hn : n ≤ 2048) (hb : b < n) (hl : ∀ w, w ∈ l → wrOk n w) (hd : (l.map (·.1)).Nodup) : ACall Try.prog 43 [.mapv 0, .int .i64 b] [(0, mapB l)] (arrAV (gatherP l b)) [(0, mapB l)] := by
  refine ACall.runH (Z := Z) (N := 20) mixed hZ Try.func43 rfl rfl (by kernel_rfl) (by simp) (fun x hx => ?_) (fun n b h => ?_) 1 (fun n h => by simp at h; omega) ?_
  · simp only [List.mem_cons, List.not_mem_nil, or_false] at hx
    rcases hx with rfl | rfl
    · exact ⟨by show (0 : Nat) ∈ _; simp, fun vs h => by cases h⟩
    · exact ⟨trivial, fun vs h => by cases h⟩
  · simp only [Heap.get] at h
    split at h
    · cases h; exact on_mapW _ _
    · cases h
  have hz := zb_len 256
  simp -dsimp -implicitDefEqProofs only [↓j0, ↓j1, ↓j7, ↓j12, ↓j14, ↓j15, ↓j16, j17, j18, j20, ↓j30, j33, ↓j38, ↓j41, ↓j145, argEnv, j170, j171, Nat.reduceAdd, j196, j414]
  refine AWp.loopR (Z := Z) mixed hZ (by kernel_rfl) (fun k s => ∃ i, i + k = 4 ∧ s = gaSt l b i) (n0 := 4) (s0 := gaSt l b 0) ?_ ⟨0, by omega, rfl⟩ ?_ rfl
  · exact Wk.sub (by simp -dsimp -implicitDefEqProofs only [↓j25, ↓j27, j179, reduceCtorEq, ↓reduceIte, Nat.reduceEqDiff, j182, j183, j184, j202, j203, j204, j205, j209, j223, gatN] <;> simp)
  rintro k s ⟨i, hi, rfl⟩
  refine ⟨rfl, ?_⟩
  have hgl := gatN_len hl b i (by omega)
  rcases Nat.lt_or_ge i 4 with hlt | hge
  · have hd4 : decide ((i : Int) < 4) = true := decide_eq_true (by omega)
    have hsl := secOf_len hl (b, i)
    have hpl : plOk (b, i) := ⟨by show b < _; omega, by show i < _; omega⟩
    have hw2 : IntKind.i64.wrap ((i : Int) + 1) = ((i + 1 : Nat) : Int) := by rw [wrap_i64 (by omega) (by omega)]; omega
    have hgn := gatN_len hl b (i + 1) (by omega)
    have hlay := lay_spec (gatN l b i) (secOf l (b, i)) i hgl hsl hlt
    have hgs : layL (gatN l b i) i (secOf l (b, i)) = gatN l b (i + 1) := rfl
    rw [hgs] at hlay
    simp -dsimp -implicitDefEqProofs only [↓j0, ↓j1, ↓j4, ↓j7, ↓j8, ↓j9, ↓j12, ↓j13, ↓j14, ↓j15, j17, j18, j20, j24, ↓j25, ↓j27, ↓j29, ↓j30, j33, ↓j38, ↓j39, ↓j43, ↓j48, ↓j54, ↓j64, ↓j76, ↓j89, ↓j124, j125, j126, j127, j128, j129, ↓j145, ↓j146, ↓j147, ↓j149, ↓j153, j159, partsAV, AV.proj, AV.offOf, AV.size, AV.sizeL, AV.layable, j163, j164, j166, j167, j168, j169, j170, j171, j172, j174, j179, j180, reduceCtorEq, ↓reduceIte, Nat.reduceEqDiff, j182, j183, j185, j197, j213, j214, j215, j216, j217, j240, j309, j310, j385, j386, j453, gaSt, hd4, hgl]
    refine DoLookup_own (k := plAV (b, i)) (es := mapE plAV arrAV l) Try.underlying74 rfl z69 keyed67 (isKey67 hpl) (goodW hn hl hd) (v := arrAV (secOf l (b, i))) ?_ rfl ?_
    · rw [mval_map keyInj67 hpl (fun e he => wrOk_pl hn (hl e he))]
      unfold secOf
      cases aGet l (b, i) <;> rfl
    simp -dsimp -implicitDefEqProofs only [↓j4, j17, j18, j20, j24, ↓j53, j171, j172, j174, ↓reduceIte, j195]
    refine CallTo.pure (args := [arrAV (gatN l b i), .int .i64 i, arrAV (secOf l (b, i))]) rfl fok46 (by simp -dsimp -implicitDefEqProofs only [↓j25, ↓j29, j173, j174, ↓reduceIte, Nat.reduceEqDiff]) (fun x hx => (args_aia x hx).2) hlay ?_
    simp -dsimp -implicitDefEqProofs only [↓j3, ↓j4, j17, j18, j19, j20, j21, j22, j23, j24, ↓j25, ↓j27, ↓j29, ↓j44, ↓j78, ↓j145, ↓j146, ↓j153, AV.proj, AV.offOf, AV.upd, AV.size, AV.layable, j170, j171, j172, j173, j174, reduceCtorEq, ↓reduceIte, Nat.reduceEqDiff, j182, j240, j309, hgl, hgn]
    refine ⟨by kernel_rfl, ?_⟩
    simp -dsimp -implicitDefEqProofs only [↓j0, ↓j1, ↓j7, ↓j15, j17, j18, j20, ↓j25, ↓j29, ↓j30, j33, ↓j38, ↓j48, ↓j89, ↓j145, ↓j146, j154, j171, ↓reduceIte, Nat.reduceEqDiff, j185]
    exact ⟨k - 1, gaSt l b (i + 1), by omega, ⟨i + 1, by omega, rfl⟩, Wk.sub (by simp -dsimp -implicitDefEqProofs only [↓j25, ↓j27, reduceCtorEq, ↓reduceIte, Nat.reduceEqDiff, j182, j202, j203, j204, j205, j223, hw2] <;> simp)⟩
  · have hi4 : i = 4 := by omega
    subst hi4
    have hd4 : decide (((4 : Nat) : Int) < 4) = false := rfl
    simp -dsimp -implicitDefEqProofs only [↓j0, ↓j1, ↓j7, ↓j10, ↓j11, ↓j12, ↓j13, ↓j15, j17, j18, j19, j20, j21, j22, j23, ↓j25, ↓j27, ↓j29, ↓j30, j33, ↓j43, ↓j44, ↓j48, ↓j76, ↓j78, ↓j89, j129, ↓j145, ↓j146, ↓j148, ↓j149, ↓j153, j159, AV.proj, AV.offOf, AV.upd, AV.size, AV.layable, j170, j171, reduceCtorEq, ↓reduceIte, Nat.reduceEqDiff, j182, j185, j240, j309, j310, gaSt, hd4, hgl, hz]
    refine Final.oneH (.inr rfl) (r := .cell 4 29) rfl ⟨1, 0, [], _, rfl, rfl, rfl, rfl, by simp -dsimp -implicitDefEqProofs only [j129, j182, j240, j309, j310, hgl]⟩ (fun vs h => by cases h) (fun vs h => by cases h) (.same _ (on_bytes _ _)) (fun n b h => ?_)
    simp only [Heap.get] at h
    by_cases h0 : n = 0
    · subst h0; simp at h; subst h
      exact ⟨_, rfl, rfl, on_mapW _ _⟩
    · simp [h0] at h

theorem rel_nodup {d : DS} (hd : d.Ok) : True := trivial
/-- Of the disk's memory one map is lent. -/
theorem sub_sure {d : DS} {s q m : Nat} : SubH [(1, mapB d.sure)] (diskH d s q m) := ⟨rfl, trivial⟩
theorem gather_sure (d : DS) (hd : d.Ok) (b : Nat) (hb : b < d.n) : ACall Try.prog 43 [.mapv 1, .int .i64 b] [(1, mapB d.sure)] (arrAV (gatherP d.sure b)) [(1, mapB d.sure)] := by
  have h := ACall.perm [1] (by simp) (gather_spec d.sure b d.n hd.n2 hb hd.sure hd.sureN)
  have e1 : (arrAV (gatherP d.sure b)).ren (permN [1]) = arrAV (gatherP d.sure b) := AV.ren_of_on (on_bytes _ _)
  have e2 : Heap.ren (permN [1]) [(0, mapB d.sure)] = [(1, mapB d.sure)] := by
    simp only [Heap.ren, List.map_cons, List.map_nil, ABlk.ren, permN, List.getElem?_cons_zero]
    congr 3
    rw [List.map_map]
    apply List.map_congr_left
    intro x _
    simp only [Function.comp]
    rw [AV.ren_of_on (v := plAV x.1) ⟨trivial, trivial, trivial⟩, AV.ren_of_on (v := arrAV x.2) (on_bytes _ _)]
  rw [e1, e2] at h
  exact h
theorem gather_seen (d : DS) (hd : d.Ok) (b : Nat) (hb : b < d.n) : ACall Try.prog 43 [.mapv 2, .int .i64 b] [(2, mapB d.seen)] (arrAV (gatherP d.seen b)) [(2, mapB d.seen)] := by
  have h := ACall.perm [2] (by simp) (gather_spec d.seen b d.n hd.n2 hb hd.seen hd.seenN)
  have e1 : (arrAV (gatherP d.seen b)).ren (permN [2]) = arrAV (gatherP d.seen b) := AV.ren_of_on (on_bytes _ _)
  have e2 : Heap.ren (permN [2]) [(0, mapB d.seen)] = [(2, mapB d.seen)] := by
    simp only [Heap.ren, List.map_cons, List.map_nil, ABlk.ren, permN, List.getElem?_cons_zero]
    congr 3
    rw [List.map_map]
    apply List.map_congr_left
    intro x _
    simp only [Function.comp]
    rw [AV.ren_of_on (v := plAV x.1) ⟨trivial, trivial, trivial⟩, AV.ren_of_on (v := arrAV x.2) (on_bytes _ _)]
  rw [e1, e2] at h
  exact h

def DS.readL (d : DS) (l : List Wr) (b : Int) : List UInt8 := if b < 0 ∨ (d.n : Int) ≤ b then zb 256 else gatherP l b.toNat
theorem app_disk {n nx mm s q m : Nat} {t : Env} {X put : Heap} {d : DS} {dst : Option Tmp} {v : AV} {rd : List Nat} (hX : ∀ k, k ∈ X.map (·.1) → k ∉ (diskH d s q m).map (·.1)) :
    St.app ⟨n, t, X ++ diskH d s q m, mm⟩ dst ⟨v, rd, (diskH d s q m).map (·.1), put⟩ nx = ⟨n, Env.put t dst v, put ++ X, nx⟩ := by
  have h1 : ∀ (l : List Nat) (Y : Heap), (∀ k, k ∈ Y.map (·.1) → k ∈ l) → Heap.dels Y l = [] := by
    intro l
    induction l with
    | nil =>
      intro Y h
      cases Y with
      | nil => rfl
      | cons x r => have := h x.1 (by simp); simp at this
    | cons a l ih =>
      intro Y h
      simp only [Heap.dels]
      refine ih _ fun k hk => ?_
      have hne : k ≠ a ∧ k ∈ Y.map (·.1) := by
        clear h ih
        induction Y with
        | nil => simp [Heap.del] at hk
        | cons x r ih =>
          obtain ⟨c, b⟩ := x
          simp only [Heap.del] at hk
          by_cases ha : a = c
          · rw [if_pos ha] at hk
            have := ih hk
            exact ⟨this.1, by simp [this.2]⟩
          · rw [if_neg ha] at hk
            simp only [List.map_cons, List.mem_cons] at hk
            rcases hk with rfl | hk
            · exact ⟨Ne.symm ha, by simp⟩
            · have := ih hk
              exact ⟨this.1, by simp [this.2]⟩
      have := h k hne.2
      simp only [List.mem_cons] at this
      exact this.resolve_left hne.1
  have h2 : ∀ (l : List Nat) (Y W : Heap), (∀ k, k ∈ Y.map (·.1) → k ∉ l) → Heap.dels (Y ++ W) l = Y ++ Heap.dels W l := by
    intro l
    induction l with
    | nil => intro Y W _; rfl
    | cons a l ih =>
      intro Y W h
      have hY : Heap.del Y a = Y := by
        have : ∀ Z : Heap, (∀ k, k ∈ Z.map (·.1) → k ≠ a) → Heap.del Z a = Z := by
          intro Z
          induction Z with
          | nil => intro _; rfl
          | cons x r ih =>
            obtain ⟨c, b⟩ := x
            intro hz
            simp only [Heap.del]
            rw [if_neg (Ne.symm (hz c (by simp))), ih fun k hk => hz k (by simp [hk])]
        exact this Y fun k hk hka => h k hk (by simp [hka])
      simp only [Heap.dels, del_app, hY]
      exact ih Y _ fun k hk hl => h k hk (by simp [hl])
  simp only [St.app, h2 _ X _ hX, h1 _ _ fun k hk => hk, List.append_nil]

theorem app_disk1 {n nx mm s q m k : Nat} {c : ABlk} {t : Env} {put : Heap} {d : DS} {dst : Option Tmp} {v : AV} {rd : List Nat} (hk : k ∉ (diskH d s q m).map (·.1)) :
    St.app ⟨n, t, (k, c) :: diskH d s q m, mm⟩ dst ⟨v, rd, (diskH d s q m).map (·.1), put⟩ nx = ⟨n, Env.put t dst v, put ++ [(k, c)], nx⟩ :=
  app_disk (X := [(k, c)]) fun j hj h => by simp at hj; subst hj; exact hk h
theorem app_disk0 {n nx mm s q m : Nat} {t : Env} {put : Heap} {d : DS} {dst : Option Tmp} {v : AV} {rd : List Nat} :
    St.app ⟨n, t, diskH d s q m, mm⟩ dst ⟨v, rd, (diskH d s q m).map (·.1), put⟩ nx = ⟨n, Env.put t dst v, put, nx⟩ := by
  have := app_disk (n := n) (nx := nx) (mm := mm) (t := t) (X := []) (put := put) (d := d) (s := s) (q := q) (m := m) (dst := dst) (v := v) (rd := rd) fun j hj => by simp at hj
  simpa using this

def DS.readP (d : DS) (b : Int) : List UInt8 × Nat × DS :=
  if d.down then (zb 256, 4, d) else if b < 0 ∨ (d.n : Int) ≤ b then (zb 256, 1, d) else if d.opP.1 ≠ 0 then (zb 256, d.opP.1, d.opP.2) else (gatherP d.seen b.toNat, 0, d.opP.2)
theorem opP_same (d : DS) : d.opP.2.n = d.n ∧ d.opP.2.sure = d.sure ∧ d.opP.2.seen = d.seen ∧ d.opP.2.pend = d.pend ∧ d.opP.2.fails = d.fails ∧ d.opP.2.fuse = d.fuse ∧ d.opP.2.ops = d.ops + 1 := by
  unfold DS.opP
  split
  · exact ⟨rfl, rfl, rfl, rfl, rfl, rfl, rfl⟩
  · split <;> exact ⟨rfl, rfl, rfl, rfl, rfl, rfl, rfl⟩
theorem opP_lt (d : DS) : d.opP.1 = 0 ∨ d.opP.1 = 3 ∨ d.opP.1 = 4 := by
  unfold DS.opP
  split
  · exact .inr (.inr rfl)
  · split
    · exact .inr (.inl rfl)
    · exact .inl rfl
abbrev readAV (r : List UInt8 × Nat × DS) : AV := .tuple [arrAV r.1, .int .i64 (r.2.1 : Nat)]
theorem put_sameD {d d' : DS} {a b : Nat} (h : d'.fails ≠ none → d.fails ≠ none) (h' : d'.pend ≠ [] → d.pend ≠ []) : ∀ n x, Heap.get (diskH0 d') n = some x → n ∉ (diskH0 d).map (·.1) → a ≤ n ∧ n < b := by
  intro n x hx hn
  refine absurd (names_disk.2 ?_) hn
  rcases get_disk hx with ⟨rfl, _⟩ | ⟨rfl, _⟩ | ⟨rfl, _⟩ | ⟨rfl, f, hf, _⟩ | ⟨rfl, hp, _⟩
  · exact .inl rfl
  · exact .inr (.inl rfl)
  · exact .inr (.inr (.inl rfl))
  · exact .inr (.inr (.inr (.inl ⟨rfl, h (by rw [hf]; simp)⟩)))
  · exact .inr (.inr (.inr (.inr ⟨rfl, h' hp⟩)))
theorem read_spec (d : DS) (hd : d.Ok) (ho : d.ops < 1000000) (b : Int) : ACall Try.prog 35 [.ptr 0 0 [], .int .i64 b] (diskH0 d) (readAV (d.readP b)) (diskH0 (d.readP b).2.2) := by
  refine ACall.runH (Z := Z) (N := 39) mixed hZ Try.func35 rfl rfl (by kernel_rfl) (by simp) (disk_args args_i) (disk_on fun _ h => h) 5 disk_lt ?_
  have hz := zb_len 256
  have d5 : ∀ e : DS, Heap.del (pendB e.pend 4) 5 = pendB e.pend 4 := fun e => del_pendB (by omega)
  have f5 : ∀ e : DS, Heap.del (failB e.fails 3) 5 = failB e.fails 3 := fun e => del_failB (by omega)
  have d2 : ∀ e : DS, Heap.del (pendB e.pend 4) 2 = pendB e.pend 4 := fun e => del_pendB (by omega)
  have f2 : ∀ e : DS, Heap.del (failB e.fails 3) 2 = failB e.fails 3 := fun e => del_failB (by omega)
  have fin : ∀ (x : List UInt8) (c : Nat) (e : DS) (t : Env) (H : Heap) (m : Nat), (x, c, e) = d.readP b → x.length = 256 → look t 4 = some (.ptr 5 0 []) → look t 5 = some (.int .i64 (c : Nat)) → Heap.get H 5 = some (.cells (arrAV x)) → Heap.get H 0 = some (dskC e 2 3 4) → Heap.get H 1 = some (mapB e.sure) → Heap.get H 2 = some (mapB e.seen) → (∀ n, n = 3 ∨ n = 4 → Heap.get H n = Heap.get (failB e.fails 3 ++ pendB e.pend 4) n) →
      Final Try.prog Try.f35 (readAV (d.readP b)) (diskH0 (d.readP b).2.2) .ret ⟨39, t, H, m⟩ := by
    intro x c e t H m hx hl h4 h5 h55 h0 h1 h2 hr
    rw [← hx]
    exact Final.manyH (.inr rfl) (rs := [.cell 4 29, .tmp 5]) (us := [arrAV x, .int .i64 (c : Nat)]) rfl ⟨⟨5, 0, [], _, h4, h55, rfl, rfl, by simp -dsimp -implicitDefEqProofs only [j129, j182, j240, j309, j310, hl]⟩, ⟨h5, fun vs h => by cases h⟩, trivial⟩ (by simp) ⟨.same _ (on_bytes _ _), .same _ trivial, trivial⟩
      (disk_keep h0 h1 h2 (fun f hf => by rw [hr 3 (.inl rfl), hf, get_append]; rfl) (fun hp => by rw [hr 4 (.inr rfl), get_append, get_failB (by omega), pendB_eq hp]; rfl))
  simp -dsimp -implicitDefEqProofs only [↓j0, ↓j1, ↓j2, ↓j7, ↓j12, ↓j13, ↓j15, j17, j18, j20, ↓j25, ↓j27, ↓j29, ↓j30, j32, j33, j35, ↓j38, ↓j39, ↓j40, ↓j41, ↓j43, ↓j45, ↓j48, ↓j56, ↓j76, ↓j79, j83, j131, ↓j145, ↓j146, ↓j148, ↓j149, ↓j151, ↓j153, AV.proj, AV.offOf, AV.size, AV.sizeL, argEnv, j163, j164, j166, j167, j170, j171, j175, reduceCtorEq, ↓reduceIte, Nat.reduceAdd, Nat.reduceEqDiff, j182, j195, j196, j197, j211, ↓j235, j253, j319, j381, j414, size_pendV, size_failV]
  refine ⟨fun h1 => ?_, fun h1 => ?_⟩
  · simp -dsimp -implicitDefEqProofs only [↓j0, ↓j1, ↓j7, ↓j10, ↓j12, ↓j15, j17, j18, j19, j20, j21, j23, ↓j25, ↓j27, ↓j29, ↓j30, j33, ↓j39, ↓j44, ↓j54, ↓j78, ↓j124, j125, j127, ↓j145, ↓j146, ↓j153, partsAV, AV.proj, AV.offOf, AV.upd, AV.size, AV.layable, j170, j171, reduceCtorEq, ↓reduceIte, Nat.reduceEqDiff, j182, j214, j218, j219, j240, j309, j434, hz, h1, del_app, d5, f5]
    refine fin (zb 256) 4 d _ _ _ ?_ hz rfl rfl rfl rfl rfl rfl (fun n h => ?_)
    · rw [DS.readP, if_pos h1]
    · rcases h with rfl | rfl <;> rfl
  simp -dsimp -implicitDefEqProofs only [↓j1, ↓j2, ↓j7, ↓j9, ↓j12, ↓j15, j17, j18, j20, ↓j25, ↓j29, ↓j30, j33, ↓j38, ↓j48, ↓j89, ↓j145, ↓j146, ↓j151, j159, j163, j164, j171, j175, reduceCtorEq, ↓reduceIte, Nat.reduceEqDiff, j185, h1]
  have oob : b < 0 ∨ (d.n : Int) ≤ b → d.readP b = (zb 256, 1, d) := fun h => by rw [DS.readP, if_neg (by simp [h1]), if_pos h]
  refine ⟨fun h2 => ?_, fun h2 => ?_⟩
  · have h2' := of_decide_eq_true h2
    simp -dsimp -implicitDefEqProofs only [↓j0, ↓j1, ↓j2, ↓j7, ↓j10, ↓j12, ↓j13, ↓j15, j17, j18, j19, j20, j21, j23, ↓j25, ↓j27, ↓j29, ↓j30, j32, j33, ↓j39, ↓j40, ↓j44, ↓j54, ↓j78, j81, ↓j124, j125, j127, ↓j145, ↓j146, ↓j147, ↓j149, ↓j151, ↓j153, partsAV, AV.proj, AV.offOf, AV.upd, AV.size, AV.layable, j163, j164, j170, j171, j175, reduceCtorEq, ↓reduceIte, Nat.reduceEqDiff, j182, j214, j218, j219, j240, j309, j434, hz, h2, del_app, d5, f5]
    refine fin (zb 256) 1 d _ _ _ (oob (.inl h2')).symm hz rfl rfl rfl rfl rfl rfl (fun n h => ?_)
    rcases h with rfl | rfl <;> rfl
  have h2' := of_decide_eq_false h2
  simp -dsimp -implicitDefEqProofs only [↓j0, ↓j1, ↓j2, ↓j13, j17, j18, j20, ↓j25, ↓j27, ↓j29, ↓j30, j32, ↓j38, ↓j40, ↓j43, ↓j45, ↓j48, ↓j56, ↓j76, ↓j79, j83, ↓j89, j130, ↓j145, ↓j146, ↓j148, ↓j149, ↓j151, ↓j153, j162, AV.proj, AV.offOf, AV.sizeL, j163, j164, j167, j171, j175, reduceCtorEq, ↓reduceIte, Nat.reduceEqDiff, j182, j185, j195, j197, j250, j360, h2]
  refine ⟨fun h3 => ?_, fun h3 => ?_⟩
  · have h3' := of_decide_eq_true h3
    simp -dsimp -implicitDefEqProofs only [↓j0, ↓j1, ↓j7, ↓j10, ↓j12, ↓j15, j17, j18, j19, j20, j21, j23, ↓j25, ↓j27, ↓j29, ↓j30, j33, ↓j39, ↓j44, ↓j54, ↓j78, ↓j124, j125, j127, ↓j145, ↓j146, ↓j153, partsAV, AV.proj, AV.offOf, AV.upd, AV.size, AV.layable, j170, j171, reduceCtorEq, ↓reduceIte, Nat.reduceEqDiff, j182, j214, j218, j219, j240, j309, j434, hz, h3, del_app, d5, f5]
    refine fin (zb 256) 1 d _ _ _ (oob (.inr h3')).symm hz rfl rfl rfl rfl rfl rfl (fun n h => ?_)
    rcases h with rfl | rfl <;> rfl
  have h3' := of_decide_eq_false h3
  obtain ⟨c, rfl⟩ : ∃ c : Nat, b = c := ⟨b.toNat, by omega⟩
  have hc : c < d.n := by omega
  obtain ⟨q1, q2, q3, q4, q5, q6, q7⟩ := opP_same d
  have hok := opP_ok hd ho
  have hop := op_spec d hd
  have hval : d.readP c = if d.opP.1 ≠ 0 then (zb 256, d.opP.1, d.opP.2) else (gatherP d.seen c, 0, d.opP.2) := by
    rw [DS.readP, if_neg (by simp [h1]), if_neg (by omega), Int.toNat_natCast]
  obtain ⟨e, he⟩ : ∃ e, d.opP.2 = e := ⟨_, rfl⟩
  obtain ⟨k, hk⟩ : ∃ k, d.opP.1 = k := ⟨_, rfl⟩
  rw [he] at hop q1 q2 q3 q4 q5 q6 q7 hval hok
  rw [hk] at hop hval
  simp -dsimp -implicitDefEqProofs only [↓j1, ↓j7, ↓j9, ↓j12, ↓j15, j17, j18, j20, ↓j25, ↓j29, ↓j38, ↓j53, ↓j145, j171, reduceCtorEq, ↓reduceIte, h3]
  refine CallTo.gen (args := [.ptr 0 0 []]) (diskH0 d) (diskH0 e) 6 rfl fok37 (by simp -dsimp -implicitDefEqProofs only [↓j25, ↓j29, j173, j174, ↓reduceIte]) (fun x hx vs h => ?_) hop (fun n b h => ?_) ⟨by simp, put_sameD (by rw [q5]; exact id) (by rw [q4]; exact id)⟩ ?_
  · subst h; simp at hx
  · have h5 : n ≠ 5 := by rintro rfl; have := disk_lt 5 (get_map h); omega
    simp only [Heap.get, h5, if_false]; exact h
  have g5 : ∀ (e : DS) (x : ABlk), Heap.get (failB e.fails 3 ++ pendB e.pend 4 ++ [(5, x)]) 5 = some x := fun e x => by
    rw [get_append, get_append, get_failB (by omega), get_pendB (by omega)]; rfl
  have tl : ∀ n, n = 3 ∨ n = 4 → ∀ X : Heap, (∀ n, n = 3 ∨ n = 4 → Heap.get X n = none) → Heap.get (failB e.fails 3 ++ pendB e.pend 4 ++ X) n = Heap.get (failB e.fails 3 ++ pendB e.pend 4) n := fun n hn X hX => by
    rw [get_append, hX n hn]
    cases Heap.get (failB e.fails 3 ++ pendB e.pend 4) n <;> rfl
  rw [app_disk1 (fun h => by have := disk_lt 5 h; omega)]
  simp -dsimp -implicitDefEqProofs only [↓j0, ↓j1, ↓j7, ↓j12, ↓j13, ↓j15, j17, j18, j20, ↓j25, ↓j29, ↓j30, j33, ↓j38, ↓j39, ↓j48, ↓j89, ↓j145, ↓j146, ↓j149, j158, j170, j171, ↓reduceIte, j185]
  refine ⟨fun h4 => ?_, fun h4 => ?_⟩
  · have h4' : k ≠ 0 := by rintro rfl; simp at h4
    rw [if_pos h4'] at hval
    simp -dsimp -implicitDefEqProofs only [↓j0, ↓j1, ↓j7, ↓j10, ↓j12, ↓j15, j17, j18, j19, j20, j21, j22, j23, ↓j25, ↓j27, ↓j29, ↓j38, ↓j39, ↓j44, ↓j54, ↓j78, ↓j124, j125, j127, ↓j145, ↓j146, ↓j153, partsAV, AV.proj, AV.offOf, AV.upd, AV.size, AV.layable, j170, j171, j172, reduceCtorEq, ↓reduceIte, Nat.reduceEqDiff, j182, j214, j218, j219, j240, j309, j434, hz, h4, del_app, d5, f5, g5]
    refine fin (zb 256) k e _ _ _ hval.symm hz rfl rfl rfl rfl rfl rfl (fun n h => ?_)
    have h5 : n ≠ 5 ∧ n ≠ 0 ∧ n ≠ 1 ∧ n ≠ 2 := by omega
    simp only [Heap.get, h5, if_false]
    try rw [List.append_nil]
  have h4' : k = 0 := by simpa using h4
  subst h4'
  rw [if_neg (by simp)] at hval
  have hgl := gatN_len hok.seen c 4 (by omega)
  have hg := gather_seen e hok c (by omega)
  simp -dsimp -implicitDefEqProofs only [↓j1, ↓j7, ↓j9, ↓j12, ↓j15, j17, j18, j20, ↓j25, ↓j27, ↓j29, ↓j38, ↓j43, ↓j45, ↓j53, ↓j56, ↓j76, ↓j79, j138, ↓j145, ↓j146, ↓j153, AV.proj, AV.offOf, AV.size, AV.sizeL, j163, j164, j166, j167, j171, reduceCtorEq, ↓reduceIte, Nat.reduceAdd, Nat.reduceEqDiff, j182, j196, j197, j350, j366, h4]
  refine CallTo.gen (args := [.mapv 2, .int .i64 c]) [(2, mapB e.seen)] [(2, mapB e.seen)] 6 rfl fok43 (by simp -dsimp -implicitDefEqProofs only [↓j25, ↓j29, j173, j174, ↓reduceIte, Nat.reduceEqDiff]) (fun x hx vs h => ?_) hg (SubH.of ⟨rfl, trivial⟩) ⟨by simp, fun n x h hn => ?_⟩ ?_
  · subst h; simp at hx
  · simp only [Heap.get] at h
    by_cases h2 : n = 2
    · subst h2; simp at hn
    · simp [h2] at h
  simp -dsimp -implicitDefEqProofs only [↓j0, ↓j1, ↓j10, j17, j18, j19, j20, j21, j22, j23, ↓j25, ↓j27, ↓j29, ↓j30, j33, ↓j39, ↓j44, ↓j78, ↓j145, ↓j146, ↓j153, AV.proj, AV.offOf, AV.upd, AV.size, AV.layable, j170, j171, j172, j173, j174, reduceCtorEq, ↓reduceIte, Nat.reduceEqDiff, j182, j240, j309, hz, hgl, del_app, d2, f2, d5, f5, g5]
  rw [← q3] at hval
  refine fin (gatherP e.seen c) 0 e _ _ _ hval.symm hgl rfl rfl rfl rfl rfl rfl (fun n h => ?_)
  have h5 : n ≠ 5 ∧ n ≠ 0 ∧ n ≠ 1 ∧ n ≠ 2 := by omega
  simp only [Heap.get, h5, if_false]
  try rw [List.append_nil]
end Go.Proofs.Ythfaldoagmkllaa
