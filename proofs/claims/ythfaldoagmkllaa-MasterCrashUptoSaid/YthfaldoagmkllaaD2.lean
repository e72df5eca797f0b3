/- A disk's memory; what is told of it; New. -/
import Derived.Test.YthfaldoagmkllaaD1
set_option linter.unusedVariables false
set_option linter.unusedSimpArgs false
namespace Go.Proofs.Ythfaldoagmkllaa
open Go Go.RowKit

abbrev Pl := Nat × Nat
abbrev Wr := Pl × List UInt8
abbrev plAV (k : Pl) : AV := .agg [.int .i64 (k.1 : Nat), .int .i64 (k.2 : Nat)]
abbrev wrAV (w : Wr) : AV := .agg [plAV w.1, arrAV w.2]
abbrev flK (k : Int) : AV := .int .i64 k
abbrev flV (b : Bool) : AV := .bool b
structure DS where
  n : Nat
  sure : List Wr
  seen : List Wr
  pend : List Wr
  fails : Option (List (Int × Bool))
  fuse : Int
  ops : Nat
  down : Bool
def wrOk (n : Nat) (w : Wr) : Prop := w.1.1 < n ∧ w.1.2 < 4 ∧ w.2.length = 64
def flOk (k : Int) : Prop := -9223372036854775808 ≤ k ∧ k ≤ 9223372036854775807
structure DS.Ok (d : DS) : Prop where
  n1 : 1 ≤ d.n
  n2 : d.n ≤ 2048
  sure : ∀ w, w ∈ d.sure → wrOk d.n w
  seen : ∀ w, w ∈ d.seen → wrOk d.n w
  pend : ∀ w, w ∈ d.pend → wrOk d.n w
  sureN : (d.sure.map (·.1)).Nodup
  seenN : (d.seen.map (·.1)).Nodup
  few : d.pend.length ≤ 1000000
  fails : ∀ f, d.fails = some f → (f.map (·.1)).Nodup ∧ ∀ e, e ∈ f → flOk e.1
  ops : d.ops ≤ 1000000

def pendV (p : List Wr) (m : Nat) : AV := match p with
  | [] => .nilsl
  | w :: r => .sl m 0 [] 0 (r.length + 1) (r.length + 1) 66
def pendB (p : List Wr) (m : Nat) : Heap := match p with
  | [] => []
  | w :: r => [(m, .cells (.agg ((w :: r).map wrAV)))]
def failV (f : Option (List (Int × Bool))) (q : Nat) : AV := match f with
  | none => .nilmap
  | some _ => .mapv q
def failB (f : Option (List (Int × Bool))) (q : Nat) : Heap := match f with
  | none => []
  | some l => [(q, .map (mapE flK flV l))]
/-- The names: the disk's 0, of what is sure 1; s: of what is seen; q: of what fails; m: of what is pending. -/
abbrev dskC (d : DS) (s q m : Nat) : ABlk := .cells (.agg [.int .i64 d.n, .mapv 1, .mapv s, pendV d.pend m, failV d.fails q, .int .i64 d.fuse, .int .i64 d.ops, .bool d.down])
abbrev mapB (l : List Wr) : ABlk := .map (mapE plAV arrAV l)
abbrev diskH (d : DS) (s q m : Nat) : Heap := (0, dskC d s q m) :: (1, mapB d.sure) :: (s, mapB d.seen) :: (failB d.fails q ++ pendB d.pend m)
structure Nm (s q m : Nat) : Prop where
  s2 : 2 ≤ s
  q2 : 2 ≤ q
  m2 : 2 ≤ m
  sq : s ≠ q
  sm : s ≠ m
  qm : q ≠ m

theorem size_pendV (p : List Wr) (m : Nat) : (pendV p m).size = 1 := by cases p <;> rfl
theorem size_failV (f : Option (List (Int × Bool))) (q : Nat) : (failV f q).size = 1 := by cases f <;> rfl
theorem lay_pendV (p : List Wr) (m : Nat) : (pendV p m).layable = true := by cases p <;> rfl
theorem lay_failV (f : Option (List (Int × Bool))) (q : Nat) : (failV f q).layable = true := by cases f <;> rfl
theorem load_pendV (p : List Wr) (m : Nat) : LoadOk Try.prog 75 (pendV p m) := by cases p <;> simp -dsimp -implicitDefEqProofs only [pendV, j134, j135, j352]
theorem load_failV (f : Option (List (Int × Bool))) (q : Nat) : LoadOk Try.prog 76 (failV f q) := by cases f <;> simp -dsimp -implicitDefEqProofs only [failV, j138, j139, j356]
theorem flat_pendV (p : List Wr) (m : Nat) : (pendV p m).flat = [pendV p m] := by cases p <;> rfl
theorem flat_failV (f : Option (List (Int × Bool))) (q : Nat) : (failV f q).flat = [failV f q] := by cases f <;> rfl
theorem pendV_eq {p : List Wr} {m : Nat} (h : p ≠ []) : pendV p m = .sl m 0 [] 0 p.length p.length 66 := by cases p with | nil => exact absurd rfl h | cons w r => rfl
theorem pendB_eq {p : List Wr} {m : Nat} (h : p ≠ []) : pendB p m = [(m, .cells (.agg (p.map wrAV)))] := by cases p with | nil => exact absurd rfl h | cons w r => rfl
theorem del_pendB {p : List Wr} {m n : Nat} (h : n ≠ m) : Heap.del (pendB p m) n = pendB p m := by
  cases p with
  | nil => rfl
  | cons w r => simp [pendB, Heap.del, h]
theorem del_failB {f : Option (List (Int × Bool))} {n q : Nat} (h : n ≠ q) : Heap.del (failB f q) n = failB f q := by
  cases f with
  | none => rfl
  | some l => simp [failB, Heap.del, h]
theorem del_app (a b : Heap) (n : Nat) : Heap.del (a ++ b) n = Heap.del a n ++ Heap.del b n := by
  induction a with
  | nil => rfl
  | cons x r ih =>
    obtain ⟨k, c⟩ := x
    simp only [List.cons_append, Heap.del, ih]
    split <;> rfl
theorem get_failB {f : Option (List (Int × Bool))} {n q : Nat} (h : n ≠ q) : Heap.get (failB f q) n = none := by
  cases f with
  | none => rfl
  | some l => simp [failB, Heap.get, h]
theorem get_pendB {p : List Wr} {m n : Nat} (h : n ≠ m) : Heap.get (pendB p m) n = none := by
  cases p with
  | nil => rfl
  | cons w r => simp [pendB, Heap.get, h]
theorem get_tail {d : DS} {q m n : Nat} {b : ABlk} (h : Heap.get (failB d.fails q ++ pendB d.pend m) n = some b) : (n = q ∧ ∃ f, d.fails = some f ∧ b = .map (mapE flK flV f)) ∨ (n = m ∧ d.pend ≠ [] ∧ b = .cells (.agg (d.pend.map wrAV))) := by
  rw [get_append] at h
  cases hf : Heap.get (failB d.fails q) n with
  | some x =>
    rw [hf] at h
    simp only [Option.some.injEq] at h
    subst h
    cases hd : d.fails with
    | none => rw [hd] at hf; simp [failB, Heap.get] at hf
    | some f =>
      rw [hd] at hf
      simp only [failB, Heap.get] at hf
      by_cases hn : n = q
      · rw [if_pos hn] at hf; cases hf; exact .inl ⟨hn, f, rfl, rfl⟩
      · simp [hn] at hf
  | none =>
    rw [hf] at h
    simp only at h
    cases hp : d.pend with
    | nil => rw [hp] at h; simp [pendB, Heap.get] at h
    | cons w r =>
      rw [hp] at h
      simp only [pendB, Heap.get] at h
      by_cases hn : n = m
      · rw [if_pos hn] at h; cases h; exact .inr ⟨hn, by simp, rfl⟩
      · simp [hn] at h
section
variable {d : DS} {s q m : Nat}
theorem get_disk {n : Nat} {b : ABlk} (h : Heap.get (diskH d s q m) n = some b) : (n = 0 ∧ b = dskC d s q m) ∨ (n = 1 ∧ b = mapB d.sure) ∨ (n = s ∧ b = mapB d.seen) ∨ (n = q ∧ ∃ f, d.fails = some f ∧ b = .map (mapE flK flV f)) ∨ (n = m ∧ d.pend ≠ [] ∧ b = .cells (.agg (d.pend.map wrAV))) := by
  simp only [diskH, Heap.get] at h
  by_cases h0 : n = 0
  · rw [if_pos h0] at h; cases h; exact .inl ⟨h0, rfl⟩
  rw [if_neg h0] at h
  by_cases h1 : n = 1
  · rw [if_pos h1] at h; cases h; exact .inr (.inl ⟨h1, rfl⟩)
  rw [if_neg h1] at h
  by_cases h2 : n = s
  · rw [if_pos h2] at h; cases h; exact .inr (.inr (.inl ⟨h2, rfl⟩))
  rw [if_neg h2] at h
  exact .inr (.inr (.inr (get_tail h)))
theorem names_disk {n : Nat} : n ∈ (diskH d s q m).map (·.1) ↔ n = 0 ∨ n = 1 ∨ n = s ∨ (n = q ∧ d.fails ≠ none) ∨ (n = m ∧ d.pend ≠ []) := by
  simp only [diskH, List.map_cons, List.map_append, List.mem_cons, List.mem_append]
  cases d.fails <;> cases d.pend <;> simp [failB, pendB]
theorem get_fail (hn : Nm s q m) {f : List (Int × Bool)} (hf : d.fails = some f) : Heap.get (diskH d s q m) q = some (.map (mapE flK flV f)) := by
  have h1 := hn.q2
  have h0 : q ≠ 0 := by omega
  have h1 : q ≠ 1 := by omega
  simp [diskH, Heap.get, hf, failB, h0, h1, Ne.symm hn.sq]
theorem get_pend (hn : Nm s q m) (hp : d.pend ≠ []) : Heap.get (diskH d s q m) m = some (.cells (.agg (d.pend.map wrAV))) := by
  have h2 := hn.m2
  have h0 : m ≠ 0 := by omega
  have h1 : m ≠ 1 := by omega
  simp only [diskH, Heap.get, h0, h1, Ne.symm hn.sm, if_false]
  rw [get_append, get_failB (Ne.symm hn.qm), pendB_eq hp]; simp [Heap.get]
theorem get_seen (hn : Nm s q m) : Heap.get (diskH d s q m) s = some (mapB d.seen) := by
  have h2 := hn.s2
  have h0 : s ≠ 0 := by omega
  have h1 : s ≠ 1 := by omega
  simp [diskH, Heap.get, h0, h1]
theorem on_wr (S : Nat → Prop) (l : List Wr) : AV.onL S (l.map wrAV) := by
  rw [AV.onL_iff]
  intro x hx
  obtain ⟨o, _, rfl⟩ := List.mem_map.1 hx
  exact ⟨⟨trivial, trivial, trivial⟩, on_bytes _ _, trivial⟩
theorem on_mapW (S : Nat → Prop) (l : List Wr) : (mapB l).on S := by
  intro x hx
  obtain ⟨o, _, rfl⟩ := List.mem_map.1 hx
  exact ⟨⟨trivial, trivial, trivial⟩, on_bytes _ _⟩
theorem on_mapF (S : Nat → Prop) (l : List (Int × Bool)) : (ABlk.map (mapE flK flV l)).on S := by
  intro x hx
  obtain ⟨o, _, rfl⟩ := List.mem_map.1 hx
  exact ⟨trivial, trivial⟩
theorem on_pendV {S : Nat → Prop} {p : List Wr} {m : Nat} (h : p ≠ [] → S m) : AV.on S (pendV p m) := by
  cases p with
  | nil => trivial
  | cons w r => exact h (by simp)
theorem on_failV {S : Nat → Prop} {f : Option (List (Int × Bool))} {q : Nat} (h : f ≠ none → S q) : AV.on S (failV f q) := by
  cases f with
  | none => trivial
  | some l => exact h (by simp)
theorem on_dskC {S : Nat → Prop} (h1 : S 1) (h2 : S s) (h3 : d.fails ≠ none → S q) (h4 : d.pend ≠ [] → S m) : (dskC d s q m).on S :=
  ⟨trivial, h1, h2, on_pendV h4, on_failV h3, trivial, trivial, trivial, trivial⟩
theorem disk_on {S : Nat → Prop} (hS : ∀ n, n ∈ (diskH d s q m).map (·.1) → S n) : ∀ n b, Heap.get (diskH d s q m) n = some b → b.on S := by
  intro n b h
  rcases get_disk h with ⟨_, rfl⟩ | ⟨_, rfl⟩ | ⟨_, rfl⟩ | ⟨_, f, _, rfl⟩ | ⟨_, _, rfl⟩
  · exact on_dskC (hS 1 (names_disk.2 (by simp))) (hS s (names_disk.2 (by simp))) (fun h => hS q (names_disk.2 (by simp [h]))) (fun h => hS m (names_disk.2 (by simp [h])))
  · exact on_mapW _ _
  · exact on_mapW _ _
  · exact on_mapF _ _
  · exact on_wr _ _
theorem bfrz_refl {K : Nat → Prop} {H : Heap} {b : ABlk} (hr : ∀ n ob, b ≠ .raw n ob) (h : b.on K) : BFrz K H b b := by
  cases b with
  | cells v => exact .same _ h
  | map es => exact ⟨rfl, h⟩
  | raw n ob => exact absurd rfl (hr n ob)
theorem disk_keep {H : Heap} (h0 : Heap.get H 0 = some (dskC d s q m)) (h1 : Heap.get H 1 = some (mapB d.sure)) (h2 : Heap.get H s = some (mapB d.seen)) (h3 : ∀ f, d.fails = some f → Heap.get H q = some (.map (mapE flK flV f)))
    (h4 : d.pend ≠ [] → Heap.get H m = some (.cells (.agg (d.pend.map wrAV)))) :
    ∀ n b, Heap.get (diskH d s q m) n = some b → ∃ b0, Heap.get H n = some b0 ∧ BFrz (fun n => Heap.get (diskH d s q m) n ≠ none) H b0 b := by
  intro n b h
  have hon : b.on fun n => Heap.get (diskH d s q m) n ≠ none := disk_on (fun k hk => by
    obtain ⟨b, hb⟩ := get_mem hk
    rw [hb]; simp) n b h
  have hr : ∀ k ob, b ≠ .raw k ob := by
    rintro k ob rfl
    rcases get_disk h with ⟨_, e⟩ | ⟨_, e⟩ | ⟨_, e⟩ | ⟨_, f, _, e⟩ | ⟨_, _, e⟩ <;> cases e
  have : Heap.get H n = some b := by
    rcases get_disk h with ⟨rfl, rfl⟩ | ⟨rfl, rfl⟩ | ⟨rfl, rfl⟩ | ⟨rfl, f, hf, rfl⟩ | ⟨rfl, hp, rfl⟩
    · exact h0
    · exact h1
    · exact h2
    · exact h3 f hf
    · exact h4 hp
  exact ⟨b, this, bfrz_refl hr hon⟩
theorem disk_same (hn : Nm s q m) : ∀ n b, Heap.get (diskH d s q m) n = some b → ∃ b0, Heap.get (diskH d s q m) n = some b0 ∧ BFrz (fun n => Heap.get (diskH d s q m) n ≠ none) (diskH d s q m) b0 b :=
  disk_keep rfl rfl (get_seen hn) (fun f hf => get_fail hn hf) (fun hp => get_pend hn hp)
theorem disk_args {ws : List AV} (ha : ∀ x, x ∈ ws → AV.on (fun _ => False) x ∧ ∀ vs, x ≠ .tuple vs) : ∀ x, x ∈ .ptr 0 0 [] :: ws → AV.on (fun n => n ∈ (diskH d s q m).map (·.1)) x ∧ ∀ vs, x ≠ .tuple vs := by
  intro x hx
  rcases List.mem_cons.1 hx with rfl | hx
  · exact ⟨names_disk.2 (.inl rfl), fun vs h => by cases h⟩
  · exact ⟨on_mono (fun _ h => h.elim) (ha x hx).1, (ha x hx).2⟩
end
theorem nm0 : Nm 2 3 4 := ⟨by omega, by omega, by omega, by omega, by omega, by omega⟩
abbrev diskH0 (d : DS) : Heap := diskH d 2 3 4
theorem disk_lt {d : DS} : ∀ n, n ∈ (diskH0 d).map (·.1) → n < 5 := by
  intro n hn
  rcases names_disk.1 hn with h | h | h | h | h <;> omega
theorem no_args : ∀ x, x ∈ ([] : List AV) → AV.on (fun _ => False) x ∧ ∀ vs, x ≠ .tuple vs := fun x hx => by simp at hx
theorem nil_args {ws : List AV} (ha : ∀ x, x ∈ ws → AV.on (fun _ => False) x ∧ ∀ vs, x ≠ .tuple vs) : ∀ x, x ∈ AV.nilptr :: ws → AV.on (fun _ => False) x ∧ ∀ vs, x ≠ .tuple vs := by
  intro x hx
  rcases List.mem_cons.1 hx with rfl | hx
  · exact ⟨trivial, fun vs h => by cases h⟩
  · exact ha x hx

theorem new_bad (n : Int) (h : n < 1 ∨ 2048 < n) : ACall Try.prog 17 [.int .i64 n] [] .nilptr [] := by
  refine ACall.run (Z := Z) (N := 14) mixed hZ Try.func17 rfl rfl (by kernel_rfl) (by simp) args_i 0 ?_
  simp -dsimp -implicitDefEqProofs only [↓j0, ↓j1, ↓j2, ↓j7, ↓j12, ↓j15, j17, j18, j20, ↓j25, ↓j29, ↓j30, j33, j35, ↓j38, ↓j39, ↓j48, ↓j89, ↓j145, ↓j146, ↓j151, j159, argEnv, j163, j164, j172, j175, reduceCtorEq, ↓reduceIte, j185]
  have ret : ∀ (t : Env) (H : Heap) (m : Nat), look t 2 = some .nilptr → Final Try.prog Try.f17 .nilptr [] .ret ⟨14, t, H, m⟩ := fun t H m h =>
    Final.one (.inr rfl) (r := .tmp 2) rfl ⟨h, fun vs h => by cases h⟩ (fun vs h => by cases h) (fun vs h => by cases h) (.same _ trivial)
  refine ⟨fun h1 => ?_, fun h1 => ?_⟩
  · simp -dsimp -implicitDefEqProofs only [↓j0, ↓j1, ↓j2, ↓j7, ↓j10, ↓j12, ↓j13, ↓j15, j17, j18, j20, ↓j25, ↓j29, ↓j30, j32, j35, ↓j39, ↓j40, j81, ↓j145, ↓j147, ↓j149, ↓j151, j163, j164, j172, j175, ↓reduceIte, Nat.reduceEqDiff, h1]
    exact ret _ _ _ rfl
  · have h1' := of_decide_eq_false h1
    have h2 : decide (2048 < n) = true := decide_eq_true (by omega)
    simp -dsimp -implicitDefEqProofs only [↓j0, ↓j1, ↓j2, ↓j7, ↓j10, ↓j12, ↓j13, ↓j15, j17, j18, j20, ↓j25, ↓j29, ↓j30, j32, j33, j35, ↓j38, ↓j39, ↓j40, ↓j48, j83, ↓j89, ↓j145, ↓j146, ↓j147, ↓j148, ↓j149, ↓j151, j161, j163, j164, j172, j175, reduceCtorEq, ↓reduceIte, Nat.reduceEqDiff, j185, j195, h1, h2]
    exact ret _ _ _ rfl
def DS.new (n : Nat) : DS := ⟨n, [], [], [], none, 0, 0, false⟩
theorem new_ok {n : Nat} (h1 : 1 ≤ n) (h2 : n ≤ 2048) : (DS.new n).Ok := ⟨h1, h2, fun w h => by simp [DS.new] at h, fun w h => by simp [DS.new] at h, fun w h => by simp [DS.new] at h, by simp [DS.new], by simp [DS.new], by simp [DS.new], fun f h => by simp [DS.new] at h, by simp [DS.new]⟩
theorem new_spec (n : Nat) (h1 : 1 ≤ n) (h2 : n ≤ 2048) : ACall Try.prog 17 [.int .i64 n] [] (.ptr 2 0 []) [(2, .cells (.agg [.int .i64 n, .mapv 0, .mapv 1, .nilsl, .nilmap, .int .i64 0, .int .i64 0, .bool false])), (0, .map []), (1, .map [])] := by
  refine ACall.run (Z := Z) (N := 14) mixed hZ Try.func17 rfl rfl (by kernel_rfl) (by simp) args_i 0 ?_
  have d1 : decide ((n : Int) < 1) = false := decide_eq_false (by omega)
  have d2 : decide (2048 < (n : Int)) = false := decide_eq_false (by omega)
  simp -dsimp -implicitDefEqProofs only [↓j0, ↓j1, ↓j2, ↓j7, ↓j9, ↓j10, ↓j12, ↓j13, ↓j15, j17, j18, j20, ↓j25, ↓j29, ↓j30, j32, j33, j35, ↓j38, ↓j39, ↓j40, ↓j42, ↓j48, ↓j54, ↓j66, j83, ↓j89, ↓j124, j125, j126, j127, j128, ↓j145, ↓j146, ↓j148, ↓j149, ↓j151, j159, j161, partsAV, AV.size, AV.sizeL, AV.layable, argEnv, j163, j164, j166, j167, j168, j169, j170, j171, j172, j175, j179, j180, reduceCtorEq, ↓reduceIte, Nat.reduceAdd, Nat.reduceEqDiff, j182, j183, j185, j195, j196, j197, j213, j214, j215, j216, j217, j361, j364, j367, j452, d1, d2]
  refine Final.oneH (.inr rfl) (r := .tmp 2) rfl ⟨rfl, fun vs h => by cases h⟩ (fun vs h => by cases h) (fun vs h => by cases h) (.same _ (by simp [AV.on, Heap.get])) ?_
  intro k b hb
  simp only [Heap.get] at hb
  by_cases k2 : k = 2
  · subst k2; simp at hb; subst hb
    exact ⟨_, rfl, .same _ (by simp [AV.on, AV.onL, Heap.get])⟩
  by_cases k0 : k = 0
  · subst k0; simp at hb; subst hb
    exact ⟨_, rfl, rfl, fun x hx => by simp at hx⟩
  by_cases k1 : k = 1
  · subst k1; simp at hb; subst hb
    exact ⟨_, rfl, rfl, fun x hx => by simp at hx⟩
  simp [k2, k0, k1] at hb
end Go.Proofs.Ythfaldoagmkllaa
