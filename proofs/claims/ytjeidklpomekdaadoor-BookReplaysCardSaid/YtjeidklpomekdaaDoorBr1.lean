/- Part 1 of the proof of BookReplays: Pure, Base, Leaf, Shift, Ref04, Slice, Tys. -/
import Derived.RowKit
import Derived.Test.YtjeidklpomekdaaDoorProg
import Derived.WalkKit
import Derived.Below
import Derived.Laws.AppendOwn
import Derived.Lib.Hide
import Derived.Deep.QuietTactic
import Derived.Outline
import Derived.BigQuiet
import Derived.OwnWalk
import Derived.ArgAppend
import Derived.Laws.AppendOwnNone
import Derived.Deep.AppendLies
import Derived.Deep.RegionLaw

set_option linter.unusedVariables false
set_option linter.unusedSimpArgs false
set_option linter.unnecessarySimpa false

/- The plain words: operations, edits, elements, and what the program's and the reference's small functions compute on them. No program stands here. -/
namespace Go.Proofs.YtjeidklpomekdaaDoor
open Go.RowKit

structure Opr where
  kind : Int
  pos : Int
  ch : Int
  client : Int
  seq : Int
  deriving DecidableEq
structure Edt where
  tag : Int
  op : Opr
  deriving DecidableEq
structure Elm where
  ch : Int
  client : Int
  seq : Int
  deriving DecidableEq
structure Mrk where
  mark : Int
  op : Opr
  deriving DecidableEq

theorem Opr.eq_iff (x y : Opr) : x = y ↔ x.kind = y.kind ∧ x.pos = y.pos ∧ x.ch = y.ch ∧ x.client = y.client ∧ x.seq = y.seq := by
  cases x; cases y; simp
theorem Edt.eq_iff (x y : Edt) : x = y ↔ x.tag = y.tag ∧ x.op.kind = y.op.kind ∧ x.op.pos = y.op.pos ∧ x.op.ch = y.op.ch ∧ x.op.client = y.op.client ∧ x.op.seq = y.op.seq := by
  cases x; cases y; simp [Opr.eq_iff]
theorem Elm.eq_iff (x y : Elm) : x = y ↔ x.ch = y.ch ∧ x.client = y.client ∧ x.seq = y.seq := by
  cases x; cases y; simp

/-- doc.Valid: the error's number, 0: it can be an operation. -/
def valid (o : Opr) : Int :=
  if ¬ (0 ≤ o.kind ∧ o.kind ≤ 2) then 40
  else if ¬ (1 ≤ o.client ∧ o.client ≤ 64) ∨ ¬ (1 ≤ o.seq ∧ o.seq ≤ 64) then 41
  else if (o.kind = 1 ∧ ¬ (32 ≤ o.ch ∧ o.ch ≤ 126)) ∨ (o.kind ≠ 1 ∧ o.ch ≠ 0) then 42
  else if ¬ (0 ≤ o.pos ∧ o.pos ≤ (if o.kind = 0 then 0 else 4095)) then 43
  else 0

/-- doc.Fits. -/
def fits (n : Int) (o : Opr) : Int :=
  if valid o ≠ 0 then valid o
  else if ¬ (0 ≤ n ∧ n ≤ 4096) ∨ (o.kind = 1 ∧ n = 4096) then 44
  else if (o.kind = 1 ∧ n < o.pos) ∨ (o.kind = 2 ∧ n ≤ o.pos) then 43
  else 0

/-- By how much an operation makes a text longer. -/
def grown (o : Opr) : Int := if o.kind = 1 then 1 else if o.kind = 2 then -1 else 0

def stays (a b : Int) (_first : Bool) : Int × Bool := (a, true)
def insIns (a b : Int) (first : Bool) : Int × Bool := if b < a ∨ (b = a ∧ first = false) then (wrap64 (a + 1), true) else (a, true)
def insDel (a b : Int) (_first : Bool) : Int × Bool := if b < a then (wrap64 (a - 1), true) else (a, true)
def delIns (a b : Int) (_first : Bool) : Int × Bool := if b ≤ a then (wrap64 (a + 1), true) else (a, true)
def delDel (a b : Int) (_first : Bool) : Int × Bool := if b < a then (wrap64 (a - 1), true) else if b = a then (0, false) else (a, true)
def kindRow (k : Int) : Int := if k = 1 then 1 else if k = 2 then 2 else 0
def ruleOf (a b : Int) : Int → Int → Bool → Int × Bool :=
  if a = 1 ∧ b = 1 then insIns else if a = 1 ∧ b = 2 then insDel else if a = 2 ∧ b = 1 then delIns else if a = 2 ∧ b = 2 then delDel else stays
/-- ot.Shift (positions go round as Go's int does). -/
def shift (a b : Opr) (first : Bool) : Opr :=
  let r := ruleOf a.kind b.kind a.pos b.pos first
  if r.2 = true then { a with pos := r.1 } else { kind := 0, pos := 0, ch := 0, client := a.client, seq := a.seq }

/-- ot.past: an operation carried past a line, and the line past it. -/
def past (first : Bool) : Opr → List Opr → Opr × List Opr
  | op, [] => (op, [])
  | op, l :: ls => let r := past first (shift op l (!first)) ls; (r.1, shift l op first :: r.2)

/-- The text behind an operation. -/
def apply (d : List Elm) (o : Opr) : List Elm :=
  if o.kind = 1 then d.take o.pos.toNat ++ [⟨o.ch, o.client, o.seq⟩] ++ d.drop o.pos.toNat
  else if o.kind = 2 then d.take o.pos.toNat ++ d.drop (o.pos.toNat + 1)
  else d

/-- A space: its queue, the last mark, whether its side comes first. -/
structure SpaceS where
  list : List Mrk
  last : Int
  first : Bool
def SpaceS.keep (S : SpaceS) (mark : Int) (op : Opr) : SpaceS := if valid op = 0 ∧ ¬ (mark ≤ S.last ∨ 4096 < mark) then { S with list := S.list ++ [⟨mark, op⟩], last := mark } else S
def SpaceS.keepErr (S : SpaceS) (mark : Int) (op : Opr) : Int := if valid op ≠ 0 then valid op else if mark ≤ S.last ∨ 4096 < mark then 100 else 0
/-- How many stand ahead of the first mark above 'mark'. -/
def upto (mark : Int) : List Mrk → Nat
  | [] => 0
  | m :: l => if m.mark ≤ mark then upto mark l + 1 else 0
theorem upto_le (m : Int) : ∀ l, upto m l ≤ l.length
  | [] => Nat.le_refl _
  | x :: l => by unfold upto; split <;> simp; have := upto_le m l; omega
theorem upto_lt (m : Int) : ∀ (l : List Mrk) (k : Nat) (h : k < l.length), k < upto m l → l[k].mark ≤ m
  | x :: l, k, h, hk => by
    unfold upto at hk
    split at hk
    · rename_i hx
      cases k with
      | zero => exact hx
      | succ k => exact upto_lt m l k (by simpa using h) (by omega)
    · omega
theorem upto_at (m : Int) : ∀ (l : List Mrk) (h : upto m l < l.length), ¬ l[upto m l].mark ≤ m
  | x :: l, h => by
    by_cases hx : x.mark ≤ m
    · have e : upto m (x :: l) = upto m l + 1 := by rw [upto, if_pos hx]
      have h' : upto m l < l.length := by rw [e] at h; simpa using h
      have := upto_at m l h'
      simp only [e, List.getElem_cons_succ]
      exact this
    · have e : upto m (x :: l) = 0 := by rw [upto, if_neg hx]
      simp only [e, List.getElem_cons_zero]
      exact hx
def SpaceS.dropTo (S : SpaceS) (mark : Int) : SpaceS := { S with list := S.list.drop (upto mark S.list) }
def ops (l : List Mrk) : List Opr := l.map (·.op)
/-- The marks, with other operations. -/
def remark : List Mrk → List Opr → List Mrk
  | m :: l, o :: os => ⟨m.mark, o⟩ :: remark l os
  | l, [] => l
  | [], _ => []
theorem past_length (f : Bool) : ∀ (ls : List Opr) (op : Opr), (past f op ls).2.length = ls.length
  | [], _ => rfl
  | _ :: ls, op => by simp [past, past_length f ls]
theorem remark_length : ∀ (l : List Mrk) (os : List Opr), os.length = l.length → (remark l os).length = l.length
  | [], [], _ => rfl
  | m :: l, o :: os, h => by simp [remark, remark_length l os (by simpa using h)]
theorem remark_get : ∀ (l : List Mrk) (os : List Opr) (h : os.length = l.length) (k : Nat) (hk : k < l.length), (remark l os)[k]'(by rw [remark_length l os h]; exact hk) = ⟨l[k].mark, os[k]'(by omega)⟩
  | m :: l, o :: os, h, 0, _ => rfl
  | m :: l, o :: os, h, k + 1, hk => by simpa [remark] using remark_get l os (by simpa using h) k (by simpa using hk)
theorem remark_step (l : List Mrk) (os : List Opr) (h : os.length = l.length) (k : Nat) (hk : k < l.length) (hk' : k < ((remark l os).take k ++ l.drop k).length) (y : Opr) (hy : os[k]'(by omega) = y) :
    ((remark l os).take k ++ l.drop k).set k ⟨(((remark l os).take k ++ l.drop k)[k]'hk').mark, y⟩ = (remark l os).take (k + 1) ++ l.drop (k + 1) := by
  subst hy
  have hrl := remark_length l os h
  have h1 : ((remark l os).take k).length = k := by rw [List.length_take]; omega
  have hd : l.drop k = l[k] :: l.drop (k + 1) := List.drop_eq_getElem_cons hk
  have hm : (((remark l os).take k ++ l.drop k)[k]'hk') = l[k] := by
    rw [List.getElem_append_right (by omega)]
    simp [h1]
  rw [hm, List.set_append_right _ _ (by omega), h1, Nat.sub_self, hd, List.set_cons_zero, List.take_succ_eq_append_getElem (by omega), remark_get l os h k hk]
  simp
def SpaceS.cross (S : SpaceS) (op : Opr) : SpaceS := { S with list := remark S.list (past S.first op (ops S.list)).2 }
end Go.Proofs.YtjeidklpomekdaaDoor

/- The program's structs as values and cells, what a slice reads as, what a call leaves as it was. No Go function stands here. -/
namespace Go.RowKit
/-- An old cell, read behind a call that only made memory. -/
theorem Below.cell' {w w' : World} {a : Addr} {v : Value} (h : Below w.heap.size w w') (hc : w.cell? a = some v) : w'.cell? a = some v :=
  (h.cell (World.block_lt_of_cell? _ _ hc)).trans hc
theorem Below.drewN {B : Nat} {a w : World} (h : Below B a w) (n : Nat) : Below B a (w.drewN n) := ⟨h.os, h.tape, h.output, h.size, h.block⟩
end Go.RowKit
namespace Go
@[go_sem] theorem World.alloc_drewN' (w : World) (n : Nat) (o : Obj) : (w.drewN n).alloc o = (w.alloc o).drewN n := rfl
@[go_sem] theorem World.setCell_drewN' (w : World) (n : Nat) (a : Addr) (v : Value) : (w.drewN n).setCell a v = (w.setCell a v).drewN n := rfl
end Go
namespace Go.Proofs.YtjeidklpomekdaaDoor
open Go.RowKit

/-- A contract 'w = w'', offered inside a region that only reads. -/
theorem quiet_eq {P : Program} {f : FuncId} {args : Array Value} {w : World} {n : Nat} {v : Value}
    (h : Calls P f args (w.drewN n) fun e w' => e = .returned v ∧ w.drewN n = w') : Calls P f args (w.drewN n) fun e w'' => e = .returned v ∧ ∃ m, w'' = w.drewN m :=
  h.mono fun _ _ ⟨he, hm⟩ => ⟨he, n, hm.symm⟩

abbrev Opr.cells (o : Opr) : List Value := [.int .i64 o.kind, .int .i64 o.pos, .int .u8 o.ch, .int .i64 o.client, .int .i64 o.seq]
abbrev Opr.val (o : Opr) : Value := .agg #[.int .i64 o.kind, .int .i64 o.pos, .int .u8 o.ch, .int .i64 o.client, .int .i64 o.seq]
abbrev Edt.cells (e : Edt) : List Value := [.int .i64 e.tag, .int .i64 e.op.kind, .int .i64 e.op.pos, .int .u8 e.op.ch, .int .i64 e.op.client, .int .i64 e.op.seq]
abbrev Edt.val (e : Edt) : Value := .agg #[.int .i64 e.tag, .int .i64 e.op.kind, .int .i64 e.op.pos, .int .u8 e.op.ch, .int .i64 e.op.client, .int .i64 e.op.seq]
abbrev Mrk.cells (e : Mrk) : List Value := [.int .i64 e.mark, .int .i64 e.op.kind, .int .i64 e.op.pos, .int .u8 e.op.ch, .int .i64 e.op.client, .int .i64 e.op.seq]
abbrev Mrk.val (e : Mrk) : Value := .agg #[.int .i64 e.mark, .int .i64 e.op.kind, .int .i64 e.op.pos, .int .u8 e.op.ch, .int .i64 e.op.client, .int .i64 e.op.seq]
abbrev Elm.cells (x : Elm) : List Value := [.int .u8 x.ch, .int .i64 x.client, .int .i64 x.seq]
abbrev Elm.val (x : Elm) : Value := .agg #[.int .u8 x.ch, .int .i64 x.client, .int .i64 x.seq]

/-- What is not in L and was there is as it was. -/
structure Mod (L : List Nat) (w w' : World) : Prop where
  os : w'.os = w.os
  tape : w'.tape = w.tape
  output : w'.output = w.output
  size : w.heap.size ≤ w'.heap.size
  block : ∀ k, k < w.heap.size → k ∉ L → w'.heap[k]? = w.heap[k]?

theorem Mod.refl (L : List Nat) (w : World) : Mod L w w := ⟨rfl, rfl, rfl, Nat.le_refl _, fun _ _ _ => rfl⟩
theorem Mod.trans {L M : List Nat} {a b c : World} (h : Mod L a b) (g : Mod M b c) (hm : ∀ k ∈ M, k ∈ L ∨ a.heap.size ≤ k) : Mod L a c :=
  ⟨g.os.trans h.os, g.tape.trans h.tape, g.output.trans h.output, Nat.le_trans h.size g.size, fun k hk hn =>
    (g.block k (Nat.lt_of_lt_of_le hk h.size) (fun hM => (hm k hM).elim hn (fun h' => by omega))).trans (h.block k hk hn)⟩
theorem Mod.of_below {L : List Nat} {w w' : World} (h : Below w.heap.size w w') : Mod L w w' := ⟨h.os, h.tape, h.output, h.size, fun k hk _ => h.block k hk⟩
theorem Mod.below {w w' : World} (h : Mod [] w w') : Below w.heap.size w w' := ⟨h.os, h.tape, h.output, h.size, fun k hk => h.block k hk (by simp)⟩
theorem Mod.weaken {L M : List Nat} {w w' : World} (h : Mod L w w') (hl : ∀ k ∈ L, k ∈ M ∨ w.heap.size ≤ k) : Mod M w w' :=
  ⟨h.os, h.tape, h.output, h.size, fun k hk hn => h.block k hk (fun hk' => (hl k hk').elim hn (fun h' => by omega))⟩

/-- The blocks L' are those of L, or new. -/
def Fresh (w : World) (L L' : List Nat) : Prop := ∀ k ∈ L', k ∈ L ∨ w.heap.size ≤ k
theorem Fresh.refl (w : World) (L : List Nat) : Fresh w L L := fun _ h => Or.inl h
theorem Fresh.trans {a b : World} {L M N : List Nat} (h : Fresh a L M) (g : Fresh b M N) (hs : a.heap.size ≤ b.heap.size) : Fresh a L N := fun k hk =>
  (g k hk).elim (fun h' => h k h') (fun h' => Or.inr (by omega))

/-- The slice value v reads as the list xs, each element as the k cells that 'enc' gives. -/
def SlR {α : Type} (w : World) (enc : α → List Value) (k : Nat) (v : Value) (xs : List α) : Prop :=
  ∃ a cap, v = .slice a xs.length cap ∧ xs.length ≤ 9223372036854775807 ∧ (xs.length ≤ cap ∧ (a = none → cap = 0)) ∧
    ∀ i (h : i < xs.length), ∃ b off, a = some ⟨b, off, none⟩ ∧ ∀ j u, (enc xs[i])[j]? = some u → w.cell? ⟨b, off + i * k + j, none⟩ = some u

/-- The same, read in a world in which no cell that was there has turned. -/
theorem SlR.kept {α : Type} {w w' : World} {enc : α → List Value} {k : Nat} {v : Value} {xs : List α} (h : SlR w enc k v xs) (hc : ∀ a u, w.cell? a = some u → w'.cell? a = some u) : SlR w' enc k v xs := by
  obtain ⟨a, cap, hv, hl, hn, hcell⟩ := h
  refine ⟨a, cap, hv, hl, hn, fun i hi => ?_⟩
  obtain ⟨b, off, ha, hj⟩ := hcell i hi
  exact ⟨b, off, ha, fun j u hu => hc _ _ (hj j u hu)⟩

theorem SlR.below {α : Type} {w w' : World} {enc : α → List Value} {k : Nat} {v : Value} {xs : List α} (h : SlR w enc k v xs) (hb : Below w.heap.size w w') : SlR w' enc k v xs := h.kept fun _ _ hc => hb.cell' hc
theorem SlR.drewN {α : Type} {w : World} {enc : α → List Value} {k : Nat} {v : Value} {xs : List α} (h : SlR w enc k v xs) (n : Nat) : SlR (w.drewN n) enc k v xs := h

/-- A block of cells, whole. -/
theorem blk_cell {w : World} {b : Nat} {cs : Array Value} {T : TypeId} {fz : Nat × Nat} (h : w.heap[b]? = some (.cells cs T fz)) (o : Nat) : w.cell? ⟨b, o, none⟩ = cs[o]? := by
  simp [World.cell?, h]
theorem blk_free {w : World} {b : Nat} {cs : Array Value} {T : TypeId} (h : w.heap[b]? = some (.cells cs T (0, 0))) (o : Nat) : w.frozen? ⟨b, o, none⟩ = false := by
  simp [World.frozen?, h]
theorem blk_lt {w : World} {b : Nat} {o : Obj} (h : w.heap[b]? = some o) : b < w.heap.size := (Array.getElem?_eq_some_iff.1 h).1
theorem blk_alloc {w : World} {b : Nat} {o : Obj} (o' : Obj) (h : w.heap[b]? = some o) : (w.alloc o').heap[b]? = some o := by
  rw [Below.heap_alloc _ _ _ (blk_lt h)]; exact h
theorem blk_new (w : World) (o : Obj) : (w.alloc o).heap[w.heap.size]? = some o := heap_alloc_new w o
theorem blk_at {w : World} {n : Nat} (o : Obj) (h : n = w.heap.size) : (w.alloc o).heap[n]? = some o := by rw [h]; exact heap_alloc_new w o
theorem blk_set {w : World} {b : Nat} {cs : Array Value} {T : TypeId} {fz : Nat × Nat} (h : w.heap[b]? = some (.cells cs T fz)) (o : Nat) (v : Value) : (w.setCell ⟨b, o, none⟩ v).heap[b]? = some (.cells (cs.setIfInBounds o v) T fz) := by
  simp [World.setCell, Array.getElem?_modify, h]
theorem blk_other {w : World} {b : Nat} {x : Option Obj} (a : Addr) (v : Value) (h : w.heap[b]? = x) (hne : b ≠ a.block) : (w.setCell a v).heap[b]? = x := by
  rw [Below.heap_setCell _ _ _ _ hne]; exact h
theorem _root_.Go.RowKit.Below.blk {w w' : World} {b : Nat} {o : Obj} (hb : Below w.heap.size w w') (h : w.heap[b]? = some o) : w'.heap[b]? = some o := by
  rw [hb.block b (blk_lt h)]; exact h
theorem Mod.blk {L : List Nat} {w w' : World} {b : Nat} {o : Obj} (hm : Mod L w w') (hL : b ∉ L) (h : w.heap[b]? = some o) : w'.heap[b]? = some o := by
  rw [hm.block b (blk_lt h) hL]; exact h
theorem _root_.Go.RowKit.Below.of_grown {w w' : World} (hg : w.grownBy w' none) : Below w.heap.size w w' := ⟨hg.os, hg.tape, hg.output, hg.size, fun k hk => hg.block k hk (by simp)⟩
theorem Mod.of_grown {w w' : World} {v : Option Nat} (hg : w.grownBy w' v) : Mod v.toList w w' := ⟨hg.os, hg.tape, hg.output, hg.size, fun k hk hn => hg.block k hk (fun e => hn (by rw [← e]; simp))⟩

theorem Mod.setCell (w : World) (b o : Nat) (v : Value) : Mod [b] w (w.setCell ⟨b, o, none⟩ v) :=
  ⟨rfl, rfl, rfl, by simp [World.setCell], fun k _ hk => Below.heap_setCell _ _ _ _ (by simpa using hk)⟩
theorem Mod.alloc (L : List Nat) (w : World) (o : Obj) : Mod L w (w.alloc o) := Mod.of_below ((Below.refl _ _).alloc (Nat.le_refl _) o)
theorem Mod.drewN (L : List Nat) (w : World) (n : Nat) : Mod L w (w.drewN n) := ⟨rfl, rfl, rfl, Nat.le_refl _, fun _ _ _ => rfl⟩
theorem Mod.then_ {L M : List Nat} {a b c : World} (h : Mod L a b) (g : Mod M b c) (hm : ∀ k ∈ M, k ∈ L) : Mod L a c := h.trans g fun k hk => Or.inl (hm k hk)
/-- Five cells of one block, stored one behind the other. -/
theorem set5 {w : World} {b : Nat} {cs : Array Value} {T : TypeId} {fz : Nat × Nat} (h : w.heap[b]? = some (.cells cs T fz)) (hs : cs.size = 5) (v0 v1 v2 v3 v4 : Value) :
    (((((w.setCell ⟨b, 0, none⟩ v0).setCell ⟨b, 1, none⟩ v1).setCell ⟨b, 2, none⟩ v2).setCell ⟨b, 3, none⟩ v3).setCell ⟨b, 4, none⟩ v4).heap[b]? = some (.cells #[v0, v1, v2, v3, v4] T fz) := by
  obtain ⟨l⟩ := cs
  match l, hs with
  | [x0, x1, x2, x3, x4], _ =>
    have h0 : (w.setCell ⟨b, 0, none⟩ v0).heap[b]? = some (.cells #[v0, x1, x2, x3, x4] T fz) := blk_set h 0 v0
    have h1 := blk_set h0 1 v1
    have h2 := blk_set h1 2 v2
    have h3 := blk_set h2 3 v3
    exact blk_set h3 4 v4
theorem Mod.set5 (w : World) (b : Nat) (v0 v1 v2 v3 v4 : Value) : Mod [b] w (((((w.setCell ⟨b, 0, none⟩ v0).setCell ⟨b, 1, none⟩ v1).setCell ⟨b, 2, none⟩ v2).setCell ⟨b, 3, none⟩ v3).setCell ⟨b, 4, none⟩ v4) :=
  ((((Mod.setCell w b 0 v0).then_ (Mod.setCell _ b 1 v1) (fun _ h => h)).then_ (Mod.setCell _ b 2 v2) (fun _ h => h)).then_ (Mod.setCell _ b 3 v3) (fun _ h => h)).then_ (Mod.setCell _ b 4 v4) (fun _ h => h)
theorem set_take_drop {α : Type} (l : List α) (o : Nat) (v : α) (h : o < l.length) : l.set o v = l.take o ++ [v] ++ l.drop (o + 1) := by
  rw [List.set_eq_take_append_cons_drop, if_pos h]; simp
theorem set5_list {α : Type} (l : List α) (o : Nat) (v0 v1 v2 v3 v4 : α) (h : o + 5 ≤ l.length) : ((((l.set o v0).set (o + 1) v1).set (o + 2) v2).set (o + 3) v3).set (o + 4) v4 = l.take o ++ [v0, v1, v2, v3, v4] ++ l.drop (o + 5) := by
  obtain ⟨x, y, rfl, rfl⟩ : ∃ x y, l = x ++ y ∧ x.length = o := ⟨l.take o, l.drop o, (List.take_append_drop o l).symm, by rw [List.length_take]; omega⟩
  match y, h with
  | a :: b :: c :: d :: e :: r, _ =>
    rw [List.take_left, List.drop_length_add_append]
    simp [List.set_append, show ∀ n : Nat, ¬ x.length + n < x.length by omega, Nat.add_sub_cancel_left]
  | [], h => exact absurd h (by simp <;> omega)
  | [_], h => exact absurd h (by simp <;> omega)
  | [_, _], h => exact absurd h (by simp <;> omega)
  | [_, _, _], h => exact absurd h (by simp <;> omega)
  | [_, _, _, _], h => exact absurd h (by simp <;> omega)
/-- Five cells in the midst of a block. -/
theorem set5_at {w : World} {b : Nat} {cs : Array Value} {T : TypeId} {fz : Nat × Nat} (h : w.heap[b]? = some (.cells cs T fz)) (o : Nat) (hs : o + 5 ≤ cs.size) (v0 v1 v2 v3 v4 : Value) :
    ∃ cs', (((((w.setCell ⟨b, o, none⟩ v0).setCell ⟨b, o + 1, none⟩ v1).setCell ⟨b, o + 2, none⟩ v2).setCell ⟨b, o + 3, none⟩ v3).setCell ⟨b, o + 4, none⟩ v4).heap[b]? = some (.cells cs' T fz) ∧ cs'.toList = cs.toList.take o ++ [v0, v1, v2, v3, v4] ++ cs.toList.drop (o + 5) := by
  have h0 := blk_set h o v0
  have h1 := blk_set h0 (o + 1) v1
  have h2 := blk_set h1 (o + 2) v2
  have h3 := blk_set h2 (o + 3) v3
  refine ⟨_, blk_set h3 (o + 4) v4, ?_⟩
  rw [← set5_list _ _ _ _ _ _ _ (by simpa using hs)]
  simp
theorem Mod.set5_at (w : World) (b o : Nat) (v0 v1 v2 v3 v4 : Value) : Mod [b] w (((((w.setCell ⟨b, o, none⟩ v0).setCell ⟨b, o + 1, none⟩ v1).setCell ⟨b, o + 2, none⟩ v2).setCell ⟨b, o + 3, none⟩ v3).setCell ⟨b, o + 4, none⟩ v4) :=
  ((((Mod.setCell w b o v0).then_ (Mod.setCell _ b (o + 1) v1) (fun _ h => h)).then_ (Mod.setCell _ b (o + 2) v2) (fun _ h => h)).then_ (Mod.setCell _ b (o + 3) v3) (fun _ h => h)).then_ (Mod.setCell _ b (o + 4) v4) (fun _ h => h)
/-- From B on a block was turned: below B nothing. -/
theorem _root_.Go.RowKit.Below.of_mod {B : Nat} {L : List Nat} {a w w' : World} (h : Below B a w) (hm : Mod L w w') (hB : B ≤ w.heap.size) (hL : ∀ k ∈ L, B ≤ k) : Below B a w' :=
  h.trans ⟨hm.os, hm.tape, hm.output, hm.size, fun k hk => hm.block k (by omega) (fun hk' => by have := hL k hk'; omega)⟩

theorem _root_.Go.RowKit.Below.mod {L : List Nat} {a w w' : World} (h : Below a.heap.size a w) (hm : Mod L w w') (hL : ∀ k ∈ L, a.heap.size ≤ k) : Below a.heap.size a w' := h.of_mod hm h.size hL
theorem _root_.Go.RowKit.Below.then_ {a b c : World} (h : Below a.heap.size a b) (g : Below b.heap.size b c) : Below a.heap.size a c := h.trans (g.mono h.size)
theorem _root_.Go.RowKit.Below.new {a w : World} (h : Below a.heap.size a w) (o : Obj) : Below a.heap.size a (w.alloc o) := h.alloc h.size o

end Go.Proofs.YtjeidklpomekdaaDoor

/- Walks of the small functions that only compute: doc.within, doc.Valid, doc.Fits, ot's rules, book.grown; the reference's own. -/
namespace Go.Proofs.YtjeidklpomekdaaDoor
open Go.RowKit

theorem ret_int {k : IntKind} {a b : Int} (h : a = b) : Ending.returned (.int k a) = .returned (.int k b) := by rw [h]
theorem ret_bool {a b : Bool} (h : a = b) : Ending.returned (.bool a) = .returned (.bool b) := by rw [h]
theorem ret_tup {a b : Int} {c d : Bool} (h : a = b) (h' : c = d) : Ending.returned (.tuple #[.int .i64 a, .bool c]) = .returned (.tuple #[.int .i64 b, .bool d]) := by rw [h, h']

theorem within_any (n lo hi : Int) (w : World) : Calls Tryd.prog 55 #[.int .i64 n, .int .i64 lo, .int .i64 hi] w fun e w' => e = .returned (.bool (decide (lo ≤ n ∧ n ≤ hi))) ∧ w = w' := by
  go_enter Tryd.func55, Tryd.ntmps55
  go_wp2
  all_goals
    go_ret
    exact ⟨ret_bool (by simp; try omega), rfl⟩

set_option maxHeartbeats 400000 in
theorem valid_any (o : Opr) (w : World) (hc : 0 ≤ o.ch ∧ o.ch ≤ 255) : Calls Tryd.prog 43 #[o.val] w fun e w' => e = .returned (.int .i64 (valid o)) ∧ Below w.heap.size w w' := by
  obtain ⟨hc0, hc1⟩ := hc
  go_enter Tryd.func43, Tryd.ntmps43
  go_wp2_with (go_at_call 55; refine (within_any _ _ _ _).mono ?_; rintro e w' ⟨rfl, rfl⟩)
  all_goals
    go_ret
    refine ⟨ret_int ?_, (Below.refl _ _).alloc (Nat.le_refl _) _⟩
    unfold valid
    simp_all
    try omega

/-- Behind a call that made memory alone: the box of this function's own parameter. -/
theorem box5 {w w' : World} {o : Opr} {T : TypeId} (hb : Below (w.alloc (.cells #[.int .i64 o.kind, .int .i64 o.pos, .int .u8 o.ch, .int .i64 o.client, .int .i64 o.seq] T)).heap.size (w.alloc (.cells #[.int .i64 o.kind, .int .i64 o.pos, .int .u8 o.ch, .int .i64 o.client, .int .i64 o.seq] T)) w') :
    w'.cell? ⟨w.heap.size, 0, none⟩ = some (.int .i64 o.kind) ∧ w'.cell? ⟨w.heap.size, 1, none⟩ = some (.int .i64 o.pos) ∧ w'.cell? ⟨w.heap.size, 2, none⟩ = some (.int .u8 o.ch) ∧ w'.cell? ⟨w.heap.size, 3, none⟩ = some (.int .i64 o.client) ∧ w'.cell? ⟨w.heap.size, 4, none⟩ = some (.int .i64 o.seq) :=
  ⟨hb.cell' (by simp), hb.cell' (by simp), hb.cell' (by simp), hb.cell' (by simp), hb.cell' (by simp)⟩

set_option maxHeartbeats 400000 in
theorem fits_any (n : Int) (o : Opr) (w : World) (hc : 0 ≤ o.ch ∧ o.ch ≤ 255) : Calls Tryd.prog 46 #[.int .i64 n, o.val] w fun e w' => e = .returned (.int .i64 (fits n o)) ∧ Below w.heap.size w w' := by
  by_cases hv : valid o = 0
  · have hv' : (valid o != 0) = false := by simp [hv]
    have HV := Lib.hid hv; clear hv
    go_enter Tryd.func46, Tryd.ntmps46
    go_wp2_with fail
    refine (valid_any o _ hc).mono ?_
    rintro e w1 ⟨rfl, hb⟩
    obtain ⟨c0, c1, c2, c3, c4⟩ := box5 hb
    have HB := Lib.hid hb; clear hb
    go_wp2_with (go_at_call 55; refine (within_any _ _ _ _).mono ?_; rintro e w' ⟨rfl, rfl⟩)
    all_goals
      go_ret
      refine ⟨ret_int ?_, (((Below.refl _ _).alloc (Nat.le_refl _) _).trans (HB.out.mono (by simp)))⟩
      have hv := HV.out
      unfold fits
      simp_all
      try omega
  · have hv' : (valid o != 0) = true := by simp [hv]
    have HV := Lib.hid hv; clear hv
    go_enter Tryd.func46, Tryd.ntmps46
    go_wp2_with fail
    refine (valid_any o _ hc).mono ?_
    rintro e w1 ⟨rfl, hb⟩
    have HB := Lib.hid hb; clear hb
    go_wp2
    go_ret
    refine ⟨ret_int ?_, (((Below.refl _ _).alloc (Nat.le_refl _) _).trans (HB.out.mono (by simp)))⟩
    unfold fits
    rw [if_pos HV.out]

theorem stays_any (a b : Int) (f : Bool) (w : World) : Calls Tryd.prog 109 #[.int .i64 a, .int .i64 b, .bool f] w fun e w' => e = .returned (.tuple #[.int .i64 (stays a b f).1, .bool (stays a b f).2]) ∧ w = w' := by
  go_enter Tryd.func109, Tryd.ntmps109
  go_wp2
  go_ret2
  exact ⟨rfl, rfl⟩
theorem insIns_any (a b : Int) (f : Bool) (w : World) : Calls Tryd.prog 110 #[.int .i64 a, .int .i64 b, .bool f] w fun e w' => e = .returned (.tuple #[.int .i64 (insIns a b f).1, .bool (insIns a b f).2]) ∧ w = w' := by
  go_enter Tryd.func110, Tryd.ntmps110
  go_wp2
  all_goals
    go_ret2
    refine ⟨ret_tup ?_ ?_, rfl⟩ <;> unfold insIns <;> (repeat' split) <;> first | rfl | (exfalso; omega) | (simp_all; done) | (simp_all; omega)
theorem insDel_any (a b : Int) (f : Bool) (w : World) : Calls Tryd.prog 111 #[.int .i64 a, .int .i64 b, .bool f] w fun e w' => e = .returned (.tuple #[.int .i64 (insDel a b f).1, .bool (insDel a b f).2]) ∧ w = w' := by
  go_enter Tryd.func111, Tryd.ntmps111
  go_wp2
  all_goals
    go_ret2
    refine ⟨ret_tup ?_ ?_, rfl⟩ <;> unfold insDel <;> (repeat' split) <;> first | rfl | (exfalso; omega) | (simp_all; done) | (simp_all; omega)
theorem delIns_any (a b : Int) (f : Bool) (w : World) : Calls Tryd.prog 112 #[.int .i64 a, .int .i64 b, .bool f] w fun e w' => e = .returned (.tuple #[.int .i64 (delIns a b f).1, .bool (delIns a b f).2]) ∧ w = w' := by
  go_enter Tryd.func112, Tryd.ntmps112
  go_wp2
  all_goals
    go_ret2
    refine ⟨ret_tup ?_ ?_, rfl⟩ <;> unfold delIns <;> (repeat' split) <;> first | rfl | (exfalso; omega) | (simp_all; done) | (simp_all; omega)
theorem delDel_any (a b : Int) (f : Bool) (w : World) : Calls Tryd.prog 113 #[.int .i64 a, .int .i64 b, .bool f] w fun e w' => e = .returned (.tuple #[.int .i64 (delDel a b f).1, .bool (delDel a b f).2]) ∧ w = w' := by
  go_enter Tryd.func113, Tryd.ntmps113
  go_wp2
  all_goals
    go_ret2
    refine ⟨ret_tup ?_ ?_, rfl⟩ <;> unfold delDel <;> (repeat' split) <;> first | rfl | (exfalso; omega) | (simp_all; done) | (simp_all; omega)
theorem row_any (k : Int) (w : World) : Calls Tryd.prog 67 #[.int .i64 k] w fun e w' => e = .returned (.int .i64 (kindRow k)) ∧ w = w' := by
  go_enter Tryd.func67, Tryd.ntmps67
  go_wp2
  all_goals
    go_ret
    refine ⟨ret_int ?_, rfl⟩
    unfold kindRow
    simp_all
theorem grown_any (o : Opr) (w : World) : Calls Tryd.prog 45 #[o.val] w fun e w' => e = .returned (.int .i64 (grown o)) ∧ Below w.heap.size w w' := by
  go_enter Tryd.func45, Tryd.ntmps45
  go_wp2
  all_goals
    go_ret
    refine ⟨ret_int ?_, (Below.refl _ _).alloc (Nat.le_refl _) _⟩
    unfold grown
    simp_all
end Go.Proofs.YtjeidklpomekdaaDoor

/- ot.Shift: the table of rules is a package-level variable; what it holds is a premise on the world ('Rules'). -/
namespace Go.Proofs.YtjeidklpomekdaaDoor
open Go.RowKit

/-- The table ot.rules, as its initialiser lays it. -/
structure Rules (w : World) : Prop where
  c0 : w.cell? ⟨1, 0, none⟩ = some (.func (.func 109) #[] #[])
  c1 : w.cell? ⟨1, 1, none⟩ = some (.func (.func 109) #[] #[])
  c2 : w.cell? ⟨1, 2, none⟩ = some (.func (.func 109) #[] #[])
  c3 : w.cell? ⟨1, 3, none⟩ = some (.func (.func 109) #[] #[])
  c4 : w.cell? ⟨1, 4, none⟩ = some (.func (.func 110) #[] #[])
  c5 : w.cell? ⟨1, 5, none⟩ = some (.func (.func 111) #[] #[])
  c6 : w.cell? ⟨1, 6, none⟩ = some (.func (.func 109) #[] #[])
  c7 : w.cell? ⟨1, 7, none⟩ = some (.func (.func 112) #[] #[])
  c8 : w.cell? ⟨1, 8, none⟩ = some (.func (.func 113) #[] #[])


/-- What ot.Shift answers where the rule R holds. -/
def shifted (R : Int → Int → Bool → Int × Bool) (a b : Opr) (f : Bool) : Opr := if (R a.pos b.pos f).2 = true then ⟨a.kind, (R a.pos b.pos f).1, a.ch, a.client, a.seq⟩ else ⟨0, 0, 0, a.client, a.seq⟩


set_option maxRecDepth 100000 in
set_option maxHeartbeats 800000 in
theorem shift_core (a b : Opr) (f : Bool) (i j : Nat) (K : FuncId) (p : Int) (l : Bool) (w : World) (hi3 : i < 3) (hj3 : j < 3) (hi : kindRow a.kind = i) (hj : kindRow b.kind = j)
    (hcell : w.cell? ⟨1, i * 3 + j, none⟩ = some (.func (.func K) #[] #[]))
    (hrun : ∀ (args : Array Value) (W : World), (callFunc K args).run Tryd.prog W = .ok (.enter K args) W)
    (hK : ∀ W : World, Calls Tryd.prog K #[.int .i64 a.pos, .int .i64 b.pos, .bool f] W fun e w' => e = .returned (.tuple #[.int .i64 p, .bool l]) ∧ W = w') :
    Calls Tryd.prog 66 #[a.val, b.val, .bool f] w fun e w' => e = .returned ((if l = true then (⟨a.kind, p, a.ch, a.client, a.seq⟩ : Opr) else ⟨0, 0, 0, a.client, a.seq⟩).val) ∧ Below w.heap.size w w' := by
  have hlt : 1 < w.heap.size := World.block_lt_of_cell? _ _ hcell
  have hlt0 : 0 < w.heap.size := by omega
  have hi3' : (i : Int) < 3 := by omega
  have hj3' : (j : Int) < 3 := by omega
  have HK := Lib.hid hK; clear hK
  go_enter Tryd.func66, Tryd.ntmps66
  go_wp2
  go_quiet ((first | (go_at_call 67; exact quiet_eq (row_any _ _)) | exact quiet_eq (HK.out _)))
  cases l
  · go_wp2
    exact bodyPost_ret (v := (⟨0, 0, 0, a.client, a.seq⟩ : Opr).val) (by simp [results, Tryd.results66, go_sem]) rfl ⟨rfl, Below.drewN ((((Below.refl _ _).alloc (by simp <;> omega) _).alloc (by simp <;> omega) _).alloc (by simp <;> omega) _) _⟩
  · go_wp2
    exact bodyPost_ret (v := (⟨a.kind, p, a.ch, a.client, a.seq⟩ : Opr).val) (by simp [results, Tryd.results66, go_sem]) rfl ⟨rfl, Below.drewN ((((Below.refl _ _).alloc (by simp <;> omega) _).alloc (by simp <;> omega) _).alloc (by simp <;> omega) _) _⟩

theorem run_stays (args : Array Value) (W : World) : (callFunc 109 args).run Tryd.prog W = .ok (.enter 109 args) W := by kernel_rfl
theorem run_insIns (args : Array Value) (W : World) : (callFunc 110 args).run Tryd.prog W = .ok (.enter 110 args) W := by kernel_rfl
theorem run_insDel (args : Array Value) (W : World) : (callFunc 111 args).run Tryd.prog W = .ok (.enter 111 args) W := by kernel_rfl
theorem run_delIns (args : Array Value) (W : World) : (callFunc 112 args).run Tryd.prog W = .ok (.enter 112 args) W := by kernel_rfl
theorem run_delDel (args : Array Value) (W : World) : (callFunc 113 args).run Tryd.prog W = .ok (.enter 113 args) W := by kernel_rfl
theorem kindRow_cases (k : Int) : (k = 1 ∧ kindRow k = ((1 : Nat) : Int)) ∨ (k = 2 ∧ kindRow k = ((2 : Nat) : Int)) ∨ (k ≠ 1 ∧ k ≠ 2 ∧ kindRow k = ((0 : Nat) : Int)) := by
  unfold kindRow; split
  · left; simp_all
  · split <;> simp_all

set_option maxHeartbeats 800000 in
theorem shift_any (a b : Opr) (f : Bool) (w : World) (h : Rules w) :
    Calls Tryd.prog 66 #[a.val, b.val, .bool f] w fun e w' => e = .returned ((shift a b f).val) ∧ Below w.heap.size w w' := by
  have fin : ∀ (R : Int → Int → Bool → Int × Bool), ruleOf a.kind b.kind = R → (if (R a.pos b.pos f).2 = true then (⟨a.kind, (R a.pos b.pos f).1, a.ch, a.client, a.seq⟩ : Opr) else ⟨0, 0, 0, a.client, a.seq⟩) = shift a b f := by
    intro R hR; unfold shift; rw [hR]
  rcases kindRow_cases a.kind with ⟨ha, hi⟩ | ⟨ha, hi⟩ | ⟨ha, ha', hi⟩ <;> rcases kindRow_cases b.kind with ⟨hb, hj⟩ | ⟨hb, hj⟩ | ⟨hb, hb', hj⟩
  · rw [← fin insIns (by simp [ruleOf, ha, hb])]
    exact shift_core a b f 1 1 110 _ _ w (by omega) (by omega) hi hj h.c4 run_insIns (insIns_any _ _ _)
  · rw [← fin insDel (by simp [ruleOf, ha, hb])]
    exact shift_core a b f 1 2 111 _ _ w (by omega) (by omega) hi hj h.c5 run_insDel (insDel_any _ _ _)
  · rw [← fin stays (by simp [ruleOf, ha, hb, hb'])]
    exact shift_core a b f 1 0 109 _ _ w (by omega) (by omega) hi hj h.c3 run_stays (stays_any _ _ _)
  · rw [← fin delIns (by simp [ruleOf, ha, hb])]
    exact shift_core a b f 2 1 112 _ _ w (by omega) (by omega) hi hj h.c7 run_delIns (delIns_any _ _ _)
  · rw [← fin delDel (by simp [ruleOf, ha, hb])]
    exact shift_core a b f 2 2 113 _ _ w (by omega) (by omega) hi hj h.c8 run_delDel (delDel_any _ _ _)
  · rw [← fin stays (by simp [ruleOf, ha, hb, hb'])]
    exact shift_core a b f 2 0 109 _ _ w (by omega) (by omega) hi hj h.c6 run_stays (stays_any _ _ _)
  · rw [← fin stays (by simp [ruleOf, ha, ha', hb])]
    exact shift_core a b f 0 1 109 _ _ w (by omega) (by omega) hi hj h.c1 run_stays (stays_any _ _ _)
  · rw [← fin stays (by simp [ruleOf, ha, ha', hb])]
    exact shift_core a b f 0 2 109 _ _ w (by omega) (by omega) hi hj h.c2 run_stays (stays_any _ _ _)
  · rw [← fin stays (by simp [ruleOf, ha, ha', hb])]
    exact shift_core a b f 0 0 109 _ _ w (by omega) (by omega) hi hj h.c0 run_stays (stays_any _ _ _)
end Go.Proofs.YtjeidklpomekdaaDoor

/- The reference's small functions: jotterref04's Valid, Fits, long; jotterref05's acts, ahead, Shift; jotterref12's longer. -/
namespace Go.Proofs.YtjeidklpomekdaaDoor
open Go.RowKit

set_option maxRecDepth 100000 in
set_option maxHeartbeats 3200000 in
theorem rvalid_any (o : Opr) (w : World) (hc : 0 ≤ o.ch ∧ o.ch ≤ 255) : Calls Tryd.prog 28 #[o.val] w fun e w' => e = .returned (.int .i64 (valid o)) ∧ Below w.heap.size w w' := by
  obtain ⟨hc0, hc1⟩ := hc
  go_enter Tryd.func28, Tryd.ntmps28
  go_wp2
  all_goals
    go_ret
    refine ⟨ret_int ?_, (Below.refl _ _).alloc (Nat.le_refl _) _⟩
    unfold valid
    simp_all
    try omega

set_option maxRecDepth 100000 in
set_option maxHeartbeats 3200000 in
theorem rfits_any (n : Int) (o : Opr) (w : World) (hc : 0 ≤ o.ch ∧ o.ch ≤ 255) : Calls Tryd.prog 31 #[.int .i64 n, o.val] w fun e w' => e = .returned (.int .i64 (fits n o)) ∧ Below w.heap.size w w' := by
  by_cases hv : valid o = 0
  · have hv' : (valid o != 0) = false := by simp [hv]
    have HV := Lib.hid hv; clear hv
    go_enter Tryd.func31, Tryd.ntmps31
    go_wp2_with fail
    refine (rvalid_any o _ hc).mono ?_
    rintro e w1 ⟨rfl, hb⟩
    obtain ⟨c0, c1, c2, c3, c4⟩ := box5 hb
    have HB := Lib.hid hb; clear hb
    go_wp2
    all_goals
      go_ret
      refine ⟨ret_int ?_, (((Below.refl _ _).alloc (Nat.le_refl _) _).trans (HB.out.mono (by simp)))⟩
      have hv := HV.out
      unfold fits
      simp_all
      try omega
  · have hv' : (valid o != 0) = true := by simp [hv]
    have HV := Lib.hid hv; clear hv
    go_enter Tryd.func31, Tryd.ntmps31
    go_wp2_with fail
    refine (rvalid_any o _ hc).mono ?_
    rintro e w1 ⟨rfl, hb⟩
    have HB := Lib.hid hb; clear hb
    go_wp2
    go_ret
    refine ⟨ret_int ?_, (((Below.refl _ _).alloc (Nat.le_refl _) _).trans (HB.out.mono (by simp)))⟩
    unfold fits
    rw [if_pos HV.out]

theorem long_any (n : Int) (o : Opr) (w : World) (hn : -1000000 ≤ n ∧ n ≤ 1000000) : Calls Tryd.prog 40 #[.int .i64 n, o.val] w fun e w' => e = .returned (.int .i64 (n + grown o)) ∧ Below w.heap.size w w' := by
  obtain ⟨h1, h2⟩ := hn
  go_enter Tryd.func40, Tryd.ntmps40
  go_wp2
  all_goals
    go_ret
    refine ⟨ret_int ?_, (Below.refl _ _).alloc (Nat.le_refl _) _⟩
    unfold grown
    simp_all
    try omega

theorem longer_any (o : Opr) (w : World) : Calls Tryd.prog 33 #[o.val] w fun e w' => e = .returned (.int .i64 (grown o)) ∧ Below w.heap.size w w' := by
  go_enter Tryd.func33, Tryd.ntmps33
  go_wp2
  all_goals
    go_ret
    refine ⟨ret_int ?_, (Below.refl _ _).alloc (Nat.le_refl _) _⟩
    unfold grown
    simp_all

def actsB (o : Opr) : Bool := o.kind == 1 || o.kind == 2
theorem acts_any (o : Opr) (w : World) : Calls Tryd.prog 61 #[o.val] w fun e w' => e = .returned (.bool (actsB o)) ∧ Below w.heap.size w w' := by
  go_enter Tryd.func61, Tryd.ntmps61
  go_wp2
  all_goals
    go_ret
    refine ⟨ret_bool ?_, (Below.refl _ _).alloc (Nat.le_refl _) _⟩
    unfold actsB
    simp_all

def aheadB (b a : Opr) (f : Bool) : Bool := if b.pos ≠ a.pos then decide (b.pos < a.pos) else if b.kind = 1 ∧ a.kind = 1 then !f else (b.kind == 1 && a.kind == 2)
theorem ahead_any (b a : Opr) (f : Bool) (w : World) : Calls Tryd.prog 62 #[b.val, a.val, .bool f] w fun e w' => e = .returned (.bool (aheadB b a f)) ∧ Below w.heap.size w w' := by
  go_enter Tryd.func62, Tryd.ntmps62
  go_wp2
  all_goals
    go_ret
    refine ⟨ret_bool ?_, ((Below.refl _ _).new _).new _⟩
    unfold aheadB
    simp_all
    try omega

theorem shift_idle {a b : Opr} {f : Bool} (h : actsB a = false ∨ actsB b = false) : shift a b f = a := by
  have : ruleOf a.kind b.kind = stays := by
    unfold ruleOf
    unfold actsB at h
    simp at h
    rw [if_neg (by omega), if_neg (by omega), if_neg (by omega), if_neg (by omega)]
  simp [shift, this, stays]
theorem shift_both {a b : Opr} {f : Bool} (ha : actsB a = true) (hb : actsB b = true) :
    shift a b f = if a.kind = 2 ∧ b.kind = 2 ∧ a.pos = b.pos then ⟨0, 0, 0, a.client, a.seq⟩ else if aheadB b a f = true then (if b.kind = 1 then { a with pos := wrap64 (a.pos + 1) } else { a with pos := wrap64 (a.pos - 1) }) else a := by
  unfold actsB at ha hb
  simp at ha hb
  obtain ⟨ka, pa, ca, la, sa⟩ := a
  obtain ⟨kb, pb, cb, lb, sb⟩ := b
  simp only at ha hb
  rcases ha with rfl | rfl <;> rcases hb with rfl | rfl <;> simp [shift, ruleOf, aheadB]
  · simp only [insIns]; cases f <;> (try simp) <;> (repeat' split) <;> simp_all <;> omega
  · simp only [insDel]; cases f <;> (try simp) <;> (repeat' split) <;> simp_all <;> omega
  · simp only [delIns]; cases f <;> (try simp) <;> (repeat' split) <;> simp_all <;> omega
  · simp only [delDel]
    by_cases h1 : pb < pa
    · have h2 : ¬ pa = pb := by omega
      simp [h1, h2]; omega
    · by_cases h2 : pa = pb
      · subst h2; simp
      · have h3 : ¬ pb = pa := by omega
        simp [h1, h2, h3]
end Go.Proofs.YtjeidklpomekdaaDoor

/- Slices of the call's own: what they hold as a list of Lean values; append and make in that form. No Go function stands here. -/
namespace Go.Proofs.YtjeidklpomekdaaDoor
open Go.RowKit

/-- The slice value v holds just the list xs in memory of the call's own, from block 'base' on. -/
def SlO {α : Type} (w : World) (base : Nat) (E : TypeId) (enc : α → List Value) (k : Nat) (v : Value) (xs : List α) : Prop :=
  w.ownsRow base E k v xs.length (xs.flatMap enc)

/-- An element type's row of the table. -/
structure ElemTy (P : Program) (t e : TypeId) (size bytes : Nat) : Prop where
  ht : P.underlying t = some (.slice e)
  hi : ∃ i z, P.info? e = some i ∧ i.zero = some z ∧ i.size = size ∧ i.bytes = bytes ∧ z.cells.size = size
  pos : 0 < size

theorem ElemTy.of {P : Program} {t e : TypeId} {size bytes : Nat} {z : Value} (ht : P.underlying t = some (.slice e)) (h : (P.info? e).map (fun i => (i.zero, i.size, i.bytes)) = some (some z, size, bytes)) (hz : z.cells.size = size) (hp : 0 < size) : ElemTy P t e size bytes := by
  obtain ⟨i, hi, h1⟩ := Option.map_eq_some_iff.1 h
  simp only [Prod.mk.injEq] at h1
  exact ⟨ht, ⟨i, z, hi, h1.1, h1.2.1, h1.2.2, hz⟩, hp⟩

section
variable {α : Type} {w w' : World} {base k : Nat} {E : TypeId} {enc : α → List Value} {v : Value} {xs : List α}

theorem flat_length (hk : ∀ x, (enc x).length = k) (l : List α) : (l.flatMap enc).length = l.length * k := by
  induction l with
  | nil => simp
  | cons x l ih => simp [List.flatMap_cons, hk, ih, Nat.add_mul]; omega

theorem flat_get (hk : ∀ x, (enc x).length = k) : ∀ (l : List α) (i j : Nat) (h : i < l.length) (u : Value), (enc l[i])[j]? = some u → (l.flatMap enc)[i * k + j]? = some u := by
  intro l
  induction l with
  | nil => intro i j h; simp at h
  | cons x l ih =>
    intro i j h u hu
    rw [List.flatMap_cons]
    cases i with
    | zero =>
      simp at hu ⊢
      have hj : j < (enc x).length := (List.getElem?_eq_some_iff.1 hu).1
      rw [List.getElem?_append_left hj]; exact hu
    | succ i =>
      rw [List.getElem?_append_right (by rw [hk]; simp only [Nat.add_mul, Nat.one_mul]; omega)]
      have := ih i j (by simpa using h) u (by simpa using hu)
      rw [hk, show (i + 1) * k + j - k = i * k + j by simp only [Nat.add_mul, Nat.one_mul]; omega]
      exact this

theorem SlO.kept {row : Option Nat} (h : SlO w base E enc k v xs) (hg : w.grownBy w' row) (hne : v.ownBlock = none ∨ v.ownBlock ≠ row) : SlO w' base E enc k v xs :=
  World.ownsRow.kept h hg hne

theorem ownsRow_block {w w' : World} {base : Nat} {e : TypeId} {size : Nat} {v : Value} {n : Nat} {xs : List Value} (h : w.ownsRow base e size v n xs) (hb : ∀ g, v.ownBlock = some g → w'.heap[g]? = w.heap[g]?) : w'.ownsRow base e size v n xs := by
  refine ⟨h.1, ?_⟩
  rcases h.2 with hn | ⟨g, cap, cur, rfl, hb', hgg, rest⟩
  · exact .inl hn
  · exact .inr ⟨g, cap, cur, rfl, hb', by rw [hb g rfl]; exact hgg, rest⟩

/-- What the slice's own block holds decides. -/
theorem SlO.block (h : SlO w base E enc k v xs) (hb : ∀ g, v.ownBlock = some g → w'.heap[g]? = w.heap[g]?) : SlO w' base E enc k v xs := ownsRow_block h hb

theorem SlO.lt (h : SlO w base E enc k v xs) : ∀ g, v.ownBlock = some g → base ≤ g ∧ g < w.heap.size := World.ownsRow.lt h

theorem SlO.below (h : SlO w base E enc k v xs) (hb : Below w.heap.size w w') : SlO w' base E enc k v xs :=
  h.block fun g hg => hb.block g (h.lt g hg).2

theorem SlO.mod {L : List Nat} (h : SlO w base E enc k v xs) (hm : Mod L w w') (hL : ∀ g, v.ownBlock = some g → g ∉ L) : SlO w' base E enc k v xs :=
  h.block fun g hg => hm.block g (h.lt g hg).2 (hL g hg)

theorem SlO.rebase {base' : Nat} (h : SlO w base E enc k v xs) (hb : ∀ g, v.ownBlock = some g → base' ≤ g) : SlO w base' E enc k v xs := by
  refine ⟨h.1, ?_⟩
  rcases h.2 with hn | ⟨g, cap, cur, rfl, hb', rest⟩
  · exact .inl hn
  · exact .inr ⟨g, cap, cur, rfl, hb g rfl, rest⟩

/-- The form of the value. -/
theorem SlO.form (h : SlO w base E enc k v xs) : (v = .slice none 0 0 ∧ xs = []) ∨ ∃ g cap, v = .slice (some ⟨g, 0, none⟩) xs.length cap ∧ base ≤ g ∧ g < w.heap.size ∧ xs.length ≤ cap ∧ cap ≤ maxLen := by
  rcases h.2 with ⟨rfl, hn⟩ | ⟨g, cap, cur, rfl, hb', hgg, hl, hc, rest⟩
  · exact .inl ⟨rfl, List.length_eq_zero_iff.1 hn⟩
  · exact .inr ⟨g, cap, rfl, hb', (Array.getElem?_eq_some_iff.1 hgg).1, hl, hc⟩

theorem SlO.cell (h : SlO w base E enc k v xs) (hk : ∀ x, (enc x).length = k) {g : Nat} (hg : v.ownBlock = some g) (i j : Nat) (hi : i < xs.length) (u : Value) (hu : (enc xs[i])[j]? = some u) : w.cell? ⟨g, i * k + j, none⟩ = some u := by
  have := World.ownsRow.cells h hg (i * k + j) u (flat_get hk xs i j hi u hu)
  unfold Addr.add at this
  split at this
  · rename_i h0; rw [h0]; exact this
  · simpa using this

theorem SlO.reads (h : SlO w base E enc k v xs) (hk : ∀ x, (enc x).length = k) : SlR w enc k v xs := by
  rcases h.form with ⟨rfl, rfl⟩ | ⟨g, cap, rfl, hb, hg, hl, hc⟩
  · exact ⟨none, 0, rfl, by simp, ⟨by simp, fun _ => rfl⟩, fun i hi => by simp at hi⟩
  · refine ⟨some ⟨g, 0, none⟩, cap, rfl, by unfold maxLen at hc; omega, ⟨hl, fun h => (by cases h)⟩, fun i hi => ⟨g, 0, rfl, fun j u hu => ?_⟩⟩
    rw [Nat.zero_add]
    exact h.cell hk rfl i j hi u hu

theorem SlR.mod {L : List Nat} {v : Value} (h : SlR w enc k v xs) (hm : Mod L w w') (hL : ∀ b, v.ownBlock = some b → b ∉ L) : SlR w' enc k v xs := by
  obtain ⟨a, c, rfl, hl, hn, hc⟩ := h
  refine ⟨a, c, rfl, hl, hn, fun i hi => ?_⟩
  obtain ⟨b, off, rfl, hj⟩ := hc i hi
  refine ⟨b, off, rfl, fun j u hu => ?_⟩
  have := hj j u hu
  rw [World.cell?_of_block (w := w) (hm.block b (World.block_lt_of_cell? _ _ this) (hL b rfl))]; exact this
/-- What was there when the call began is read still, where only newer blocks were turned. -/
theorem SlR.modNew {w0 : World} {L : List Nat} {v : Value} (h0 : SlR w0 enc k v xs) (h : SlR w enc k v xs) (hm : Mod L w w') (hL : ∀ g ∈ L, w0.heap.size ≤ g) : SlR w' enc k v xs := by
  obtain ⟨a0, c0, hv0, _, _, hc0⟩ := h0
  obtain ⟨a, c, rfl, hl, hn, hc⟩ := h
  cases hv0
  refine ⟨_, _, rfl, hl, hn, fun i hi => ?_⟩
  obtain ⟨b0, off0, hb0, hj0⟩ := hc0 i hi
  obtain ⟨b, off, hb, hj⟩ := hc i hi
  refine ⟨b, off, hb, fun j u hu => ?_⟩
  obtain ⟨rfl, rfl⟩ : b = b0 ∧ off = off0 := by rw [hb] at hb0; cases hb0; exact ⟨rfl, rfl⟩
  have hlt := World.block_lt_of_cell? _ _ (hj0 j u hu)
  have := hj j u hu
  rw [World.cell?_of_block (w := w) (hm.block b (World.block_lt_of_cell? _ _ this) (fun hq => by have := hL b hq; simp at hlt; omega))]; exact this
/-- 's[:n]'. -/
theorem SlR.take {a : Option Addr} {m cap : Nat} (h : SlR w enc k (.slice a m cap) xs) (n : Nat) (hn : n ≤ xs.length) : SlR w enc k (.slice a n cap) (xs.take n) := by
  obtain ⟨a', c, hv, hl, hcn, hc⟩ := h
  cases hv
  have e : (xs.take n).length = n := by rw [List.length_take]; omega
  refine ⟨_, _, by rw [e], by omega, ⟨by have := hcn.1; omega, hcn.2⟩, fun i hi => ?_⟩
  rw [e] at hi
  obtain ⟨b, off, hb, hj⟩ := hc i (by omega)
  exact ⟨b, off, hb, fun j u hu => hj j u (by simpa using hu)⟩
/-- 's[n:]' at the very end. -/
theorem SlR.dropEnd {a : Option Addr} {m cap n : Nat} (h : SlR w enc k (.slice a m cap) xs) (hn : xs.length = n) (ad : Addr) (c : Nat) : SlR w enc k (.slice (some ad) 0 c) (xs.drop n) := by
  rw [List.drop_of_length_le (by omega)]
  exact ⟨some ad, c, rfl, by simp, ⟨by simp, fun h => (by cases h)⟩, fun i hi => by simp at hi⟩
/-- 's[n:]'. -/
theorem SlR.drop {b off cap : Nat} (h : SlR w enc k (.slice (some ⟨b, off, none⟩) xs.length cap) xs) (n : Nat) (hn : n ≤ xs.length) : SlR w enc k (.slice (some ⟨b, off + n * k, none⟩) (xs.length - n) (cap - n)) (xs.drop n) := by
  obtain ⟨a, c, hv, hl, hnil, hc⟩ := h
  cases hv
  refine ⟨_, _, by rw [List.length_drop], by rw [List.length_drop]; omega, ⟨by rw [List.length_drop]; omega, fun h => (by cases h)⟩, fun i hi => ⟨b, off + n * k, rfl, fun j u hu => ?_⟩⟩
  rw [List.length_drop] at hi
  obtain ⟨b', off', hb, hj⟩ := hc (n + i) (by omega)
  cases hb
  have := hj j u (by simpa using hu)
  rw [show off + n * k + i * k + j = off + (n + i) * k + j by rw [Nat.add_mul]; omega]
  exact this
theorem SlR.dropPast {a : Option Addr} {m cap n : Nat} (h : SlR w enc k (.slice a m cap) xs) (hn : xs.length ≤ n) (ad : Addr) (c : Nat) : SlR w enc k (.slice (some ad) (xs.length - n) c) (xs.drop n) := by
  rw [List.drop_of_length_le hn, show xs.length - n = 0 by omega]
  exact ⟨some ad, c, rfl, by simp, ⟨by simp, fun h => (by cases h)⟩, fun i hi => by simp at hi⟩
theorem SlR.dropAdd {ad : Addr} {m cap : Nat} (h : SlR w enc k (.slice (some ad) m cap) xs) (n : Nat) (hn : n ≤ xs.length) : SlR w enc k (.slice (some (ad.add (n * k))) (xs.length - n) (cap - n)) (xs.drop n) := by
  by_cases he : xs.length = n
  · rw [he, Nat.sub_self]; exact h.dropEnd he _ _
  · have h' := h
    obtain ⟨a, c, hv, hl, hnil, hc⟩ := h
    obtain ⟨b, off, hb, hj⟩ := hc n (by omega)
    cases hv
    cases hb
    have e : (⟨b, off, none⟩ : Addr).add (n * k) = ⟨b, off + n * k, none⟩ := by unfold Addr.add; split <;> simp_all
    rw [e]
    exact h'.drop n hn
theorem SlR.empty (w : World) (enc : α → List Value) (k : Nat) (ad : Addr) (c : Nat) : SlR w enc k (.slice (some ad) 0 c) ([] : List α) :=
  ⟨some ad, c, rfl, by simp, ⟨by simp, fun h => (by cases h)⟩, fun i hi => by simp at hi⟩
theorem SlR.nil (w : World) (enc : α → List Value) (k : Nat) : SlR w enc k (.slice none 0 0) ([] : List α) :=
  ⟨_, 0, rfl, by simp, ⟨by simp, fun _ => rfl⟩, fun i hi => by simp at hi⟩

theorem SlO.nil (w : World) (base : Nat) (E : TypeId) (enc : α → List Value) (k : Nat) : SlO w base E enc k (.slice none 0 0) ([] : List α) := World.ownsRow_nil w base E k
end

section
variable {α : Type} {w : World} {base k : Nat} {E : TypeId} {enc : α → List Value} {xs : List α}

theorem made_flat (z : Array Value) (z0 : α) (hz : z.toList = enc z0) (hk : ∀ x, (enc x).length = k) (hp : 0 < k) (n : Nat) : (madeCells z (n * k)).toList = (List.replicate n z0).flatMap enc := by
  have hzs : z.size = k := by rw [← hk z0, ← hz]; simp
  apply List.ext_getElem?
  intro p
  by_cases h : p < n * k
  · have hi : p / k < n := (Nat.div_lt_iff_lt_mul hp).2 h
    have hm : p % k < k := Nat.mod_lt _ hp
    have hu : (enc z0)[p % k]? = some ((enc z0)[p % k]'(by rw [hk]; exact hm)) := List.getElem?_eq_getElem _
    have := flat_get hk (List.replicate n z0) (p / k) (p % k) (by simpa using hi) _ (by rw [List.getElem_replicate]; exact hu)
    rw [show p / k * k + p % k = p by rw [Nat.mul_comm]; exact Nat.div_add_mod p k] at this
    rw [this, ← hu, ← hz]
    have hm' : p % z.size < z.size := by rw [hzs]; exact hm
    simp [madeCells, h, hzs]
    rw [getElem!_pos z (p % k) (by rw [hzs]; exact hm)]
    simp [hzs, hm]
  · rw [List.getElem?_eq_none (by simp [madeCells]; omega), List.getElem?_eq_none (by rw [flat_length hk]; simp; omega)]

theorem flat_set (hk : ∀ x, (enc x).length = k) : ∀ (l : List α) (i : Nat) (h : i < l.length) (y : α), (l.set i y).flatMap enc = (l.flatMap enc).take (i * k) ++ enc y ++ (l.flatMap enc).drop (i * k + k) := by
  intro l
  induction l with
  | nil => intro i h; simp at h
  | cons x l ih =>
    intro i h y
    cases i with
    | zero =>
      simp only [List.set_cons_zero, List.flatMap_cons, Nat.zero_mul, List.take_zero, List.nil_append, Nat.zero_add]
      rw [show k = (enc x).length from (hk x).symm, List.drop_left]
    | succ i =>
      simp only [List.set_cons_succ, List.flatMap_cons]
      rw [ih i (by simpa using h) y]
      have e1 : (i + 1) * k = (enc x).length + i * k := by rw [hk, Nat.add_mul, Nat.one_mul, Nat.add_comm]
      rw [e1, List.take_length_add_append, Nat.add_assoc, List.drop_length_add_append]
      simp

/-- One element of a slice of the call's own is written over. -/
theorem SlO.row {g n cap : Nat} (h : SlO w base E enc k (.slice (some ⟨g, 0, none⟩) n cap) xs) : ∃ cur, w.heap[g]? = some (.cells cur E (0, 0)) ∧ cur.size = cap * k ∧ cur.toList.take (xs.length * k) = xs.flatMap enc ∧ xs.length ≤ cap ∧ cap ≤ maxLen ∧ base ≤ g ∧ n = xs.length := by
  rcases h.2 with ⟨hv, _⟩ | ⟨g', cap', cur, hv, hb, hg, hl, hc, hs, ht⟩
  · cases hv
  · cases hv
    exact ⟨cur, hg, hs, ht, hl, hc, hb, rfl⟩
theorem SlO.set {g n cap : Nat} (hk : ∀ x, (enc x).length = k) (h : SlO w base E enc k (.slice (some ⟨g, 0, none⟩) n cap) xs) (i : Nat) (hi : i < xs.length) (y : α) {w' : World} {cur' : Array Value}
    (hg : w'.heap[g]? = some (.cells cur' E (0, 0))) (hc : ∀ cur, w.heap[g]? = some (.cells cur E (0, 0)) → cur'.toList = cur.toList.take (i * k) ++ enc y ++ cur.toList.drop (i * k + k)) :
    SlO w' base E enc k (.slice (some ⟨g, 0, none⟩) n cap) (xs.set i y) := by
  obtain ⟨cur, h1, h2, h3, h4, h5, h6, rfl⟩ := h.row
  have hc' := hc cur h1
  have hik : i * k + k ≤ xs.length * k := by rw [← Nat.succ_mul]; exact Nat.mul_le_mul_right _ hi
  have hxk : xs.length * k ≤ cap * k := Nat.mul_le_mul_right _ h4
  have hcl : cur.toList.length = cap * k := by simpa using h2
  have m1 : min (i * k) (cap * k) = i * k := Nat.min_eq_left (by omega)
  have m2 : min (xs.length * k) (cap * k) = xs.length * k := Nat.min_eq_left hxk
  have m3 : min (i * k) (xs.length * k) = i * k := Nat.min_eq_left (by omega)
  refine ⟨by rw [flat_length hk], Or.inr ⟨g, cap, cur', by rw [List.length_set], h6, hg, by rw [List.length_set]; exact h4, h5, ?_, ?_⟩⟩
  · have : cur'.toList.length = cap * k := by
      rw [hc']; simp only [List.length_append, List.length_take, List.length_drop, hk, hcl, m1]; omega
    simpa using this
  · rw [List.length_set, hc', flat_set hk xs i hi y, ← h3]
    apply List.ext_getElem?
    intro p
    simp only [List.getElem?_take, List.getElem?_append, List.length_take, hcl, List.getElem?_drop, hk, List.length_append, m1, m2, m3]
    repeat' split
    all_goals (first | rfl | omega | skip)
end

section
variable {P : Program} {α : Type}

/-- 'make([]T, n)'. -/
theorem wp_maken {t e : TypeId} {size bytes : Nat} (et : ElemTy P t e size bytes) {w : World} {ops : Array Oper} {rest : List Oper} {o : Oper} {a : Act} {Q : Exit → Act → World → Prop} (hgd : o.guard = none) (l c : Operand) (ho : o.op = .makeSlice t l c)
    (enc : α → List Value) (hk : ∀ x, (enc x).length = size) (z : Value) (z0 : α) (hz0 : (P.info? e).map (·.zero) = some (some z)) (hz1 : z.cells.toList = enc z0) (kl kc : IntKind) (L C : Int) (n : Nat) (hl : a.eval l = .int kl L) (hc : a.eval c = .int kc C) (hL : L = (n : Int)) (hC : C = (n : Int)) (hb : bytes * n ≤ 281474976710656) (hn : n ≤ 9223372036854775807)
    (h : ∀ w', SlO w' w.heap.size e enc size (.slice (some ⟨w.heap.size, 0, none⟩) n n) (List.replicate n z0) → Below w.heap.size w w' → w.heap.size < w'.heap.size → wpList P ops Q rest (a.put o.dst (.slice (some ⟨w.heap.size, 0, none⟩) n n)) w') : wpList P ops Q (o :: rest) a w := by
  obtain ⟨i, z', hi, hz, hsz, hby, hzs⟩ := et.hi
  obtain rfl : z' = z := by rw [hi] at hz0; simpa [hz] using hz0
  refine wpList_make_full w hgd l c t ho w.heap.size e i z' size et.ht hi hz hsz kl kc L C n hl hc hL hC (by rw [hby]; exact hb) (by unfold maxLen; omega) (Nat.le_refl _) ?_
  intro w' hown hgr
  rw [made_flat z'.cells z0 hz1 hk et.pos n] at hown
  have hown' : SlO w' w.heap.size e enc size (.slice (some ⟨w.heap.size, 0, none⟩) n n) (List.replicate n z0) := by unfold SlO; rw [List.length_replicate]; exact hown
  exact h w' hown' (Below.of_grown hgr) ((World.ownsRow.lt hown) _ rfl).2


/-- 'append(s, y)': one element behind a slice of the call's own. -/
theorem wp_app {t e : TypeId} {size bytes : Nat} (et : ElemTy P t e size bytes) {w : World} {ops : Array Oper} {rest : List Oper} {o : Oper} {a : Act} {Q : Exit → Act → World → Prop} (hgd : o.guard = none) (s x : Operand)
    (ho : o.op = .call { callee := .builtin .append, args := #[s, x], argTypes := #[t, t] })
    (base : Nat) (enc : α → List Value) (hk : ∀ x, (enc x).length = size) (h1 : ∀ x, ∀ u ∈ enc x, u.oneCell' = true) (v : Value) (xs : List α) (hs : a.eval s = v) (hown : SlO w base e enc size v xs)
    (ad : Addr) (c : Nat) (y : α) (hx : a.eval x = .slice (some ad) 1 c) (hy : ∀ j u, (enc y)[j]? = some u → w.cell? (ad.add j) = some u)
    (hbytes : (xs.length + 1) * bytes ≤ 140737488355328) (h63 : xs.length + 1 ≤ maxLen) (hbase : base ≤ w.heap.size)
    (h : ∀ g cap w', SlO w' base e enc size (.slice (some ⟨g, 0, none⟩) (xs.length + 1) cap) (xs ++ [y]) → w.grownBy w' v.ownBlock → (v.ownBlock = some g ∨ w.heap.size ≤ g) → g < w'.heap.size →
      wpList P ops Q rest (a.put o.dst (.slice (some ⟨g, 0, none⟩) (xs.length + 1) cap)) w') : wpList P ops Q (o :: rest) a w := by
  obtain ⟨i, z, hi, hz, hsz, hby, hzs⟩ := et.hi
  have hn1 : (enc y).length = 1 * size := by rw [hk, Nat.one_mul]
  have hcat : xs.flatMap enc ++ enc y = (xs ++ [y]).flatMap enc := by rw [List.flatMap_append, List.flatMap_singleton]
  have hln : xs.length + 1 = (xs ++ [y]).length := by simp
  have grow : ∀ (ao : Option Addr) (cap : Nat), a.eval s = .slice ao xs.length cap → (ao = none → xs.length = 0 ∧ cap = 0) → (∀ b, ao = some b → ∀ j u, (xs.flatMap enc)[j]? = some u → w.cell? (b.add j) = some u) → cap < xs.length + 1 →
      wpList P ops Q (o :: rest) a w := by
    intro ao cap he hnone holds hfull
    refine wpList_append_grows w hgd s x t ho e i z size bytes et.ht hi hz hsz hby hzs et.pos ao xs.length cap (xs.flatMap enc) he hnone (flat_length hk xs) holds ad 1 c (enc y) hx hn1 hy (h1 y) hfull h63 hbytes ?_
    intro v' w' hown' hgr
    have hgr' : w.grownBy w' v.ownBlock := ⟨hgr.os, hgr.tape, hgr.output, hgr.size, fun k hk _ => hgr.block k hk (by simp)⟩
    have hown2 : w'.ownsRow base e size v' (xs ++ [y]).length ((xs ++ [y]).flatMap enc) := by
      rw [← hcat, ← hln]
      have : SlO w' w.heap.size e enc size v' (xs ++ [y]) := by unfold SlO; rw [← hcat, ← hln]; exact hown'
      have := this.rebase (base' := base) (fun g hg => by have := (this.lt g hg).1; omega)
      unfold SlO at this; rw [← hcat, ← hln] at this; exact this
    rcases hown'.2 with ⟨_, h0⟩ | ⟨g, cap, cur, rfl, hb', hgg, hl, hc, _⟩
    · omega
    · exact h g cap w' hown2 hgr' (Or.inr hb') (Array.getElem?_eq_some_iff.1 hgg).1
  have hown0 := hown
  rcases hown.form with ⟨rfl, rfl⟩ | ⟨g, cap, rfl, hb, hg, hl, hc⟩
  · exact grow none 0 hs (fun _ => ⟨rfl, rfl⟩) (fun b hb => by cases hb) (by simp)
  · by_cases hroom : xs.length + 1 ≤ cap
    · refine wpList_append_fits w hgd s x t ho base e i size et.ht hi hsz g xs.length cap (xs.flatMap enc) hs hown0 ad 1 c (enc y) hx hn1 hy (h1 y) hroom ?_
      intro w' hown' hgr
      have hown2 : SlO w' base e enc size (.slice (some ⟨g, 0, none⟩) (xs.length + 1) cap) (xs ++ [y]) := by unfold SlO; rw [← hcat, ← hln]; exact hown'
      exact h g cap w' hown2 hgr (Or.inl rfl) (Nat.lt_of_lt_of_le hg hgr.size)
    · refine grow (some ⟨g, 0, none⟩) cap hs (fun h => by cases h) ?_ (by omega)
      intro b hb j u hu
      cases hb
      exact World.ownsRow.cells hown0 rfl j u hu

/-- The same behind the block that Go makes for the one element. -/
theorem wp_app1 {t e : TypeId} {size bytes : Nat} (et : ElemTy P t e size bytes) {W : World} {ops : Array Oper} {rest : List Oper} {o : Oper} {a : Act} {Q : Exit → Act → World → Prop} (hgd : o.guard = none) (s x : Operand)
    (ho : o.op = .call { callee := .builtin .append, args := #[s, x], argTypes := #[t, t] })
    (base : Nat) (enc : α → List Value) (hk : ∀ x, (enc x).length = size) (h1 : ∀ x, ∀ u ∈ enc x, u.oneCell' = true) (v : Value) (xs : List α) (hs : a.eval s = v) (hown : SlO W base e enc size v xs)
    (y : α) (cs : Array Value) (hcs : cs.toList = enc y) (hx : a.eval x = .slice (some ⟨W.heap.size, 0, none⟩) 1 1)
    (hbytes : (xs.length + 1) * bytes ≤ 140737488355328) (h63 : xs.length + 1 ≤ 9223372036854775807) (hbase : base ≤ W.heap.size)
    (h : ∀ g cap w', SlO w' base e enc size (.slice (some ⟨g, 0, none⟩) (xs.length + 1) cap) (xs ++ [y]) → Mod v.ownBlock.toList W w' → (v.ownBlock = some g ∨ W.heap.size ≤ g) → g < w'.heap.size →
      wpList P ops Q rest (a.put o.dst (.slice (some ⟨g, 0, none⟩) (xs.length + 1) cap)) w') : wpList P ops Q (o :: rest) a (W.alloc (.cells cs e)) := by
  refine wp_app et hgd s x ho base enc hk h1 v xs hs (hown.below ((Below.refl _ _).alloc (Nat.le_refl _) _)) ⟨W.heap.size, 0, none⟩ 1 y hx ?_ hbytes (by unfold maxLen; omega) (by simp; omega) ?_
  · intro j u hu
    have hc : (W.alloc (.cells cs e)).cell? ⟨W.heap.size, j, none⟩ = cs[j]? := blk_cell (blk_new W (.cells cs e)) j
    have he : (⟨W.heap.size, 0, none⟩ : Addr).add j = ⟨W.heap.size, j, none⟩ := by unfold Addr.add; split <;> simp_all
    rw [he, hc, ← hu, ← hcs]; simp
  · intro g cap w' h2 hgr hg hlt
    refine h g cap w' h2 ?_ ?_ hlt
    · exact (Mod.of_below ((Below.refl _ _).alloc (Nat.le_refl _) _)).trans (Mod.of_grown hgr) (fun k hk => Or.inl hk)
    · rcases hg with hg | hg
      · exact Or.inl hg
      · right; simp at hg; omega

/-- The same at a step of a region that draws its order. -/
theorem step_app1 {t e : TypeId} {size bytes : Nat} (et : ElemTy P t e size bytes) {W : World} {ops : Array Oper} {o : Oper} {a : Act} {K : Act → World → Prop} {Q : Exit → Act → World → Prop} {E : Prop} (hgd : o.guard = none) (s x : Operand)
    (ho : o.op = .call { callee := .builtin .append, args := #[s, x], argTypes := #[t, t] })
    (base : Nat) (enc : α → List Value) (hk : ∀ x, (enc x).length = size) (h1 : ∀ x, ∀ u ∈ enc x, u.oneCell' = true) (v : Value) (xs : List α) (hs : a.eval s = v) (hown : SlO W base e enc size v xs)
    (y : α) (cs : Array Value) (hcs : cs.toList = enc y) (hx : a.eval x = .slice (some ⟨W.heap.size, 0, none⟩) 1 1)
    (hbytes : (xs.length + 1) * bytes ≤ 140737488355328) (h63 : xs.length + 1 ≤ 9223372036854775807) (hbase : base ≤ W.heap.size)
    (h : ∀ g cap w', SlO w' base e enc size (.slice (some ⟨g, 0, none⟩) (xs.length + 1) cap) (xs ++ [y]) → Mod v.ownBlock.toList W w' → (v.ownBlock = some g ∨ W.heap.size ≤ g) → g < w'.heap.size →
      K (a.put o.dst (.slice (some ⟨g, 0, none⟩) (xs.length + 1) cap)) w') : if Region.wanted o (yielded ops a.tmps) = true then Oper.wp P o a (W.alloc (.cells cs e)) K Q else E := by
  obtain ⟨i, z, hi, hz, hsz, hby, hzs⟩ := et.hi
  have hown' := SlO.below hown ((Below.refl W.heap.size W).alloc (Nat.le_refl _) (.cells cs e))
  refine step_append_lies (W.alloc (.cells cs e)) hgd s x t ho base e i z size bytes et.ht hi hz hsz hby hzs et.pos v xs.length (xs.flatMap enc) hs hown' ⟨W.heap.size, 0, none⟩ 1 1 (enc y) hx (by rw [hk, Nat.one_mul]) ?_ (h1 y) (by omega) (by unfold maxLen; omega) hbytes (by simp; omega) _ rfl ?_
  · rw [← hcs]; exact World.news_of_block (blk_new W (.cells cs e))
  · intro g cap w' h2 hgr hg hlt
    have h2' : SlO w' base e enc size (.slice (some ⟨g, 0, none⟩) (xs.length + 1) cap) (xs ++ [y]) := by
      unfold SlO; rw [List.flatMap_append, List.flatMap_singleton, List.length_append]; exact h2
    refine h g cap w' h2' ?_ ?_ hlt
    · exact (Mod.of_below ((Below.refl _ _).alloc (Nat.le_refl _) _)).trans (Mod.of_grown hgr) (fun k hk => Or.inl hk)
    · rcases hg with hg | hg
      · exact Or.inl hg
      · right; simp at hg; omega

/-- 'append(s, ys...)': a list that is read behind a slice of the call's own. -/
theorem wp_app_all {t e : TypeId} {size bytes : Nat} (et : ElemTy P t e size bytes) {w : World} {ops : Array Oper} {rest : List Oper} {o : Oper} {a : Act} {Q : Exit → Act → World → Prop} (hgd : o.guard = none) (s x : Operand)
    (ho : o.op = .call { callee := .builtin .append, args := #[s, x], argTypes := #[t, t] })
    (base : Nat) (enc : α → List Value) (hk : ∀ x, (enc x).length = size) (h1 : ∀ x, ∀ u ∈ enc x, u.oneCell' = true) (v : Value) (xs : List α) (hs : a.eval s = v) (hown : SlO w base e enc size v xs)
    (ys : List α) (vx : Value) (hx : a.eval x = vx) (hy : SlR w enc size vx ys)
    (hbytes : (xs.length + ys.length) * bytes ≤ 140737488355328) (h63 : xs.length + ys.length ≤ maxLen) (hbase : base ≤ w.heap.size)
    (h : ∀ ao cap w', SlO w' base e enc size (.slice ao (xs.length + ys.length) cap) (xs ++ ys) → w.grownBy w' v.ownBlock → ((Value.slice ao (xs.length + ys.length) cap).ownBlock = v.ownBlock ∨ ∃ g, ao = some ⟨g, 0, none⟩ ∧ w.heap.size ≤ g) →
      wpList P ops Q rest (a.put o.dst (.slice ao (xs.length + ys.length) cap)) w') : wpList P ops Q (o :: rest) a w := by
  obtain ⟨i, z, hi, hz, hsz, hby, hzs⟩ := et.hi
  obtain ⟨ax, cx, rfl, hyl, hnil, hyc⟩ := hy
  have hcat : xs.flatMap enc ++ ys.flatMap enc = (xs ++ ys).flatMap enc := by rw [List.flatMap_append]
  have hln : xs.length + ys.length = (xs ++ ys).length := by simp
  have hny : (ys.flatMap enc).length = ys.length * size := flat_length hk ys
  have h1' : ∀ u ∈ ys.flatMap enc, u.oneCell' = true := by
    intro u hu; obtain ⟨y, _, hu⟩ := List.mem_flatMap.1 hu; exact h1 y u hu
  have same : w.grownBy w v.ownBlock := ⟨rfl, rfl, rfl, Nat.le_refl _, fun _ _ _ => rfl⟩
  -- nothing comes
  have none_comes : ys = [] → ax = none → wpList P ops Q (o :: rest) a w := by
    rintro rfl rfl
    obtain rfl := hnil.2 rfl
    refine wpList_append_own_none hgd s x t ho base e i size et.ht hi v xs.length (xs.flatMap enc) hs hown hx ?_
    rcases hown.form with ⟨rfl, rfl⟩ | ⟨g, cap, rfl, hb, hg, hl, hc⟩
    · exact h none 0 w (SlO.nil _ _ _ _ _) same (Or.inl rfl)
    · exact h (some ⟨g, 0, none⟩) cap w (by simpa using hown) same (Or.inl rfl)
  cases hax : ax with
  | none =>
    by_cases hys : ys = []
    · exact none_comes hys hax
    · obtain ⟨b, off, hb, _⟩ := hyc 0 (List.length_pos_iff.2 hys)
      rw [hax] at hb; cases hb
  | some ad =>
    subst hax
    -- the source's cells, in one row
    have hnews : ∀ j u, (ys.flatMap enc)[j]? = some u → w.cell? (ad.add j) = some u := by
      intro j u hu
      have hj : j < ys.length * size := by rw [← hny]; exact (List.getElem?_eq_some_iff.1 hu).1
      have hp := et.pos
      have hi' : j / size < ys.length := (Nat.div_lt_iff_lt_mul hp).2 hj
      obtain ⟨b, off, hb, hcell⟩ := hyc (j / size) hi'
      cases hb
      have hm : j % size < (enc ys[j / size]).length := by rw [hk]; exact Nat.mod_lt _ hp
      have he : (enc ys[j / size])[j % size]? = some ((enc ys[j / size])[j % size]) := List.getElem?_eq_getElem hm
      have hd : j / size * size + j % size = j := by rw [Nat.mul_comm]; exact Nat.div_add_mod j size
      have hf := flat_get hk ys (j / size) (j % size) hi' _ he
      rw [hd, hu] at hf
      have hc := hcell (j % size) _ he
      rw [Nat.add_assoc, hd] at hc
      rw [Option.some.inj hf]
      unfold Addr.add
      split
      · rename_i h0; subst h0; simpa using hc
      · exact hc
    have grow : ∀ (ao : Option Addr) (cap : Nat), a.eval s = .slice ao xs.length cap → (ao = none → xs.length = 0 ∧ cap = 0) → (∀ b, ao = some b → ∀ j u, (xs.flatMap enc)[j]? = some u → w.cell? (b.add j) = some u) → cap < xs.length + ys.length →
        wpList P ops Q (o :: rest) a w := by
      intro ao cap he hnone holds hfull
      refine wpList_append_grows w hgd s x t ho e i z size bytes et.ht hi hz hsz hby hzs et.pos ao xs.length cap (xs.flatMap enc) he hnone (flat_length hk xs) holds ad ys.length cx (ys.flatMap enc) hx hny hnews h1' hfull h63 hbytes ?_
      intro v' w' hown' hgr
      have hgr' : w.grownBy w' v.ownBlock := ⟨hgr.os, hgr.tape, hgr.output, hgr.size, fun k hk _ => hgr.block k hk (by simp)⟩
      have hown2 : SlO w' base e enc size v' (xs ++ ys) := by
        have : SlO w' w.heap.size e enc size v' (xs ++ ys) := by unfold SlO; rw [← hcat, ← hln]; exact hown'
        exact this.rebase (base' := base) (fun g hg => by have := (this.lt g hg).1; omega)
      rcases hown'.2 with ⟨_, h0⟩ | ⟨g, cap', cur, rfl, hb', hgg, hl, hc, _⟩
      · omega
      · exact h (some ⟨g, 0, none⟩) cap' w' hown2 hgr' (Or.inr ⟨g, rfl, hb'⟩)
    have hown0 := hown
    rcases hown.form with ⟨rfl, rfl⟩ | ⟨g, cap, rfl, hb, hg, hl, hc⟩
    · by_cases hys : ys.length = 0
      · obtain rfl := List.length_eq_zero_iff.1 hys
        refine wpList_append_own w hgd s x t ho base e i z size bytes et.ht hi hz hsz hby hzs et.pos (.slice none 0 0) 0 [] hs hown0 ad 0 cx [] hx (by simp) (by intro j u hu; simp at hu) (by simp) (by simp) (by simp) hbase ?_
        intro v' w' hown' hgr hv'
        obtain rfl := hv'.2 ⟨rfl, rfl⟩
        exact h none 0 w' (SlO.nil _ _ _ _ _) hgr (Or.inl rfl)
      · exact grow none 0 hs (fun _ => ⟨rfl, rfl⟩) (fun b hb => by cases hb) (by simp; omega)
    · by_cases hroom : xs.length + ys.length ≤ cap
      · refine wpList_append_fits w hgd s x t ho base e i size et.ht hi hsz g xs.length cap (xs.flatMap enc) hs hown0 ad ys.length cx (ys.flatMap enc) hx hny hnews h1' hroom ?_
        intro w' hown' hgr
        have hown2 : SlO w' base e enc size (.slice (some ⟨g, 0, none⟩) (xs.length + ys.length) cap) (xs ++ ys) := by unfold SlO; rw [← hcat, ← hln]; exact hown'
        exact h (some ⟨g, 0, none⟩) cap w' hown2 hgr (Or.inl rfl)
      · refine grow (some ⟨g, 0, none⟩) cap hs (fun h => by cases h) ?_ (by omega)
        intro b hb j u hu
        cases hb
        exact World.ownsRow.cells hown0 rfl j u hu

theorem wp_app1N {t e : TypeId} {size bytes : Nat} (et : ElemTy P t e size bytes) {W : World} {ops : Array Oper} {rest : List Oper} {o : Oper} {a : Act} {Q : Exit → Act → World → Prop} (N : Nat) (hgd : o.guard = none) (s x : Operand)
    (ho : o.op = .call { callee := .builtin .append, args := #[s, x], argTypes := #[t, t] })
    (base : Nat) (enc : α → List Value) (hk : ∀ x, (enc x).length = size) (h1 : ∀ x, ∀ u ∈ enc x, u.oneCell' = true) (v : Value) (xs : List α) (hs : a.eval s = v) (hown : SlO W base e enc size v xs)
    (y : α) (cs : Array Value) (hcs : cs.toList = enc y) (hx : a.eval x = .slice (some ⟨W.heap.size, 0, none⟩) 1 1) (hN : xs.length + 1 = N)
    (hbytes : N * bytes ≤ 140737488355328) (h63 : N ≤ 9223372036854775807) (hbase : base ≤ W.heap.size)
    (h : ∀ g cap w', SlO w' base e enc size (.slice (some ⟨g, 0, none⟩) N cap) (xs ++ [y]) → Mod v.ownBlock.toList W w' → (v.ownBlock = some g ∨ W.heap.size ≤ g) → g < w'.heap.size →
      wpList P ops Q rest (a.put o.dst (.slice (some ⟨g, 0, none⟩) N cap)) w') : wpList P ops Q (o :: rest) a (W.alloc (.cells cs e)) := by
  subst hN
  exact wp_app1 et hgd s x ho base enc hk h1 v xs hs hown y cs hcs hx hbytes h63 hbase h

/-- 'append(s, ys...)', the new length under a name. -/
theorem wp_app_allN {t e : TypeId} {size bytes : Nat} (et : ElemTy P t e size bytes) {w : World} {ops : Array Oper} {rest : List Oper} {o : Oper} {a : Act} {Q : Exit → Act → World → Prop} (N : Nat) (hgd : o.guard = none) (s x : Operand)
    (ho : o.op = .call { callee := .builtin .append, args := #[s, x], argTypes := #[t, t] })
    (base : Nat) (enc : α → List Value) (hk : ∀ x, (enc x).length = size) (h1 : ∀ x, ∀ u ∈ enc x, u.oneCell' = true) (v : Value) (xs : List α) (hs : a.eval s = v) (hown : SlO w base e enc size v xs)
    (ys : List α) (vx : Value) (hx : a.eval x = vx) (hy : SlR w enc size vx ys) (hN : xs.length + ys.length = N)
    (hbytes : N * bytes ≤ 140737488355328) (h63 : N ≤ 9223372036854775807) (hbase : base ≤ w.heap.size)
    (h : ∀ ao cap w', SlO w' base e enc size (.slice ao N cap) (xs ++ ys) → Mod v.ownBlock.toList w w' → (∀ g, (Value.slice ao N cap).ownBlock = some g → v.ownBlock = some g ∨ w.heap.size ≤ g) → (v.ownBlock ≠ none → ∃ g, ao = some ⟨g, 0, none⟩) →
      wpList P ops Q rest (a.put o.dst (.slice ao N cap)) w') : wpList P ops Q (o :: rest) a w := by
  subst hN
  refine wp_app_all et hgd s x ho base enc hk h1 v xs hs hown ys vx hx hy hbytes (by unfold maxLen; omega) hbase ?_
  intro ao cap w' h2 hg hb
  refine h ao cap w' h2 (Mod.of_grown hg) (fun g hgo => ?_) (fun hv => ?_)
  · rcases hb with hb | ⟨g', rfl, hge⟩
    · left; rw [← hb]; exact hgo
    · right; cases hgo; exact hge
  · rcases hb with hb | ⟨g', rfl, hge⟩
    · rcases SlO.form h2 with ⟨e, _⟩ | ⟨g, c, e, _⟩
      · exfalso; apply hv; rw [← hb, e]; rfl
      · injection e with e1 _ _; exact ⟨g, e1⟩
    · exact ⟨g', rfl⟩

/-- 'append([]T{}, ys...)': a list that is read, in new memory. -/
theorem wp_app_new {t e : TypeId} {size bytes : Nat} (et : ElemTy P t e size bytes) {W : World} {ops : Array Oper} {rest : List Oper} {o : Oper} {a : Act} {Q : Exit → Act → World → Prop} (hgd : o.guard = none) (s x : Operand)
    (ho : o.op = .call { callee := .builtin .append, args := #[s, x], argTypes := #[t, t] })
    (enc : α → List Value) (hk : ∀ x, (enc x).length = size) (h1 : ∀ x, ∀ u ∈ enc x, u.oneCell' = true) (hs : a.eval s = .slice (some ⟨W.heap.size, 0, none⟩) 0 0)
    (ys : List α) (vx : Value) (hx : a.eval x = vx) (hy : SlR W enc size vx ys)
    (hbytes : ys.length * bytes ≤ 140737488355328) (h63 : ys.length ≤ 9223372036854775807)
    (h : ∀ b cap w', SlO w' W.heap.size e enc size (.slice (some ⟨b, 0, none⟩) ys.length cap) ys → Below W.heap.size W w' → W.heap.size ≤ b → wpList P ops Q rest (a.put o.dst (.slice (some ⟨b, 0, none⟩) ys.length cap)) w') : wpList P ops Q (o :: rest) a (W.alloc (.cells #[] e)) := by
  have hown : SlO (W.alloc (.cells #[] e)) W.heap.size e enc size (.slice (some ⟨W.heap.size, 0, none⟩) 0 0) ([] : List α) := World.ownsRow_made W #[] 0 (Nat.le_refl _) (Nat.zero_le _) (by simp)
  refine wp_app_all et hgd s x ho W.heap.size enc hk h1 _ [] hs hown ys vx hx (hy.below ((Below.refl _ _).alloc (Nat.le_refl _) _)) (by simpa using hbytes) (by unfold maxLen; simp; omega) (by simp) ?_
  intro ao cap w' hown' hgr hblk
  have hz : ([] : List α).length + ys.length = ys.length := by simp
  rw [hz] at hown' hblk ⊢
  rw [List.nil_append] at hown'
  have hb : Below W.heap.size W w' := ((Below.refl _ _).new _).trans ⟨hgr.os, hgr.tape, hgr.output, hgr.size, fun k hk => hgr.block k (by simp; omega) (by simp [Value.ownBlock]; omega)⟩
  rcases hblk with hblk | ⟨g, rfl, hg⟩
  · cases ao with
    | none => simp [Value.ownBlock] at hblk
    | some ad =>
      rcases hown'.2 with ⟨h0, _⟩ | ⟨g, cap', cur, hv, hb', _⟩
      · cases h0
      · cases hv
        exact h g cap w' hown' hb hb'
  · exact h g cap w' hown' hb (by simp at hg; omega)

/-- 'make([]T, 0, n)'. -/
theorem wp_make0 {t e : TypeId} {size bytes : Nat} (et : ElemTy P t e size bytes) {w : World} {ops : Array Oper} {rest : List Oper} {o : Oper} {a : Act} {Q : Exit → Act → World → Prop} (hgd : o.guard = none) (l c : Operand) (ho : o.op = .makeSlice t l c)
    (enc : α → List Value) (kl kc : IntKind) (C : Int) (n : Nat) (hl : a.eval l = .int kl 0) (hc : a.eval c = .int kc C) (hC : C = (n : Int)) (hb : bytes * n ≤ 281474976710656) (hn : n ≤ maxLen)
    (h : ∀ w', SlO w' w.heap.size e enc size (.slice (some ⟨w.heap.size, 0, none⟩) 0 n) ([] : List α) → w.grownBy w' none → w.heap.size < w'.heap.size → wpList P ops Q rest (a.put o.dst (.slice (some ⟨w.heap.size, 0, none⟩) 0 n)) w') : wpList P ops Q (o :: rest) a w := by
  obtain ⟨i, z, hi, hz, hsz, hby, hzs⟩ := et.hi
  refine wpList_make_own w hgd l c t ho w.heap.size e i z size et.ht hi hz hsz kl kc C n hl hc hC (by rw [hby]; exact hb) hn (Nat.le_refl _) ?_
  intro w' hown hgr
  exact h w' hown hgr ((World.ownsRow.lt hown) _ rfl).2
end
end Go.Proofs.YtjeidklpomekdaaDoor

/- The element types' rows, and the encodings' lengths. -/
namespace Go.Proofs.YtjeidklpomekdaaDoor
open Go.RowKit
theorem et_op : ElemTy Tryd.prog 24 46 5 40 := .of (z := (⟨0, 0, 0, 0, 0⟩ : Opr).val) (by kernel_rfl) (by kernel_rfl) rfl (by decide)
theorem et_edit : ElemTy Tryd.prog 22 48 6 48 := .of (z := (⟨0, ⟨0, 0, 0, 0, 0⟩⟩ : Edt).val) (by kernel_rfl) (by kernel_rfl) rfl (by decide)
theorem et_elem : ElemTy Tryd.prog 25 50 3 24 := .of (z := (⟨0, 0, 0⟩ : Elm).val) (by kernel_rfl) (by kernel_rfl) rfl (by decide)
theorem et_mark : ElemTy Tryd.prog 101 113 6 48 := .of (z := (⟨0, ⟨0, 0, 0, 0, 0⟩⟩ : Mrk).val) (by kernel_rfl) (by kernel_rfl) rfl (by decide)
theorem et_int : ElemTy Tryd.prog 54 3 1 8 := .of (z := .int .i64 0) (by kernel_rfl) (by kernel_rfl) rfl (by decide)
theorem len_op (o : Opr) : o.cells.length = 5 := rfl
theorem len_edit (o : Edt) : o.cells.length = 6 := rfl
theorem len_elem (o : Elm) : o.cells.length = 3 := rfl
theorem len_mark (o : Mrk) : o.cells.length = 6 := rfl
theorem one_op (o : Opr) : ∀ u ∈ o.cells, u.oneCell' = true := by intro u hu; simp at hu; rcases hu with rfl | rfl | rfl | rfl | rfl <;> rfl
theorem one_edit (o : Edt) : ∀ u ∈ o.cells, u.oneCell' = true := by intro u hu; simp at hu; rcases hu with rfl | rfl | rfl | rfl | rfl | rfl <;> rfl
theorem one_elem (o : Elm) : ∀ u ∈ o.cells, u.oneCell' = true := by intro u hu; simp at hu; rcases hu with rfl | rfl | rfl <;> rfl
theorem one_mark (o : Mrk) : ∀ u ∈ o.cells, u.oneCell' = true := by intro u hu; simp at hu; rcases hu with rfl | rfl | rfl | rfl | rfl | rfl <;> rfl
abbrev icell (i : Int) : List Value := [.int .i64 i]
theorem len_int (o : Int) : (icell o).length = 1 := rfl
theorem one_int (o : Int) : ∀ u ∈ icell o, u.oneCell' = true := by intro u hu; simp at hu; subst hu; rfl
/-- The five cells of one operation in a slice of the call's own. -/
theorem SlO.op {w : World} {base : Nat} {E : TypeId} {g n cap : Nat} {xs : List Opr} (h : SlO w base E Opr.cells 5 (.slice (some ⟨g, 0, none⟩) n cap) xs) (i : Nat) (hi : i < xs.length) :
    w.cell? ⟨g, i * 5, none⟩ = some (.int .i64 xs[i].kind) ∧ w.cell? ⟨g, i * 5 + 1, none⟩ = some (.int .i64 xs[i].pos) ∧ w.cell? ⟨g, i * 5 + 2, none⟩ = some (.int .u8 xs[i].ch) ∧ w.cell? ⟨g, i * 5 + 3, none⟩ = some (.int .i64 xs[i].client) ∧ w.cell? ⟨g, i * 5 + 4, none⟩ = some (.int .i64 xs[i].seq) :=
  ⟨h.cell len_op rfl i 0 hi _ rfl, h.cell len_op rfl i 1 hi _ rfl, h.cell len_op rfl i 2 hi _ rfl, h.cell len_op rfl i 3 hi _ rfl, h.cell len_op rfl i 4 hi _ rfl⟩
/-- The slice's operation i is written over, cell by cell. -/
theorem SlO.setOp {w : World} {base : Nat} {E : TypeId} {g n cap : Nat} {xs : List Opr} (h : SlO w base E Opr.cells 5 (.slice (some ⟨g, 0, none⟩) n cap) xs) (i : Nat) (hi : i < xs.length) (y : Opr) :
    SlO (((((w.setCell ⟨g, i * 5, none⟩ (.int .i64 y.kind)).setCell ⟨g, i * 5 + 1, none⟩ (.int .i64 y.pos)).setCell ⟨g, i * 5 + 2, none⟩ (.int .u8 y.ch)).setCell ⟨g, i * 5 + 3, none⟩ (.int .i64 y.client)).setCell ⟨g, i * 5 + 4, none⟩ (.int .i64 y.seq)) base E Opr.cells 5 (.slice (some ⟨g, 0, none⟩) n cap) (xs.set i y) := by
  obtain ⟨cur, hg, hs, _, hl, _, _, rfl⟩ := h.row
  have hik : i * 5 + 5 ≤ cur.size := by rw [hs]; omega
  obtain ⟨cs', h1, h2⟩ := set5_at hg (i * 5) hik (.int .i64 y.kind) (.int .i64 y.pos) (.int .u8 y.ch) (.int .i64 y.client) (.int .i64 y.seq)
  exact h.set len_op i hi y h1 (fun cur' hc => by rw [hg] at hc; cases hc; exact h2)
/-- Of element i of a queue the operation alone is written over. -/
theorem SlO.setMarkOp {w : World} {base : Nat} {E : TypeId} {g n cap : Nat} {xs : List Mrk} (h : SlO w base E Mrk.cells 6 (.slice (some ⟨g, 0, none⟩) n cap) xs) (i : Nat) (hi : i < xs.length) (y : Opr) :
    SlO (((((w.setCell ⟨g, i * 6 + 1, none⟩ (.int .i64 y.kind)).setCell ⟨g, i * 6 + 2, none⟩ (.int .i64 y.pos)).setCell ⟨g, i * 6 + 3, none⟩ (.int .u8 y.ch)).setCell ⟨g, i * 6 + 4, none⟩ (.int .i64 y.client)).setCell ⟨g, i * 6 + 5, none⟩ (.int .i64 y.seq)) base E Mrk.cells 6 (.slice (some ⟨g, 0, none⟩) n cap) (xs.set i ⟨xs[i].mark, y⟩) := by
  have hm := h.cell len_mark rfl i 0 hi _ rfl
  obtain ⟨cur, hg, hs, _, hl, _, _, rfl⟩ := h.row
  have hik : i * 6 + 1 + 5 ≤ cur.size := by rw [hs]; omega
  obtain ⟨cs', h1, h2⟩ := set5_at hg (i * 6 + 1) hik (.int .i64 y.kind) (.int .i64 y.pos) (.int .u8 y.ch) (.int .i64 y.client) (.int .i64 y.seq)
  refine h.set len_mark i hi ⟨xs[i].mark, y⟩ h1 (fun cur' hc => ?_)
  rw [hg] at hc; cases hc
  rw [blk_cell hg, Nat.add_zero] at hm
  rw [h2, List.take_add_one]
  simp only [Array.getElem?_toList, hm]
  simp
theorem SlO.markOp {w : World} {base : Nat} {E : TypeId} {g n cap : Nat} {xs : List Mrk} (h : SlO w base E Mrk.cells 6 (.slice (some ⟨g, 0, none⟩) n cap) xs) (i : Nat) (hi : i < xs.length) :
    w.cell? ⟨g, i * 6, none⟩ = some (.int .i64 xs[i].mark) ∧ w.cell? ⟨g, i * 6 + 1, none⟩ = some (.int .i64 xs[i].op.kind) ∧ w.cell? ⟨g, i * 6 + 2, none⟩ = some (.int .i64 xs[i].op.pos) ∧ w.cell? ⟨g, i * 6 + 3, none⟩ = some (.int .u8 xs[i].op.ch) ∧ w.cell? ⟨g, i * 6 + 4, none⟩ = some (.int .i64 xs[i].op.client) ∧ w.cell? ⟨g, i * 6 + 5, none⟩ = some (.int .i64 xs[i].op.seq) :=
  ⟨h.cell len_mark rfl i 0 hi _ rfl, h.cell len_mark rfl i 1 hi _ rfl, h.cell len_mark rfl i 2 hi _ rfl, h.cell len_mark rfl i 3 hi _ rfl, h.cell len_mark rfl i 4 hi _ rfl, h.cell len_mark rfl i 5 hi _ rfl⟩
/-- The five cells of one operation in a list that is read. -/
theorem SlR.op {w : World} {a : Option Addr} {n cap : Nat} {xs : List Opr} (h : SlR w Opr.cells 5 (.slice a n cap) xs) (i : Nat) (hi : i < xs.length) : ∃ b off, a = some ⟨b, off, none⟩ ∧
    w.cell? ⟨b, off + i * 5, none⟩ = some (.int .i64 xs[i].kind) ∧ w.cell? ⟨b, off + i * 5 + 1, none⟩ = some (.int .i64 xs[i].pos) ∧ w.cell? ⟨b, off + i * 5 + 2, none⟩ = some (.int .u8 xs[i].ch) ∧ w.cell? ⟨b, off + i * 5 + 3, none⟩ = some (.int .i64 xs[i].client) ∧ w.cell? ⟨b, off + i * 5 + 4, none⟩ = some (.int .i64 xs[i].seq) := by
  obtain ⟨a', c', hv, _, _, hc⟩ := h
  cases hv
  obtain ⟨b, off, rfl, hj⟩ := hc i hi
  exact ⟨b, off, rfl, hj 0 _ rfl, hj 1 _ rfl, hj 2 _ rfl, hj 3 _ rfl, hj 4 _ rfl⟩
end Go.Proofs.YtjeidklpomekdaaDoor

