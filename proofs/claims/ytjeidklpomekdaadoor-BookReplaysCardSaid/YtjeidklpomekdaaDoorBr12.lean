/- Part 12 of the proof of BookReplays: Row. -/
import Derived.Test.YtjeidklpomekdaaDoorRows
import Derived.Deep.Slices
import Derived.ProofKit
import Derived.LaidMore
import Derived.LaidHandle
import Derived.Stop.Joined
import Derived.Carry
import Derived.OpenShut
import Derived.Test.YtjeidklpomekdaaDoorBr11

set_option linter.unusedVariables false
set_option linter.unusedSimpArgs false
set_option linter.unnecessarySimpa false

/- The rows' readings: a list of edits; the two listed variables. -/
namespace Go.Proofs.YtjeidklpomekdaaDoor
open Go.ChangeShapes Go.WideShapes Go.ChangeAt Go.RowKit

theorem cells_edit : Tryd.prog.cellsOf 48 = 6 := by kernel_rfl
theorem cells_op : Tryd.prog.cellsOf 46 = 5 := by kernel_rfl
theorem cells_int : Tryd.prog.cellsOf 3 = 1 := by kernel_rfl
theorem cells_u8 : Tryd.prog.cellsOf 5 = 1 := by kernel_rfl

theorem addr_zero (a : Addr) : a.add 0 = a := by unfold Addr.add; simp
theorem addr_add (b off n : Nat) : (⟨b, off, none⟩ : Addr).add n = ⟨b, off + n, none⟩ := by unfold Addr.add; split <;> simp_all

section
variable {H : Type} {enc : TypeId × Value → H} {w : World} {base : Nat} {sp : Nat → Bool} {held : Bool}
set_option maxRecDepth 100000 in
theorem op_of_trod {fuel : Nat} {cs : List Value} {x : DataW H × List MemPlace} (h : DataW.trod enc Tryd.prog w base sp held fuel 46 cs = some x) : ∃ o : Opr, cs = o.cells ∧ 0 ≤ o.ch ∧ o.ch ≤ 255 := by
  obtain ⟨xs, n, _, _, hl, hlen, hf⟩ := DataW.trod_struct Tryd.underlying46 h
  rw [cells_op] at hl
  match cs, hl with
  | [c0, c1, c2, c3, c4], _ =>
    match xs, hlen with
    | [y0, y1, y2, y3, y4], _ =>
      have f0 : DataW.trod enc Tryd.prog w base sp held n 3 (([c0, c1, c2, c3, c4].drop 0).take (Tryd.prog.cellsOf 3)) = some y0 := hf 0 _ rfl; have f1 : DataW.trod enc Tryd.prog w base sp held n 3 (([c0, c1, c2, c3, c4].drop 1).take (Tryd.prog.cellsOf 3)) = some y1 := hf 1 _ rfl; have f2 : DataW.trod enc Tryd.prog w base sp held n 5 (([c0, c1, c2, c3, c4].drop 2).take (Tryd.prog.cellsOf 5)) = some y2 := hf 2 _ rfl; have f3 : DataW.trod enc Tryd.prog w base sp held n 3 (([c0, c1, c2, c3, c4].drop 3).take (Tryd.prog.cellsOf 3)) = some y3 := hf 3 _ rfl; have f4 : DataW.trod enc Tryd.prog w base sp held n 3 (([c0, c1, c2, c3, c4].drop 4).take (Tryd.prog.cellsOf 3)) = some y4 := hf 4 _ rfl
      rw [cells_int] at f0 f1 f3 f4
      rw [cells_u8] at f2
      obtain ⟨n0, e0, _⟩ := DataW.trod_int Tryd.underlying3 f0
      obtain ⟨n1, e1, _⟩ := DataW.trod_int Tryd.underlying3 f1
      obtain ⟨n2, e2, _, hw⟩ := DataW.trod_int Tryd.underlying5 f2
      obtain ⟨n3, e3, _⟩ := DataW.trod_int Tryd.underlying3 f3
      obtain ⟨n4, e4, _⟩ := DataW.trod_int Tryd.underlying3 f4
      simp at e0 e1 e2 e3 e4
      subst e0 e1 e2 e3 e4
      refine ⟨⟨n0, n1, n2, n3, n4⟩, rfl, ?_⟩
      simp [Lit.wf] at hw
      exact ⟨hw.1, hw.2⟩
set_option maxRecDepth 100000 in
theorem edt_of_trod {fuel : Nat} {cs : List Value} {x : DataW H × List MemPlace} (h : DataW.trod enc Tryd.prog w base sp held fuel 48 cs = some x) : ∃ e : Edt, cs = e.cells ∧ 0 ≤ e.op.ch ∧ e.op.ch ≤ 255 := by
  obtain ⟨xs, n, _, _, hl, hlen, hf⟩ := DataW.trod_struct Tryd.underlying48 h
  rw [cells_edit] at hl
  match cs, hl with
  | [c0, c1, c2, c3, c4, c5], _ =>
    match xs, hlen with
    | [y0, y1], _ =>
      have f0 : DataW.trod enc Tryd.prog w base sp held n 3 (([c0, c1, c2, c3, c4, c5].drop 0).take (Tryd.prog.cellsOf 3)) = some y0 := hf 0 _ rfl
      have f1 : DataW.trod enc Tryd.prog w base sp held n 46 (([c0, c1, c2, c3, c4, c5].drop 1).take (Tryd.prog.cellsOf 46)) = some y1 := hf 1 _ rfl
      rw [cells_int] at f0
      rw [cells_op] at f1
      obtain ⟨n0, e0, _⟩ := DataW.trod_int Tryd.underlying3 f0
      obtain ⟨o, e1, h1, h2⟩ := op_of_trod f1
      simp at e0 e1
      obtain ⟨rfl, rfl, rfl, rfl, rfl⟩ := e1
      subst e0
      exact ⟨⟨n0, o⟩, rfl, h1, h2⟩
/-- A list of edits, read. -/
theorem edits_of_trod {v : Value} {d : DataW H} {p : List MemPlace} (h : DataW.Trod enc Tryd.prog w 0 (fun _ => true) held 22 v d p) (hv : v.cells.toList = [v])
    (hs : ∀ el sp : List (DataW H), d = .slice el sp → (el.length + sp.length) * 48 ≤ reachBytes) :
    ∃ xs : List Edt, SlR w Edt.cells 6 v xs ∧ (∀ e ∈ xs, 0 ≤ e.op.ch ∧ e.op.ch ≤ 255) ∧ xs.length ≤ 2932031007330 := by
  obtain ⟨fuel, h⟩ := h
  rw [hv] at h
  rcases Deep.open_slice Tryd.underlying22 h with ⟨hc, _⟩ | ⟨a, len, cap, m, n, D, Pl, hc, _, hl, hm, hmm, hx, hall⟩
  · simp at hc; subst hc
    exact ⟨[], SlR.nil _ _ _, by simp, by simp⟩
  · simp at hc; subst hc
    simp at hx
    have hb := hs _ _ hx.1
    simp at hmm
    subst hmm
    have hone : ∀ i, i < len → ∃ e : Edt, w.cells? 0 (a.add (i * 6)) 6 = some e.cells ∧ 0 ≤ e.op.ch ∧ e.op.ch ≤ 255 := fun i hi => by
      obtain ⟨cs', h1, h2⟩ := hall i (by omega)
      obtain ⟨e, rfl, h3, h4⟩ := edt_of_trod h2
      rw [cells_edit] at h1
      exact ⟨e, h1, h3, h4⟩
    haveI : Inhabited Edt := ⟨⟨0, ⟨0, 0, 0, 0, 0⟩⟩⟩
    obtain ⟨f, hf⟩ := Deep.choose_lt hone
    have hlen : len * 48 ≤ reachBytes := by simp at hb; exact Nat.le_trans (Nat.mul_le_mul_right _ (by omega)) hb
    have hreach : reachBytes = 140737488351232 := rfl
    refine ⟨(List.range len).map f, ⟨some a, m, by simp, by simp; omega, ⟨by simpa using hl, by simp⟩, fun i hi => ?_⟩, ?_, by simp; omega⟩
    · simp at hi
      obtain ⟨h1, _⟩ := hf i hi
      obtain ⟨_, _, h2⟩ := World.cells?_some h1
      have hspot : a.spot = none := by
        obtain ⟨_, _, h3⟩ := World.cells?_some (hf 0 (by omega)).1
        have := h3 0 (by omega)
        rw [Nat.zero_mul, addr_zero, addr_zero] at this
        exact World.cell?_spot (v := .int .i64 (f 0).tag) this
      obtain ⟨b, off, s⟩ := a
      simp at hspot; subst hspot
      refine ⟨b, off, rfl, fun j u hu => ?_⟩
      have hj : j < 6 := (List.getElem?_eq_some_iff.1 hu).1
      have := h2 j hj
      simp at hu
      rw [hu] at this
      rw [← this, addr_add _ _ (i * 6), addr_add _ _ j]
    · intro e he
      simp at he
      obtain ⟨i, hi, rfl⟩ := he
      exact (hf i hi).2
end

/-- An array of three, read. -/
theorem arr3 {H : Type} {enc : TypeId × Value → H} {w : World} {base : Nat} {sp : Nat → Bool} {held : Bool} {fuel : Nat} {t e : TypeId} {k : Nat} {cs : List Value} {d0 d1 d2 : DataW H} {p : List MemPlace} (ht : Tryd.prog.underlying t = some (.array 3 e)) (hk : Tryd.prog.cellsOf e = k)
    (h : DataW.trod enc Tryd.prog w base sp held fuel t cs = some (.agg [d0, d1, d2], p)) : ∃ n q0 q1 q2, DataW.trod enc Tryd.prog w base sp held n e ((cs.drop 0).take k) = some (d0, q0) ∧ DataW.trod enc Tryd.prog w base sp held n e ((cs.drop k).take k) = some (d1, q1) ∧ DataW.trod enc Tryd.prog w base sp held n e ((cs.drop (2 * k)).take k) = some (d2, q2) := by
  obtain ⟨xs, m, _, hx, _, hlen, hf⟩ := DataW.trod_array ht h
  match xs, hlen with
  | [y0, y1, y2], _ =>
    simp at hx
    obtain ⟨⟨rfl, rfl, rfl⟩, _⟩ := hx
    have f0 := hf 0 (by omega); have f1 := hf 1 (by omega); have f2 := hf 2 (by omega)
    rw [hk] at f0 f1 f2
    exact ⟨m, y0.2, y1.2, y2.2, by simpa using f0, by simpa using f1, by simpa using f2⟩

theorem et_var : Tryd.prog.globalNamed "errors.errorType" = some 0 := by kernel_rfl
theorem rl_var : Tryd.prog.globalNamed "jotter/ot.rules" = some 1 := by kernel_rfl
theorem rl_type : (Tryd.prog.globals[1]?).map (·.type) = some 159 := by kernel_rfl
abbrev laid2 {H : Type} : List (String × DataW H) := [("errors.errorType", Rows.laid_errors_errorType), ("jotter/ot.rules", Rows.laid_jotter_ot_rules)]

theorem rt_is : (Tryd.prog.cutTypes.find? (·.1 == "internal/reflectlite.rtype")).map (·.2) = some 137 := by kernel_rfl
theorem one_row : ((List.range Tryd.prog.types.size).filter fun t => Tryd.prog.rowNamed t [101, 114, 114, 111, 114]) = [29] := by kernel_rfl
theorem errT_of_laid {W : World} (h : laidMetH Tryd.prog laid2 W) : ErrT W := by
  have h' : laidMet Tryd.prog [] W ∧ handlesMet Tryd.prog laid2 W := h
  obtain ⟨name, u, ty, e1, e2, e3, e4, e5⟩ := h'.2 _ (List.mem_cons_self ..)
  have en : name = [101, 114, 114, 111, 114] := (Option.some.inj e1).symm
  subst en
  obtain rfl := Option.some.inj (rt_is.symm.trans e2)
  have hm : ty ∈ (List.range Tryd.prog.types.size).filter fun t => Tryd.prog.rowNamed t [101, 114, 114, 111, 114] := List.mem_filter.2 ⟨List.mem_range.2 e3, e4⟩
  rw [one_row] at hm
  obtain rfl := List.mem_singleton.1 hm
  have hh : typeHandle Tryd.prog 29 = .pointer (some ⟨2, 29, none⟩) := by kernel_rfl
  rw [hh] at e5
  simpa using World.var?_cell et_var e5 0
theorem one_stays : ((List.range Tryd.prog.funcs.size).filter fun f => (Tryd.prog.funcs[f]?).any (·.name.toUTF8.data.toList == [106, 111, 116, 116, 101, 114, 47, 111, 116, 46, 115, 116, 97, 121, 115])) = [109] := by kernel_rfl
theorem one_iPI : ((List.range Tryd.prog.funcs.size).filter fun f => (Tryd.prog.funcs[f]?).any (·.name.toUTF8.data.toList == [106, 111, 116, 116, 101, 114, 47, 111, 116, 46, 105, 110, 115, 101, 114, 116, 80, 97, 115, 116, 73, 110, 115, 101, 114, 116])) = [110] := by kernel_rfl
theorem one_iPD : ((List.range Tryd.prog.funcs.size).filter fun f => (Tryd.prog.funcs[f]?).any (·.name.toUTF8.data.toList == [106, 111, 116, 116, 101, 114, 47, 111, 116, 46, 105, 110, 115, 101, 114, 116, 80, 97, 115, 116, 68, 101, 108, 101, 116, 101])) = [111] := by kernel_rfl
theorem one_dPI : ((List.range Tryd.prog.funcs.size).filter fun f => (Tryd.prog.funcs[f]?).any (·.name.toUTF8.data.toList == [106, 111, 116, 116, 101, 114, 47, 111, 116, 46, 100, 101, 108, 101, 116, 101, 80, 97, 115, 116, 73, 110, 115, 101, 114, 116])) = [112] := by kernel_rfl
theorem one_dPD : ((List.range Tryd.prog.funcs.size).filter fun f => (Tryd.prog.funcs[f]?).any (·.name.toUTF8.data.toList == [106, 111, 116, 116, 101, 114, 47, 111, 116, 46, 100, 101, 108, 101, 116, 101, 80, 97, 115, 116, 68, 101, 108, 101, 116, 101])) = [113] := by kernel_rfl
theorem cells_33rule : Tryd.prog.cellsOf 159 = 9 := by kernel_rfl
theorem cells_3rule : Tryd.prog.cellsOf 158 = 3 := by kernel_rfl
theorem cells_rule : Tryd.prog.cellsOf 157 = 1 := by kernel_rfl
theorem rule_is {w : World} {base : Nat} {sp : Nat → Bool} {fuel : Nat} {cs : List Value} {b : UInt8} {r : List UInt8} {q : List MemPlace} {f0 : FuncId} (hone : ((List.range Tryd.prog.funcs.size).filter fun f => (Tryd.prog.funcs[f]?).any (·.name.toUTF8.data.toList == b :: r)) = [f0])
    (h : DataW.trod (funcToken Tryd.prog) Tryd.prog w base sp true fuel 157 cs = some (.held (b :: r), q)) : cs = [.func (.func f0) #[] #[]] := by
  match cs, h with
  | [v], h => rw [func_of_trod Tryd.underlying157 hone h]
  | [], h => cases fuel <;> simp [DataW.trod, Tryd.underlying157] at h
  | _ :: _ :: _, h => cases fuel <;> simp [DataW.trod, Tryd.underlying157] at h
set_option maxRecDepth 100000 in
theorem rules_of_laid {W : World} (h : laidMetH Tryd.prog laid2 W) : Rules W := by
  obtain ⟨g, t, cs, fuel, p, hg, ht, hv, hd⟩ := h.funcs (List.mem_cons_of_mem _ (List.mem_singleton.2 rfl))
  obtain rfl := Option.some.inj (rl_var.symm.trans hg)
  obtain rfl := Option.some.inj (rl_type.symm.trans ht)
  have c := World.var?_cell hg hv
  obtain ⟨n, q0, q1, q2, r0, r1, r2⟩ := arr3 Tryd.underlying159 cells_3rule hd
  obtain ⟨n0, a0, a1, a2, x0, x1, x2⟩ := arr3 Tryd.underlying158 cells_rule r0
  obtain ⟨n1, b0, b1, b2, y0, y1, y2⟩ := arr3 Tryd.underlying158 cells_rule r1
  obtain ⟨n2, c0, c1, c2, z0, z1, z2⟩ := arr3 Tryd.underlying158 cells_rule r2
  obtain ⟨l⟩ := cs
  obtain ⟨_, _, _, _, hl, _⟩ := DataW.trod_array Tryd.underlying159 hd
  rw [cells_33rule] at hl
  match l, hl with
  | [v0, v1, v2, v3, v4, v5, v6, v7, v8], _ =>
    have k0 := rule_is one_stays x0; have k1 := rule_is one_stays x1; have k2 := rule_is one_stays x2
    have k3 := rule_is one_stays y0; have k4 := rule_is one_iPI y1; have k5 := rule_is one_iPD y2
    have k6 := rule_is one_stays z0; have k7 := rule_is one_dPI z1; have k8 := rule_is one_dPD z2
    simp at k0 k1 k2 k3 k4 k5 k6 k7 k8
    subst k0 k1 k2 k3 k4 k5 k6 k7 k8
    exact ⟨c 0, c 1, c 2, c 3, c 4, c 5, c 6, c 7, c 8⟩
end Go.Proofs.YtjeidklpomekdaaDoor

