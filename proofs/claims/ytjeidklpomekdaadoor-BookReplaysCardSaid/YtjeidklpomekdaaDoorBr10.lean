/- Part 10 of the proof of BookReplays: Main, Row. -/
import Derived.Deep.DeepCutAuto
import Derived.Test.YtjeidklpomekdaaDoorRows
import Derived.Deep.Slices
import Derived.ProofKit
import Derived.LaidMore
import Derived.LaidHandle
import Derived.Stop.Joined
import Derived.Carry
import Derived.OpenShut
import Derived.Test.YtjeidklpomekdaaDoorBr9

/- The law: every replay. -/
namespace Go.Proofs.YtjeidklpomekdaaDoor
open Go.RowKit

set_option maxRecDepth 100000 in
set_option maxHeartbeats 6400000 in
theorem main_any (v1 v2 : Value) (xs ys : List Edt) (w0 : World) (h1 : SlR w0 Edt.cells 6 v1 xs) (h2 : SlR w0 Edt.cells 6 v2 ys) (hc1 : ∀ e ∈ xs, 0 ≤ e.op.ch ∧ e.op.ch ≤ 255) (hc2 : ∀ e ∈ ys, 0 ≤ e.op.ch ∧ e.op.ch ≤ 255) (hR : Rules w0) (hE : ErrT w0) (hn1 : xs.length ≤ 2932031007330) (hn2 : ys.length ≤ 2932031007330) :
    Calls Tryd.prog 3 #[v1, v2] w0 fun e w' => e = .returned (.bool true) ∧ Below w0.heap.size w0 w' := by
  obtain ⟨O1, D1, E1, hI1⟩ := RepIs.of xs hc1
  obtain ⟨O2, D2, E2, hI2⟩ := RepIs.of ys hc2
  have l1 := hI1.ol; have l2 := hI1.dl; have l3 := hI2.ol; have l4 := hI2.dl
  have H1 := Lib.hid h1; have H2 := Lib.hid h2; have C1 := Lib.hid hc1; have C2 := Lib.hid hc2; have HR := Lib.hid hR; have HE := Lib.hid hE; have I1 := Lib.hid hI1; have I2 := Lib.hid hI2
  have N1 := Lib.hid hn1; have N2 := Lib.hid hn2
  have L1 := Lib.hid (show O1.length ≤ 100000 by omega); have L2 := Lib.hid (show D1.length ≤ 2932031007330 by omega)
  have L3 := Lib.hid (show O2.length ≤ 100000 by omega); have L4 := Lib.hid (show D2.length ≤ 2932031007330 by omega)
  have B1 := Lib.hid (show xs.length * 48 ≤ 140737488355328 by omega); have B2 := Lib.hid (show xs.length ≤ 9223372036854775807 by omega)
  have B3 := Lib.hid (show ys.length * 48 ≤ 140737488355328 by omega); have B4 := Lib.hid (show ys.length ≤ 9223372036854775807 by omega)
  clear h1 h2 hc1 hc2 hR hE hI1 hI2 hn1 hn2 l1 l2 l3 l4
  go_enter Tryd.func3, Tryd.ntmps3
  go_wp2_with fail
  refine (fixed_any _ HR.out).mono ?_
  rintro e w1 ⟨rfl, b1⟩
  have S1 := Lib.hid ((Sts.none w0).below b1); clear b1
  go_wp2_with fail
  refine (rrep_call I1.out C1.out S1.out v1 H1.out 1).mono ?_
  rintro e w2 ⟨ov1, dv1, G1, rfl, s⟩
  have S2 := Lib.hid s; clear s S1
  go_wp2_with fail
  refine (rrep_call I2.out C2.out S2.out v2 H2.out 2).mono ?_
  rintro e w3 ⟨ov2, dv2, G2, rfl, s⟩
  have S3 := Lib.hid s; clear s S2
  go_upto_region 6 with (at_builtin; refine wp_app_new et_edit rfl _ _ rfl Edt.cells len_edit one_edit rfl xs v1 rfl (H1.out.below S3.out.bel) B1.out B2.out ?_; intro ga4 ca4 w4 ho hb _; have S4 := Lib.hid (copy_sts S3.out ho hb 3); clear ho hb S3)
  go_wp2_with (at_builtin; refine wp_app_new et_edit rfl _ _ rfl Edt.cells len_edit one_edit rfl ys v2 rfl (H2.out.below S4.out.bel) B3.out B4.out ?_; intro ga5 ca5 w5 ho hb _; have S5 := Lib.hid (copy_sts S4.out ho hb 4); clear ho hb S4)
  refine (rep_call I1.out C1.out S5.out _ (SlO.reads (S5.out.get 3) len_edit) HR.out 5 6 7).mono ?_
  rintro e w6 ⟨ov3, gd1, cd1, ev1, G3, rfl, s⟩
  have S6 := Lib.hid s; clear s S5
  go_wp2_with fail
  refine (rep_call I2.out C2.out S6.out _ (SlO.reads (S6.out.get 4) len_edit) HR.out 8 9 10).mono ?_
  rintro e w7 ⟨ov4, gd2, cd2, ev2, G4, rfl, s⟩
  have S7 := Lib.hid s; clear s S6
  go_wp2_with (at_builtin; refine wp_app_new et_edit rfl _ _ rfl Edt.cells len_edit one_edit rfl xs v1 rfl (H1.out.below S7.out.bel) B1.out B2.out ?_; intro ga8 ca8 w8 ho hb _; have S8 := Lib.hid (copy_sts S7.out ho hb 18); clear ho hb S7)
  refine (rep_call I1.out C1.out S8.out _ (SlO.reads (S8.out.get 18) len_edit) HR.out 11 12 13).mono ?_
  rintro e w9 ⟨ov5, gd5, cd5, ev5, G5, rfl, s⟩
  have S9 := Lib.hid s; clear s S8
  go_wp2_with fail
  refine (is_true S9.out (S9.out.get 7) HE.out).mono ?_
  rintro e w10 ⟨rfl, s⟩
  have S10 := Lib.hid s; clear s S9
  go_wp2_with fail
  refine (is_true S10.out (S10.out.get 10) HE.out).mono ?_
  rintro e w11 ⟨rfl, s⟩
  have S11 := Lib.hid s; clear s S10
  go_wp2_with fail
  refine (eqEdits_true S11.out (SlO.reads (S11.out.get 3) len_edit) H1.out).mono ?_
  rintro e w12 ⟨rfl, s⟩
  have S12 := Lib.hid s; clear s S11
  go_wp2_with fail
  refine (eqEdits_true S12.out (SlO.reads (S12.out.get 4) len_edit) H2.out).mono ?_
  rintro e w13 ⟨rfl, s⟩
  have S13 := Lib.hid s; clear s S12
  go_wp2_with fail
  have S14 := Lib.hid (shelf_sts S13.out 14); clear S13
  refine (shE_sts (i := 14) (j := 3) (m := 0) (ne := 0) (nd := 0) S14.out (S14.out.get 14) (S14.out.get 3) rfl (by decide) N1.out (by decide) (by decide)).mono ?_
  rintro e w15 ⟨rfl, G114, s⟩
  have S15 := Lib.hid s; clear s S14
  go_wp2_with fail
  refine (shE_sts (i := 14) (j := 4) (m := 0 + 1) (ne := 2) (nd := 0) S15.out (S15.out.get 14) (S15.out.get 4) rfl (by decide) N2.out (by decide) (by decide)).mono ?_
  rintro e w16 ⟨rfl, G115, s⟩
  have S16 := Lib.hid s; clear s S15
  go_wp2_with fail
  refine (eqOps_true S16.out (SlO.reads (S16.out.get 5) len_op) (And.left (S16.out.get 1))).mono ?_
  rintro e w17 ⟨rfl, s⟩
  have S17 := Lib.hid s; clear s S16
  go_wp2_with fail
  refine (eqOps_true S17.out (SlO.reads (S17.out.get 8) len_op) (And.left (S17.out.get 2))).mono ?_
  rintro e w18 ⟨rfl, s⟩
  have S18 := Lib.hid s; clear s S17
  go_wp2_with fail
  refine (eqElems_true S18.out (SlO.reads (S18.out.get 6) len_elem) (And.right (S18.out.get 1))).mono ?_
  rintro e w19 ⟨rfl, s⟩
  have S19 := Lib.hid s; clear s S18
  go_wp2_with fail
  refine (eqElems_true S19.out (SlO.reads (S19.out.get 9) len_elem) (And.right (S19.out.get 2))).mono ?_
  rintro e w20 ⟨rfl, s⟩
  have S20 := Lib.hid s; clear s S19
  go_wp2_with fail
  refine (shD_sts (i := 14) (j := 6) (m := 0 + 1 + 1) (ne := 4) (nd := 0) S20.out (S20.out.get 14) (S20.out.get 6) rfl (by decide) L2.out (by decide) (by decide)).mono ?_
  rintro e w21 ⟨rfl, G120, s⟩
  have S21 := Lib.hid s; clear s S20
  go_wp2_with fail
  refine (marked_sts (i := 5) (-1) S21.out (S21.out.get 5) rfl L1.out).mono ?_
  rintro e w22 ⟨gm1, rfl, s⟩
  have S22 := Lib.hid s; clear s S21
  go_wp2_with fail
  refine (eqOps_true S22.out (SlO.reads (S22.out.get 11) len_op) (And.left (S22.out.get 1))).mono ?_
  rintro e w23 ⟨rfl, s⟩
  have S23 := Lib.hid s; clear s S22
  go_wp2_with fail
  refine (eqElems_true S23.out (SlO.reads (S23.out.get 12) len_elem) (And.right (S23.out.get 1))).mono ?_
  rintro e w24 ⟨rfl, s⟩
  have S24 := Lib.hid s; clear s S23
  go_wp2_with fail
  refine (eqOps_true S24.out (SlO.reads (S24.out.get 8) len_op) (And.left (S24.out.get 2))).mono ?_
  rintro e w25 ⟨rfl, s⟩
  have S25 := Lib.hid s; clear s S24
  go_wp2_with fail
  refine (eqElems_true S25.out (SlO.reads (S25.out.get 9) len_elem) (And.right (S25.out.get 2))).mono ?_
  rintro e w26 ⟨rfl, s⟩
  have S26 := Lib.hid s; clear s S25
  go_wp2_with fail
  refine (shD_sts (i := 14) (j := 12) (m := 0 + 1 + 1 + 1) (ne := 4) (nd := 2) S26.out (S26.out.get 14) (S26.out.get 12) rfl (by decide) L2.out (by decide) (by decide)).mono ?_
  rintro e w27 ⟨rfl, G126, s⟩
  have S27 := Lib.hid s; clear s S26
  go_wp2_with fail
  refine (marked_sts (i := 11) (-3) S27.out (S27.out.get 11) rfl L1.out).mono ?_
  rintro e w28 ⟨gm3, rfl, s⟩
  have S28 := Lib.hid s; clear s S27
  go_wp2_with fail
  refine (eqOps_true S28.out (SlO.reads (S28.out.get 8) len_op) (And.left (S28.out.get 2))).mono ?_
  rintro e w29 ⟨rfl, s⟩
  have S29 := Lib.hid s; clear s S28
  go_wp2_with fail
  refine (eqElems_true S29.out (SlO.reads (S29.out.get 9) len_elem) (And.right (S29.out.get 2))).mono ?_
  rintro e w30 ⟨rfl, s⟩
  have S30 := Lib.hid s; clear s S29
  go_wp2_with fail
  refine (still_true S30.out (And.left (S30.out.get 11))).mono ?_
  rintro e w31 ⟨rfl, s⟩
  have S31 := Lib.hid s; clear s S30
  go_wp2_with fail
  refine (still_true S31.out (SlO.reads (And.right (S31.out.get 11)) len_op)).mono ?_
  rintro e w32 ⟨rfl, s⟩
  have S32 := Lib.hid s; clear s S31
  go_wp2_with fail
  refine (shD_sts (i := 14) (j := 9) (m := 0 + 1 + 1 + 1 + 1) (ne := 4) (nd := 4) S32.out (S32.out.get 14) (S32.out.get 9) rfl (by decide) L4.out (by decide) (by decide)).mono ?_
  rintro e w33 ⟨rfl, G132, s⟩
  have S33 := Lib.hid s; clear s S32
  go_wp2_with fail
  refine (marked_sts (i := 8) (-2) S33.out (S33.out.get 8) rfl L3.out).mono ?_
  rintro e w34 ⟨gm2, rfl, s⟩
  have S34 := Lib.hid s; clear s S33
  go_wp2_with (at_builtin; refine wp_app_new et_edit rfl _ _ rfl Edt.cells len_edit one_edit rfl xs v1 rfl (H1.out.below S34.out.bel) B1.out B2.out ?_; intro ga35 ca35 w35 ho hb _; have S35 := Lib.hid (copy_sts S34.out ho hb 19); clear ho hb S34)
  refine (rep_call I1.out C1.out S35.out _ (SlO.reads (S35.out.get 19) len_edit) HR.out 15 16 17).mono ?_
  rintro e w36 ⟨ov6, gd6, cd6, ev6, G6, rfl, s⟩
  have S36 := Lib.hid s; clear s S35
  go_wp2_with fail
  refine (eqOps_true S36.out (SlO.reads (S36.out.get 15) len_op) (And.left (S36.out.get 1))).mono ?_
  rintro e w37 ⟨rfl, s⟩
  have S37 := Lib.hid s; clear s S36
  go_wp2_with fail
  refine (eqElems_true S37.out (SlO.reads (S37.out.get 16) len_elem) (And.right (S37.out.get 1))).mono ?_
  rintro e w38 ⟨rfl, s⟩
  have S38 := Lib.hid s; clear s S37
  go_wp2_with fail
  refine (is_true S38.out (S38.out.get 17) HE.out).mono ?_
  rintro e w39 ⟨rfl, s⟩
  have S39 := Lib.hid s; clear s S38
  go_wp2_with fail
  refine (untouched_true S39.out (S39.out.get 14) (by decide) (by decide)).mono ?_
  rintro e w40 ⟨rfl, s⟩
  have S40 := Lib.hid s; clear s S39
  go_wp2_with fail
  refine (still_true S40.out (And.left (S40.out.get 5))).mono ?_
  rintro e w41 ⟨rfl, s⟩
  have S41 := Lib.hid s; clear s S40
  go_wp2_with fail
  refine (still_true S41.out (And.left (S41.out.get 8))).mono ?_
  rintro e w42 ⟨rfl, s⟩
  have S42 := Lib.hid s; clear s S41
  go_wp2_with fail
  refine (still_true S42.out (SlO.reads (And.right (S42.out.get 5)) len_op)).mono ?_
  rintro e w43 ⟨rfl, s⟩
  have S43 := Lib.hid s; clear s S42
  go_wp2_with fail
  refine (still_true S43.out (SlO.reads (And.right (S43.out.get 8)) len_op)).mono ?_
  rintro e w44 ⟨rfl, s⟩
  have S44 := Lib.hid s; clear s S43
  go_wp2_with fail
  refine (still_true S44.out (And.left (S44.out.get 11))).mono ?_
  rintro e w45 ⟨rfl, s⟩
  have S45 := Lib.hid s; clear s S44
  go_wp2_with fail
  refine (still_true S45.out (SlO.reads (And.right (S45.out.get 11)) len_op)).mono ?_
  rintro e w46 ⟨rfl, s⟩
  have S46 := Lib.hid s; clear s S45
  go_wp2_with fail
  go_ret
  exact ⟨rfl, S46.out.bel⟩
end Go.Proofs.YtjeidklpomekdaaDoor

/- The rows' readings: a list of edits; the two listed variables. -/
namespace Go.Proofs.YtjeidklpomekdaaDoor
open Go.ChangeShapes Go.WideShapes Go.ChangeAt Go.RowKit

theorem cells_edit : Tryd.prog.cellsOf 48 = 6 := by kernel_rfl
theorem cells_op : Tryd.prog.cellsOf 46 = 5 := by kernel_rfl
theorem cells_int : Tryd.prog.cellsOf 3 = 1 := by kernel_rfl
theorem cells_u8 : Tryd.prog.cellsOf 5 = 1 := by kernel_rfl

theorem addr_zero (a : Addr) : a.add 0 = a := by unfold Addr.add; simp
theorem addr_add (b off n : Nat) : (⟨b, off, none⟩ : Addr).add n = ⟨b, off + n, none⟩ := by unfold Addr.add; split <;> simp_all

section
variable {H : Type} {enc : TypeId × Value → H} {w : World} {base : Nat} {sp : Nat → Bool} {held : Bool}
set_option maxRecDepth 100000 in
theorem op_of_trod {fuel : Nat} {cs : List Value} {x : DataW H × List MemPlace} (h : DataW.trod enc Tryd.prog w base sp held fuel 46 cs = some x) : ∃ o : Opr, cs = o.cells ∧ 0 ≤ o.ch ∧ o.ch ≤ 255 := by
  obtain ⟨xs, n, _, _, hl, hlen, hf⟩ := DataW.trod_struct Tryd.underlying46 h
  rw [cells_op] at hl
  match cs, hl with
  | [c0, c1, c2, c3, c4], _ =>
    match xs, hlen with
    | [y0, y1, y2, y3, y4], _ =>
      have f0 : DataW.trod enc Tryd.prog w base sp held n 3 (([c0, c1, c2, c3, c4].drop 0).take (Tryd.prog.cellsOf 3)) = some y0 := hf 0 _ rfl; have f1 : DataW.trod enc Tryd.prog w base sp held n 3 (([c0, c1, c2, c3, c4].drop 1).take (Tryd.prog.cellsOf 3)) = some y1 := hf 1 _ rfl; have f2 : DataW.trod enc Tryd.prog w base sp held n 5 (([c0, c1, c2, c3, c4].drop 2).take (Tryd.prog.cellsOf 5)) = some y2 := hf 2 _ rfl; have f3 : DataW.trod enc Tryd.prog w base sp held n 3 (([c0, c1, c2, c3, c4].drop 3).take (Tryd.prog.cellsOf 3)) = some y3 := hf 3 _ rfl; have f4 : DataW.trod enc Tryd.prog w base sp held n 3 (([c0, c1, c2, c3, c4].drop 4).take (Tryd.prog.cellsOf 3)) = some y4 := hf 4 _ rfl
      rw [cells_int] at f0 f1 f3 f4
      rw [cells_u8] at f2
      obtain ⟨n0, e0, _⟩ := DataW.trod_int Tryd.underlying3 f0
      obtain ⟨n1, e1, _⟩ := DataW.trod_int Tryd.underlying3 f1
      obtain ⟨n2, e2, _, hw⟩ := DataW.trod_int Tryd.underlying5 f2
      obtain ⟨n3, e3, _⟩ := DataW.trod_int Tryd.underlying3 f3
      obtain ⟨n4, e4, _⟩ := DataW.trod_int Tryd.underlying3 f4
      simp at e0 e1 e2 e3 e4
      subst e0 e1 e2 e3 e4
      refine ⟨⟨n0, n1, n2, n3, n4⟩, rfl, ?_⟩
      simp [Lit.wf] at hw
      exact ⟨hw.1, hw.2⟩
set_option maxRecDepth 100000 in
theorem edt_of_trod {fuel : Nat} {cs : List Value} {x : DataW H × List MemPlace} (h : DataW.trod enc Tryd.prog w base sp held fuel 48 cs = some x) : ∃ e : Edt, cs = e.cells ∧ 0 ≤ e.op.ch ∧ e.op.ch ≤ 255 := by
  obtain ⟨xs, n, _, _, hl, hlen, hf⟩ := DataW.trod_struct Tryd.underlying48 h
  rw [cells_edit] at hl
  match cs, hl with
  | [c0, c1, c2, c3, c4, c5], _ =>
    match xs, hlen with
    | [y0, y1], _ =>
      have f0 : DataW.trod enc Tryd.prog w base sp held n 3 (([c0, c1, c2, c3, c4, c5].drop 0).take (Tryd.prog.cellsOf 3)) = some y0 := hf 0 _ rfl
      have f1 : DataW.trod enc Tryd.prog w base sp held n 46 (([c0, c1, c2, c3, c4, c5].drop 1).take (Tryd.prog.cellsOf 46)) = some y1 := hf 1 _ rfl
      rw [cells_int] at f0
      rw [cells_op] at f1
      obtain ⟨n0, e0, _⟩ := DataW.trod_int Tryd.underlying3 f0
      obtain ⟨o, e1, h1, h2⟩ := op_of_trod f1
      simp at e0 e1
      obtain ⟨rfl, rfl, rfl, rfl, rfl⟩ := e1
      subst e0
      exact ⟨⟨n0, o⟩, rfl, h1, h2⟩
/-- A list of edits, read. -/
theorem edits_of_trod {v : Value} {d : DataW H} {p : List MemPlace} (h : DataW.Trod enc Tryd.prog w 0 (fun _ => true) held 22 v d p) (hv : v.cells.toList = [v])
    (hs : ∀ el sp : List (DataW H), d = .slice el sp → (el.length + sp.length) * 48 ≤ reachBytes) :
    ∃ xs : List Edt, SlR w Edt.cells 6 v xs ∧ (∀ e ∈ xs, 0 ≤ e.op.ch ∧ e.op.ch ≤ 255) ∧ xs.length ≤ 2932031007330 := by
  obtain ⟨fuel, h⟩ := h
  rw [hv] at h
  rcases Deep.open_slice Tryd.underlying22 h with ⟨hc, _⟩ | ⟨a, len, cap, m, n, D, Pl, hc, _, hl, hm, hmm, hx, hall⟩
  · simp at hc; subst hc
    exact ⟨[], SlR.nil _ _ _, by simp, by simp⟩
  · simp at hc; subst hc
    simp at hx
    have hb := hs _ _ hx.1
    simp at hmm
    subst hmm
    have hone : ∀ i, i < len → ∃ e : Edt, w.cells? 0 (a.add (i * 6)) 6 = some e.cells ∧ 0 ≤ e.op.ch ∧ e.op.ch ≤ 255 := fun i hi => by
      obtain ⟨cs', h1, h2⟩ := hall i (by omega)
      obtain ⟨e, rfl, h3, h4⟩ := edt_of_trod h2
      rw [cells_edit] at h1
      exact ⟨e, h1, h3, h4⟩
    haveI : Inhabited Edt := ⟨⟨0, ⟨0, 0, 0, 0, 0⟩⟩⟩
    obtain ⟨f, hf⟩ := Deep.choose_lt hone
    have hlen : len * 48 ≤ reachBytes := by simp at hb; exact Nat.le_trans (Nat.mul_le_mul_right _ (by omega)) hb
    have hreach : reachBytes = 140737488351232 := rfl
    refine ⟨(List.range len).map f, ⟨some a, m, by simp, by simp; omega, ⟨by simpa using hl, by simp⟩, fun i hi => ?_⟩, ?_, by simp; omega⟩
    · simp at hi
      obtain ⟨h1, _⟩ := hf i hi
      obtain ⟨_, _, h2⟩ := World.cells?_some h1
      have hspot : a.spot = none := by
        obtain ⟨_, _, h3⟩ := World.cells?_some (hf 0 (by omega)).1
        have := h3 0 (by omega)
        rw [Nat.zero_mul, addr_zero, addr_zero] at this
        exact World.cell?_spot (v := .int .i64 (f 0).tag) this
      obtain ⟨b, off, s⟩ := a
      simp at hspot; subst hspot
      refine ⟨b, off, rfl, fun j u hu => ?_⟩
      have hj : j < 6 := (List.getElem?_eq_some_iff.1 hu).1
      have := h2 j hj
      simp at hu
      rw [hu] at this
      rw [← this, addr_add _ _ (i * 6), addr_add _ _ j]
    · intro e he
      simp at he
      obtain ⟨i, hi, rfl⟩ := he
      exact (hf i hi).2
end

/-- An array of three, read. -/
theorem arr3 {H : Type} {enc : TypeId × Value → H} {w : World} {base : Nat} {sp : Nat → Bool} {held : Bool} {fuel : Nat} {t e : TypeId} {k : Nat} {cs : List Value} {d0 d1 d2 : DataW H} {p : List MemPlace} (ht : Tryd.prog.underlying t = some (.array 3 e)) (hk : Tryd.prog.cellsOf e = k)
    (h : DataW.trod enc Tryd.prog w base sp held fuel t cs = some (.agg [d0, d1, d2], p)) : ∃ n q0 q1 q2, DataW.trod enc Tryd.prog w base sp held n e ((cs.drop 0).take k) = some (d0, q0) ∧ DataW.trod enc Tryd.prog w base sp held n e ((cs.drop k).take k) = some (d1, q1) ∧ DataW.trod enc Tryd.prog w base sp held n e ((cs.drop (2 * k)).take k) = some (d2, q2) := by
  obtain ⟨xs, m, _, hx, _, hlen, hf⟩ := DataW.trod_array ht h
  match xs, hlen with
  | [y0, y1, y2], _ =>
    simp at hx
    obtain ⟨⟨rfl, rfl, rfl⟩, _⟩ := hx
    have f0 := hf 0 (by omega); have f1 := hf 1 (by omega); have f2 := hf 2 (by omega)
    rw [hk] at f0 f1 f2
    exact ⟨m, y0.2, y1.2, y2.2, by simpa using f0, by simpa using f1, by simpa using f2⟩

theorem et_var : Tryd.prog.globalNamed "errors.errorType" = some 0 := by kernel_rfl
theorem rl_var : Tryd.prog.globalNamed "jotter/ot.rules" = some 1 := by kernel_rfl
theorem rl_type : (Tryd.prog.globals[1]?).map (·.type) = some 159 := by kernel_rfl
abbrev laid2 {H : Type} : List (String × DataW H) := [("errors.errorType", Rows.laid_errors_errorType), ("jotter/ot.rules", Rows.laid_jotter_ot_rules)]

theorem rt_is : (Tryd.prog.cutTypes.find? (·.1 == "internal/reflectlite.rtype")).map (·.2) = some 137 := by kernel_rfl
theorem one_row : ((List.range Tryd.prog.types.size).filter fun t => Tryd.prog.rowNamed t [101, 114, 114, 111, 114]) = [29] := by kernel_rfl
theorem errT_of_laid {W : World} (h : laidMetH Tryd.prog laid2 W) : ErrT W := by
  have h' : laidMet Tryd.prog [] W ∧ handlesMet Tryd.prog laid2 W := h
  obtain ⟨name, u, ty, e1, e2, e3, e4, e5⟩ := h'.2 _ (List.mem_cons_self ..)
  have en : name = [101, 114, 114, 111, 114] := (Option.some.inj e1).symm
  subst en
  obtain rfl := Option.some.inj (rt_is.symm.trans e2)
  have hm : ty ∈ (List.range Tryd.prog.types.size).filter fun t => Tryd.prog.rowNamed t [101, 114, 114, 111, 114] := List.mem_filter.2 ⟨List.mem_range.2 e3, e4⟩
  rw [one_row] at hm
  obtain rfl := List.mem_singleton.1 hm
  have hh : typeHandle Tryd.prog 29 = .pointer (some ⟨2, 29, none⟩) := by kernel_rfl
  rw [hh] at e5
  simpa using World.var?_cell et_var e5 0
theorem one_stays : ((List.range Tryd.prog.funcs.size).filter fun f => (Tryd.prog.funcs[f]?).any (·.name.toUTF8.data.toList == [106, 111, 116, 116, 101, 114, 47, 111, 116, 46, 115, 116, 97, 121, 115])) = [109] := by kernel_rfl
theorem one_iPI : ((List.range Tryd.prog.funcs.size).filter fun f => (Tryd.prog.funcs[f]?).any (·.name.toUTF8.data.toList == [106, 111, 116, 116, 101, 114, 47, 111, 116, 46, 105, 110, 115, 101, 114, 116, 80, 97, 115, 116, 73, 110, 115, 101, 114, 116])) = [110] := by kernel_rfl
theorem one_iPD : ((List.range Tryd.prog.funcs.size).filter fun f => (Tryd.prog.funcs[f]?).any (·.name.toUTF8.data.toList == [106, 111, 116, 116, 101, 114, 47, 111, 116, 46, 105, 110, 115, 101, 114, 116, 80, 97, 115, 116, 68, 101, 108, 101, 116, 101])) = [111] := by kernel_rfl
theorem one_dPI : ((List.range Tryd.prog.funcs.size).filter fun f => (Tryd.prog.funcs[f]?).any (·.name.toUTF8.data.toList == [106, 111, 116, 116, 101, 114, 47, 111, 116, 46, 100, 101, 108, 101, 116, 101, 80, 97, 115, 116, 73, 110, 115, 101, 114, 116])) = [112] := by kernel_rfl
theorem one_dPD : ((List.range Tryd.prog.funcs.size).filter fun f => (Tryd.prog.funcs[f]?).any (·.name.toUTF8.data.toList == [106, 111, 116, 116, 101, 114, 47, 111, 116, 46, 100, 101, 108, 101, 116, 101, 80, 97, 115, 116, 68, 101, 108, 101, 116, 101])) = [113] := by kernel_rfl
theorem cells_33rule : Tryd.prog.cellsOf 159 = 9 := by kernel_rfl
theorem cells_3rule : Tryd.prog.cellsOf 158 = 3 := by kernel_rfl
theorem cells_rule : Tryd.prog.cellsOf 157 = 1 := by kernel_rfl
theorem rule_is {w : World} {base : Nat} {sp : Nat → Bool} {fuel : Nat} {cs : List Value} {b : UInt8} {r : List UInt8} {q : List MemPlace} {f0 : FuncId} (hone : ((List.range Tryd.prog.funcs.size).filter fun f => (Tryd.prog.funcs[f]?).any (·.name.toUTF8.data.toList == b :: r)) = [f0])
    (h : DataW.trod (funcToken Tryd.prog) Tryd.prog w base sp true fuel 157 cs = some (.held (b :: r), q)) : cs = [.func (.func f0) #[] #[]] := by
  match cs, h with
  | [v], h => rw [func_of_trod Tryd.underlying157 hone h]
  | [], h => cases fuel <;> simp [DataW.trod, Tryd.underlying157] at h
  | _ :: _ :: _, h => cases fuel <;> simp [DataW.trod, Tryd.underlying157] at h
set_option maxRecDepth 100000 in
theorem rules_of_laid {W : World} (h : laidMetH Tryd.prog laid2 W) : Rules W := by
  obtain ⟨g, t, cs, fuel, p, hg, ht, hv, hd⟩ := h.funcs (List.mem_cons_of_mem _ (List.mem_singleton.2 rfl))
  obtain rfl := Option.some.inj (rl_var.symm.trans hg)
  obtain rfl := Option.some.inj (rl_type.symm.trans ht)
  have c := World.var?_cell hg hv
  obtain ⟨n, q0, q1, q2, r0, r1, r2⟩ := arr3 Tryd.underlying159 cells_3rule hd
  obtain ⟨n0, a0, a1, a2, x0, x1, x2⟩ := arr3 Tryd.underlying158 cells_rule r0
  obtain ⟨n1, b0, b1, b2, y0, y1, y2⟩ := arr3 Tryd.underlying158 cells_rule r1
  obtain ⟨n2, c0, c1, c2, z0, z1, z2⟩ := arr3 Tryd.underlying158 cells_rule r2
  obtain ⟨l⟩ := cs
  obtain ⟨_, _, _, _, hl, _⟩ := DataW.trod_array Tryd.underlying159 hd
  rw [cells_33rule] at hl
  match l, hl with
  | [v0, v1, v2, v3, v4, v5, v6, v7, v8], _ =>
    have k0 := rule_is one_stays x0; have k1 := rule_is one_stays x1; have k2 := rule_is one_stays x2
    have k3 := rule_is one_stays y0; have k4 := rule_is one_iPI y1; have k5 := rule_is one_iPD y2
    have k6 := rule_is one_stays z0; have k7 := rule_is one_dPI z1; have k8 := rule_is one_dPD z2
    simp at k0 k1 k2 k3 k4 k5 k6 k7 k8
    subst k0 k1 k2 k3 k4 k5 k6 k7 k8
    exact ⟨c 0, c 1, c 2, c 3, c 4, c 5, c 6, c 7, c 8⟩
end Go.Proofs.YtjeidklpomekdaaDoor

