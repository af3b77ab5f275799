/- Part 7 of the proof of BookReplays: Eq, Untouched, Catch, Catch2, Replay, RBook, Life0, Life1, Life2. -/
import Derived.Deep.QuietTactic
import Derived.BigQuiet
import Derived.Defers
import Derived.Recover
import Derived.Deep.CutBlock
import Derived.Test.YtjeidklpomekdaaDoorBr6

set_option linter.unusedVariables false
set_option linter.unusedSimpArgs false
set_option linter.unnecessarySimpa false

/- The law's own comparisons of lists: eqOps, eqEdits, eqElems; still. -/
namespace Go.Proofs.YtjeidklpomekdaaDoor
open Go.RowKit

theorem drewN_drewN (w : World) (n m : Nat) : (w.drewN n).drewN m = w.drewN (n + m) := by
  simp [World.drewN, Nat.add_assoc]
theorem take_eq_of {α : Type} {xs ys : List α} {k : Nat} (h : xs.take k = ys.take k) (hx : k < xs.length) (hy : k < ys.length) (he : xs[k] = ys[k]) : xs.take (k + 1) = ys.take (k + 1) := by
  rw [List.take_succ_eq_append_getElem hx, List.take_succ_eq_append_getElem hy, h, he]

set_option maxHeartbeats 400000 in
theorem eqOps_any (u v : Value) (xs ys : List Opr) (w : World) (hx : SlR w Opr.cells 5 u xs) (hy : SlR w Opr.cells 5 v ys) :
    Calls Tryd.prog 10 #[u, v] w fun e w' => e = .returned (.bool (decide (xs = ys))) ∧ ∃ n, w' = w.drewN n := by
  obtain ⟨a, cap, rfl, hxl, _, hxc⟩ := hx
  obtain ⟨a', cap', rfl, hyl, _, hyc⟩ := hy
  by_cases hl : xs.length = ys.length
  · have HL := Lib.hid hl; have HX := Lib.hid hxc; have HY := Lib.hid hyc; clear hxc hyc hl
    have hl' : ((xs.length : Int) != ys.length) = false := by rw [HL.out]; simp
    go_enter Tryd.func10, Tryd.ntmps10
    go_wp2
    go_loopw [5] (fun i wr => ∃ k m : Nat, k ≤ xs.length ∧ i = .int .i64 k ∧ xs.take k = ys.take k ∧ wr = w.drewN m) (fun i _ => xs.length - (intOf i).toNat)
    case atStart => exact ⟨0, 0, Nat.zero_le _, rfl, rfl, rfl⟩
    case round =>
      obtain ⟨k, m, hk, rfl, hd, rfl⟩ := hrel
      have HD := Lib.hid hd; clear hd
      by_cases hlt : k < xs.length
      · have hlt' : k < ys.length := by rw [← HL.out]; exact hlt
        obtain ⟨b, off, rfl, hb⟩ := HX.out k hlt
        obtain ⟨b', off', rfl, hb'⟩ := HY.out k hlt'
        have HB := Lib.hid hb; have HB' := Lib.hid hb'; clear hb hb'
        have c0 : w.cell? ⟨b, off + k * 5, none⟩ = some (.int .i64 xs[k].kind) := HB.out 0 _ rfl
        have c1 : w.cell? ⟨b, off + k * 5 + 1, none⟩ = some (.int .i64 xs[k].pos) := HB.out 1 _ rfl
        have c2 : w.cell? ⟨b, off + k * 5 + 2, none⟩ = some (.int .u8 xs[k].ch) := HB.out 2 _ rfl
        have c3 : w.cell? ⟨b, off + k * 5 + 3, none⟩ = some (.int .i64 xs[k].client) := HB.out 3 _ rfl
        have c4 : w.cell? ⟨b, off + k * 5 + 4, none⟩ = some (.int .i64 xs[k].seq) := HB.out 4 _ rfl
        have d0 : w.cell? ⟨b', off' + k * 5, none⟩ = some (.int .i64 ys[k].kind) := HB'.out 0 _ rfl
        have d1 : w.cell? ⟨b', off' + k * 5 + 1, none⟩ = some (.int .i64 ys[k].pos) := HB'.out 1 _ rfl
        have d2 : w.cell? ⟨b', off' + k * 5 + 2, none⟩ = some (.int .u8 ys[k].ch) := HB'.out 2 _ rfl
        have d3 : w.cell? ⟨b', off' + k * 5 + 3, none⟩ = some (.int .i64 ys[k].client) := HB'.out 3 _ rfl
        have d4 : w.cell? ⟨b', off' + k * 5 + 4, none⟩ = some (.int .i64 ys[k].seq) := HB'.out 4 _ rfl
        have hne := fun W => neq_op xs[k] ys[k] W
        go_wp2
        go_quiet (fail)
        go_wp2
        · go_ret
          have he : (!decide (xs[k] = ys[k])) = true := by assumption
          have hn : xs ≠ ys := fun h => by simp [h] at he
          exact ⟨by rw [decide_eq_false hn]; rfl, m + nq, by first | rfl | exact drewN_drewN _ _ _⟩
        · have he : (!decide (xs[k] = ys[k])) = false := by assumption
          exact ⟨⟨k + 1, m + nq, by omega, by go_num, take_eq_of HD.out hlt hlt' (by simpa using he), rfl⟩, by simp [intOf]; omega⟩
      · go_wp2
        go_ret
        refine ⟨?_, m, rfl⟩
        have : xs = ys := by
          have h := HD.out
          rwa [List.take_of_length_le (by omega), List.take_of_length_le (by have := HL.out; omega)] at h
        rw [decide_eq_true this]; rfl
  · have hl' : ((xs.length : Int) != ys.length) = true := by simp; omega
    go_enter Tryd.func10, Tryd.ntmps10
    go_wp2
    go_ret
    have hn : xs ≠ ys := fun h => hl (by simp only [h])
    exact ⟨by rw [decide_eq_false hn]; rfl, 0, rfl⟩

set_option maxHeartbeats 400000 in
theorem eqEdits_any (u v : Value) (xs ys : List Edt) (w : World) (hx : SlR w Edt.cells 6 u xs) (hy : SlR w Edt.cells 6 v ys) :
    Calls Tryd.prog 8 #[u, v] w fun e w' => e = .returned (.bool (decide (xs = ys))) ∧ ∃ n, w' = w.drewN n := by
  obtain ⟨a, cap, rfl, hxl, _, hxc⟩ := hx
  obtain ⟨a', cap', rfl, hyl, _, hyc⟩ := hy
  by_cases hl : xs.length = ys.length
  · have HL := Lib.hid hl; have HX := Lib.hid hxc; have HY := Lib.hid hyc; clear hxc hyc hl
    have hl' : ((xs.length : Int) != ys.length) = false := by rw [HL.out]; simp
    go_enter Tryd.func8, Tryd.ntmps8
    go_wp2
    go_loopw [5] (fun i wr => ∃ k m : Nat, k ≤ xs.length ∧ i = .int .i64 k ∧ xs.take k = ys.take k ∧ wr = w.drewN m) (fun i _ => xs.length - (intOf i).toNat)
    case atStart => exact ⟨0, 0, Nat.zero_le _, rfl, rfl, rfl⟩
    case round =>
      obtain ⟨k, m, hk, rfl, hd, rfl⟩ := hrel
      have HD := Lib.hid hd; clear hd
      by_cases hlt : k < xs.length
      · have hlt' : k < ys.length := by rw [← HL.out]; exact hlt
        obtain ⟨b, off, rfl, hb⟩ := HX.out k hlt
        obtain ⟨b', off', rfl, hb'⟩ := HY.out k hlt'
        have HB := Lib.hid hb; have HB' := Lib.hid hb'; clear hb hb'
        have c0 : w.cell? ⟨b, off + k * 6, none⟩ = some (.int .i64 xs[k].tag) := HB.out 0 _ rfl
        have c1 : w.cell? ⟨b, off + k * 6 + 1, none⟩ = some (.int .i64 xs[k].op.kind) := HB.out 1 _ rfl
        have c2 : w.cell? ⟨b, off + k * 6 + 2, none⟩ = some (.int .i64 xs[k].op.pos) := HB.out 2 _ rfl
        have c3 : w.cell? ⟨b, off + k * 6 + 3, none⟩ = some (.int .u8 xs[k].op.ch) := HB.out 3 _ rfl
        have c4 : w.cell? ⟨b, off + k * 6 + 4, none⟩ = some (.int .i64 xs[k].op.client) := HB.out 4 _ rfl
        have c5 : w.cell? ⟨b, off + k * 6 + 5, none⟩ = some (.int .i64 xs[k].op.seq) := HB.out 5 _ rfl
        have d0 : w.cell? ⟨b', off' + k * 6, none⟩ = some (.int .i64 ys[k].tag) := HB'.out 0 _ rfl
        have d1 : w.cell? ⟨b', off' + k * 6 + 1, none⟩ = some (.int .i64 ys[k].op.kind) := HB'.out 1 _ rfl
        have d2 : w.cell? ⟨b', off' + k * 6 + 2, none⟩ = some (.int .i64 ys[k].op.pos) := HB'.out 2 _ rfl
        have d3 : w.cell? ⟨b', off' + k * 6 + 3, none⟩ = some (.int .u8 ys[k].op.ch) := HB'.out 3 _ rfl
        have d4 : w.cell? ⟨b', off' + k * 6 + 4, none⟩ = some (.int .i64 ys[k].op.client) := HB'.out 4 _ rfl
        have d5 : w.cell? ⟨b', off' + k * 6 + 5, none⟩ = some (.int .i64 ys[k].op.seq) := HB'.out 5 _ rfl
        have hne := fun W => neq_edit xs[k] ys[k] W
        go_wp2
        go_quiet (fail)
        go_wp2
        · go_ret
          have he : (!decide (xs[k] = ys[k])) = true := by assumption
          have hn : xs ≠ ys := fun h => by simp [h] at he
          exact ⟨by rw [decide_eq_false hn]; rfl, m + nq, by first | rfl | exact drewN_drewN _ _ _⟩
        · have he : (!decide (xs[k] = ys[k])) = false := by assumption
          exact ⟨⟨k + 1, m + nq, by omega, by go_num, take_eq_of HD.out hlt hlt' (by simpa using he), rfl⟩, by simp [intOf]; omega⟩
      · go_wp2
        go_ret
        refine ⟨?_, m, rfl⟩
        have : xs = ys := by
          have h := HD.out
          rwa [List.take_of_length_le (by omega), List.take_of_length_le (by have := HL.out; omega)] at h
        rw [decide_eq_true this]; rfl
  · have hl' : ((xs.length : Int) != ys.length) = true := by simp; omega
    go_enter Tryd.func8, Tryd.ntmps8
    go_wp2
    go_ret
    have hn : xs ≠ ys := fun h => hl (by simp only [h])
    exact ⟨by rw [decide_eq_false hn]; rfl, 0, rfl⟩

set_option maxHeartbeats 400000 in
theorem eqElems_any (u v : Value) (xs ys : List Elm) (w : World) (hx : SlR w Elm.cells 3 u xs) (hy : SlR w Elm.cells 3 v ys) :
    Calls Tryd.prog 11 #[u, v] w fun e w' => e = .returned (.bool (decide (xs = ys))) ∧ ∃ n, w' = w.drewN n := by
  obtain ⟨a, cap, rfl, hxl, _, hxc⟩ := hx
  obtain ⟨a', cap', rfl, hyl, _, hyc⟩ := hy
  by_cases hl : xs.length = ys.length
  · have HL := Lib.hid hl; have HX := Lib.hid hxc; have HY := Lib.hid hyc; clear hxc hyc hl
    have hl' : ((xs.length : Int) != ys.length) = false := by rw [HL.out]; simp
    go_enter Tryd.func11, Tryd.ntmps11
    go_wp2
    go_loopw [5] (fun i wr => ∃ k m : Nat, k ≤ xs.length ∧ i = .int .i64 k ∧ xs.take k = ys.take k ∧ wr = w.drewN m) (fun i _ => xs.length - (intOf i).toNat)
    case atStart => exact ⟨0, 0, Nat.zero_le _, rfl, rfl, rfl⟩
    case round =>
      obtain ⟨k, m, hk, rfl, hd, rfl⟩ := hrel
      have HD := Lib.hid hd; clear hd
      by_cases hlt : k < xs.length
      · have hlt' : k < ys.length := by rw [← HL.out]; exact hlt
        obtain ⟨b, off, rfl, hb⟩ := HX.out k hlt
        obtain ⟨b', off', rfl, hb'⟩ := HY.out k hlt'
        have HB := Lib.hid hb; have HB' := Lib.hid hb'; clear hb hb'
        have c0 : w.cell? ⟨b, off + k * 3, none⟩ = some (.int .u8 xs[k].ch) := HB.out 0 _ rfl
        have c1 : w.cell? ⟨b, off + k * 3 + 1, none⟩ = some (.int .i64 xs[k].client) := HB.out 1 _ rfl
        have c2 : w.cell? ⟨b, off + k * 3 + 2, none⟩ = some (.int .i64 xs[k].seq) := HB.out 2 _ rfl
        have d0 : w.cell? ⟨b', off' + k * 3, none⟩ = some (.int .u8 ys[k].ch) := HB'.out 0 _ rfl
        have d1 : w.cell? ⟨b', off' + k * 3 + 1, none⟩ = some (.int .i64 ys[k].client) := HB'.out 1 _ rfl
        have d2 : w.cell? ⟨b', off' + k * 3 + 2, none⟩ = some (.int .i64 ys[k].seq) := HB'.out 2 _ rfl
        have hne := fun W => neq_elem xs[k] ys[k] W
        go_wp2
        go_quiet (fail)
        go_wp2
        · go_ret
          have he : (!decide (xs[k] = ys[k])) = true := by assumption
          have hn : xs ≠ ys := fun h => by simp [h] at he
          exact ⟨by rw [decide_eq_false hn]; rfl, m + nq, by first | rfl | exact drewN_drewN _ _ _⟩
        · have he : (!decide (xs[k] = ys[k])) = false := by assumption
          exact ⟨⟨k + 1, m + nq, by omega, by go_num, take_eq_of HD.out hlt hlt' (by simpa using he), rfl⟩, by simp [intOf]; omega⟩
      · go_wp2
        go_ret
        refine ⟨?_, m, rfl⟩
        have : xs = ys := by
          have h := HD.out
          rwa [List.take_of_length_le (by omega), List.take_of_length_le (by have := HL.out; omega)] at h
        rw [decide_eq_true this]; rfl
  · have hl' : ((xs.length : Int) != ys.length) = true := by simp; omega
    go_enter Tryd.func11, Tryd.ntmps11
    go_wp2
    go_ret
    have hn : xs ≠ ys := fun h => hl (by simp only [h])
    exact ⟨by rw [decide_eq_false hn]; rfl, 0, rfl⟩
end Go.Proofs.YtjeidklpomekdaaDoor

/- The law's untouched. -/
namespace Go.Proofs.YtjeidklpomekdaaDoor
open Go.RowKit

theorem SlO.svAt {w : World} {base : Nat} {T : TypeId} {g n cap : Nat} {ps : List Sv} (h : SlO w base T Sv.cells 1 (.slice (some ⟨g, 0, none⟩) n cap) ps) (i : Nat) (hi : i < ps.length) : w.cell? ⟨g, i, none⟩ = some ps[i].val := by
  have := h.cell len_sv rfl i 0 hi _ rfl
  simpa using this

theorem SlO.some_of {w : World} {base : Nat} {T : TypeId} {a : Option Addr} {n cap : Nat} {ps : List Sv} (h : SlO w base T Sv.cells 1 (.slice a n cap) ps) (hl : 0 < ps.length) : ∃ g, a = some ⟨g, 0, none⟩ := by
  rcases h.form with ⟨_, e⟩ | ⟨g, c, e, _⟩
  · rw [e] at hl; simp at hl
  · cases e; exact ⟨g, rfl⟩
set_option maxRecDepth 100000 in
set_option maxHeartbeats 6400000 in
theorem untouched_any (sb : Nat) (v0 v1 v2 v3 : Value) (mark : Int) (ps qs ds es : List Sv) (w : World) (b0 : Nat) (hp : w.heap[sb]? = some (shBlk v0 v1 v2 v3 mark))
    (h0 : SlO w b0 22 Sv.cells 1 v0 ps) (h1 : SlO w b0 22 Sv.cells 1 v1 qs) (h2 : SlO w b0 25 Sv.cells 1 v2 ds) (h3 : SlO w b0 25 Sv.cells 1 v3 es)
    (hpq : qs.length = ps.length) (hde : es.length = ds.length) (hpl : ps.length ≤ 1000) (hdl : ds.length ≤ 1000)
    (hE : ∀ i (h : i < ps.length) (h' : i < qs.length), ∃ X, SlR w Edt.cells 6 ps[i].val X ∧ SlR w Edt.cells 6 qs[i].val X) (hD : ∀ i (h : i < ds.length) (h' : i < es.length), ∃ X, SlR w Elm.cells 3 ds[i].val X ∧ SlR w Elm.cells 3 es[i].val X) :
    Calls Tryd.prog 15 #[.pointer (some ⟨sb, 0, none⟩)] w fun e w' => e = .returned (.bool true) ∧ Below w.heap.size w w' := by
  obtain ⟨a0, c0, hv0, _⟩ := h0.len
  obtain ⟨a1, c1, hv1, _⟩ := h1.len
  obtain ⟨a2, c2, hv2, _⟩ := h2.len
  obtain ⟨a3, c3, hv3, _⟩ := h3.len
  have HP := Lib.hid hp; have H0 := Lib.hid h0; have H1 := Lib.hid h1; have H2 := Lib.hid h2; have H3 := Lib.hid h3; have HE := Lib.hid hE; have HD := Lib.hid hD; have HPQ := Lib.hid hpq; have HDE := Lib.hid hde
  subst hv0 hv1 hv2 hv3
  clear hp h0 h1 h2 h3 hE hD hpq hde
  have C := blk_cell HP.out; have LP := blk_lt HP.out
  go_enter Tryd.func15, Tryd.ntmps15
  go_wp2
  go_loopw [3] (fun i wr => ∃ k : Nat, k ≤ ps.length ∧ i = .int .i64 k ∧ ∃ m, wr = w.drewN m) (fun i _ => ps.length - (intOf i).toNat)
  case atStart => exact ⟨0, Nat.zero_le _, rfl, 0, rfl⟩
  case round =>
    obtain ⟨k, hk, rfl, m, rfl⟩ := hrel
    by_cases hlt : k < ps.length
    ·
      obtain ⟨g0, rfl⟩ := H0.out.some_of (by omega)
      obtain ⟨g1, rfl⟩ := H1.out.some_of (by rw [HPQ.out]; omega)
      have hk' : k < qs.length := by rw [HPQ.out]; exact hlt
      have c0' := H0.out.svAt k hlt
      have c1' := H1.out.svAt k hk'
      obtain ⟨X, hX, hY⟩ := HE.out k hlt hk'
      have HX := Lib.hid hX; have HY := Lib.hid hY; clear hX hY
      have hql : (qs.length : Int) = ps.length := by rw [HPQ.out]
      rw [HPQ.out] at C
      generalize ps[k] = p at *
      generalize qs[k] = q at *
      go_wp2
      go_region_with (go_at_call 8; refine (eqEdits_any p.val q.val X X _ (by exact HX.out.below (by ((repeat' (first | with_reducible refine Below.drewN ?_ _ | with_reducible refine Below.drew ?_ | with_reducible refine Below.new ?_ _)) <;> with_reducible exact Below.refl _ _))) (by exact HY.out.below (by ((repeat' (first | with_reducible refine Below.drewN ?_ _ | with_reducible refine Below.drew ?_ | with_reducible refine Below.new ?_ _)) <;> with_reducible exact Below.refl _ _)))).mono ?_; rintro e w2 ⟨rfl, m2, rfl⟩)
      all_goals
        go_wp2
        exact ⟨⟨k + 1, by omega, by go_num, _, rfl⟩, by simp [intOf]; omega⟩
    · go_wp2
      go_loopw [4] (fun i wr => ∃ k : Nat, k ≤ ds.length ∧ i = .int .i64 k ∧ ∃ m, wr = w.drewN m) (fun i _ => ds.length - (intOf i).toNat)
      case atStart => exact ⟨0, Nat.zero_le _, rfl, _, rfl⟩
      case round =>
        obtain ⟨k, hk, rfl, m, rfl⟩ := hrel
        by_cases hlt : k < ds.length
        ·
          obtain ⟨g0, rfl⟩ := H2.out.some_of (by omega)
          obtain ⟨g1, rfl⟩ := H3.out.some_of (by rw [HDE.out]; omega)
          have hk' : k < es.length := by rw [HDE.out]; exact hlt
          have c2' := H2.out.svAt k hlt
          have c3' := H3.out.svAt k hk'
          obtain ⟨X, hX, hY⟩ := HD.out k hlt hk'
          have HX := Lib.hid hX; have HY := Lib.hid hY; clear hX hY
          have hql : (es.length : Int) = ds.length := by rw [HDE.out]
          rw [HDE.out] at C
          generalize ds[k] = p at *
          generalize es[k] = q at *
          go_wp2
          go_region_with (go_at_call 11; refine (eqElems_any p.val q.val X X _ (by exact HX.out.below (by ((repeat' (first | with_reducible refine Below.drewN ?_ _ | with_reducible refine Below.drew ?_ | with_reducible refine Below.new ?_ _)) <;> with_reducible exact Below.refl _ _))) (by exact HY.out.below (by ((repeat' (first | with_reducible refine Below.drewN ?_ _ | with_reducible refine Below.drew ?_ | with_reducible refine Below.new ?_ _)) <;> with_reducible exact Below.refl _ _)))).mono ?_; rintro e w2 ⟨rfl, m2, rfl⟩)
          all_goals
            go_wp2
            exact ⟨⟨k + 1, by omega, by go_num, _, rfl⟩, by simp [intOf]; omega⟩
        · go_wp2
          go_ret
          exact ⟨rfl, (Below.refl _ _).drewN m⟩
end Go.Proofs.YtjeidklpomekdaaDoor

/- Replay's deferred closure. -/
namespace Go.Proofs.YtjeidklpomekdaaDoor
open Go.RowKit

def seqL : Code → Code
  | .seq a _ => a
  | c => c
def seqR : Code → Code
  | .seq _ b => b
  | c => c
noncomputable def catchBody : Code := Tryd.f22.body.getD .skip

theorem postS_of {P : Program} {fn : Func} {c₀ : Frame} {cs : List Frame} {R : Ending → World → Prop} {u' : FrameMode} {e : Exit} {a : Act} {w : World} (h : bodyPost P fn R e a w) :
    bodyPostS P fn c₀ cs (fun r u w => u = u' ∧ R r w) e a ({ c₀ with mode := u' } :: cs) w := by
  cases e with
  | normal => obtain ⟨h1, v, h2, h3⟩ := h; exact ⟨h1, u', rfl, v, h2, rfl, h3⟩
  | ret => obtain ⟨h1, v, h2, h3⟩ := h; exact ⟨h1, u', rfl, v, h2, rfl, h3⟩
  | panic ch => obtain ⟨h1, h3⟩ := h; exact ⟨h1, u', rfl, rfl, h3⟩
  | outgrown => exact ⟨u', rfl, h⟩
  | exit id => exact h.elim
  | goto l => exact h.elim
theorem thenS_of {P : Program} {fn : Func} {c₀ : Frame} {cs : List Frame} {R : Ending → World → Prop} {u' : FrameMode} {x y : Code} {a : Act} {w : World}
    (h : ∀ K : Act → World → Prop, (∀ a w, y.wp P (bodyPost P fn R) a w → K a w) → x.wp P (Exit.then K (bodyPost P fn R)) a w) :
    x.wpS P (Exit.thenS (y.wpS P (bodyPostS P fn c₀ cs (fun r u w => u = u' ∧ R r w))) (bodyPostS P fn c₀ cs (fun r u w => u = u' ∧ R r w))) a ({ c₀ with mode := u' } :: cs) w := by
  refine wpS_of_wp (wp_mono (h (y.wp P (bodyPost P fn R)) (fun _ _ h => h)) ?_)
  intro e a' w' hq
  cases e with
  | normal => exact wpS_of_wp (wp_mono hq (fun _ _ _ h => postS_of h))
  | ret => exact postS_of (P := P) (fn := fn) (e := .ret) hq
  | panic ch => exact postS_of (P := P) (fn := fn) (e := .panic ch) hq
  | outgrown => exact ⟨u', rfl, hq⟩
  | exit id => exact hq.elim
  | goto l => exact hq.elim

/-- What Replay's variables are at the door. -/
structure Door (w : World) (pb : Nat) (ρ : BookL) (σ : BookS) (bE bB bO bT : Nat) : Prop where
  h : BookAt w pb ρ σ
  b : w.heap[bB]? = some (.cells #[.pointer (some ⟨pb, 0, none⟩)] 61 (0, 0))
  o : ∃ v, w.heap[bO]? = some (.cells #[v] 24 (0, 0))
  t : ∃ v, w.heap[bT]? = some (.cells #[v] 25 (0, 0))
  ne : bO ≠ bT ∧ bO ≠ bB ∧ bT ≠ bB ∧ bE ≠ bO ∧ bE ≠ bT ∧ bE ≠ bB
  n : bO ∉ ρ.foot pb ∧ bT ∉ ρ.foot pb ∧ bE ∉ ρ.foot pb
/-- What the closure's last two rows leave. -/
def TailPost (w w' : World) (ρ : BookL) (σ : BookS) (bO bT : Nat) : Prop := ∃ dv, w'.heap[bO]? = some (.cells #[ρ.vD] 24 (0, 0)) ∧ w'.heap[bT]? = some (.cells #[dv] 25 (0, 0)) ∧
  SlO w' w.heap.size 50 Elm.cells 3 dv (replay [] σ.done) ∧ Mod [bO, bT] w w' ∧ ∃ a c, dv = .slice (some a) (replay [] σ.done).length c

theorem catch_tail_end {w w1 w3 : World} {ρ : BookL} {σ : BookS} {bO bT n N cD cd : Nat} {aD : Option Addr} {ad : Addr} {u v : Value} (hne : bO ≠ bT) (hm1 : Mod [bO] w w1) (ho1 : w1.heap[bO]? = some (.cells #[.slice aD N cD] 24 (0, 0))) (ht1 : w1.heap[bT]? = some (.cells #[u] 25 (0, 0)))
    (hb3 : Below w1.drew.heap.size w1.drew w3) (ht3 : w3.heap[bT]? = some (.cells #[v] 25 (0, 0))) (hsd : SlO w3 w1.drew.heap.size 50 Elm.cells 3 (.slice (some ad) (replay [] (σ.done.take n)).length cd) (replay [] (σ.done.take n)))
    (hvd : ρ.vD = .slice aD N cD) (hn : σ.done.take n = σ.done) : TailPost w (w3.setCell ⟨bT, 0, none⟩ (.slice (some ad) (replay [] (σ.done.take n)).length cd)) ρ σ bO bT := by
  rw [hn] at hsd ⊢
  have hb : Below w1.heap.size w1 w3 := Below.then_ (Below.refl _ w1).drew hb3
  have hms := Mod.setCell w3 bT 0 (.slice (some ad) (replay [] σ.done).length cd)
  have hlt : bT < w1.heap.size := blk_lt ht1
  have hsz := hm1.size
  refine ⟨_, ?_, blk_set ht3 0 _, ?_, ?_, _, _, rfl⟩
  · rw [hvd]; exact hms.blk (by simpa using hne) (hb.blk ho1)
  · refine (hsd.mod hms (fun q hq => ?_)).rebase (fun q hq => ?_)
    · have h2 : w1.heap.size ≤ q := (hsd.lt q hq).1
      simp; omega
    · have h2 : w1.heap.size ≤ q := (hsd.lt q hq).1
      omega
  · exact ((hm1.weaken (fun k hk => Or.inl (by simp at hk; simp [hk]))).then_ (Mod.of_below (L := []) hb) (by simp)).then_ hms (fun k hk => by simp at hk; simp [hk])

set_option maxRecDepth 100000 in
set_option maxHeartbeats 3200000 in
theorem catch_tail {u4 u5 u6 u7 u8 u9 u10 u11 u12 u13 u14 u15 u16 u17 u18 u19 u20 u21 u22 u23 u24 u25 u26 u27 u28 u29 u30 u31 u32 u33 u34 u35 : Value} (pb bE bB bO bT : Nat) (ρ : BookL) (σ : BookS) (w : World) (D : Door w pb ρ σ bE bB bO bT) (I : BookInv σ) (hf : AllFit [] σ.done) (hc : ∀ o ∈ σ.done, 0 ≤ o.ch ∧ o.ch ≤ 255)
    (R : Ending → World → Prop) (hR : ∀ w', TailPost w w' ρ σ bO bT → R (.returned (.tuple #[])) w') :
    Code.wp Tryd.prog (seqR catchBody) (bodyPost Tryd.prog Tryd.f22 R) ⟨List.toArray (.pointer (some ⟨bE, 0, none⟩) :: .pointer (some ⟨bB, 0, none⟩) :: .pointer (some ⟨bO, 0, none⟩) :: .pointer (some ⟨bT, 0, none⟩) :: u4 :: u5 :: u6 :: u7 :: u8 :: u9 :: u10 :: u11 :: u12 :: u13 :: u14 :: u15 :: u16 :: u17 :: u18 :: u19 :: u20 :: u21 :: u22 :: u23 :: u24 :: u25 :: u26 :: u27 :: u28 :: u29 :: u30 :: u31 :: u32 :: u33 :: u34 :: u35 :: []), []⟩ w := by
  conv => arg 2; whnf
  obtain ⟨v1, ho⟩ := D.o
  obtain ⟨v2, ht⟩ := D.t
  obtain ⟨aD, cD, hvD, _⟩ := D.h.hD.len
  have CB := blk_cell D.b; have CP := blk_cell D.h.hp; have FO := blk_free ho; have CO := blk_cell ho
  have LB := blk_lt D.b; have LO := blk_lt ho; have LT := blk_lt ht; have LP := blk_lt D.h.hp
  have hsz := I.size; have hdl := I.done
  have hm1 := Mod.setCell w bO 0 ρ.vD
  have h1 := D.h.mod (M := [bO]) hm1 (fun l hl k hk hk' => D.n.1 (by rw [List.mem_singleton] at hk'; exact hk' ▸ BookL.mem_foot.2 ⟨l, hl, hk⟩))
  have hb1 := hm1.blk (by simp; exact Ne.symm D.ne.2.1) D.b
  have ht1 := hm1.blk (by simp; exact Ne.symm D.ne.1) ht
  have ho1 := blk_set ho 0 ρ.vD
  have hz := hm1.size
  have hne : bO ≠ bT := D.ne.1
  rw [hvD] at h1 hb1 ht1 ho1 hz CP hm1
  have H1 := Lib.hid h1; have HB1 := Lib.hid hb1; have HT1 := Lib.hid ht1; have HO1 := Lib.hid ho1; have DD := Lib.hid D; have HF := Lib.hid hf; have HC := Lib.hid hc; have II := Lib.hid I; have HVD := Lib.hid hvD; have HM1 := Lib.hid hm1; have HNE := Lib.hid hne
  have HDL := Lib.hid hdl
  have HRR := Lib.hid hR
  clear h1 hb1 ht1 ho1 D hf hc I hvD hm1 hne hdl hR
  go_wp2
  generalize w.setCell ⟨bO, 0, none⟩ (.slice aD σ.done.length cD) = w1 at *
  have CB1 := blk_cell HB1.out; have CT1 := blk_cell HT1.out; have FT1 := blk_free HT1.out
  have hz1 := Lib.hid hz
  have LT1 : bT < w1.heap.size := blk_lt HT1.out
  have LB1 : bB < w1.heap.size := blk_lt HB1.out
  have HFT := Lib.hid (show AllFit [] (σ.done.take σ.edits.length) by rw [List.take_of_length_le (by have := HDL.out; omega)]; exact HF.out)
  clear CB CP FO CO ho ht
  go_region_law (first
    | (go_simp; go_at_call 24; refine (revs_any pb ρ σ _ (by exact H1.out.below (by ((repeat' (first | with_reducible refine Below.drewN ?_ _ | with_reducible refine Below.drew ?_ | with_reducible refine Below.new ?_ _)) <;> with_reducible exact Below.refl _ _))) (by omega)).mono ?_; rintro e w2 ⟨rfl, rfl⟩)
    | (go_simp; go_at_call 23; refine (bookDoc_any pb ρ σ _ (by exact H1.out.below (by ((repeat' (first | with_reducible refine Below.drewN ?_ _ | with_reducible refine Below.drew ?_ | with_reducible refine Below.new ?_ _)) <;> with_reducible exact Below.refl _ _))) σ.edits.length (Nat.le_refl _) HDL.out.symm (by omega) HFT.out HC.out).mono ?_; rintro e w3 ⟨dv, rfl, hsd, hb3, ad, cd, rfl⟩; have ht3 := (Below.then_ (Below.refl w1.heap.size w1).drew hb3).blk HT1.out; have CT3 := blk_cell ht3; have FT3 := blk_free ht3; have T3 := Lib.hid ht3; have HSD := Lib.hid hsd; have HB3 := Lib.hid hb3; clear ht3 hsd hb3))
  all_goals
    go_wp2
    refine bodyPost_end (results_none rfl _ _ _) rfl ?_
    exact HRR.out _ (catch_tail_end HNE.out HM1.out HO1.out HT1.out HB3.out T3.out HSD.out HVD.out (List.take_of_length_le (by have := HDL.out; omega)))
end Go.Proofs.YtjeidklpomekdaaDoor

/- Replay's deferred closure: its two contracts. -/
namespace Go.Proofs.YtjeidklpomekdaaDoor
open Go.RowKit

theorem thenS_of' {P : Program} {fn : Func} {c₀ c1 : Frame} {cs : List Frame} {R : Ending → World → Prop} {u' : FrameMode} {x y : Code} {a : Act} {w : World} (hc : c1 = { c₀ with mode := u' })
    (h : ∀ K : Act → World → Prop, (∀ a w, y.wp P (bodyPost P fn R) a w → K a w) → x.wp P (Exit.then K (bodyPost P fn R)) a w) :
    x.wpS P (Exit.thenS (y.wpS P (bodyPostS P fn c₀ cs (fun r u w => u = u' ∧ R r w))) (bodyPostS P fn c₀ cs (fun r u w => u = u' ∧ R r w))) a (c1 :: cs) w := by
  subst hc; exact thenS_of h

set_option maxRecDepth 100000 in
set_option maxHeartbeats 1600000 in
theorem catch_idle (pb bE bB bO bT : Nat) (ρ : BookL) (σ : BookS) (w : World) (D : Door w pb ρ σ bE bB bO bT) (I : BookInv σ) (hf : AllFit [] σ.done) (hc : ∀ o ∈ σ.done, 0 ≤ o.ch ∧ o.ch ≤ 255) :
    CallsD Tryd.prog 22 #[.pointer (some ⟨bE, 0, none⟩), .pointer (some ⟨bB, 0, none⟩), .pointer (some ⟨bO, 0, none⟩), .pointer (some ⟨bT, 0, none⟩)] .returning w
      fun r u' w' => u' = .returning ∧ (r = .returned (.tuple #[]) ∧ TailPost w w' ρ σ bO bT) := by
  refine callsD_of_wpS Tryd.func22 rfl fun c₀ cs hu => ?_
  apply wpS_seq
  apply wpS_seq
  apply wpS_region
  simp [wpOpsS, go_sem, recoverD, hu, Tryd.ntmps22, Exit.thenS]
  have hfr : (#[.pointer (some ⟨bE, 0, none⟩), .pointer (some ⟨bB, 0, none⟩), .pointer (some ⟨bO, 0, none⟩), .pointer (some ⟨bT, 0, none⟩)] : Array Value) ++ ((Array.replicate 32 undef).setIfInBounds 3 (.nilIface)).setIfInBounds 0 (.nilIface) = List.toArray (.pointer (some ⟨bE, 0, none⟩) :: .pointer (some ⟨bB, 0, none⟩) :: .pointer (some ⟨bO, 0, none⟩) :: .pointer (some ⟨bT, 0, none⟩) :: .nilIface :: undef :: undef :: .nilIface :: undef :: undef :: undef :: undef :: undef :: undef :: undef :: undef :: undef :: undef :: undef :: undef :: undef :: undef :: undef :: undef :: undef :: undef :: undef :: undef :: undef :: undef :: undef :: undef :: undef :: undef :: undef :: undef :: []) := by kernel_rfl
  rw [hfr]; clear hfr
  refine thenS_of' (fn := Tryd.f22) (R := fun r w' => r = .returned (.tuple #[]) ∧ TailPost w w' ρ σ bO bT) (by cases c₀; simp_all) fun K hK => ?_
  have HK := Lib.hid hK; clear hK
  go_wp2
  exact HK.out _ _ (catch_tail pb bE bB bO bT ρ σ w D I hf hc _ (fun w' h => ⟨rfl, h⟩))

theorem Door.mod {w w' : World} {pb bE bB bO bT : Nat} {ρ : BookL} {σ : BookS} (D : Door w pb ρ σ bE bB bO bT) (hm : Mod [bE] w w') : Door w' pb ρ σ bE bB bO bT where
  h := D.h.mod hm (fun l hl k hk hk' => D.n.2.2 (by rw [List.mem_singleton] at hk'; exact hk' ▸ BookL.mem_foot.2 ⟨l, hl, hk⟩))
  b := hm.blk (by simp; exact Ne.symm D.ne.2.2.2.2.2) D.b
  o := let ⟨v, h⟩ := D.o; ⟨v, hm.blk (by simp; exact Ne.symm D.ne.2.2.2.1) h⟩
  t := let ⟨v, h⟩ := D.t; ⟨v, hm.blk (by simp; exact Ne.symm D.ne.2.2.2.2.1) h⟩
  ne := D.ne
  n := D.n

/-- Its err is a Fault with this place and this number. -/
def FaultAt (w : World) (bE : Nat) (i code : Int) (base : Nat) : Prop := ∃ fb, base ≤ fb ∧ w.heap[bE]? = some (.cells #[.iface 66 (.pointer (some ⟨fb, 0, none⟩))] 29 (0, 0)) ∧ w.heap[fb]? = some (.cells #[.int .i64 i, .iface 74 (.int .i64 code)] 68 (0, 0))

set_option maxRecDepth 100000 in
set_option maxHeartbeats 1600000 in
theorem catch_panic (pb bE bB bO bT : Nat) (ρ : BookL) (σ : BookS) (w : World) (D : Door w pb ρ σ bE bB bO bT) (I : BookInv σ) (hf : AllFit [] σ.done) (hc : ∀ o ∈ σ.done, 0 ≤ o.ch ∧ o.ch ≤ 255) (i code : Int) (he : w.heap[bE]? = some (.cells #[.nilIface] 29 (0, 0))) :
    CallsD Tryd.prog 22 #[.pointer (some ⟨bE, 0, none⟩), .pointer (some ⟨bB, 0, none⟩), .pointer (some ⟨bO, 0, none⟩), .pointer (some ⟨bT, 0, none⟩)] (.panicking [{ v := unfitV i code, recovered := false }]) w
      fun r u' w' => u' = .panicking [{ v := unfitV i code, recovered := true }] ∧ (r = .returned (.tuple #[]) ∧ ∃ w1, TailPost w1 w' ρ σ bO bT ∧ FaultAt w1 bE i code w.heap.size ∧ Mod [bE] w w1) := by
  refine callsD_of_wpS Tryd.func22 rfl fun c₀ cs hu => ?_
  apply wpS_seq
  apply wpS_seq
  apply wpS_region
  simp [wpOpsS, go_sem, recoverD, hu, Tryd.ntmps22, Exit.thenS]
  have hfr : (#[.pointer (some ⟨bE, 0, none⟩), .pointer (some ⟨bB, 0, none⟩), .pointer (some ⟨bO, 0, none⟩), .pointer (some ⟨bT, 0, none⟩)] : Array Value) ++ ((Array.replicate 32 undef).setIfInBounds 3 (unfitV i code)).setIfInBounds 0 (unfitV i code) = List.toArray (.pointer (some ⟨bE, 0, none⟩) :: .pointer (some ⟨bB, 0, none⟩) :: .pointer (some ⟨bO, 0, none⟩) :: .pointer (some ⟨bT, 0, none⟩) :: unfitV i code :: undef :: undef :: unfitV i code :: undef :: undef :: undef :: undef :: undef :: undef :: undef :: undef :: undef :: undef :: undef :: undef :: undef :: undef :: undef :: undef :: undef :: undef :: undef :: undef :: undef :: undef :: undef :: undef :: undef :: undef :: undef :: undef :: []) := by kernel_rfl
  rw [hfr]; clear hfr
  refine thenS_of' (fn := Tryd.f22) (u' := .panicking [{ v := unfitV i code, recovered := true }]) (R := fun r w' => r = .returned (.tuple #[]) ∧ ∃ w1, TailPost w1 w' ρ σ bO bT ∧ FaultAt w1 bE i code w.heap.size ∧ Mod [bE] w w1) rfl fun K hK => ?_
  have CE := blk_cell he; have FE := blk_free he; have LE := blk_lt he
  have DD := Lib.hid D; have HE := Lib.hid he; have II := Lib.hid I; have HF := Lib.hid hf; have HC := Lib.hid hc
  have HK := Lib.hid hK
  clear D he I hf hc hK
  have hta : (Instr.typeAssert (unfitV i code) 20 64 true).run Tryd.prog w = .ok (.tuple #[.agg #[.int .i64 i, .iface 74 (.int .i64 code)], .bool true]) w := by kernel_rfl
  go_wp2
  have hm : Mod [bE] w (((w.setCell ⟨bE, 0, none⟩ (.iface 66 (.pointer (some ⟨w.heap.size + 1, 0, none⟩)))).alloc (.cells #[.int .i64 i, .iface 74 (.int .i64 code)] 64 (0, 0))).alloc (.cells #[.int .i64 i, .iface 74 (.int .i64 code)] 68 (0, 0))) :=
    ((Mod.setCell w bE 0 _).then_ (Mod.alloc [bE] _ _) (fun _ h => h)).then_ (Mod.alloc [bE] _ _) (fun _ h => h)
  refine HK.out _ _ (catch_tail pb bE bB bO bT ρ σ _ (DD.out.mod hm) II.out HF.out HC.out _ (fun w' h => ⟨rfl, _, h, ⟨w.heap.size + 1, by omega, ?_, ?_⟩, hm⟩))
  · exact blk_alloc _ (blk_alloc _ (blk_set HE.out 0 _))
  · exact blk_at _ (by simp)
end Go.Proofs.YtjeidklpomekdaaDoor

/- book.Replay. -/
namespace Go.Proofs.YtjeidklpomekdaaDoor
open Go.RowKit

def book1 : BookS := { book0 65 with epoch := 1, edited := [0] }
/-- Edits taken one by one, up to the first that cannot stand: the book, and that edit's place and number. -/
def replayGo : BookS → Nat → List Edt → BookS × Option (Nat × Int)
  | σ, _, [] => (σ, none)
  | σ, i, e :: l => if σ.check e = 0 then replayGo (σ.take e) (i + 1) l else (σ, some (i, σ.check e))
theorem replayGo_step (σ : BookS) (i : Nat) (l : List Edt) (k : Nat) (hk : k < l.length) {σ' : BookS} (h : replayGo σ i (l.take k) = (σ', none)) :
    (σ'.check l[k] = 0 → replayGo σ i (l.take (k + 1)) = (σ'.take l[k], none)) ∧ (σ'.check l[k] ≠ 0 → replayGo σ i l = (σ', some (i + k, σ'.check l[k]))) := by
  induction l generalizing σ i k with
  | nil => simp at hk
  | cons e l ih =>
    cases k with
    | zero =>
      simp only [List.take_zero, replayGo, Prod.mk.injEq, and_true] at h
      subst h
      refine ⟨fun h0 => ?_, fun h0 => ?_⟩
      · simp only [List.getElem_cons_zero] at h0 ⊢
        simp [replayGo, h0]
      · simp only [List.getElem_cons_zero] at h0 ⊢
        simp [replayGo, h0]
    | succ k =>
      simp only [List.take_succ_cons, replayGo] at h
      split at h
      · rename_i h0
        have := ih (σ.take e) (i + 1) k (by simpa using hk) h
        simp only [List.getElem_cons_succ, List.take_succ_cons, replayGo, h0, if_true]
        refine ⟨this.1, fun h1 => ?_⟩
        rw [this.2 h1]
        simp; omega
      · simp at h

/-- What the law of the reference must tell of the books that are met. -/
structure GoodP (G : BookS → Prop) : Prop where
  start : G book1
  step : ∀ σ e, G σ → σ.check e = 0 → 0 ≤ e.op.ch ∧ e.op.ch ≤ 255 → G (σ.take e)
  inv : ∀ σ, G σ → BookInv σ
  fit : ∀ σ, G σ → AllFit [] σ.done
  ch : ∀ σ, G σ → ∀ o ∈ σ.done, 0 ≤ o.ch ∧ o.ch ≤ 255

structure RInv (w : World) (pb bB : Nat) (σ : BookS) (ρ : BookL) (wr : World) : Prop where
  h : BookAt wr pb ρ σ
  new : ∀ q ∈ ρ.foot pb, w.heap.size + 3 ≤ q
  nB : bB ∉ ρ.foot pb
  lB : w.heap.size + 3 ≤ bB
  hB : wr.heap[bB]? = some (.cells #[.pointer (some ⟨pb, 0, none⟩)] 61 (0, 0))
  hO : wr.heap[w.heap.size]? = some (.cells #[.slice none 0 0] 24 (0, 0))
  hT : wr.heap[w.heap.size + 1]? = some (.cells #[.slice none 0 0] 25 (0, 0))
  hE : wr.heap[w.heap.size + 2]? = some (.cells #[.nilIface] 29 (0, 0))
  bel : Below w.heap.size w wr
theorem RInv.step {w wr w' : World} {pb bB : Nat} {σ σ' : BookS} {ρ ρ' : BookL} (I : RInv w pb bB σ ρ wr) (h' : BookAt w' pb ρ' σ') (s : BStep wr w' pb ρ ρ') : RInv w pb bB σ' ρ' w' where
  h := h'
  new := fun q hq => by
    rcases s.fresh q hq with h | h
    · exact I.new q h
    · have := blk_lt I.hE; omega
  nB := s.notin I.nB (blk_lt I.hB)
  lB := I.lB
  hB := s.mod.blk I.nB I.hB
  hO := s.mod.blk (fun h => by have := I.new _ h; omega) I.hO
  hT := s.mod.blk (fun h => by have := I.new _ h; omega) I.hT
  hE := s.mod.blk (fun h => by have := I.new _ h; omega) I.hE
  bel := I.bel.trans ⟨s.mod.os, s.mod.tape, s.mod.output, s.mod.size, fun k hk => s.mod.block k (by have := I.bel.size; omega) (fun h => by have := I.new _ h; omega)⟩
theorem RInv.below {w wr w' : World} {pb bB : Nat} {σ : BookS} {ρ : BookL} (I : RInv w pb bB σ ρ wr) (hb : Below wr.heap.size wr w') : RInv w pb bB σ ρ w' := I.step (I.h.below hb) (BStep.below hb pb ρ)
theorem RInv.door {w wr : World} {pb bB : Nat} {σ : BookS} {ρ : BookL} (I : RInv w pb bB σ ρ wr) : Door wr pb ρ σ (w.heap.size + 2) bB w.heap.size (w.heap.size + 1) where
  h := I.h
  b := I.hB
  o := ⟨_, I.hO⟩
  t := ⟨_, I.hT⟩
  ne := by have := I.lB; omega
  n := ⟨fun h => by have := I.new _ h; omega, fun h => by have := I.new _ h; omega, fun h => by have := I.new _ h; omega⟩

theorem RInv.set3 {w wr : World} {pb bB : Nat} {σ : BookS} {ρ : BookL} (I : RInv w pb bB σ ρ wr) :
    RInv w pb bB σ ρ (((wr.setCell ⟨w.heap.size, 0, none⟩ (.slice none 0 0)).setCell ⟨w.heap.size + 1, 0, none⟩ (.slice none 0 0)).setCell ⟨w.heap.size + 1 + 1, 0, none⟩ .nilIface) := by
  have hm : Mod [w.heap.size, w.heap.size + 1, w.heap.size + 1 + 1] wr (((wr.setCell ⟨w.heap.size, 0, none⟩ (.slice none 0 0)).setCell ⟨w.heap.size + 1, 0, none⟩ (.slice none 0 0)).setCell ⟨w.heap.size + 1 + 1, 0, none⟩ .nilIface) :=
    (((Mod.setCell _ _ _ _).weaken (by simp)).then_ ((Mod.setCell _ _ _ _).weaken (M := [w.heap.size, w.heap.size + 1, w.heap.size + 1 + 1]) (by simp)) (fun _ h => h)).then_ ((Mod.setCell _ _ _ _).weaken (M := [w.heap.size, w.heap.size + 1, w.heap.size + 1 + 1]) (by simp)) (fun _ h => h)
  refine ⟨I.h.mod hm (fun l hl k hk hk' => ?_), I.new, I.nB, I.lB, hm.blk (by have := I.lB; simp; omega) I.hB, ?_, ?_, ?_, ?_⟩
  · have := I.new k (BookL.mem_foot.2 ⟨l, hl, hk⟩); simp at hk'; omega
  · exact blk_other _ _ (blk_other _ _ (blk_set I.hO 0 _) (by simp)) (by simp; omega)
  · exact blk_other _ _ (blk_set (blk_other _ _ I.hT (by simp)) 0 _) (by simp)
  · exact blk_set (blk_other _ _ (blk_other _ _ I.hE (by simp)) (by simp)) 0 _
  · exact I.bel.trans ⟨hm.os, hm.tape, hm.output, hm.size, fun k hk => hm.block k (by have := I.bel.size; omega) (fun h' => by simp at h'; omega)⟩

/-- An error as Replay gives it. -/
def ErrIs (w : World) (ev : Value) (err : Option (Nat × Int)) (base : Nat) (notin : List Nat) : Prop :=
  match err with
  | none => ev = .nilIface
  | some (i, c) => ∃ fb, base ≤ fb ∧ fb ∉ notin ∧ ev = .iface 66 (.pointer (some ⟨fb, 0, none⟩)) ∧ w.heap[fb]? = some (.cells #[.int .i64 i, .iface 74 (.int .i64 c)] 68 (0, 0))
/-- What a Replay has given. -/
def ReplayB (w w' : World) (e : Ending) (r : BookS × Option (Nat × Int)) : Prop :=
  ∃ ov dv ev, e = .returned (.tuple #[ov, dv, ev]) ∧ SlO w' w.heap.size 46 Opr.cells 5 ov r.1.done ∧ SlO w' w.heap.size 50 Elm.cells 3 dv (replay [] r.1.done) ∧
    (∀ g, ov.ownBlock = some g → dv.ownBlock ≠ some g) ∧ ErrIs w' ev r.2 w.heap.size (ov.ownBlock.toList ++ dv.ownBlock.toList) ∧ Below w.heap.size w w' ∧ (∃ a c, dv = .slice (some a) (replay [] r.1.done).length c)

theorem fresh_foot {w w1 : World} {n : Nat} {vH : Value} {hl : List HandL} (hlf : ∀ l ∈ hl, ∀ q ∈ l.foot, w.heap.size ≤ q) (hv : ∀ q ∈ vH.ownBlock.toList, w.heap.size ≤ q) :
    ∀ q ∈ BookL.foot ⟨w.heap.size, .pointer none, .slice none 0 0, .slice none 0 0, .slice none 0 0, vH, hl⟩ (w.heap.size + 1), w.heap.size ≤ q := by
  intro q hq
  obtain ⟨l, hl', hql⟩ := BookL.mem_foot.1 hq
  simp only [BookL.parts, List.mem_cons, List.mem_map] at hl'
  rcases hl' with rfl | rfl | rfl | rfl | rfl | rfl | ⟨a, ha, rfl⟩
  · simp at hql; omega
  · simp at hql; omega
  · simp [Value.ownBlock] at hql
  · simp [Value.ownBlock] at hql
  · simp [Value.ownBlock] at hql
  · exact hv q hql
  · exact hlf a ha q hql

abbrev world3 (w : World) : World := ((w.alloc (.cells #[.slice none 0 0] 24 (0, 0))).alloc (.cells #[.slice none 0 0] 25 (0, 0))).alloc (.cells #[.nilIface] 29 (0, 0))
theorem rinv0 {w w1 : World} (h : FreshInv (world3 w) 65 w1) : ∃ ρ, RInv w (w.heap.size + 3 + 1) w1.heap.size (book0 65) ρ (w1.alloc (.cells #[.pointer (some ⟨w.heap.size + 3 + 1, 0, none⟩)] 61 (0, 0))) := by
  obtain ⟨vH, hl, hB, hb, hs, hlf, hvf⟩ := h
  have e3 : (world3 w).heap.size = w.heap.size + 3 := by simp
  have hff := fresh_foot (n := 0) hlf hvf (w1 := w1)
  have hB' := hB.below ((Below.refl _ _).new (.cells #[.pointer (some ⟨w.heap.size + 3 + 1, 0, none⟩)] 61 (0, 0)))
  have hnB := not_foot hB (Nat.le_refl _)
  rw [e3] at hff hs hB' hnB
  refine ⟨_, hB', hff, hnB, by omega, blk_new _ _, ?_, ?_, ?_, ?_⟩
  · exact blk_alloc _ (hb.blk (blk_alloc _ (blk_alloc _ (blk_new w _))))
  · exact blk_alloc _ (hb.blk (blk_alloc _ (blk_at _ (by simp))))
  · exact blk_alloc _ (hb.blk (blk_at _ (by simp)))
  · exact ((((((Below.refl w.heap.size w).new _).new _).new _).then_ hb)).new _

/-- The six cells of one edit in a list that is read. -/
theorem SlR.edt {w : World} {a : Option Addr} {n cap : Nat} {xs : List Edt} (h : SlR w Edt.cells 6 (.slice a n cap) xs) (i : Nat) (hi : i < xs.length) : ∃ b off, a = some ⟨b, off, none⟩ ∧
    w.cell? ⟨b, off + i * 6, none⟩ = some (.int .i64 xs[i].tag) ∧ w.cell? ⟨b, off + i * 6 + 1, none⟩ = some (.int .i64 xs[i].op.kind) ∧ w.cell? ⟨b, off + i * 6 + 2, none⟩ = some (.int .i64 xs[i].op.pos) ∧ w.cell? ⟨b, off + i * 6 + 3, none⟩ = some (.int .u8 xs[i].op.ch) ∧ w.cell? ⟨b, off + i * 6 + 4, none⟩ = some (.int .i64 xs[i].op.client) ∧ w.cell? ⟨b, off + i * 6 + 5, none⟩ = some (.int .i64 xs[i].op.seq) := by
  obtain ⟨a', c', hv, _, _, hc⟩ := h
  cases hv
  obtain ⟨b, off, rfl, hj⟩ := hc i hi
  exact ⟨b, off, rfl, hj 0 _ rfl, hj 1 _ rfl, hj 2 _ rfl, hj 3 _ rfl, hj 4 _ rfl, hj 5 _ rfl⟩

def RepRel (G : BookS → Prop) (w : World) (pb bB : Nat) (xs : List Edt) (k : Nat) (wr : World) : Prop := ∃ σ ρ, replayGo book1 0 (xs.take k) = (σ, none) ∧ RInv w pb bB σ ρ wr ∧ G σ

theorem Rules.lt {w : World} (h : Rules w) : 1 < w.heap.size := by
  by_cases hlt : 1 < w.heap.size
  · exact hlt
  · have := h.c0
    rw [World.cell?] at this
    have hn : w.heap[1]? = none := Array.getElem?_eq_none (by omega)
    simp [hn] at this

theorem mod_below {w wr w' : World} {L : List Nat} (h : Below w.heap.size w wr) (hm : Mod L wr w') (hL : ∀ k ∈ L, w.heap.size ≤ k) : Below w.heap.size w w' :=
  h.trans ⟨hm.os, hm.tape, hm.output, hm.size, fun k hk => hm.block k (by have := h.size; omega) (fun h' => by have := hL k h'; omega)⟩

theorem replay_fin {w wr w5 w4 : World} {pb bB : Nat} {σ : BookS} {ρ : BookL} {ev : Value} {err : Option (Nat × Int)} (I : RInv w pb bB σ ρ wr) (t : TailPost w5 w4 ρ σ w.heap.size (w.heap.size + 1)) (hm : Mod [w.heap.size + 2] wr w5)
    (he : match err with
      | none => ev = .nilIface
      | some (i, c) => ∃ fb, wr.heap.size ≤ fb ∧ ev = .iface 66 (.pointer (some ⟨fb, 0, none⟩)) ∧ w5.heap[fb]? = some (.cells #[.int .i64 i, .iface 74 (.int .i64 c)] 68 (0, 0))) :
    ∃ dv, w4.heap[w.heap.size]? = some (.cells #[ρ.vD] 24 (0, 0)) ∧ w4.heap[w.heap.size + 1]? = some (.cells #[dv] 25 (0, 0)) ∧ ReplayB w w4 (.returned (.tuple #[ρ.vD, dv, ev])) (σ, err) := by
  obtain ⟨dv, h1, h2, h3, h4, h5⟩ := t
  have hE := blk_lt I.hE
  have hwz := hm.size
  have hfoot : ∀ g, ρ.vD.ownBlock = some g → w.heap.size + 3 ≤ g ∧ g < wr.heap.size := fun g hg => ⟨I.new g (BookL.mem_foot.2 ⟨ρ.vD.ownBlock.toList, by simp [BookL.parts], by simp [hg]⟩), (I.h.hD.lt g hg).2⟩
  have hb1 := mod_below I.bel hm (by intro k hk; simp at hk; omega)
  have hb2 := mod_below hb1 h4 (by intro k hk; simp at hk; omega)
  refine ⟨dv, h1, h2, ρ.vD, dv, ev, rfl, ?_, ?_, ?_, ?_, hb2, h5⟩
  · refine ((I.h.hD.mod hm (fun g hg => ?_)).mod h4 (fun g hg => ?_)).rebase (fun g hg => ?_)
    · have := hfoot g hg; simp; omega
    · have := hfoot g hg; simp; omega
    · have := hfoot g hg; omega
  · exact h3.rebase (fun g hg => by have := (h3.lt g hg).1; omega)
  · intro g hg hd
    have := (h3.lt g hd).1
    have := hfoot g hg; omega
  · match err, he with
    | none, he => exact he
    | some (i, c), ⟨fb, h6, h7, h8⟩ =>
      have hl := blk_lt h8
      refine ⟨fb, by omega, ?_, h7, h4.blk (by simp; omega) h8⟩
      intro hq
      rcases List.mem_append.1 hq with hq | hq
      · have := (hfoot fb (by simpa using hq)).2; omega
      · have := (h3.lt fb (by simpa using hq)).1; omega

set_option maxRecDepth 100000 in
set_option maxHeartbeats 3200000 in
theorem replayB_any (G : BookS → Prop) (hG : GoodP G) (v : Value) (xs : List Edt) (w : World) (h : SlR w Edt.cells 6 v xs) (hch : ∀ e ∈ xs, 0 ≤ e.op.ch ∧ e.op.ch ≤ 255) (hR : Rules w) :
    Calls Tryd.prog 6 #[v] w fun e w' => ReplayB w w' e (replayGo book1 0 xs) := by
  have hmf : ∀ (fn : Fn) (first cap : Array Value) (w : World), (Instr.makeFunc fn first cap).run Tryd.prog w = .ok (.func fn first cap) w := fun _ _ _ _ => rfl
  have HX := Lib.hid h; have HCH := Lib.hid hch; have HR := Lib.hid hR
  obtain ⟨a, cap, rfl, hl, hnil, hcell⟩ := h
  clear hch hR hnil hcell
  go_enter_defers Tryd.func6, Tryd.ntmps6
  go_wp2_with fail
  refine (fresh_any _).mono ?_
  rintro e w1 ⟨rfl, hfi⟩
  obtain ⟨ρ0, I0⟩ := rinv0 hfi
  have e3 : (world3 w).heap.size = w.heap.size + 3 := by simp
  have C1 := blk_cell (blk_new w1 (.cells #[.pointer (some ⟨w.heap.size + 3 + 1, 0, none⟩)] 61 (0, 0)))
  have J0 := Lib.hid I0; clear I0 hfi
  go_wp2_with fail
  refine (start_any (w.heap.size + 3 + 1) ρ0 (book0 65) _ J0.out.h (by decide) (by decide) (by decide)).mono ?_
  rintro e w2 ⟨rfl, ρ1, h1, s1⟩
  have J1 := Lib.hid (J0.out.step h1 s1)
  have RR := Lib.hid (show RepRel G w (w.heap.size + 3 + 1) w1.heap.size xs 0 w2 from ⟨book1, ρ1, rfl, J0.out.step h1 s1, hG.start⟩)
  clear h1 s1 J0
  clear C1
  go_wp2
  go_loopw [14] (fun i wr => ∃ k : Nat, k ≤ xs.length ∧ i = .int .i64 k ∧ RepRel G w (w.heap.size + 3 + 1) w1.heap.size xs k wr) (fun i _ => xs.length - (intOf i).toNat)
  case atStart => exact ⟨0, Nat.zero_le _, rfl, RR.out⟩
  case round =>
    obtain ⟨k, hk, rfl, σ, ρ, hrun, I, g⟩ := hrel
    by_cases hlt : k < xs.length
    · have C1 := blk_cell I.hB
      have hx : SlR wr Edt.cells 6 (.slice a xs.length cap) xs := HX.out.below I.bel
      obtain ⟨b, off, rfl, c0, c1, c2, c3, c4, c5⟩ := hx.edt k hlt
      have hec := HCH.out _ (List.getElem_mem hlt)
      have LB := blk_lt I.hB
      have HRUN := Lib.hid (replayGo_step book1 0 xs k hlt hrun)
      have II := Lib.hid I; have GG := Lib.hid g
      generalize hxe : xs[k] = e at *
      obtain ⟨tag, kind, pos, ch, client, seq⟩ := e
      have HXE := Lib.hid hxe
      clear I g hrun hx hxe
      by_cases h0 : σ.check ⟨tag, ⟨kind, pos, ch, client, seq⟩⟩ = 0
      · have H0 := Lib.hid h0; clear h0
        go_wp2_with fail
        refine (must_take (w.heap.size + 3 + 1) ρ σ _ (II.out.below ((Below.refl _ _).new _)).h (hG.inv σ GG.out).ok (hG.inv σ GG.out).done (by have := (hG.inv σ GG.out).nk; have := (hG.inv σ GG.out).size; omega) (HR.out.below (II.out.below ((Below.refl _ _).new _)).bel) (fun h => by have := II.out.new _ h; have := HR.out.lt; omega) k ⟨tag, ⟨kind, pos, ch, client, seq⟩⟩ hec H0.out).mono ?_
        rintro e w3 ⟨rfl, ρ3, h3, s3⟩
        have J3 := Lib.hid ((II.out.below ((Below.refl _ _).new _)).step h3 s3); clear h3 s3
        go_wp2_with fail
        exact ⟨⟨k + 1, by omega, by go_num, _, ρ3, HRUN.out.1 H0.out, J3.out, hG.step _ _ GG.out H0.out hec⟩, by simp [intOf]; omega⟩
      · have H0 := Lib.hid h0; clear h0
        go_wp2_with fail
        refine (must_fail (w.heap.size + 3 + 1) ρ σ _ (II.out.below ((Below.refl _ _).new _)).h (hG.inv σ GG.out).ok k ⟨tag, ⟨kind, pos, ch, client, seq⟩⟩ hec H0.out).mono ?_
        rintro e w3 ⟨rfl, hb3⟩
        have J3 := Lib.hid ((II.out.below ((Below.refl _ _).new _)).below hb3); clear hb3
        go_wp2_with fail
        refine leaves_cons (f := 22) (args := #[.pointer (some ⟨w.heap.size + 1 + 1, 0, none⟩), .pointer (some ⟨w1.heap.size, 0, none⟩), .pointer (some ⟨w.heap.size, 0, none⟩), .pointer (some ⟨w.heap.size + 1, 0, none⟩)]) (by simp) (by simp [go_sem]) ?_
        refine (catch_panic (w.heap.size + 3 + 1) (w.heap.size + 2) w1.heap.size w.heap.size (w.heap.size + 1) ρ σ _ J3.out.door (hG.inv σ GG.out) (hG.fit σ GG.out) (hG.ch σ GG.out) k (σ.check ⟨tag, ⟨kind, pos, ch, client, seq⟩⟩) J3.out.hE).mono ?_
        rintro e u' w4 ⟨rfl, rfl, w5, ht, ⟨fb, hf1, hf2, hf3⟩, hm⟩
        have hE4 : w4.heap[w.heap.size + 1 + 1]? = _ := ht.choose_spec.2.2.2.1.blk (by simp; omega) hf2
        obtain ⟨dv, h1, h2, hfin⟩ := replay_fin (err := some (k, σ.check ⟨tag, ⟨kind, pos, ch, client, seq⟩⟩)) J3.out ht hm ⟨fb, hf1, rfl, hf3⟩
        have D1 := blk_cell h1; have D2 := blk_cell h2; have D3 := blk_cell hE4
        rw [HRUN.out.2 H0.out, Nat.zero_add]
        simp [Leaves, settle, results, Tryd.results6, go_sem, D1, D2, D3]
        exact hfin
    · obtain rfl : k = xs.length := by omega
      have C1 := blk_cell I.hB
      have CO := blk_cell I.hO; have CT := blk_cell I.hT; have CE := blk_cell I.hE
      have FO := blk_free I.hO; have FT := blk_free I.hT; have FE := blk_free I.hE
      have LO := blk_lt I.hO; have LT := blk_lt I.hT; have LE := blk_lt I.hE
      rw [List.take_length] at hrun
      have II := Lib.hid I; have GG := Lib.hid g; have HRUN := Lib.hid hrun
      clear I g hrun
      go_wp2_with fail
      have J3 := II.out.set3
      refine leaves_cons (f := 22) (args := #[.pointer (some ⟨w.heap.size + 1 + 1, 0, none⟩), .pointer (some ⟨w1.heap.size, 0, none⟩), .pointer (some ⟨w.heap.size, 0, none⟩), .pointer (some ⟨w.heap.size + 1, 0, none⟩)]) (by simp) (by simp [go_sem]) ?_
      refine (catch_idle (w.heap.size + 3 + 1) (w.heap.size + 2) w1.heap.size w.heap.size (w.heap.size + 1) ρ σ _ J3.door (hG.inv σ GG.out) (hG.fit σ GG.out) (hG.ch σ GG.out)).mono ?_
      rintro e u' w4 ⟨rfl, rfl, ht⟩
      have hE4 : w4.heap[w.heap.size + 1 + 1]? = _ := ht.choose_spec.2.2.2.1.blk (by simp; omega) J3.hE
      obtain ⟨dv, h1, h2, hfin⟩ := replay_fin (err := none) J3 ht (Mod.refl _ _) rfl
      have D1 := blk_cell h1; have D2 := blk_cell h2; have D3 := blk_cell hE4
      rw [HRUN.out]
      simp [Leaves, settle, results, Tryd.results6, go_sem, D1, D2, D3]
      exact hfin
end Go.Proofs.YtjeidklpomekdaaDoor

/- The reference's book: where it lies; empty, Last, Doc. -/
namespace Go.Proofs.YtjeidklpomekdaaDoor
open Go.RowKit

structure RefS where
  E : List Edt
  D : List Opr
  N : List Int
  K : List Int
  T : Int
structure RefL where
  vE : Value
  vD : Value
  vN : Value
  vK : Value
abbrev RefL.block (ρ : RefL) (R : RefS) : Obj := .cells #[.pointer none, ρ.vE, ρ.vD, ρ.vN, ρ.vK, .int .i64 R.T] 56 (0, 0)
/-- All blocks lie at 'base' or past it. -/
structure RBookAt (w : World) (base : Nat) (rb : Nat) (ρ : RefL) (R : RefS) : Prop where
  hp : w.heap[rb]? = some (ρ.block R)
  hE : SlO w base 48 Edt.cells 6 ρ.vE R.E
  hD : SlO w base 46 Opr.cells 5 ρ.vD R.D
  hN : SlO w base 3 icell 1 ρ.vN R.N
  hK : SlO w base 3 icell 1 ρ.vK R.K
  hb : base ≤ rb
  nE : ρ.vE.ownBlock ≠ some rb
  nD : ρ.vD.ownBlock ≠ some rb
  nN : ρ.vN.ownBlock ≠ some rb
  nK : ρ.vK.ownBlock ≠ some rb
  ED : ∀ g, ρ.vE.ownBlock = some g → ρ.vD.ownBlock ≠ some g
  EN : ∀ g, ρ.vE.ownBlock = some g → ρ.vN.ownBlock ≠ some g
  EK : ∀ g, ρ.vE.ownBlock = some g → ρ.vK.ownBlock ≠ some g
  DN : ∀ g, ρ.vD.ownBlock = some g → ρ.vN.ownBlock ≠ some g
  DK : ∀ g, ρ.vD.ownBlock = some g → ρ.vK.ownBlock ≠ some g
  NK : ∀ g, ρ.vN.ownBlock = some g → ρ.vK.ownBlock ≠ some g
theorem RBookAt.below {w w' : World} {base rb : Nat} {ρ : RefL} {R : RefS} (h : RBookAt w base rb ρ R) (hb : Below w.heap.size w w') : RBookAt w' base rb ρ R :=
  { h with hp := hb.blk h.hp, hE := h.hE.below hb, hD := h.hD.below hb, hN := h.hN.below hb, hK := h.hK.below hb }
/-- The book as the walks read it. -/
structure RView (w : World) (rb : Nat) (ρ : RefL) (R : RefS) (aE : Option Addr) (cE : Nat) (aD : Option Addr) (cD : Nat) (aN : Option Addr) (cN : Nat) (aK : Option Addr) (cK : Nat) : Prop where
  hp : w.heap[rb]? = some (.cells #[.pointer none, .slice aE R.E.length cE, .slice aD R.D.length cD, .slice aN R.N.length cN, .slice aK R.K.length cK, .int .i64 R.T] 56 (0, 0))
  hE : SlR w Edt.cells 6 (.slice aE R.E.length cE) R.E
  hD : SlR w Opr.cells 5 (.slice aD R.D.length cD) R.D
  hN : SlR w icell 1 (.slice aN R.N.length cN) R.N
  eE : ρ.vE = .slice aE R.E.length cE
  eD : ρ.vD = .slice aD R.D.length cD
  eN : ρ.vN = .slice aN R.N.length cN
  eK : ρ.vK = .slice aK R.K.length cK
theorem RBookAt.view {w : World} {base rb : Nat} {ρ : RefL} {R : RefS} (h : RBookAt w base rb ρ R) : ∃ aE cE aD cD aN cN aK cK, RView w rb ρ R aE cE aD cD aN cN aK cK := by
  obtain ⟨aE, cE, eE, _⟩ := h.hE.len
  obtain ⟨aD, cD, eD, _⟩ := h.hD.len
  obtain ⟨aN, cN, eN, _⟩ := h.hN.len
  obtain ⟨aK, cK, eK, _⟩ := h.hK.len
  have hp := h.hp
  have hE := h.hE.reads len_edit
  have hD := h.hD.reads len_op
  have hN := h.hN.reads len_int
  rw [RefL.block, eE, eD, eN, eK] at hp
  rw [eE] at hE
  rw [eD] at hD
  rw [eN] at hN
  exact ⟨aE, cE, aD, cD, aN, cN, aK, cK, hp, hE, hD, hN, eE, eD, eN, eK⟩
/-- The six cells of one edit in a list that is read. -/
theorem SlR.edit {w : World} {a : Option Addr} {n cap : Nat} {xs : List Edt} (h : SlR w Edt.cells 6 (.slice a n cap) xs) (i : Nat) (hi : i < xs.length) : ∃ b off, a = some ⟨b, off, none⟩ ∧
    w.cell? ⟨b, off + i * 6, none⟩ = some (.int .i64 xs[i].tag) ∧ w.cell? ⟨b, off + i * 6 + 1, none⟩ = some (.int .i64 xs[i].op.kind) ∧ w.cell? ⟨b, off + i * 6 + 2, none⟩ = some (.int .i64 xs[i].op.pos) ∧ w.cell? ⟨b, off + i * 6 + 3, none⟩ = some (.int .u8 xs[i].op.ch) ∧ w.cell? ⟨b, off + i * 6 + 4, none⟩ = some (.int .i64 xs[i].op.client) ∧ w.cell? ⟨b, off + i * 6 + 5, none⟩ = some (.int .i64 xs[i].op.seq) := by
  obtain ⟨a', c', hv, _, _, hc⟩ := h
  cases hv
  obtain ⟨b, off, rfl, hj⟩ := hc i hi
  exact ⟨b, off, rfl, hj 0 _ rfl, hj 1 _ rfl, hj 2 _ rfl, hj 3 _ rfl, hj 4 _ rfl, hj 5 _ rfl⟩
theorem SlR.int {w : World} {a : Option Addr} {n cap : Nat} {xs : List Int} (h : SlR w icell 1 (.slice a n cap) xs) (i : Nat) (hi : i < xs.length) : ∃ b off, a = some ⟨b, off, none⟩ ∧ w.cell? ⟨b, off + i, none⟩ = some (.int .i64 xs[i]) := by
  obtain ⟨a', c', hv, _, _, hc⟩ := h
  cases hv
  obtain ⟨b, off, rfl, hj⟩ := hc i hi
  exact ⟨b, off, rfl, by simpa using hj 0 _ rfl⟩

def ref0 : RefS := ⟨[], [], [0], [], 0⟩
theorem empty_any (w : World) : Calls Tryd.prog 16 #[.pointer none] w fun e w' => ∃ rb ρ, e = .returned (.pointer (some ⟨rb, 0, none⟩)) ∧ RBookAt w' w.heap.size rb ρ ref0 ∧ Below w.heap.size w w' := by
  go_enter Tryd.func16, Tryd.ntmps16
  go_wp2
  go_ret
  have x0 := blk_alloc (.cells #[.pointer none, .slice none 0 0, .slice none 0 0, .slice (some ⟨w.heap.size, 0, none⟩) 1 1, .slice none 0 0, .int .i64 0] 56 (0, 0)) (blk_new w (.cells #[.int .i64 0] 3 (0, 0)))
  have x1 := blk_at (n := w.heap.size + 1) (w := w.alloc (.cells #[.int .i64 0] 3 (0, 0))) (.cells #[.pointer none, .slice none 0 0, .slice none 0 0, .slice (some ⟨w.heap.size, 0, none⟩) 1 1, .slice none 0 0, .int .i64 0] 56 (0, 0)) (by simp)
  refine ⟨w.heap.size + 1, ⟨.slice none 0 0, .slice none 0 0, .slice (some ⟨w.heap.size, 0, none⟩) 1 1, .slice none 0 0⟩, rfl, ?_, ((Below.refl _ _).new _).new _⟩
  refine ⟨x1, SlO.nil _ _ _ _ _, SlO.nil _ _ _ _ _, ⟨rfl, Or.inr ⟨w.heap.size, 1, _, rfl, Nat.le_refl _, x0, by decide, by decide, rfl, rfl⟩⟩, SlO.nil _ _ _ _ _, by omega, ?_, ?_, ?_, ?_, ?_, ?_, ?_, ?_, ?_, ?_⟩ <;> simp [Value.ownBlock]

/-- The last edit of a client among the first n. -/
def lastIn (c : Int) (E : List Edt) : Int × Int := ((E.filter (fun e => e.op.client = c)).getLast?.map (fun e => (e.op.seq, e.tag))).getD (0, 0)

theorem lastIn_other (c : Int) (E : List Edt) (k : Nat) (hk : k < E.length) (h : ¬ E[k].op.client = c) : lastIn c (E.take (k + 1)) = lastIn c (E.take k) := by
  unfold lastIn
  rw [List.take_succ_eq_append_getElem hk, List.filter_append]
  simp [h]
theorem lastIn_own (c : Int) (E : List Edt) (k : Nat) (hk : k < E.length) (h : E[k].op.client = c) : lastIn c (E.take (k + 1)) = (E[k].op.seq, E[k].tag) := by
  unfold lastIn
  rw [List.take_succ_eq_append_getElem hk, List.filter_append]
  simp [h]

set_option maxRecDepth 100000 in
set_option maxHeartbeats 3200000 in
theorem last_any (base rb : Nat) (ρ : RefL) (R : RefS) (c : Int) (w : World) (h : RBookAt w base rb ρ R) (hn : R.E.length ≤ 100000) :
    Calls Tryd.prog 29 #[.pointer (some ⟨rb, 0, none⟩), .int .i64 c] w fun e w' => e = .returned (.tuple #[.int .i64 (lastIn c R.E).1, .int .i64 (lastIn c R.E).2]) ∧ Below w.heap.size w w' := by
  obtain ⟨aE, cE, aD, cD, aN, cN, aK, cK, V⟩ := h.view
  have C := blk_cell V.hp
  have LP := blk_lt V.hp
  have HE := Lib.hid V.hE
  clear V h
  go_enter Tryd.func29, Tryd.ntmps29
  go_wp2
  go_loopw [6] (fun i wr => ∃ k : Nat, k ≤ R.E.length ∧ i = .int .i64 ((k : Int) - 1) ∧ lastIn c R.E = lastIn c (R.E.take k) ∧ ∃ m, wr = w.drewN m) (fun i _ => (intOf i + 1).toNat)
  case atStart => exact ⟨R.E.length, Nat.le_refl _, by go_num, by rw [List.take_length], 0, rfl⟩
  case round =>
    obtain ⟨k, hk, rfl, hlast, m, rfl⟩ := hrel
    have HL := Lib.hid hlast; clear hlast
    by_cases h0 : k = 0
    · subst h0
      go_wp2
      go_ret2
      refine ⟨?_, (Below.refl _ _).drewN m⟩
      rw [HL.out]; simp [lastIn]
    · obtain ⟨j, rfl⟩ : ∃ j, k = j + 1 := ⟨k - 1, by omega⟩
      have hj : j < R.E.length := by omega
      obtain ⟨b, off, rfl, c0, c1, c2, c3, c4, c5⟩ := HE.out.edit j hj
      have e1 : ((j + 1 : Nat) : Int) - 1 = j := by omega
      rw [e1]
      by_cases hc : (R.E[j].op.client == c) = true
      · have HO := Lib.hid (lastIn_own c R.E j hj (by simpa using hc))
        go_wp2
        go_quiet (fail)
        go_wp2
        go_ret2
        refine ⟨?_, (by ((repeat' (first | with_reducible refine Below.drewN ?_ _ | with_reducible refine Below.drew ?_ | with_reducible refine Below.new ?_ _)) <;> with_reducible exact Below.refl _ _))⟩
        rw [HL.out, HO.out]; rfl
      · have hc' : (R.E[j].op.client == c) = false := by simpa using hc
        have HO := Lib.hid (lastIn_other c R.E j hj (by simpa using hc'))
        clear hc
        go_wp2
        exact ⟨⟨j, by omega, rfl, HL.out.trans HO.out, m, rfl⟩, by simp [intOf]⟩

set_option maxRecDepth 100000 in
set_option maxHeartbeats 3200000 in
theorem rdoc_any (base rb : Nat) (ρ : RefL) (R : RefS) (w : World) (h : RBookAt w base rb ρ R) (hn : R.E.length ≤ 100000) (hd : R.D.length = R.E.length) (hf : AllFit [] R.D) (hc : ∀ o ∈ R.D, 0 ≤ o.ch ∧ o.ch ≤ 255) :
    Calls Tryd.prog 18 #[.pointer (some ⟨rb, 0, none⟩), .int .i64 R.E.length] w fun e w' => ∃ dv, e = .returned (.tuple #[dv, .int .i64 0]) ∧ SlO w' w.heap.size 50 Elm.cells 3 dv (replay [] R.D) ∧ Below w.heap.size w w' := by
  obtain ⟨aE, cE, aD, cD, aN, cN, aK, cK, V⟩ := h.view
  have C := blk_cell V.hp
  have LP := blk_lt V.hp
  have HP := Lib.hid V.hp
  have HD := Lib.hid V.hD
  have HF := Lib.hid hf; have HC := Lib.hid hc; have HDL := Lib.hid hd
  clear V h hf hc hd
  go_enter Tryd.func18, Tryd.ntmps18
  go_wp2
  go_loopw [6, 7] (fun v i wr => ∃ (k : Nat) (dv : Value), k ≤ R.E.length ∧ i = .int .i64 k ∧ dv = v ∧ SlO wr w.heap.size 50 Elm.cells 3 dv (replay [] (R.D.take k)) ∧ Below w.heap.size w wr) (fun _ i _ => R.E.length - (intOf i).toNat)
  case atStart => exact ⟨0, _, Nat.zero_le _, rfl, rfl, SlO.nil _ _ _ _ _, Below.refl _ _⟩
  case round =>
    obtain ⟨k, dv, hk, rfl, rfl, ho, hb⟩ := hrel
    by_cases hlt : k < R.E.length
    · have hkd : k < R.D.length := by rw [HDL.out]; exact hlt
      have C1 := blk_cell (hb.blk HP.out)
      obtain ⟨b, off, rfl, c0, c1, c2, c3, c4⟩ := (HD.out.below hb).op k hkd
      have HFK := Lib.hid (HF.out.get k hkd)
      have HCK := Lib.hid (HC.out _ (List.getElem_mem hkd))
      have HRT := Lib.hid (replay_take [] R.D k hkd)
      have HKD := Lib.hid hkd
      generalize R.D[k] = o at *
      have HO := Lib.hid ho; have HB := Lib.hid hb; clear ho hb hkd
      have hkk : k < R.D.length := HKD.out
      clear C
      go_wp2_with fail
      refine (rapply_any dv (replay [] (R.D.take k)) o _ (HO.out.reads len_elem) HFK.out HCK.out).mono ?_
      rintro e w2 ⟨dv2, rfl, ho2, hb2⟩
      have HO2 := Lib.hid ho2; have HB2 := Lib.hid hb2; clear ho2 hb2
      go_wp2_with fail
      refine ⟨⟨k + 1, dv2, by omega, by go_num, rfl, ?_, HB.out.then_ HB2.out⟩, by simp [intOf]; omega⟩
      rw [HRT.out]
      exact HO2.out.rebase (fun g hg => by have := (HO2.out.lt g hg).1; have := HB.out.size; omega)
    · obtain rfl : k = R.E.length := by omega
      have HO := Lib.hid ho; have HB := Lib.hid hb; clear ho hb
      go_wp2
      go_ret2
      refine ⟨dv, rfl, ?_, HB.out⟩
      have := HO.out
      rwa [List.take_of_length_le (by rw [HDL.out]; exact Nat.le_refl _)] at this
end Go.Proofs.YtjeidklpomekdaaDoor

/- jotterref12's life: the plain words. -/
namespace Go.Proofs.YtjeidklpomekdaaDoor
open Go.RowKit

/-- By how much all operations of a list make a text longer. -/
def sumG : List Opr → Int
  | [] => 0
  | o :: l => grown o + sumG l
theorem sumG_app (l m : List Opr) : sumG (l ++ m) = sumG l + sumG m := by
  induction l with
  | nil => simp [sumG]
  | cons o l ih => simp [sumG, ih]; omega
theorem sumG_take (l : List Opr) (k : Nat) (h : k < l.length) : sumG (l.take (k + 1)) = sumG (l.take k) + grown l[k] := by
  rw [List.take_succ_eq_append_getElem h, sumG_app]; simp [sumG]
theorem sumG_le (l : List Opr) : -(l.length : Int) ≤ sumG l ∧ sumG l ≤ l.length := by
  induction l with
  | nil => simp [sumG]
  | cons o l ih => have := grown_le o; simp only [sumG, List.length_cons]; omega
/-- The client's next edits that it makes at column k join its forms. -/
def addOwn (k Nk : Int) : List Edt → List Opr → Int → List Edt × List Opr × Int
  | [], fs, n => ([], fs, n)
  | e :: l, fs, n => if e.tag = k then addOwn k Nk l (fs ++ [e.op]) (Nk + sumG fs) else (e :: l, fs, n)
def RefS.e (R : RefS) (k : Nat) : Edt := R.E.getD k ⟨0, ⟨0, 0, 0, 0, 0⟩⟩
def RefS.d (R : RefS) (k : Nat) : Opr := R.D.getD k ⟨0, 0, 0, 0, 0⟩
def RefS.n (R : RefS) (k : Nat) : Int := R.N.getD k 0
/-- The forms behind column k. -/
def lifeCol (R : RefS) (c : Int) (k : Nat) (fs : List Opr) : List Opr := if k < R.E.length then (if (R.e k).op.client = c then fs.tail else (carry (R.d k) fs).1) else fs
def lifeTo (R : RefS) (c : Int) (own : List Edt) : Nat → List Edt × List Opr × Int
  | 0 => (own, [], 0)
  | k + 1 => ((addOwn k (R.n k) (lifeTo R c own k).1 (lifeTo R c own k).2.1 (lifeTo R c own k).2.2).1, lifeCol R c k (addOwn k (R.n k) (lifeTo R c own k).1 (lifeTo R c own k).2.1 (lifeTo R c own k).2.2).2.1, (addOwn k (R.n k) (lifeTo R c own k).1 (lifeTo R c own k).2.1 (lifeTo R c own k).2.2).2.2)
def RefS.own (R : RefS) (e : Edt) : List Edt := R.E.filter (fun x => x.op.client = e.op.client) ++ [e]
def lifeEnd (R : RefS) (e : Edt) : List Opr × Int := (lifeTo R e.op.client (R.own e) (R.E.length + 1)).2
/-- The life never looks where nothing is. -/
structure LifeOk (R : RefS) (e : Edt) : Prop where
  len : R.E.length ≤ 4096
  dl : R.D.length = R.E.length
  nl : R.N.length = R.E.length + 1
  nb : ∀ k, k ≤ R.E.length → -10000 ≤ R.n k ∧ R.n k ≤ 10000
  pop : ∀ k, k < R.E.length → (R.e k).op.client = e.op.client → (addOwn k (R.n k) (lifeTo R e.op.client (R.own e) k).1 (lifeTo R e.op.client (R.own e) k).2.1 (lifeTo R e.op.client (R.own e) k).2.2).2.1 ≠ []
  last : (lifeEnd R e).1 ≠ []
theorem addOwn_drop (k Nk : Int) (own : List Edt) (m : Nat) (fs : List Opr) (n : Int) : ∃ m', m ≤ m' ∧ (m ≤ own.length → m' ≤ own.length) ∧ (addOwn k Nk (own.drop m) fs n).1 = own.drop m' ∧ (addOwn k Nk (own.drop m) fs n).2.1.length = fs.length + (m' - m) := by
  generalize hr : own.drop m = r
  induction r generalizing m fs n with
  | nil => exact ⟨m, Nat.le_refl _, id, by simp [addOwn, hr], by simp [addOwn]⟩
  | cons e l ih =>
    have hlt : m < own.length := by
      rcases Nat.lt_or_ge m own.length with h | h
      · exact h
      · rw [List.drop_of_length_le h] at hr; cases hr
    rw [List.drop_eq_getElem_cons hlt] at hr
    obtain ⟨he, hl⟩ := List.cons.inj hr
    simp only [addOwn]
    split
    · obtain ⟨m', h1, h2, h3, h4⟩ := ih (m + 1) (fs ++ [e.op]) (Nk + sumG fs) hl
      exact ⟨m', by omega, fun _ => h2 (by omega), h3, by rw [h4]; simp; omega⟩
    · exact ⟨m, Nat.le_refl _, id, by rw [← hr, List.drop_eq_getElem_cons hlt], by simp⟩
theorem lifeCol_len (R : RefS) (c : Int) (k : Nat) (fs : List Opr) : (lifeCol R c k fs).length ≤ fs.length := by
  unfold lifeCol
  split
  · split
    · simp
    · rw [carry_length]; omega
  · exact Nat.le_refl _
theorem lifeTo_drop (R : RefS) (c : Int) (own : List Edt) (k : Nat) : ∃ m, m ≤ own.length ∧ (lifeTo R c own k).1 = own.drop m ∧ (lifeTo R c own k).2.1.length ≤ m := by
  induction k with
  | zero => exact ⟨0, by omega, rfl, Nat.le_refl _⟩
  | succ k ih =>
    obtain ⟨m, h1, h2, h3⟩ := ih
    simp only [lifeTo, h2]
    obtain ⟨m', h4, h5, h6, h7⟩ := addOwn_drop k (R.n k) own m (lifeTo R c own k).2.1 (lifeTo R c own k).2.2
    exact ⟨m', h5 h1, h6, by have := lifeCol_len R c k (addOwn k (R.n k) (own.drop m) (lifeTo R c own k).2.1 (lifeTo R c own k).2.2).2.1; omega⟩

def findBlk (n : Nat) : Code → Option Code
  | .block m c => if m = n then some (.block m c) else findBlk n c
  | .seq a b => match findBlk n a with
    | some c => some c
    | none => findBlk n b
  | .scope c => findBlk n c
  | .loop c => findBlk n c
  | .cond _ a b => match findBlk n a with
    | some c => some c
    | none => findBlk n b
  | _ => none
noncomputable def lifeBlk (n : Nat) : Code := ((Tryd.f30.body.bind (findBlk n)).getD .skip)
end Go.Proofs.YtjeidklpomekdaaDoor

/- jotterref12's life: the client's edits that join at one column. -/
namespace Go.Proofs.YtjeidklpomekdaaDoor
open Go.RowKit

/-- The state of the inner loop. -/
def AddRel (B : Nat) (w : World) (own : List Edt) (k Nk : Int) (A : List Edt × List Opr × Int) (m : Nat) (fs : List Opr) (n : Int) (fv : Value) (wr : World) : Prop :=
  m ≤ own.length ∧ fs.length ≤ m ∧ addOwn k Nk (own.drop m) fs n = A ∧ SlW wr B 46 Opr.cells 5 fv fs ∧ Below B w wr

theorem add_stop1 {k Nk : Int} {own : List Edt} {m : Nat} {fs : List Opr} {n : Int} (h : own.length ≤ m) : addOwn k Nk (own.drop m) fs n = (own.drop m, fs, n) := by
  rw [List.drop_of_length_le h]; rfl
theorem add_stop2 {k Nk : Int} {own l : List Edt} {m : Nat} {fs : List Opr} {n tag : Int} {o : Opr} (h : own.drop m = ⟨tag, o⟩ :: l) (ht : ¬ tag = k) : addOwn k Nk (own.drop m) fs n = (own.drop m, fs, n) := by
  rw [h]; simp [addOwn, ht]
theorem add_go {k Nk : Int} {own : List Edt} {m : Nat} {fs : List Opr} {n : Int} {o : Opr} (h : own.drop m = ⟨k, o⟩ :: own.drop (m + 1)) : addOwn k Nk (own.drop m) fs n = addOwn k Nk (own.drop (m + 1)) (fs ++ [o]) (Nk + sumG fs) := by
  rw [h]; simp [addOwn]
def SumRel (base B : Nat) (w : World) (fv : Value) (fs : List Opr) (wr : World) : Prop := SlW wr base 46 Opr.cells 5 fv fs ∧ Below B w wr

set_option maxRecDepth 100000 in
set_option maxHeartbeats 3200000 in
theorem life_adds {u1 u2 u3 u4 u5 u7 u12 u13 u14 u15 u16 u17 u18 u19 u20 u21 u22 u23 u24 u25 u26 u27 u28 u29 u30 u31 u32 u33 u34 u35 u36 u37 u38 u39 u40 u41 u42 u43 u44 u45 u46 u47 u48 u49 u50 u51 u52 u53 u54 u55 u56 u57 u58 u59 u60 u61 u62 u63 u64 u65 u66 u67 u68 u69 u70 u71 u72 u73 u74 u75 u76 u77 u78 u79 u80 u81 u82 u83 u84 u85 u86 u87 u88 u89 u90 u91 u92 u93 u94 u95 u96 u97 u98 u99 u100 u101 u102 u103 u104 u105 u106 u107 u108 u109 u110 u111 u112 u113 u114 u115 u116 u117 u118 u119 u120 u121 u122 u123 u124 u125 u126 u127 u128 u129 u130 u131 u132 u133 u134 u135 : Value} (base rb : Nat) (ρ : RefL) (R : RefS) (own : List Edt) (ao : Option Addr) (co : Nat) (fv0 : Value) (fs0 : List Opr) (m0 k : Nat) (n0 : Int) (w0 w : World) (h0 : RBookAt w0 base rb ρ R) (hk : k ≤ R.E.length) (nl : R.N.length = R.E.length + 1) (nb : -10000 ≤ R.n k ∧ R.n k ≤ 10000)
    (ho0 : SlR w0 Edt.cells 6 (.slice ao own.length co) own) (hol : own.length ≤ 5000) (hb0 : Below w0.heap.size w0 w)
    (hm : m0 ≤ own.length) (hfm : fs0.length ≤ m0) (hf : SlW w w0.heap.size 46 Opr.cells 5 fv0 fs0) (K : Act → World → Prop) (Q : Exit → Act → World → Prop)
    (hK : ∀ (v12 v58 v59 v60 v61 v62 v63 v64 v65 v66 v67 v68 v69 v70 v71 v72 v73 v74 v75 v76 v77 v78 v79 v80 v81 v82 v83 v84 v85 v86 v87 v88 v89 v90 v91 v92 v93 v94 v95 v96 v97 v98 v99 v100 fv : Value) (m : Nat) (fs : List Opr) (n : Int) (w' : World), addOwn k (R.n k) (own.drop m0) fs0 n0 = (own.drop m, fs, n) → m ≤ own.length → fs.length ≤ m → SlW w' w0.heap.size 46 Opr.cells 5 fv fs → Below w0.heap.size w w' → K ⟨List.toArray (.pointer (some ⟨rb, 0, none⟩) :: u1 :: u2 :: u3 :: u4 :: u5 :: .slice ao own.length co :: u7 :: fv :: .int .i64 m :: .int .i64 n :: .int .i64 k :: v12 :: u13 :: u14 :: u15 :: u16 :: u17 :: u18 :: u19 :: u20 :: u21 :: u22 :: u23 :: u24 :: u25 :: u26 :: u27 :: u28 :: u29 :: u30 :: u31 :: u32 :: u33 :: u34 :: u35 :: u36 :: u37 :: u38 :: u39 :: u40 :: u41 :: u42 :: u43 :: u44 :: u45 :: u46 :: u47 :: u48 :: u49 :: u50 :: u51 :: u52 :: u53 :: u54 :: u55 :: u56 :: u57 :: v58 :: v59 :: v60 :: v61 :: v62 :: v63 :: v64 :: v65 :: v66 :: v67 :: v68 :: v69 :: v70 :: v71 :: v72 :: v73 :: v74 :: v75 :: v76 :: v77 :: v78 :: v79 :: v80 :: v81 :: v82 :: v83 :: v84 :: v85 :: v86 :: v87 :: v88 :: v89 :: v90 :: v91 :: v92 :: v93 :: v94 :: v95 :: v96 :: v97 :: v98 :: v99 :: v100 :: u101 :: u102 :: u103 :: u104 :: u105 :: u106 :: u107 :: u108 :: u109 :: u110 :: u111 :: u112 :: u113 :: u114 :: u115 :: u116 :: u117 :: u118 :: u119 :: u120 :: u121 :: u122 :: u123 :: u124 :: u125 :: u126 :: u127 :: u128 :: u129 :: u130 :: u131 :: u132 :: u133 :: u134 :: u135 :: []), []⟩ w') :
    Code.wp Tryd.prog (lifeBlk 4) (Exit.then K Q) ⟨List.toArray (.pointer (some ⟨rb, 0, none⟩) :: u1 :: u2 :: u3 :: u4 :: u5 :: .slice ao own.length co :: u7 :: fv0 :: .int .i64 m0 :: .int .i64 n0 :: .int .i64 k :: u12 :: u13 :: u14 :: u15 :: u16 :: u17 :: u18 :: u19 :: u20 :: u21 :: u22 :: u23 :: u24 :: u25 :: u26 :: u27 :: u28 :: u29 :: u30 :: u31 :: u32 :: u33 :: u34 :: u35 :: u36 :: u37 :: u38 :: u39 :: u40 :: u41 :: u42 :: u43 :: u44 :: u45 :: u46 :: u47 :: u48 :: u49 :: u50 :: u51 :: u52 :: u53 :: u54 :: u55 :: u56 :: u57 :: u58 :: u59 :: u60 :: u61 :: u62 :: u63 :: u64 :: u65 :: u66 :: u67 :: u68 :: u69 :: u70 :: u71 :: u72 :: u73 :: u74 :: u75 :: u76 :: u77 :: u78 :: u79 :: u80 :: u81 :: u82 :: u83 :: u84 :: u85 :: u86 :: u87 :: u88 :: u89 :: u90 :: u91 :: u92 :: u93 :: u94 :: u95 :: u96 :: u97 :: u98 :: u99 :: u100 :: u101 :: u102 :: u103 :: u104 :: u105 :: u106 :: u107 :: u108 :: u109 :: u110 :: u111 :: u112 :: u113 :: u114 :: u115 :: u116 :: u117 :: u118 :: u119 :: u120 :: u121 :: u122 :: u123 :: u124 :: u125 :: u126 :: u127 :: u128 :: u129 :: u130 :: u131 :: u132 :: u133 :: u134 :: u135 :: []), []⟩ w := by
  conv => arg 2; whnf
  have HB0 := Lib.hid hb0; have H0 := Lib.hid h0; have HO0 := Lib.hid ho0; have HK := Lib.hid hK
  clear hb0 h0 ho0 hK
  have R0 := Lib.hid (show AddRel w0.heap.size w own k (R.n k) (addOwn k (R.n k) (own.drop m0) fs0 n0) m0 fs0 n0 fv0 w from ⟨hm, hfm, rfl, hf, Below.refl _ _⟩)
  generalize addOwn k (R.n k) (own.drop m0) fs0 n0 = A at *
  clear hf hm hfm
  have hkn : k < R.N.length := by omega
  have hRn : R.n k = R.N[k] := by simp [RefS.n, List.getD, hkn]
  obtain ⟨nb1, nb2⟩ := nb
  have HRN := Lib.hid hRn; have HKN := Lib.hid hkn
  rw [hRn] at nb1 nb2
  clear hRn
  go_wp2
  go_loopw [8, 9, 10] (fun f mm nn wr => ∃ (fv : Value) (fs : List Opr) (m : Nat) (n : Int), fv = f ∧ mm = .int .i64 m ∧ nn = .int .i64 n ∧ AddRel w0.heap.size w own k (R.n k) A m fs n fv wr) (fun _ mm _ _ => own.length - (intOf mm).toNat)
  case atStart => exact ⟨_, fs0, m0, n0, rfl, rfl, rfl, R0.out⟩
  case round =>
    obtain ⟨fv, fs, m, n, rfl, rfl, rfl, hml, hfl, hA, hW, hbw⟩ := hrel
    have hbt := HB0.out.trans hbw
    obtain ⟨aE, cE, aD, cD, aN, cN, aK, cK, V⟩ := (H0.out.below hbt).view
    have C := blk_cell V.hp
    have LP := blk_lt V.hp
    obtain ⟨bn, offn, rfl, cn⟩ := V.hN.int k HKN.out
    have HW := Lib.hid hW; have HBW := Lib.hid hbw; have HBT := Lib.hid hbt; have HA := Lib.hid hA
    have HP := Lib.hid V.hp
    clear V hW hbw hbt hA
    by_cases hlt : m < own.length
    · obtain ⟨b, off, rfl, c0, c1, c2, c3, c4, c5⟩ := (HO0.out.below HBT.out).edit m hlt
      have HD := Lib.hid (List.drop_eq_getElem_cons hlt)
      generalize hoe : own[m] = e at *
      have HOE := Lib.hid hoe; clear hoe
      obtain ⟨tag, o⟩ := e
      simp only at c0 c1 c2 c3 c4 c5
      by_cases ht : tag = k
      · subst ht
        obtain ⟨wq, rfl⟩ : ∃ x, x = wr := ⟨wr, rfl⟩
        have SumI := Lib.hid (show SumRel w0.heap.size wq.heap.size wq fv fs wq from ⟨HW.out, Below.refl _ _⟩)
        go_wp2_with fail
        have hsg := sumG_le fs
        go_loopw [10, 12] (fun nn ii wr' => ∃ i : Nat, i ≤ fs.length ∧ nn = .int .i64 (R.N[k] + sumG (fs.take i)) ∧ ii = .int .i64 i ∧ SumRel w0.heap.size wq.heap.size wq fv fs wr') (fun _ ii _ => fs.length - (intOf ii).toNat)
        case atStart => exact ⟨0, Nat.zero_le _, by simp [sumG]; rfl, rfl, SumI.out⟩
        case round =>
          obtain ⟨i, hi, rfl, rfl, hS, hSb⟩ := hrel
          have HS := Lib.hid hS; have HSB := Lib.hid hSb
          clear c0 c1 c2 c3 c4 c5 cn C
          obtain ⟨af, cf, hfv, hcf⟩ := hS.form
          subst hfv
          by_cases hil : i < fs.length
          · obtain ⟨bf, off2, rfl, d0, d1, d2, d3, d4⟩ := (hS.reads len_op).op i hil
            have hst := sumG_take fs i hil
            have hsl := sumG_le (fs.take i)
            have hgl := grown_le fs[i]
            have hll : (fs.take i).length ≤ 5000 := by rw [List.length_take]; omega
            have HST := Lib.hid hst
            clear hS hSb hst
            generalize sumG (fs.take i) = S at *
            generalize fs[i] = f at *
            go_wp2_with fail
            refine (longer_any f _).mono ?_
            rintro e w2 ⟨rfl, hb2⟩
            have HB2 := Lib.hid hb2; clear hb2
            go_wp2_with fail
            exact ⟨⟨i + 1, by omega, by rw [HST.out, Int.add_assoc], by go_num, HS.out.keep HB2.out, HSB.out.then_ HB2.out⟩, by simp [intOf]; omega⟩
          · obtain rfl : i = fs.length := by omega
            rw [List.take_length]
            have hb3 := HBT.out.then_ HSB.out
            obtain ⟨b', off', hbb, c0, c1, c2, c3, c4, c5⟩ := (HO0.out.below hb3).edit m hlt
            rw [HOE.out] at c0 c1 c2 c3 c4 c5
            obtain ⟨rfl, rfl⟩ : b = b' ∧ off = off' := by simpa using hbb
            clear hbb hS hSb
            have B1 := Lib.hid (show (fs.length + 1) * 40 ≤ 140737488355328 by omega)
            have B2 := Lib.hid (show fs.length + 1 ≤ 9223372036854775807 by omega)
            have B3 := Lib.hid hb3.size; clear hb3
            go_wp2_with (at_builtin; refine wp_appW et_op rfl _ _ rfl w0.heap.size Opr.cells len_op one_op (.slice af fs.length cf) fs rfl HS.out o _ rfl rfl B1.out B2.out B3.out ?_; intro fv' w' hW' hb'; have HW' := Lib.hid hW'; have HB' := Lib.hid hb'; clear hW' hb')
            refine ⟨⟨fv', fs ++ [o], m + 1, R.N[k] + sumG fs, rfl, by go_num, rfl, by omega, by simp; omega, ?_, HW'.out, (HBW.out.trans (HSB.out.mono HBT.out.size)).trans HB'.out⟩, by simp [intOf]; omega⟩
            rw [← HA.out, add_go HD.out, HRN.out]; rfl
      · have ht' : (tag == (k : Int)) = false := by simpa using ht
        have HT := Lib.hid ht; clear ht
        go_wp2_with fail
        exact HK.out _ _ _ _ _ _ _ _ _ _ _ _ _ _ _ _ _ _ _ _ _ _ _ _ _ _ _ _ _ _ _ _ _ _ _ _ _ _ _ _ _ _ _ _ fv m fs n wr (HA.out.symm.trans (add_stop2 HD.out HT.out)) hml hfl HW.out HBW.out
    · go_wp2_with fail
      exact HK.out _ _ _ _ _ _ _ _ _ _ _ _ _ _ _ _ _ _ _ _ _ _ _ _ _ _ _ _ _ _ _ _ _ _ _ _ _ _ _ _ _ _ _ _ fv m fs n wr (HA.out.symm.trans (add_stop1 (Nat.le_of_not_lt hlt))) hml hfl HW.out HBW.out
end Go.Proofs.YtjeidklpomekdaaDoor

/- jotterref12's life. -/
namespace Go.Proofs.YtjeidklpomekdaaDoor
open Go.RowKit

abbrev ecells (e : Edt) : Array Value := #[.int .i64 e.tag, .int .i64 e.op.kind, .int .i64 e.op.pos, .int .u8 e.op.ch, .int .i64 e.op.client, .int .i64 e.op.seq]
/-- The first loop of life. -/
def OwnRel (w : World) (e : Edt) (E : List Edt) (k : Nat) (ov : Value) (wr : World) : Prop :=
  SlO wr (w.heap.size + 2) 48 Edt.cells 6 ov ((E.take k).filter (fun x => x.op.client = e.op.client)) ∧ Below w.heap.size w wr ∧ wr.heap[w.heap.size]? = some (.cells (ecells e) 48 (0, 0)) ∧ wr.heap[w.heap.size + 1]? = some (.cells (ocells ⟨0, 0, 0, 0, 0⟩) 46 (0, 0)) ∧ w.heap.size + 2 ≤ wr.heap.size

/-- The second loop of life. -/
def LifeRel (B : Nat) (w : World) (R : RefS) (e : Edt) (k m : Nat) (fs : List Opr) (n : Int) (fv : Value) (wr : World) : Prop :=
  lifeTo R e.op.client (R.own e) k = ((R.own e).drop m, fs, n) ∧ m ≤ (R.own e).length ∧ fs.length ≤ m ∧ SlW wr B 46 Opr.cells 5 fv fs ∧ Below B w wr

set_option maxRecDepth 100000 in
set_option maxHeartbeats 6400000 in
theorem life_any (base rb : Nat) (ρ : RefL) (R : RefS) (tag : Int) (o : Opr) (w : World) (h : RBookAt w base rb ρ R) (ok : LifeOk R ⟨tag, o⟩) :
    Calls Tryd.prog 30 #[.pointer (some ⟨rb, 0, none⟩), Edt.val ⟨tag, o⟩] w fun r w' => r = .returned (.tuple #[((lifeEnd R ⟨tag, o⟩).1.headD ⟨0, 0, 0, 0, 0⟩).val, .int .i64 (lifeEnd R ⟨tag, o⟩).2]) ∧ Below w.heap.size w w' := by
  have H := Lib.hid h; have OK := Lib.hid ok
  have hlen := ok.len
  have I0 := Lib.hid (show OwnRel w ⟨tag, o⟩ R.E 0 (.slice none 0 0) ((w.alloc (.cells (ecells ⟨tag, o⟩) 48 (0, 0))).alloc (.cells (ocells ⟨0, 0, 0, 0, 0⟩) 46 (0, 0))) from
    ⟨SlO.nil _ _ _ _ _, ((Below.refl _ _).new _).new _, blk_alloc _ (blk_new _ _), blk_at _ (by simp), by simp⟩)
  clear h ok
  go_enter Tryd.func30, Tryd.ntmps30
  go_wp2
  go_loopw [6, 7] (fun v ii wr => ∃ (k : Nat) (ov : Value), k ≤ R.E.length ∧ ov = v ∧ ii = .int .i64 k ∧ OwnRel w ⟨tag, o⟩ R.E k ov wr) (fun _ ii _ => R.E.length - (intOf ii).toNat)
  case atStart => exact ⟨0, _, Nat.zero_le _, rfl, rfl, I0.out⟩
  case round =>
    obtain ⟨k, ov, hk, rfl, rfl, ho, hb, hx0, hx1, hsz⟩ := hrel
    obtain ⟨aE, cE, aD, cD, aN, cN, aK, cK, V⟩ := (H.out.below hb).view
    have C := blk_cell V.hp
    have LP := blk_lt V.hp
    have C0 := blk_cell hx0
    have L0 := blk_lt hx0
    have HE := Lib.hid V.hE
    have HO := Lib.hid ho; have HB := Lib.hid hb; have HX0 := Lib.hid hx0; have HX1 := Lib.hid hx1
    clear V ho hb hx0 hx1
    by_cases hlt : k < R.E.length
    · obtain ⟨b, off, rfl, c0, c1, c2, c3, c4, c5⟩ := HE.out.edit k hlt
      have HFS := Lib.hid (show (R.E.take (k + 1)).filter (fun x => x.op.client = o.client) = (R.E.take k).filter (fun x => x.op.client = o.client) ++ (if R.E[k].op.client = o.client then [R.E[k]] else []) by
        rw [List.take_succ_eq_append_getElem hlt, List.filter_append]; split <;> simp_all)
      have hxl : ((R.E.take k).filter (fun x => x.op.client = o.client)).length ≤ 5000 := by
        have := List.length_filter_le (fun x : Edt => decide (x.op.client = o.client)) (R.E.take k)
        rw [List.length_take] at this; omega
      generalize (R.E.take k).filter (fun x => x.op.client = o.client) = xs at *
      generalize R.E[k] = x at *
      by_cases hc : (x.op.client == o.client) = true
      · have B1 := Lib.hid (show (xs.length + 1) * 48 ≤ 140737488355328 by omega)
        have B2 := Lib.hid (show xs.length + 1 ≤ 9223372036854775807 by omega)
        have hnw0 : w.heap.size ∉ ov.ownBlock.toList := fun hq => by have := (HO.out.lt w.heap.size (by simpa using hq)).1; omega
        have hnw1 : w.heap.size + 1 ∉ ov.ownBlock.toList := fun hq => by have := (HO.out.lt (w.heap.size + 1) (by simpa using hq)).1; omega
        have NW0 := Lib.hid hnw0; have NW1 := Lib.hid hnw1; clear hnw0 hnw1
        have HSZ := Lib.hid hsz
        go_wp2
        go_quiet (fail)
        have HOQ := Lib.hid (HO.out.below ((Below.refl _ _).drewN nq))
        have B3 := Lib.hid (show w.heap.size + 2 ≤ (wr.drewN nq).heap.size from HSZ.out)
        go_wp2_with (at_builtin; refine wp_app1 et_edit rfl _ _ rfl (w.heap.size + 2) Edt.cells len_edit one_edit ov xs rfl HOQ.out x _ rfl rfl B1.out B2.out B3.out ?_; intro g' cap' w3 ho3 hm3 hgg3 hg3; have HO3 := Lib.hid ho3; have HM3 := Lib.hid hm3; clear ho3 hm3 hgg3)
        refine ⟨⟨k + 1, _, by omega, rfl, by go_num, ?_⟩, by simp [intOf]; omega⟩
        have hm : Mod ov.ownBlock.toList wr w3 := (Mod.drewN _ wr nq).then_ HM3.out (fun _ h => h)
        refine ⟨?_, HB.out.mod hm (fun q hq => by have := (HO.out.lt q (by simpa using hq)).1; omega), hm.blk NW0.out HX0.out, hm.blk NW1.out HX1.out, Nat.le_trans HSZ.out hm.size⟩
        rw [HFS.out, if_pos (by simpa using hc)]
        exact HO3.out
      · have hc' : (x.op.client == o.client) = false := by simpa using hc
        clear hc
        go_wp2
        go_quiet (fail)
        go_wp2
        refine ⟨⟨k + 1, ov, by omega, rfl, by go_num, ?_⟩, by simp [intOf]; omega⟩
        refine ⟨?_, HB.out.drewN nq, HX0.out, HX1.out, hsz⟩
        rw [HFS.out, if_neg (by simpa using hc'), List.append_nil]
        exact HO.out
    · obtain rfl : k = R.E.length := by omega
      rw [List.take_length] at HO
      have hxl : (R.E.filter (fun x => x.op.client = o.client)).length ≤ 5000 - 1 := by
        have := List.length_filter_le (fun x : Edt => decide (x.op.client = o.client)) R.E
        omega
      have HOWN := Lib.hid (show R.own ⟨tag, o⟩ = R.E.filter (fun x => x.op.client = o.client) ++ [⟨tag, o⟩] from rfl)
      generalize R.E.filter (fun x => x.op.client = o.client) = xs at *
      have B1 := Lib.hid (show (xs.length + 1) * 48 ≤ 140737488355328 by omega)
      have B2 := Lib.hid (show xs.length + 1 ≤ 9223372036854775807 by omega)
      have hnw0 : w.heap.size ∉ ov.ownBlock.toList := fun hq => by have := (HO.out.lt w.heap.size (by simpa using hq)).1; omega
      have hnw1 : w.heap.size + 1 ∉ ov.ownBlock.toList := fun hq => by have := (HO.out.lt (w.heap.size + 1) (by simpa using hq)).1; omega
      have NW0 := Lib.hid hnw0; have NW1 := Lib.hid hnw1; clear hnw0 hnw1
      have HSZ := Lib.hid hsz
      go_wp2_with (at_builtin; refine wp_app1 et_edit rfl _ _ rfl (w.heap.size + 2) Edt.cells len_edit one_edit ov xs rfl HO.out (⟨tag, o⟩ : Edt) _ rfl rfl B1.out B2.out HSZ.out ?_; intro go co w7 ho7 hm7 hgg7 hg7; have HO7 := Lib.hid ho7; have HM7 := Lib.hid hm7; have Y0 := Lib.hid (hm7.blk NW0.out HX0.out); have Y1 := Lib.hid (hm7.blk NW1.out HX1.out); clear ho7 hm7 hgg7)
      have hb7 : Below w.heap.size w w7 := HB.out.mod HM7.out (fun q hq => by have := (HO.out.lt q (by simpa using hq)).1; omega)
      have HB7 := Lib.hid hb7; clear hb7 C C0 L0 LP
      have hol : xs.length + 1 = (R.own ⟨tag, o⟩).length := by rw [HOWN.out]; simp
      have ho7 := HO7.out
      rw [hol, ← HOWN.out] at ho7
      have hR7 := Lib.hid (ho7.reads len_edit)
      have hol2 : (R.own ⟨tag, o⟩).length ≤ 5000 := by omega
      rw [hol]
      have HOK := Lib.hid (show LifeOk R ⟨tag, o⟩ from OK.out)
      clear ho7 HO7 HOWN HO hxl hol
      have hown0 : lifeTo R o.client (R.own ⟨tag, o⟩) 0 = ((R.own ⟨tag, o⟩).drop 0, [], 0) := rfl
      have L0 := Lib.hid hown0; clear hown0
      have hbk := H.out.below HB7.out
      have HBK := Lib.hid hbk; clear hbk
      have hnl := OK.out.nl
      go_loopw [8, 9, 10, 11] (fun f mm nn kk wr => ∃ (k m : Nat) (fs : List Opr) (n : Int) (fv : Value), k ≤ R.E.length + 1 ∧ fv = f ∧ mm = .int .i64 m ∧ nn = .int .i64 n ∧ kk = .int .i64 k ∧ LifeRel w7.heap.size w7 R ⟨tag, o⟩ k m fs n fv wr) (fun _ _ _ kk _ => R.E.length + 1 - (intOf kk).toNat)
      case atStart => exact ⟨0, 0, [], 0, _, Nat.zero_le _, rfl, rfl, rfl, rfl, ⟨L0.out, Nat.zero_le _, Nat.le_refl _, SlW.nil _ _ _ _ _, Below.refl _ _⟩⟩
      case round =>
        obtain ⟨k, m, fs, n, fv, hk, rfl, rfl, rfl, rfl, hL, hm, hfm, hW, hbw⟩ := hrel
        have HL := Lib.hid hL; have HW := Lib.hid hW; have HBW := Lib.hid hbw
        obtain ⟨aE, cE, aD, cD, aN, cN, aK, cK, V⟩ := (HBK.out.below hbw).view
        have C := blk_cell V.hp
        have LP := blk_lt V.hp
        clear V hL hW hbw
        by_cases hlt : k < R.E.length + 1
        · go_upto_block 4 with fail
          refine life_adds base rb ρ R (R.own ⟨tag, o⟩) _ co fv fs m k n w7 wr HBK.out (by omega) hnl (HOK.out.nb k (by omega)) hR7.out hol2 HBW.out hm hfm HW.out _ _ ?_
          intro v12 v58 v59 v60 v61 v62 v63 v64 v65 v66 v67 v68 v69 v70 v71 v72 v73 v74 v75 v76 v77 v78 v79 v80 v81 v82 v83 v84 v85 v86 v87 v88 v89 v90 v91 v92 v93 v94 v95 v96 v97 v98 v99 v100 fv2 m2 fs2 n2 w2 hA2 hm2 hfm2 hW2 hb2
          have HA2 := Lib.hid hA2; have HW2 := Lib.hid hW2; have HB2 := Lib.hid (HBW.out.trans hb2); clear hA2 hW2 hb2 C LP
          have hstep : lifeTo R o.client (R.own ⟨tag, o⟩) (k + 1) = ((R.own ⟨tag, o⟩).drop m2, lifeCol R o.client k fs2, n2) := by
            simp only [lifeTo, HL.out, HA2.out]
          have HSTEP := Lib.hid hstep; clear hstep
          obtain ⟨aE, cE, aD, cD, aN, cN, aK, cK, V⟩ := (HBK.out.below HB2.out).view
          have C := blk_cell V.hp
          have LP := blk_lt V.hp
          have z0 := HB2.out.blk Y0.out
          have C0 := blk_cell z0
          have L0 := blk_lt z0
          have HE := Lib.hid V.hE; have HD := Lib.hid V.hD
          clear V z0
          by_cases hk2 : k < R.E.length
          · obtain ⟨bE, offE, rfl, c0, c1, c2, c3, c4, c5⟩ := HE.out.edit k hk2
            have hkd : k < R.D.length := by rw [HOK.out.dl]; exact hk2
            obtain ⟨bD, offD, rfl, d0, d1, d2, d3, d4⟩ := HD.out.op k hkd
            have HRE := Lib.hid (show R.e k = R.E[k] by simp [RefS.e, List.getD, hk2])
            have HRD := Lib.hid (show R.d k = R.D[k] by simp [RefS.d, List.getD, hkd])
            have hdl : R.D.length = R.E.length := HOK.out.dl
            have HPOP := Lib.hid (HOK.out.pop k hk2)
            generalize R.E[k] = x at *
            generalize R.D[k] = y at *
            by_cases hc : (x.op.client == o.client) = true
            · have hne : fs2 ≠ [] := by
                have := HPOP.out (by rw [HRE.out]; simpa using hc)
                simp only [HL.out, HA2.out] at this
                exact this
              have hcol : lifeCol R o.client k fs2 = fs2.tail := by
                unfold lifeCol
                rw [if_pos hk2, HRE.out, if_pos (by simpa using hc)]
              have HCOL := Lib.hid hcol; clear hcol
              match fs2, hne, HW2, HSTEP, HCOL, hfm2 with
              | f :: t, _, HW2, HSTEP, HCOL, hfm2 =>
                obtain ⟨af, cf, rfl, hcf⟩ := HW2.out.form
                obtain ⟨hn2, gf, off2, rfl, hcp, ht⟩ := HW2.out.tail
                have HT := Lib.hid ht; clear ht hn2
                have hl2 : (f :: t).length = t.length + 1 := rfl
                rw [hl2]
                rw [hl2] at hcf hfm2
                clear hl2
                by_cases hc1 : cf = 1
                · subst hc1
                  have ht0 : t.length = 0 := by omega
                  have ht1 := HT.out
                  rw [if_pos rfl, ht0] at ht1
                  have HT1 := Lib.hid ht1; clear ht1 HT
                  go_wp2_with fail
                  go_quiet (fail)
                  go_wp2_with fail
                  have hcol := HSTEP.out
                  rw [HCOL.out] at hcol
                  have htl := HT1.out
                  exact ⟨⟨k + 1, m2, t, n2, _, by omega, rfl, rfl, rfl, by go_num, hcol, hm2, by omega, htl.keep ((Below.refl _ _).drewN nq), HB2.out.drewN nq⟩, by simp [intOf]; omega⟩
                · go_wp2_with fail
                  go_quiet (fail)
                  go_wp2_with fail
                  have hcol := HSTEP.out
                  rw [HCOL.out] at hcol
                  have htl := HT.out
                  rw [if_neg hc1] at htl
                  exact ⟨⟨k + 1, m2, t, n2, _, by omega, rfl, rfl, rfl, by go_num, hcol, hm2, by omega, htl.keep ((Below.refl _ _).drewN nq), HB2.out.drewN nq⟩, by simp [intOf]; omega⟩
            · have hc' : (x.op.client == o.client) = false := by simpa using hc
              clear hc
              have hcol : lifeCol R o.client k fs2 = (carry y fs2).1 := by
                unfold lifeCol
                rw [if_pos hk2, HRE.out, if_neg (by simpa using hc'), HRD.out]
              have HCOL := Lib.hid hcol; clear hcol
              go_wp2_with fail
              go_quiet (fail)
              go_wp2_with fail
              refine (carried_any fv2 fs2 y _ ((HW2.out.reads len_op).below ((Below.refl _ _).drewN nq)) (by omega)).mono ?_
              rintro e w3 ⟨lv, rfl, ho3, hb3⟩
              have HO3 := Lib.hid ho3; have HB3 := Lib.hid hb3; clear ho3 hb3
              go_wp2_with fail
              refine ⟨⟨k + 1, m2, (carry y fs2).1, n2, lv, by omega, rfl, rfl, rfl, by go_num, ?_, hm2, by rw [carry_length]; exact hfm2, ?_, ?_⟩, by simp [intOf]; omega⟩
              · rw [← HCOL.out]; exact HSTEP.out
              · exact SlW.of (HO3.out.rebase (fun g hg => by have h1 := (HO3.out.lt g hg).1; have h2 := HB2.out.size; have h3 : w2.heap.size ≤ g := h1; omega))
              · exact HB2.out.then_ (((Below.refl _ _).drewN nq).then_ HB3.out)
          · go_wp2_with fail
            refine ⟨⟨k + 1, m2, fs2, n2, fv2, by omega, rfl, rfl, rfl, by go_num, ?_, hm2, hfm2, HW2.out, HB2.out⟩, by simp [intOf]; omega⟩
            have := HSTEP.out
            unfold lifeCol at this
            rwa [if_neg hk2] at this
        · obtain rfl : k = R.E.length + 1 := by omega
          have HEND := Lib.hid (show lifeEnd R ⟨tag, o⟩ = (fs, n) by unfold lifeEnd; exact congrArg (·.2) HL.out)
          have hne : fs ≠ [] := by have := HOK.out.last; rw [HEND.out] at this; exact this
          match fs, hne, HW, HEND, hfm with
          | f :: t, _, HW, HEND, hfm =>
            obtain ⟨af, cf, rfl, hcf⟩ := HW.out.form
            obtain ⟨bf, off2, rfl, c0, c1, c2, c3, c4⟩ := (HW.out.reads len_op).op 0 (by simp)
            have z1 := HBW.out.blk Y1.out
            have C1 := blk_cell z1; have F1 := blk_free z1; have L1 := blk_lt z1
            have Z1 := Lib.hid z1; clear z1
            have hl2 : (f :: t).length = t.length + 1 := rfl
            rw [hl2]
            simp only [List.getElem_cons_zero, Nat.zero_mul, Nat.add_zero] at c0 c1 c2 c3 c4
            go_wp2_with fail
            have y2 := set5 Z1.out rfl (.int .i64 f.kind) (.int .i64 f.pos) (.int .u8 f.ch) (.int .i64 f.client) (.int .i64 f.seq)
            have D := blk_cell y2
            refine bodyPost_ret (v := .tuple #[f.val, .int .i64 n]) (by simp [results, Tryd.results30, go_sem, D]) rfl ⟨by rw [HEND.out]; rfl, ?_⟩
            exact (HB7.out.trans (HBW.out.mono (by have := HB7.out.size; omega))).mod (Mod.set5 _ _ _ _ _ _ _) (by simp)
end Go.Proofs.YtjeidklpomekdaaDoor

