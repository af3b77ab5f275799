/- Part 2 of the proof of BookReplays: Past, Space, Ref05, Doc, Doc2, Doc3, RefAt. -/
import Derived.WalkSpells
import Derived.Test.YtjeidklpomekdaaDoorBr1

set_option linter.unusedVariables false
set_option linter.unusedSimpArgs false
set_option linter.unnecessarySimpa false

/- ot.past, ot.Through: an operation carried past a line. -/
namespace Go.Proofs.YtjeidklpomekdaaDoor
open Go.RowKit

theorem Rules.below {w w' : World} (h : Rules w) (hb : Below w.heap.size w w') : Rules w' :=
  ⟨hb.cell' h.c0, hb.cell' h.c1, hb.cell' h.c2, hb.cell' h.c3, hb.cell' h.c4, hb.cell' h.c5, hb.cell' h.c6, hb.cell' h.c7, hb.cell' h.c8⟩

theorem Rules.alloc {w : World} (h : Rules w) (o : Obj) : Rules (w.alloc o) := h.below ((Below.refl _ _).alloc (Nat.le_refl _) o)

set_option maxRecDepth 100000 in
set_option maxHeartbeats 1600000 in
theorem past_any (op : Opr) (lv : Value) (ls : List Opr) (f : Bool) (w : World) (hR : Rules w) (hl : SlR w Opr.cells 5 lv ls) (hn : ls.length * 40 ≤ 140737488355328) :
    Calls Tryd.prog 65 #[op.val, lv, .bool f] w fun e w' => ∃ mv, e = .returned (.tuple #[(past f op ls).1.val, mv]) ∧ SlO w' w.heap.size 46 Opr.cells 5 mv (past f op ls).2 ∧ Below w.heap.size w w' := by
  obtain ⟨a, cap, rfl, hll, hnil, hcell⟩ := hl
  have HC := Lib.hid hcell; clear hcell
  have HN := Lib.hid hnil; clear hnil
  have HR := Lib.hid hR; clear hR
  go_enter Tryd.func65, Tryd.ntmps65
  go_wp2_with (at_make; go_loud (refine wp_make0 (α := Opr) et_op rfl _ _ rfl Opr.cells .i64 .i64 _ ls.length rfl rfl rfl (by omega) (by unfold maxLen; omega) ?_); intro w1 hown hgr hlt1)
  have b1 : Below w.heap.size w w1 := (((Below.refl _ _).alloc (Nat.le_refl _) _).alloc (by simp) _).trans ((Below.of_grown hgr).mono (by simp <;> omega))
  have x0 : w1.heap[w.heap.size]? = some (.cells #[.int .i64 op.kind, .int .i64 op.pos, .int .u8 op.ch, .int .i64 op.client, .int .i64 op.seq] 46 (0, 0)) := (Below.of_grown hgr).blk (blk_alloc _ (blk_new _ _))
  have x1 : w1.heap[w.heap.size + 1]? = some (.cells #[.int .i64 0, .int .i64 0, .int .u8 0, .int .i64 0, .int .i64 0] 46 (0, 0)) := (Below.of_grown hgr).blk (by have := blk_new (w.alloc (.cells #[.int .i64 op.kind, .int .i64 op.pos, .int .u8 op.ch, .int .i64 op.client, .int .i64 op.seq] 46)) (.cells #[.int .i64 0, .int .i64 0, .int .u8 0, .int .i64 0, .int .i64 0] 46); simpa using this)
  have X0 := Lib.hid x0; have X1 := Lib.hid x1; have HG := Lib.hid hgr; have HO := Lib.hid hown; clear x0 x1 hgr hown
  go_loopw [8, 16] (fun v i wr => ∃ (k g c : Nat) (cur : Opr) (mv : List Opr), k ≤ ls.length ∧ i = .int .i64 k ∧ v = .slice (some ⟨g, 0, none⟩) mv.length c ∧
      wr.heap[w.heap.size]? = some (.cells #[.int .i64 cur.kind, .int .i64 cur.pos, .int .u8 cur.ch, .int .i64 cur.client, .int .i64 cur.seq] 46 (0, 0)) ∧
      wr.heap[w.heap.size + 1]? = some (.cells #[.int .i64 0, .int .i64 0, .int .u8 0, .int .i64 0, .int .i64 0] 46 (0, 0)) ∧
      SlO wr (w.heap.size + 2) 46 Opr.cells 5 v mv ∧ Below w.heap.size w wr ∧ past f op ls = ((past f cur (ls.drop k)).1, mv ++ (past f cur (ls.drop k)).2) ∧ mv.length = k) (fun _ i _ => ls.length - (intOf i).toNat)
  case atStart => exact ⟨0, _, _, op, [], Nat.zero_le _, rfl, rfl, X0.out, X1.out, by simpa using HO.out, b1, rfl, rfl⟩
  case round =>
    obtain ⟨k, g, c, cur, mv, hk, rfl, rfl, y0, y1, ho, hb, hp, hm⟩ := hrel
    have HO := Lib.hid ho; have HP := Lib.hid hp; have HM := Lib.hid hm; have Y1 := Lib.hid y1; have HB := Lib.hid hb; clear ho hp hm y1 hb
    have C0 := blk_cell y0
    have L0 : w.heap.size < wr.heap.size := blk_lt y0
    have F0 := blk_free y0
    have Y0 := Lib.hid y0; clear y0
    by_cases hlt : k < ls.length
    · obtain ⟨b, off, rfl, hc⟩ := HC.out k hlt
      have c0 : wr.cell? ⟨b, off + k * 5, none⟩ = some (.int .i64 ls[k].kind) := HB.out.cell' (hc 0 _ rfl)
      have c1 : wr.cell? ⟨b, off + k * 5 + 1, none⟩ = some (.int .i64 ls[k].pos) := HB.out.cell' (hc 1 _ rfl)
      have c2 : wr.cell? ⟨b, off + k * 5 + 2, none⟩ = some (.int .u8 ls[k].ch) := HB.out.cell' (hc 2 _ rfl)
      have c3 : wr.cell? ⟨b, off + k * 5 + 3, none⟩ = some (.int .i64 ls[k].client) := HB.out.cell' (hc 3 _ rfl)
      have c4 : wr.cell? ⟨b, off + k * 5 + 4, none⟩ = some (.int .i64 ls[k].seq) := HB.out.cell' (hc 4 _ rfl)
      clear hc
      go_wp2_with fail
      have hR1 : Rules (wr.alloc (.cells #[.int .i64 ls[k].kind, .int .i64 ls[k].pos, .int .u8 ls[k].ch, .int .i64 ls[k].client, .int .i64 ls[k].seq] 46)) := (HR.out.below HB.out).alloc _
      refine (shift_any ls[k] cur f _ hR1).mono ?_
      rintro e w2 ⟨rfl, hb2⟩
      have z0 := hb2.blk (blk_alloc _ Y0.out)
      have zl := hb2.blk (blk_new _ _)
      have ho2 := SlO.below (SlO.below HO.out ((Below.refl _ _).alloc (Nat.le_refl _) _)) hb2
      have hR2 := hR1.below hb2
      have L2 : w.heap.size < w2.heap.size := blk_lt z0
      have L3 : wr.heap.size < w2.heap.size := blk_lt zl
      have HM2 := HM.out
      have hB1 : (mv.length + 1) * 40 ≤ 140737488355328 := by omega
      have hB2 : mv.length + 1 ≤ 9223372036854775807 := by omega
      have hB3 : w.heap.size + 2 ≤ w2.heap.size := by have := blk_lt (hb2.blk (blk_alloc (.cells #[.int .i64 ls[k].kind, .int .i64 ls[k].pos, .int .u8 ls[k].ch, .int .i64 ls[k].client, .int .i64 ls[k].seq] 46) Y1.out)); omega
      have hg2 := ho2.lt g rfl
      have hgw := HO.out.lt g rfl
      have hn0 : w.heap.size ∉ (Value.slice (some ⟨g, 0, none⟩) mv.length c).ownBlock.toList := by simp [Value.ownBlock]; omega
      have hn1 : w.heap.size + 1 ∉ (Value.slice (some ⟨g, 0, none⟩) mv.length c).ownBlock.toList := by simp [Value.ownBlock]; omega
      have hnl : wr.heap.size ∉ (Value.slice (some ⟨g, 0, none⟩) mv.length c).ownBlock.toList := by simp [Value.ownBlock]; omega
      have HN0 := Lib.hid hn0; have HN1 := Lib.hid hn1; have HNL := Lib.hid hnl; clear hn0 hn1 hnl
      have HO2 := Lib.hid ho2; have HB2 := Lib.hid hb2; have Z0 := Lib.hid z0; have ZL := Lib.hid zl; have HR2 := Lib.hid hR2; have HMM := Lib.hid HM2; clear ho2 hb2 z0 zl hR2 hR1 HM2
      go_wp2_with (at_builtin; refine wp_app1 et_op rfl _ _ rfl (w.heap.size + 2) Opr.cells len_op one_op (.slice (some ⟨g, 0, none⟩) mv.length c) mv rfl HO2.out (shift ls[k] cur f) _ rfl rfl hB1 hB2 hB3 ?_; intro g' cap' w3 ho3 hm3 hgg3 hg3; have z03 := hm3.blk HN0.out Z0.out; have zl3 := hm3.blk HNL.out ZL.out; have C3 := blk_cell z03; have F3 := blk_free z03; have CL3 := blk_cell zl3; have Z03 := Lib.hid z03; have HO3 := Lib.hid ho3; have HM3 := Lib.hid hm3; have HGG3 := Lib.hid hgg3; clear z03 zl3 ho3 hm3 hgg3)
      have hb2 : Below w.heap.size w w2 := HB.out.trans (Below.trans ((Below.refl _ _).alloc HB.out.size _) (HB2.out.mono (by have := HB.out.size; simp; omega)))
      have hb3 : Below w.heap.size w w3 := Below.of_mod hb2 HM3.out (by omega) (by intro q hq; simp [Value.ownBlock] at hq; omega)
      have hR3 := HR.out.below hb3
      refine (shift_any cur ls[k] (!f) _ hR3).mono ?_
      rintro e w4 ⟨rfl, hb4⟩
      have z4 := hb4.blk Z03.out
      have C4 := blk_cell z4; have F4 := blk_free z4
      have Z4 := Lib.hid z4; have HB3 := Lib.hid hb3; have HB4 := Lib.hid hb4; clear z4 hb3 hb4 hR3
      go_wp2
      have hb4 : Below w.heap.size w w4 := HB3.out.trans (HB4.out.mono HB3.out.size)
      have hgne : g' ≠ w.heap.size ∧ g' ≠ w.heap.size + 1 := by
        have := HO3.out.lt g' rfl
        omega
      have hm5 := Mod.set5 w4 w.heap.size (.int .i64 (shift cur ls[k] (!f)).kind) (.int .i64 (shift cur ls[k] (!f)).pos) (.int .u8 (shift cur ls[k] (!f)).ch) (.int .i64 (shift cur ls[k] (!f)).client) (.int .i64 (shift cur ls[k] (!f)).seq)
      refine ⟨⟨k + 1, g', cap', shift cur ls[k] (!f), mv ++ [shift ls[k] cur f], by omega, by go_num, by simp, set5 Z4.out rfl _ _ _ _ _, ?_, ?_, Below.of_mod hb4 hm5 hb4.size (by simp), ?_, ?_⟩, by simp [intOf]; omega⟩
      · exact hm5.blk (by simp) (HB4.out.blk (HM3.out.blk HN1.out (HB2.out.blk (blk_alloc _ Y1.out))))
      · have ho4 := (HO3.out.below HB4.out).mod hm5 (by simp [Value.ownBlock]; omega)
        exact ho4
      · rw [HP.out, List.drop_eq_getElem_cons hlt, past]
        simp
      · simp; exact HMM.out
    · have C1 := blk_cell Y1.out
      have F1 := blk_free Y1.out
      go_wp2
      obtain rfl : k = ls.length := by omega
      have hm5 := Mod.set5 wr (w.heap.size + 1) (.int .i64 cur.kind) (.int .i64 cur.pos) (.int .u8 cur.ch) (.int .i64 cur.client) (.int .i64 cur.seq)
      have h5 := set5 Y1.out rfl (.int .i64 cur.kind) (.int .i64 cur.pos) (.int .u8 cur.ch) (.int .i64 cur.client) (.int .i64 cur.seq)
      have D := blk_cell h5
      have hP := HP.out
      rw [List.drop_length] at hP
      refine bodyPost_ret (v := .tuple #[cur.val, .slice (some ⟨g, 0, none⟩) mv.length c]) (by simp [results, Tryd.results65, go_sem, D]) rfl ⟨.slice (some ⟨g, 0, none⟩) mv.length c, ?_, ?_, ?_⟩
      · rw [hP]; simp [past]
      · rw [hP]
        have := (HO.out.mod hm5 (by intro q hq; simp [Value.ownBlock] at hq; have := HO.out.lt g rfl; simp; omega)).rebase (base' := w.heap.size) (fun q hq => by have := HO.out.lt q hq; omega)
        simpa [past] using this
      · exact Below.of_mod HB.out hm5 (by omega) (by simp)

/-- ot.Through, of a line that is not too long. -/
theorem through_any (op : Opr) (lv : Value) (ls : List Opr) (f : Bool) (w : World) (hR : Rules w) (hl : SlR w Opr.cells 5 lv ls) (hn : ls.length ≤ 4096) :
    Calls Tryd.prog 63 #[op.val, lv, .bool f] w fun e w' => ∃ mv, e = .returned (.tuple #[(past f op ls).1.val, mv, .int .i64 0]) ∧ SlO w' w.heap.size 46 Opr.cells 5 mv (past f op ls).2 ∧ Below w.heap.size w w' := by
  have hl0 := hl
  obtain ⟨a, cap, rfl, hll, hnil, hcell⟩ := hl
  have hn' : (ls.length : Int) ≤ 4096 := by omega
  have HL := Lib.hid hl0; have HR := Lib.hid hR; clear hcell hnil hl0 hR
  go_enter Tryd.func63, Tryd.ntmps63
  go_wp2_with fail
  refine (past_any op _ ls f _ ((HR.out.alloc _).alloc _) (HL.out.below (((Below.refl _ _).alloc (Nat.le_refl _) _).alloc (by simp) _)) (by omega)).mono ?_
  rintro e w1 ⟨mv, rfl, ho, hb⟩
  have x0 := hb.blk (blk_alloc _ (blk_new _ _))
  have x1 := hb.blk (blk_at (n := w.heap.size + 1) _ (by simp))
  have C0 := blk_cell x0; have F0 := blk_free x0; have C1 := blk_cell x1; have F1 := blk_free x1
  have X0 := Lib.hid x0; have X1 := Lib.hid x1; have HB := Lib.hid hb; have HO := Lib.hid ho; clear x0 x1 hb ho
  go_wp2
  have s0 := fun v0 v1 v2 v3 v4 => Mod.set5 w1 w.heap.size v0 v1 v2 v3 v4
  generalize hr : (past f op ls).1 = r
  have HRR := Lib.hid hr; clear hr
  have k0 := s0 (.int .i64 r.kind) (.int .i64 r.pos) (.int .u8 r.ch) (.int .i64 r.client) (.int .i64 r.seq)
  have x2 := k0.blk (b := w.heap.size + 1) (by simp) X1.out
  have k1 := fun w' => Mod.set5 w' (w.heap.size + 1) (.int .i64 r.kind) (.int .i64 r.pos) (.int .u8 r.ch) (.int .i64 r.client) (.int .i64 r.seq)
  have D := blk_cell (set5 x2 rfl (.int .i64 r.kind) (.int .i64 r.pos) (.int .u8 r.ch) (.int .i64 r.client) (.int .i64 r.seq))
  refine bodyPost_ret (v := .tuple #[r.val, mv, .int .i64 0]) (by simp [results, Tryd.results63, go_sem, D]) rfl ⟨mv, rfl, ?_, ?_⟩
  · have hlt := fun q hq => HO.out.lt q hq
    simp at hlt
    exact ((HO.out.mod k0 (by intro q hq; have := hlt q hq; simp; omega)).mod (k1 _) (by intro q hq; have := hlt q hq; simp; omega)).rebase (fun q hq => by have := hlt q hq; omega)
  · exact (((((Below.refl _ _).new _).new _).then_ HB.out).mod k0 (by simp)).mod (k1 _) (by simp)
end Go.Proofs.YtjeidklpomekdaaDoor

/- Package space: a queue of marked operations behind a pointer. -/
namespace Go.Proofs.YtjeidklpomekdaaDoor
open Go.RowKit

set_option maxRecDepth 100000 in
set_option maxHeartbeats 800000 in
theorem cloneMark_any (v : Value) (xs : List Mrk) (w : World) (h : SlR w Mrk.cells 6 v xs) (hn : xs.length ≤ 100000) :
    Calls Tryd.prog 56 #[v] w fun e w' => ∃ v', e = .returned v' ∧ SlO w' w.heap.size 113 Mrk.cells 6 v' xs ∧ Below w.heap.size w w' ∧ (∃ a c, v' = .slice a xs.length c) := by
  have h0 := h
  obtain ⟨a, cap, rfl, hl, hnil, hc⟩ := h
  cases a with
  | none =>
    obtain rfl := hnil.2 rfl
    obtain hx : xs = [] := by
      cases xs with
      | nil => rfl
      | cons x l => obtain ⟨b, off, h, _⟩ := hc 0 (by simp); cases h
    subst hx
    have hnn := Lib.run_eql_slice_nil (P := Tryd.prog) w 101 113 none 0 0 0 0 et_mark.ht
    go_enter Tryd.func56, Tryd.ntmps56
    go_wp2
    go_ret
    exact ⟨_, rfl, SlO.nil _ _ _ _ _, Below.refl _ _, _, _, rfl⟩
  | some ad =>
    have H0 := Lib.hid h0; clear h0 hc hnil
    have hnn := Lib.run_eql_slice_nil (P := Tryd.prog) w 101 113 (some ad) xs.length cap 0 0 et_mark.ht
    go_enter Tryd.func56, Tryd.ntmps56
    go_wp2_with (at_builtin; refine wp_app_new et_mark rfl _ _ rfl Mrk.cells len_mark one_mark rfl xs _ rfl H0.out (by omega) (by omega) ?_; intro b c w1 ho hb hbg)
    go_ret
    exact ⟨_, rfl, ho, hb, _, _, rfl⟩

/-- A space lies at block sb; L: the blocks that it takes up. -/
def SpaceAt (w : World) (sb : Nat) (S : SpaceS) (L : List Nat) : Prop :=
  ∃ lv, w.heap[sb]? = some (.cells #[lv, .int .i64 S.last, .bool S.first] 105 (0, 0)) ∧ SlO w 0 113 Mrk.cells 6 lv S.list ∧ lv.ownBlock ≠ some sb ∧ L = sb :: lv.ownBlock.toList

theorem SpaceAt.mod {w w' : World} {sb : Nat} {S : SpaceS} {L M : List Nat} (h : SpaceAt w sb S L) (hm : Mod M w w') (hd : ∀ k ∈ L, k ∉ M) : SpaceAt w' sb S L := by
  obtain ⟨lv, h1, h2, h3, rfl⟩ := h
  exact ⟨lv, hm.blk (hd sb (by simp)) h1, h2.mod hm (fun g hg => hd g (by simp [hg])), h3, rfl⟩
theorem SpaceAt.lt {w : World} {sb : Nat} {S : SpaceS} {L : List Nat} (h : SpaceAt w sb S L) : ∀ k ∈ L, k < w.heap.size := by
  obtain ⟨lv, h1, h2, h3, rfl⟩ := h
  intro k hk
  rcases List.mem_cons.1 hk with rfl | hk
  · exact blk_lt h1
  · exact (h2.lt k (by simpa using hk)).2

set_option maxHeartbeats 800000 in
theorem spaceNew_any (f : Bool) (w : World) : Calls Tryd.prog 34 #[.bool f] w fun e w' => e = .returned (.pointer (some ⟨w.heap.size, 0, none⟩)) ∧ w' = w.alloc (.cells #[.slice none 0 0, .int .i64 0, .bool f] 105) := by
  go_enter Tryd.func34, Tryd.ntmps34
  go_wp2
  go_ret
  exact ⟨rfl, rfl⟩

set_option maxRecDepth 100000 in
set_option maxHeartbeats 1600000 in
theorem keep_any (sb : Nat) (S : SpaceS) (L : List Nat) (mark : Int) (op : Opr) (w : World) (h : SpaceAt w sb S L) (hc : 0 ≤ op.ch ∧ op.ch ≤ 255) (hn : S.list.length ≤ 100000) :
    Calls Tryd.prog 49 #[.pointer (some ⟨sb, 0, none⟩), .int .i64 mark, op.val] w fun e w' => e = .returned (.int .i64 (S.keepErr mark op)) ∧
      ∃ L', SpaceAt w' sb (S.keep mark op) L' ∧ Mod L w w' ∧ Fresh w L L' := by
  obtain ⟨lv, hs, ho, hne, rfl⟩ := h
  have HO := Lib.hid ho; have HS := Lib.hid hs; have HNE := Lib.hid hne; clear ho hs hne
  have hsb : sb < w.heap.size := blk_lt HS.out
  by_cases hv : valid op = 0
  · have hv' : (valid op != 0) = false := by simp [hv]
    have HV := Lib.hid hv; clear hv
    go_enter Tryd.func49, Tryd.ntmps49
    go_wp2_with fail
    refine (valid_any op _ hc).mono ?_
    rintro e w1 ⟨rfl, hb⟩
    have x0 := hb.blk (blk_new _ _)
    have xs := hb.blk (blk_alloc _ HS.out)
    have C0 := blk_cell x0; have CS := blk_cell xs; have FS := blk_free xs
    have L1 := blk_lt xs
    have HB := Lib.hid hb; have X0 := Lib.hid x0; have XS := Lib.hid xs; clear hb x0 xs
    by_cases hm : mark ≤ S.last ∨ 4096 < mark
    · go_wp2
      all_goals
        go_ret
        refine ⟨ret_int (by unfold SpaceS.keepErr; rw [if_neg (fun h => h HV.out), if_pos hm]), sb :: lv.ownBlock.toList, ?_, Mod.of_below (((Below.refl _ _).new _).then_ HB.out), Fresh.refl _ _⟩
        have hk : S.keep mark op = S := by unfold SpaceS.keep; rw [if_neg (fun h => h.2 hm)]
        rw [hk]
        exact SpaceAt.mod ⟨lv, HS.out, HO.out, HNE.out, rfl⟩ (Mod.of_below (L := []) (((Below.refl _ _).new _).then_ HB.out)) (by simp)
    · have hm1 : ¬ mark ≤ S.last := fun h => hm (Or.inl h)
      have hm2 : ¬ 4096 < mark := fun h => hm (Or.inr h)
      have HM := Lib.hid hm
      clear hm
      go_wp2
      have ho1 := (HO.out.below ((Below.refl _ _).new _)).below HB.out
      have HO1 := Lib.hid ho1; clear ho1
      have hB1 : (S.list.length + 1) * 48 ≤ 140737488355328 := by omega
      have hB2 : S.list.length + 1 ≤ 9223372036854775807 := by omega
      have hnl : sb ∉ lv.ownBlock.toList := by simpa using HNE.out
      have HB1 := Lib.hid hB1; have HB2 := Lib.hid hB2; have HNL := Lib.hid hnl; clear hB1 hB2 hnl
      go_region_law (refine step_app1 et_mark (W := w1.drew) rfl _ _ rfl 0 Mrk.cells len_mark one_mark lv S.list rfl HO1.out ⟨mark, op⟩ _ rfl rfl HB1.out HB2.out (Nat.zero_le _) ?_; intro g cap w2 ho2 hm2 hg2 hlt2; have s2 := hm2.blk (w := w1.drew) HNL.out XS.out; have C2 := blk_cell s2; have F2 := blk_free s2; have S2 := Lib.hid s2; have HO2 := Lib.hid ho2; have HM2 := Lib.hid hm2; have HG2 := Lib.hid hg2; clear s2 ho2 hm2 hg2)
      go_wp2
      all_goals
        go_ret
        have hk : S.keep mark op = { S with list := S.list ++ [⟨mark, op⟩], last := mark } := by unfold SpaceS.keep; rw [if_pos ⟨HV.out, HM.out⟩]
        rw [hk]
        have hm3 := (Mod.setCell w2 sb 0 (.slice (some ⟨g, 0, none⟩) (S.list.length + 1) cap)).then_ (Mod.setCell _ sb 1 (.int .i64 mark)) (fun _ h => h)
        have hgs : g ≠ sb := by
          rcases HG2.out with h | h
          · intro e; exact HNE.out (by rw [h, e])
          · have := blk_lt XS.out; intro e; subst e; simp at h; omega
        have hb1 : Below w.heap.size w w1 := ((Below.refl _ _).new _).then_ HB.out
        have hm1 : Mod (sb :: lv.ownBlock.toList) w w2 := ((Mod.of_below (L := sb :: lv.ownBlock.toList) hb1).then_ (Mod.drewN [] w1 1) (by simp)).then_ HM2.out (fun k hk => List.mem_cons_of_mem _ hk)
        refine ⟨ret_int (by unfold SpaceS.keepErr; rw [if_neg (fun h => h HV.out), if_neg HM.out]), [sb, g], ⟨_, blk_set (blk_set S2.out 0 _) 1 _, ?_, by simpa [Value.ownBlock] using hgs, by simp [Value.ownBlock]⟩, hm1.then_ hm3 (by simp), ?_⟩
        · have := HO2.out.mod hm3 (by simp [Value.ownBlock]; exact hgs)
          simpa using this
        · intro k hk
          simp at hk
          rcases hk with rfl | rfl
          · left; simp
          · rcases HG2.out with h | h
            · left; simp [h]
            · right; have := hb1.size; simp at h; omega
  · have hv' : (valid op != 0) = true := by simp [hv]
    have HV := Lib.hid hv; clear hv
    go_enter Tryd.func49, Tryd.ntmps49
    go_wp2_with fail
    refine (valid_any op _ hc).mono ?_
    rintro e w1 ⟨rfl, hb⟩
    have HB := Lib.hid hb; clear hb
    go_wp2
    go_ret
    refine ⟨ret_int (by unfold SpaceS.keepErr; rw [if_pos HV.out]), sb :: lv.ownBlock.toList, ?_, Mod.of_below (((Below.refl _ _).new _).then_ HB.out), Fresh.refl _ _⟩
    have hk : S.keep mark op = S := by unfold SpaceS.keep; rw [if_neg (fun h => HV.out h.1)]
    rw [hk]
    exact SpaceAt.mod ⟨lv, HS.out, HO.out, HNE.out, rfl⟩ (Mod.of_below (L := []) (((Below.refl _ _).new _).then_ HB.out)) (by simp)
end Go.Proofs.YtjeidklpomekdaaDoor

/- The reference's Shift. -/
namespace Go.Proofs.YtjeidklpomekdaaDoor
open Go.RowKit

theorem ret_ite_neg {c : Prop} [Decidable c] {x y : Opr} (h : ¬c) : Ending.returned y.val = Ending.returned (if c then x else y).val := by rw [if_neg h]
theorem ret_ite_pos {c : Prop} [Decidable c] {x y : Opr} (h : c) : Ending.returned x.val = Ending.returned (if c then x else y).val := by rw [if_pos h]
theorem bel_mod {w wr w' : World} {L : List Nat} (h : Below w.heap.size w wr) (hm : Mod L wr w') (hL : ∀ k ∈ L, w.heap.size ≤ k) : Below w.heap.size w w' :=
  h.trans ⟨hm.os, hm.tape, hm.output, hm.size, fun k hk => hm.block k (by have := h.size; omega) (fun h' => by have := hL k h'; omega)⟩

set_option maxRecDepth 100000 in
set_option maxHeartbeats 3200000 in
theorem rshift_idle1 (a b : Opr) (f : Bool) (w : World) (ha : actsB a = false) : Calls Tryd.prog 54 #[a.val, b.val, .bool f] w fun e w' => e = .returned (a).val ∧ Below w.heap.size w w' := by
  have X0 := Lib.hid (blk_alloc (.cells #[.int .i64 0, .int .i64 0, .int .u8 0, .int .i64 0, .int .i64 0] 46 (0, 0)) (blk_alloc (.cells #[.int .i64 b.kind, .int .i64 b.pos, .int .u8 b.ch, .int .i64 b.client, .int .i64 b.seq] 46 (0, 0)) (blk_new w (.cells #[.int .i64 a.kind, .int .i64 a.pos, .int .u8 a.ch, .int .i64 a.client, .int .i64 a.seq] 46 (0, 0)))))
  have X1 := Lib.hid (blk_alloc (.cells #[.int .i64 0, .int .i64 0, .int .u8 0, .int .i64 0, .int .i64 0] 46 (0, 0)) (blk_at (n := w.heap.size + 1) (w := w.alloc (.cells #[.int .i64 a.kind, .int .i64 a.pos, .int .u8 a.ch, .int .i64 a.client, .int .i64 a.seq] 46 (0, 0))) (.cells #[.int .i64 b.kind, .int .i64 b.pos, .int .u8 b.ch, .int .i64 b.client, .int .i64 b.seq] 46 (0, 0)) (by simp)))
  have X2 := Lib.hid (blk_at (n := w.heap.size + 2) (w := (w.alloc (.cells #[.int .i64 a.kind, .int .i64 a.pos, .int .u8 a.ch, .int .i64 a.client, .int .i64 a.seq] 46 (0, 0))).alloc (.cells #[.int .i64 b.kind, .int .i64 b.pos, .int .u8 b.ch, .int .i64 b.client, .int .i64 b.seq] 46 (0, 0))) (.cells #[.int .i64 0, .int .i64 0, .int .u8 0, .int .i64 0, .int .i64 0] 46 (0, 0)) (by simp))
  go_enter Tryd.func54, Tryd.ntmps54
  go_wp2_with fail
  refine (acts_any a _).mono ?_
  rintro e w1 ⟨rfl, hb1⟩
  have hb1 := hb1
  have x0 := hb1.blk X0.out
  have x1 := hb1.blk X1.out
  have x2 := hb1.blk X2.out
  have C0 := blk_cell x0; have C1 := blk_cell x1; have C2 := blk_cell x2; have F0 := blk_free x0; have F2 := blk_free x2; have L2 := blk_lt x2; have L0 := blk_lt x0
  have HB1 := Lib.hid hb1; have Y0 := Lib.hid x0; have Y2 := Lib.hid x2; clear hb1 x0 x1 x2
  go_wp2
  have y2 := set5 Y2.out rfl (.int .i64 a.kind) (.int .i64 a.pos) (.int .u8 a.ch) (.int .i64 a.client) (.int .i64 a.seq)
  have D := blk_cell y2
  refine bodyPost_ret (v := (⟨a.kind, a.pos, a.ch, a.client, a.seq⟩ : Opr).val) (by simp [results, Tryd.results54, go_sem, D]) rfl ⟨rfl, ?_⟩
  exact bel_mod ((((Below.refl _ _).new _).new _).new _ |>.then_ HB1.out) (Mod.set5 _ _ _ _ _ _ _) (by intro k hk; simp at hk; omega)

set_option maxRecDepth 100000 in
set_option maxHeartbeats 3200000 in
theorem rshift_idle2 (a b : Opr) (f : Bool) (w : World) (ha : actsB a = true) (hb : actsB b = false) : Calls Tryd.prog 54 #[a.val, b.val, .bool f] w fun e w' => e = .returned (a).val ∧ Below w.heap.size w w' := by
  have X0 := Lib.hid (blk_alloc (.cells #[.int .i64 0, .int .i64 0, .int .u8 0, .int .i64 0, .int .i64 0] 46 (0, 0)) (blk_alloc (.cells #[.int .i64 b.kind, .int .i64 b.pos, .int .u8 b.ch, .int .i64 b.client, .int .i64 b.seq] 46 (0, 0)) (blk_new w (.cells #[.int .i64 a.kind, .int .i64 a.pos, .int .u8 a.ch, .int .i64 a.client, .int .i64 a.seq] 46 (0, 0)))))
  have X1 := Lib.hid (blk_alloc (.cells #[.int .i64 0, .int .i64 0, .int .u8 0, .int .i64 0, .int .i64 0] 46 (0, 0)) (blk_at (n := w.heap.size + 1) (w := w.alloc (.cells #[.int .i64 a.kind, .int .i64 a.pos, .int .u8 a.ch, .int .i64 a.client, .int .i64 a.seq] 46 (0, 0))) (.cells #[.int .i64 b.kind, .int .i64 b.pos, .int .u8 b.ch, .int .i64 b.client, .int .i64 b.seq] 46 (0, 0)) (by simp)))
  have X2 := Lib.hid (blk_at (n := w.heap.size + 2) (w := (w.alloc (.cells #[.int .i64 a.kind, .int .i64 a.pos, .int .u8 a.ch, .int .i64 a.client, .int .i64 a.seq] 46 (0, 0))).alloc (.cells #[.int .i64 b.kind, .int .i64 b.pos, .int .u8 b.ch, .int .i64 b.client, .int .i64 b.seq] 46 (0, 0))) (.cells #[.int .i64 0, .int .i64 0, .int .u8 0, .int .i64 0, .int .i64 0] 46 (0, 0)) (by simp))
  go_enter Tryd.func54, Tryd.ntmps54
  go_wp2_with fail
  refine (acts_any a _).mono ?_
  rintro e w1 ⟨rfl, hb1⟩
  have hb1 := hb1
  have x0 := hb1.blk X0.out
  have x1 := hb1.blk X1.out
  have x2 := hb1.blk X2.out
  have C0 := blk_cell x0; have C1 := blk_cell x1; have C2 := blk_cell x2; have F0 := blk_free x0; have F2 := blk_free x2; have L2 := blk_lt x2; have L0 := blk_lt x0
  have HB1 := Lib.hid hb1; have Y0 := Lib.hid x0; have Y2 := Lib.hid x2; clear hb1 x0 x1 x2
  go_wp2_with fail
  refine (acts_any b _).mono ?_
  rintro e w2 ⟨rfl, hb2⟩
  have hb2 := HB1.out.then_ hb2
  have x0 := hb2.blk X0.out
  have x1 := hb2.blk X1.out
  have x2 := hb2.blk X2.out
  clear C0 C1 C2 F0 F2 L2 L0 Y0 Y2
  have C0 := blk_cell x0; have C1 := blk_cell x1; have C2 := blk_cell x2; have F0 := blk_free x0; have F2 := blk_free x2; have L2 := blk_lt x2; have L0 := blk_lt x0
  have HB2 := Lib.hid hb2; have Y0 := Lib.hid x0; have Y2 := Lib.hid x2; clear hb2 x0 x1 x2
  go_wp2
  have y2 := set5 Y2.out rfl (.int .i64 a.kind) (.int .i64 a.pos) (.int .u8 a.ch) (.int .i64 a.client) (.int .i64 a.seq)
  have D := blk_cell y2
  refine bodyPost_ret (v := (⟨a.kind, a.pos, a.ch, a.client, a.seq⟩ : Opr).val) (by simp [results, Tryd.results54, go_sem, D]) rfl ⟨rfl, ?_⟩
  exact bel_mod ((((Below.refl _ _).new _).new _).new _ |>.then_ HB2.out) (Mod.set5 _ _ _ _ _ _ _) (by intro k hk; simp at hk; omega)

set_option maxRecDepth 100000 in
set_option maxHeartbeats 3200000 in
theorem rshift_same (pa ca la sa cb lb sb : Int) (f : Bool) (w : World)  : Calls Tryd.prog 54 #[(⟨2, pa, ca, la, sa⟩ : Opr).val, (⟨2, pa, cb, lb, sb⟩ : Opr).val, .bool f] w fun e w' => e = .returned ((⟨0, 0, 0, la, sa⟩ : Opr)).val ∧ Below w.heap.size w w' := by
  have ha : actsB (⟨2, pa, ca, la, sa⟩ : Opr) = true := rfl
  have hb : actsB (⟨2, pa, cb, lb, sb⟩ : Opr) = true := rfl
  have X0 := Lib.hid (blk_alloc (.cells #[.int .i64 0, .int .i64 0, .int .u8 0, .int .i64 0, .int .i64 0] 46 (0, 0)) (blk_alloc (.cells #[.int .i64 2, .int .i64 pa, .int .u8 cb, .int .i64 lb, .int .i64 sb] 46 (0, 0)) (blk_new w (.cells #[.int .i64 2, .int .i64 pa, .int .u8 ca, .int .i64 la, .int .i64 sa] 46 (0, 0)))))
  have X1 := Lib.hid (blk_alloc (.cells #[.int .i64 0, .int .i64 0, .int .u8 0, .int .i64 0, .int .i64 0] 46 (0, 0)) (blk_at (n := w.heap.size + 1) (w := w.alloc (.cells #[.int .i64 2, .int .i64 pa, .int .u8 ca, .int .i64 la, .int .i64 sa] 46 (0, 0))) (.cells #[.int .i64 2, .int .i64 pa, .int .u8 cb, .int .i64 lb, .int .i64 sb] 46 (0, 0)) (by simp)))
  have X2 := Lib.hid (blk_at (n := w.heap.size + 2) (w := (w.alloc (.cells #[.int .i64 2, .int .i64 pa, .int .u8 ca, .int .i64 la, .int .i64 sa] 46 (0, 0))).alloc (.cells #[.int .i64 2, .int .i64 pa, .int .u8 cb, .int .i64 lb, .int .i64 sb] 46 (0, 0))) (.cells #[.int .i64 0, .int .i64 0, .int .u8 0, .int .i64 0, .int .i64 0] 46 (0, 0)) (by simp))
  go_enter Tryd.func54, Tryd.ntmps54
  go_wp2_with fail
  refine (acts_any (⟨2, pa, ca, la, sa⟩ : Opr) _).mono ?_
  rintro e w1 ⟨rfl, hb1⟩
  have hb1 := hb1
  have x0 := hb1.blk X0.out
  have x1 := hb1.blk X1.out
  have x2 := hb1.blk X2.out
  have C0 := blk_cell x0; have C1 := blk_cell x1; have C2 := blk_cell x2; have F0 := blk_free x0; have F2 := blk_free x2; have L2 := blk_lt x2; have L0 := blk_lt x0
  have HB1 := Lib.hid hb1; have Y0 := Lib.hid x0; have Y2 := Lib.hid x2; clear hb1 x0 x1 x2
  go_wp2_with fail
  refine (acts_any (⟨2, pa, cb, lb, sb⟩ : Opr) _).mono ?_
  rintro e w2 ⟨rfl, hb2⟩
  have hb2 := HB1.out.then_ hb2
  have x0 := hb2.blk X0.out
  have x1 := hb2.blk X1.out
  have x2 := hb2.blk X2.out
  clear C0 C1 C2 F0 F2 L2 L0 Y0 Y2
  have C0 := blk_cell x0; have C1 := blk_cell x1; have C2 := blk_cell x2; have F0 := blk_free x0; have F2 := blk_free x2; have L2 := blk_lt x2; have L0 := blk_lt x0
  have HB2 := Lib.hid hb2; have Y0 := Lib.hid x0; have Y2 := Lib.hid x2; clear hb2 x0 x1 x2
  go_wp2
  have y2 := set5 Y2.out rfl (.int .i64 0) (.int .i64 0) (.int .u8 0) (.int .i64 la) (.int .i64 sa)
  have D := blk_cell y2
  refine bodyPost_ret (v := (⟨0, 0, 0, la, sa⟩ : Opr).val) (by simp [results, Tryd.results54, go_sem, D]) rfl ⟨rfl, ?_⟩
  exact bel_mod ((((Below.refl _ _).new _).new _).new _ |>.then_ HB2.out) (Mod.set5 _ _ _ _ _ _ _) (by intro k hk; simp at hk; omega)

set_option maxRecDepth 100000 in
set_option maxHeartbeats 3200000 in
theorem rshift11f (pa ca la sa pb cb lb sb : Int) (f : Bool) (w : World)  (ht : aheadB (⟨1, pb, cb, lb, sb⟩ : Opr) (⟨1, pa, ca, la, sa⟩ : Opr) f = false) : Calls Tryd.prog 54 #[(⟨1, pa, ca, la, sa⟩ : Opr).val, (⟨1, pb, cb, lb, sb⟩ : Opr).val, .bool f] w fun e w' => e = .returned ((⟨1, pa, ca, la, sa⟩ : Opr)).val ∧ Below w.heap.size w w' := by
  have ha : actsB (⟨1, pa, ca, la, sa⟩ : Opr) = true := rfl
  have hb : actsB (⟨1, pb, cb, lb, sb⟩ : Opr) = true := rfl
  have HT := Lib.hid ht; clear ht
  have X0 := Lib.hid (blk_alloc (.cells #[.int .i64 0, .int .i64 0, .int .u8 0, .int .i64 0, .int .i64 0] 46 (0, 0)) (blk_alloc (.cells #[.int .i64 1, .int .i64 pb, .int .u8 cb, .int .i64 lb, .int .i64 sb] 46 (0, 0)) (blk_new w (.cells #[.int .i64 1, .int .i64 pa, .int .u8 ca, .int .i64 la, .int .i64 sa] 46 (0, 0)))))
  have X1 := Lib.hid (blk_alloc (.cells #[.int .i64 0, .int .i64 0, .int .u8 0, .int .i64 0, .int .i64 0] 46 (0, 0)) (blk_at (n := w.heap.size + 1) (w := w.alloc (.cells #[.int .i64 1, .int .i64 pa, .int .u8 ca, .int .i64 la, .int .i64 sa] 46 (0, 0))) (.cells #[.int .i64 1, .int .i64 pb, .int .u8 cb, .int .i64 lb, .int .i64 sb] 46 (0, 0)) (by simp)))
  have X2 := Lib.hid (blk_at (n := w.heap.size + 2) (w := (w.alloc (.cells #[.int .i64 1, .int .i64 pa, .int .u8 ca, .int .i64 la, .int .i64 sa] 46 (0, 0))).alloc (.cells #[.int .i64 1, .int .i64 pb, .int .u8 cb, .int .i64 lb, .int .i64 sb] 46 (0, 0))) (.cells #[.int .i64 0, .int .i64 0, .int .u8 0, .int .i64 0, .int .i64 0] 46 (0, 0)) (by simp))
  go_enter Tryd.func54, Tryd.ntmps54
  go_wp2_with fail
  refine (acts_any (⟨1, pa, ca, la, sa⟩ : Opr) _).mono ?_
  rintro e w1 ⟨rfl, hb1⟩
  have hb1 := hb1
  have x0 := hb1.blk X0.out
  have x1 := hb1.blk X1.out
  have x2 := hb1.blk X2.out
  have C0 := blk_cell x0; have C1 := blk_cell x1; have C2 := blk_cell x2; have F0 := blk_free x0; have F2 := blk_free x2; have L2 := blk_lt x2; have L0 := blk_lt x0
  have HB1 := Lib.hid hb1; have Y0 := Lib.hid x0; have Y2 := Lib.hid x2; clear hb1 x0 x1 x2
  go_wp2_with fail
  refine (acts_any (⟨1, pb, cb, lb, sb⟩ : Opr) _).mono ?_
  rintro e w2 ⟨rfl, hb2⟩
  have hb2 := HB1.out.then_ hb2
  have x0 := hb2.blk X0.out
  have x1 := hb2.blk X1.out
  have x2 := hb2.blk X2.out
  clear C0 C1 C2 F0 F2 L2 L0 Y0 Y2
  have C0 := blk_cell x0; have C1 := blk_cell x1; have C2 := blk_cell x2; have F0 := blk_free x0; have F2 := blk_free x2; have L2 := blk_lt x2; have L0 := blk_lt x0
  have HB2 := Lib.hid hb2; have Y0 := Lib.hid x0; have Y2 := Lib.hid x2; clear hb2 x0 x1 x2
  go_wp2_with fail
  refine (ahead_any (⟨1, pb, cb, lb, sb⟩ : Opr) (⟨1, pa, ca, la, sa⟩ : Opr) f _).mono ?_
  rintro e w3 ⟨rfl, hb3⟩
  rw [HT.out]
  have hb3 := HB2.out.then_ hb3
  have x0 := hb3.blk X0.out
  have x1 := hb3.blk X1.out
  have x2 := hb3.blk X2.out
  clear C0 C1 C2 F0 F2 L2 L0 Y0 Y2
  have C0 := blk_cell x0; have C1 := blk_cell x1; have C2 := blk_cell x2; have F0 := blk_free x0; have F2 := blk_free x2; have L2 := blk_lt x2; have L0 := blk_lt x0
  have HB3 := Lib.hid hb3; have Y0 := Lib.hid x0; have Y2 := Lib.hid x2; clear hb3 x0 x1 x2
  go_wp2
  have y2 := set5 Y2.out rfl (.int .i64 1) (.int .i64 pa) (.int .u8 ca) (.int .i64 la) (.int .i64 sa)
  have D := blk_cell y2
  refine bodyPost_ret (v := (⟨1, pa, ca, la, sa⟩ : Opr).val) (by simp [results, Tryd.results54, go_sem, D]) rfl ⟨rfl, ?_⟩
  exact bel_mod ((((Below.refl _ _).new _).new _).new _ |>.then_ HB3.out) (Mod.set5 _ _ _ _ _ _ _) (by intro k hk; simp at hk; omega)

set_option maxRecDepth 100000 in
set_option maxHeartbeats 3200000 in
theorem rshift11t (pa ca la sa pb cb lb sb : Int) (f : Bool) (w : World)  (ht : aheadB (⟨1, pb, cb, lb, sb⟩ : Opr) (⟨1, pa, ca, la, sa⟩ : Opr) f = true) : Calls Tryd.prog 54 #[(⟨1, pa, ca, la, sa⟩ : Opr).val, (⟨1, pb, cb, lb, sb⟩ : Opr).val, .bool f] w fun e w' => e = .returned ((⟨1, wrap64 (pa + 1), ca, la, sa⟩ : Opr)).val ∧ Below w.heap.size w w' := by
  have ha : actsB (⟨1, pa, ca, la, sa⟩ : Opr) = true := rfl
  have hb : actsB (⟨1, pb, cb, lb, sb⟩ : Opr) = true := rfl
  have HT := Lib.hid ht; clear ht
  have X0 := Lib.hid (blk_alloc (.cells #[.int .i64 0, .int .i64 0, .int .u8 0, .int .i64 0, .int .i64 0] 46 (0, 0)) (blk_alloc (.cells #[.int .i64 1, .int .i64 pb, .int .u8 cb, .int .i64 lb, .int .i64 sb] 46 (0, 0)) (blk_new w (.cells #[.int .i64 1, .int .i64 pa, .int .u8 ca, .int .i64 la, .int .i64 sa] 46 (0, 0)))))
  have X1 := Lib.hid (blk_alloc (.cells #[.int .i64 0, .int .i64 0, .int .u8 0, .int .i64 0, .int .i64 0] 46 (0, 0)) (blk_at (n := w.heap.size + 1) (w := w.alloc (.cells #[.int .i64 1, .int .i64 pa, .int .u8 ca, .int .i64 la, .int .i64 sa] 46 (0, 0))) (.cells #[.int .i64 1, .int .i64 pb, .int .u8 cb, .int .i64 lb, .int .i64 sb] 46 (0, 0)) (by simp)))
  have X2 := Lib.hid (blk_at (n := w.heap.size + 2) (w := (w.alloc (.cells #[.int .i64 1, .int .i64 pa, .int .u8 ca, .int .i64 la, .int .i64 sa] 46 (0, 0))).alloc (.cells #[.int .i64 1, .int .i64 pb, .int .u8 cb, .int .i64 lb, .int .i64 sb] 46 (0, 0))) (.cells #[.int .i64 0, .int .i64 0, .int .u8 0, .int .i64 0, .int .i64 0] 46 (0, 0)) (by simp))
  go_enter Tryd.func54, Tryd.ntmps54
  go_wp2_with fail
  refine (acts_any (⟨1, pa, ca, la, sa⟩ : Opr) _).mono ?_
  rintro e w1 ⟨rfl, hb1⟩
  have hb1 := hb1
  have x0 := hb1.blk X0.out
  have x1 := hb1.blk X1.out
  have x2 := hb1.blk X2.out
  have C0 := blk_cell x0; have C1 := blk_cell x1; have C2 := blk_cell x2; have F0 := blk_free x0; have F2 := blk_free x2; have L2 := blk_lt x2; have L0 := blk_lt x0
  have HB1 := Lib.hid hb1; have Y0 := Lib.hid x0; have Y2 := Lib.hid x2; clear hb1 x0 x1 x2
  go_wp2_with fail
  refine (acts_any (⟨1, pb, cb, lb, sb⟩ : Opr) _).mono ?_
  rintro e w2 ⟨rfl, hb2⟩
  have hb2 := HB1.out.then_ hb2
  have x0 := hb2.blk X0.out
  have x1 := hb2.blk X1.out
  have x2 := hb2.blk X2.out
  clear C0 C1 C2 F0 F2 L2 L0 Y0 Y2
  have C0 := blk_cell x0; have C1 := blk_cell x1; have C2 := blk_cell x2; have F0 := blk_free x0; have F2 := blk_free x2; have L2 := blk_lt x2; have L0 := blk_lt x0
  have HB2 := Lib.hid hb2; have Y0 := Lib.hid x0; have Y2 := Lib.hid x2; clear hb2 x0 x1 x2
  go_wp2_with fail
  refine (ahead_any (⟨1, pb, cb, lb, sb⟩ : Opr) (⟨1, pa, ca, la, sa⟩ : Opr) f _).mono ?_
  rintro e w3 ⟨rfl, hb3⟩
  rw [HT.out]
  have hb3 := HB2.out.then_ hb3
  have x0 := hb3.blk X0.out
  have x1 := hb3.blk X1.out
  have x2 := hb3.blk X2.out
  clear C0 C1 C2 F0 F2 L2 L0 Y0 Y2
  have C0 := blk_cell x0; have C1 := blk_cell x1; have C2 := blk_cell x2; have F0 := blk_free x0; have F2 := blk_free x2; have L2 := blk_lt x2; have L0 := blk_lt x0
  have HB3 := Lib.hid hb3; have Y0 := Lib.hid x0; have Y2 := Lib.hid x2; clear hb3 x0 x1 x2
  go_wp2
  have y2 := set5 (blk_other (w := w3) ⟨w.heap.size, 1, none⟩ (.int .i64 (wrap64 (pa + 1))) Y2.out (by simp)) rfl (.int .i64 1) (.int .i64 (wrap64 (pa + 1))) (.int .u8 ca) (.int .i64 la) (.int .i64 sa)
  have D := blk_cell y2
  refine bodyPost_ret (v := (⟨1, (wrap64 (pa + 1)), ca, la, sa⟩ : Opr).val) (by simp [results, Tryd.results54, go_sem, D]) rfl ⟨rfl, ?_⟩
  exact bel_mod (bel_mod ((((Below.refl _ _).new _).new _).new _ |>.then_ HB3.out) (Mod.setCell _ w.heap.size 1 _) (by simp)) (Mod.set5 _ _ _ _ _ _ _) (by intro k hk; simp at hk; omega)

set_option maxRecDepth 100000 in
set_option maxHeartbeats 3200000 in
theorem rshift12f (pa ca la sa pb cb lb sb : Int) (f : Bool) (w : World)  (ht : aheadB (⟨2, pb, cb, lb, sb⟩ : Opr) (⟨1, pa, ca, la, sa⟩ : Opr) f = false) : Calls Tryd.prog 54 #[(⟨1, pa, ca, la, sa⟩ : Opr).val, (⟨2, pb, cb, lb, sb⟩ : Opr).val, .bool f] w fun e w' => e = .returned ((⟨1, pa, ca, la, sa⟩ : Opr)).val ∧ Below w.heap.size w w' := by
  have ha : actsB (⟨1, pa, ca, la, sa⟩ : Opr) = true := rfl
  have hb : actsB (⟨2, pb, cb, lb, sb⟩ : Opr) = true := rfl
  have HT := Lib.hid ht; clear ht
  have X0 := Lib.hid (blk_alloc (.cells #[.int .i64 0, .int .i64 0, .int .u8 0, .int .i64 0, .int .i64 0] 46 (0, 0)) (blk_alloc (.cells #[.int .i64 2, .int .i64 pb, .int .u8 cb, .int .i64 lb, .int .i64 sb] 46 (0, 0)) (blk_new w (.cells #[.int .i64 1, .int .i64 pa, .int .u8 ca, .int .i64 la, .int .i64 sa] 46 (0, 0)))))
  have X1 := Lib.hid (blk_alloc (.cells #[.int .i64 0, .int .i64 0, .int .u8 0, .int .i64 0, .int .i64 0] 46 (0, 0)) (blk_at (n := w.heap.size + 1) (w := w.alloc (.cells #[.int .i64 1, .int .i64 pa, .int .u8 ca, .int .i64 la, .int .i64 sa] 46 (0, 0))) (.cells #[.int .i64 2, .int .i64 pb, .int .u8 cb, .int .i64 lb, .int .i64 sb] 46 (0, 0)) (by simp)))
  have X2 := Lib.hid (blk_at (n := w.heap.size + 2) (w := (w.alloc (.cells #[.int .i64 1, .int .i64 pa, .int .u8 ca, .int .i64 la, .int .i64 sa] 46 (0, 0))).alloc (.cells #[.int .i64 2, .int .i64 pb, .int .u8 cb, .int .i64 lb, .int .i64 sb] 46 (0, 0))) (.cells #[.int .i64 0, .int .i64 0, .int .u8 0, .int .i64 0, .int .i64 0] 46 (0, 0)) (by simp))
  go_enter Tryd.func54, Tryd.ntmps54
  go_wp2_with fail
  refine (acts_any (⟨1, pa, ca, la, sa⟩ : Opr) _).mono ?_
  rintro e w1 ⟨rfl, hb1⟩
  have hb1 := hb1
  have x0 := hb1.blk X0.out
  have x1 := hb1.blk X1.out
  have x2 := hb1.blk X2.out
  have C0 := blk_cell x0; have C1 := blk_cell x1; have C2 := blk_cell x2; have F0 := blk_free x0; have F2 := blk_free x2; have L2 := blk_lt x2; have L0 := blk_lt x0
  have HB1 := Lib.hid hb1; have Y0 := Lib.hid x0; have Y2 := Lib.hid x2; clear hb1 x0 x1 x2
  go_wp2_with fail
  refine (acts_any (⟨2, pb, cb, lb, sb⟩ : Opr) _).mono ?_
  rintro e w2 ⟨rfl, hb2⟩
  have hb2 := HB1.out.then_ hb2
  have x0 := hb2.blk X0.out
  have x1 := hb2.blk X1.out
  have x2 := hb2.blk X2.out
  clear C0 C1 C2 F0 F2 L2 L0 Y0 Y2
  have C0 := blk_cell x0; have C1 := blk_cell x1; have C2 := blk_cell x2; have F0 := blk_free x0; have F2 := blk_free x2; have L2 := blk_lt x2; have L0 := blk_lt x0
  have HB2 := Lib.hid hb2; have Y0 := Lib.hid x0; have Y2 := Lib.hid x2; clear hb2 x0 x1 x2
  go_wp2_with fail
  refine (ahead_any (⟨2, pb, cb, lb, sb⟩ : Opr) (⟨1, pa, ca, la, sa⟩ : Opr) f _).mono ?_
  rintro e w3 ⟨rfl, hb3⟩
  rw [HT.out]
  have hb3 := HB2.out.then_ hb3
  have x0 := hb3.blk X0.out
  have x1 := hb3.blk X1.out
  have x2 := hb3.blk X2.out
  clear C0 C1 C2 F0 F2 L2 L0 Y0 Y2
  have C0 := blk_cell x0; have C1 := blk_cell x1; have C2 := blk_cell x2; have F0 := blk_free x0; have F2 := blk_free x2; have L2 := blk_lt x2; have L0 := blk_lt x0
  have HB3 := Lib.hid hb3; have Y0 := Lib.hid x0; have Y2 := Lib.hid x2; clear hb3 x0 x1 x2
  go_wp2
  have y2 := set5 Y2.out rfl (.int .i64 1) (.int .i64 pa) (.int .u8 ca) (.int .i64 la) (.int .i64 sa)
  have D := blk_cell y2
  refine bodyPost_ret (v := (⟨1, pa, ca, la, sa⟩ : Opr).val) (by simp [results, Tryd.results54, go_sem, D]) rfl ⟨rfl, ?_⟩
  exact bel_mod ((((Below.refl _ _).new _).new _).new _ |>.then_ HB3.out) (Mod.set5 _ _ _ _ _ _ _) (by intro k hk; simp at hk; omega)

set_option maxRecDepth 100000 in
set_option maxHeartbeats 3200000 in
theorem rshift12t (pa ca la sa pb cb lb sb : Int) (f : Bool) (w : World)  (ht : aheadB (⟨2, pb, cb, lb, sb⟩ : Opr) (⟨1, pa, ca, la, sa⟩ : Opr) f = true) : Calls Tryd.prog 54 #[(⟨1, pa, ca, la, sa⟩ : Opr).val, (⟨2, pb, cb, lb, sb⟩ : Opr).val, .bool f] w fun e w' => e = .returned ((⟨1, wrap64 (pa - 1), ca, la, sa⟩ : Opr)).val ∧ Below w.heap.size w w' := by
  have ha : actsB (⟨1, pa, ca, la, sa⟩ : Opr) = true := rfl
  have hb : actsB (⟨2, pb, cb, lb, sb⟩ : Opr) = true := rfl
  have HT := Lib.hid ht; clear ht
  have X0 := Lib.hid (blk_alloc (.cells #[.int .i64 0, .int .i64 0, .int .u8 0, .int .i64 0, .int .i64 0] 46 (0, 0)) (blk_alloc (.cells #[.int .i64 2, .int .i64 pb, .int .u8 cb, .int .i64 lb, .int .i64 sb] 46 (0, 0)) (blk_new w (.cells #[.int .i64 1, .int .i64 pa, .int .u8 ca, .int .i64 la, .int .i64 sa] 46 (0, 0)))))
  have X1 := Lib.hid (blk_alloc (.cells #[.int .i64 0, .int .i64 0, .int .u8 0, .int .i64 0, .int .i64 0] 46 (0, 0)) (blk_at (n := w.heap.size + 1) (w := w.alloc (.cells #[.int .i64 1, .int .i64 pa, .int .u8 ca, .int .i64 la, .int .i64 sa] 46 (0, 0))) (.cells #[.int .i64 2, .int .i64 pb, .int .u8 cb, .int .i64 lb, .int .i64 sb] 46 (0, 0)) (by simp)))
  have X2 := Lib.hid (blk_at (n := w.heap.size + 2) (w := (w.alloc (.cells #[.int .i64 1, .int .i64 pa, .int .u8 ca, .int .i64 la, .int .i64 sa] 46 (0, 0))).alloc (.cells #[.int .i64 2, .int .i64 pb, .int .u8 cb, .int .i64 lb, .int .i64 sb] 46 (0, 0))) (.cells #[.int .i64 0, .int .i64 0, .int .u8 0, .int .i64 0, .int .i64 0] 46 (0, 0)) (by simp))
  go_enter Tryd.func54, Tryd.ntmps54
  go_wp2_with fail
  refine (acts_any (⟨1, pa, ca, la, sa⟩ : Opr) _).mono ?_
  rintro e w1 ⟨rfl, hb1⟩
  have hb1 := hb1
  have x0 := hb1.blk X0.out
  have x1 := hb1.blk X1.out
  have x2 := hb1.blk X2.out
  have C0 := blk_cell x0; have C1 := blk_cell x1; have C2 := blk_cell x2; have F0 := blk_free x0; have F2 := blk_free x2; have L2 := blk_lt x2; have L0 := blk_lt x0
  have HB1 := Lib.hid hb1; have Y0 := Lib.hid x0; have Y2 := Lib.hid x2; clear hb1 x0 x1 x2
  go_wp2_with fail
  refine (acts_any (⟨2, pb, cb, lb, sb⟩ : Opr) _).mono ?_
  rintro e w2 ⟨rfl, hb2⟩
  have hb2 := HB1.out.then_ hb2
  have x0 := hb2.blk X0.out
  have x1 := hb2.blk X1.out
  have x2 := hb2.blk X2.out
  clear C0 C1 C2 F0 F2 L2 L0 Y0 Y2
  have C0 := blk_cell x0; have C1 := blk_cell x1; have C2 := blk_cell x2; have F0 := blk_free x0; have F2 := blk_free x2; have L2 := blk_lt x2; have L0 := blk_lt x0
  have HB2 := Lib.hid hb2; have Y0 := Lib.hid x0; have Y2 := Lib.hid x2; clear hb2 x0 x1 x2
  go_wp2_with fail
  refine (ahead_any (⟨2, pb, cb, lb, sb⟩ : Opr) (⟨1, pa, ca, la, sa⟩ : Opr) f _).mono ?_
  rintro e w3 ⟨rfl, hb3⟩
  rw [HT.out]
  have hb3 := HB2.out.then_ hb3
  have x0 := hb3.blk X0.out
  have x1 := hb3.blk X1.out
  have x2 := hb3.blk X2.out
  clear C0 C1 C2 F0 F2 L2 L0 Y0 Y2
  have C0 := blk_cell x0; have C1 := blk_cell x1; have C2 := blk_cell x2; have F0 := blk_free x0; have F2 := blk_free x2; have L2 := blk_lt x2; have L0 := blk_lt x0
  have HB3 := Lib.hid hb3; have Y0 := Lib.hid x0; have Y2 := Lib.hid x2; clear hb3 x0 x1 x2
  go_wp2
  have y2 := set5 (blk_other (w := w3) ⟨w.heap.size, 1, none⟩ (.int .i64 (wrap64 (pa - 1))) Y2.out (by simp)) rfl (.int .i64 1) (.int .i64 (wrap64 (pa - 1))) (.int .u8 ca) (.int .i64 la) (.int .i64 sa)
  have D := blk_cell y2
  refine bodyPost_ret (v := (⟨1, (wrap64 (pa - 1)), ca, la, sa⟩ : Opr).val) (by simp [results, Tryd.results54, go_sem, D]) rfl ⟨rfl, ?_⟩
  exact bel_mod (bel_mod ((((Below.refl _ _).new _).new _).new _ |>.then_ HB3.out) (Mod.setCell _ w.heap.size 1 _) (by simp)) (Mod.set5 _ _ _ _ _ _ _) (by intro k hk; simp at hk; omega)

set_option maxRecDepth 100000 in
set_option maxHeartbeats 3200000 in
theorem rshift21f (pa ca la sa pb cb lb sb : Int) (f : Bool) (w : World)  (ht : aheadB (⟨1, pb, cb, lb, sb⟩ : Opr) (⟨2, pa, ca, la, sa⟩ : Opr) f = false) : Calls Tryd.prog 54 #[(⟨2, pa, ca, la, sa⟩ : Opr).val, (⟨1, pb, cb, lb, sb⟩ : Opr).val, .bool f] w fun e w' => e = .returned ((⟨2, pa, ca, la, sa⟩ : Opr)).val ∧ Below w.heap.size w w' := by
  have ha : actsB (⟨2, pa, ca, la, sa⟩ : Opr) = true := rfl
  have hb : actsB (⟨1, pb, cb, lb, sb⟩ : Opr) = true := rfl
  have HT := Lib.hid ht; clear ht
  have X0 := Lib.hid (blk_alloc (.cells #[.int .i64 0, .int .i64 0, .int .u8 0, .int .i64 0, .int .i64 0] 46 (0, 0)) (blk_alloc (.cells #[.int .i64 1, .int .i64 pb, .int .u8 cb, .int .i64 lb, .int .i64 sb] 46 (0, 0)) (blk_new w (.cells #[.int .i64 2, .int .i64 pa, .int .u8 ca, .int .i64 la, .int .i64 sa] 46 (0, 0)))))
  have X1 := Lib.hid (blk_alloc (.cells #[.int .i64 0, .int .i64 0, .int .u8 0, .int .i64 0, .int .i64 0] 46 (0, 0)) (blk_at (n := w.heap.size + 1) (w := w.alloc (.cells #[.int .i64 2, .int .i64 pa, .int .u8 ca, .int .i64 la, .int .i64 sa] 46 (0, 0))) (.cells #[.int .i64 1, .int .i64 pb, .int .u8 cb, .int .i64 lb, .int .i64 sb] 46 (0, 0)) (by simp)))
  have X2 := Lib.hid (blk_at (n := w.heap.size + 2) (w := (w.alloc (.cells #[.int .i64 2, .int .i64 pa, .int .u8 ca, .int .i64 la, .int .i64 sa] 46 (0, 0))).alloc (.cells #[.int .i64 1, .int .i64 pb, .int .u8 cb, .int .i64 lb, .int .i64 sb] 46 (0, 0))) (.cells #[.int .i64 0, .int .i64 0, .int .u8 0, .int .i64 0, .int .i64 0] 46 (0, 0)) (by simp))
  go_enter Tryd.func54, Tryd.ntmps54
  go_wp2_with fail
  refine (acts_any (⟨2, pa, ca, la, sa⟩ : Opr) _).mono ?_
  rintro e w1 ⟨rfl, hb1⟩
  have hb1 := hb1
  have x0 := hb1.blk X0.out
  have x1 := hb1.blk X1.out
  have x2 := hb1.blk X2.out
  have C0 := blk_cell x0; have C1 := blk_cell x1; have C2 := blk_cell x2; have F0 := blk_free x0; have F2 := blk_free x2; have L2 := blk_lt x2; have L0 := blk_lt x0
  have HB1 := Lib.hid hb1; have Y0 := Lib.hid x0; have Y2 := Lib.hid x2; clear hb1 x0 x1 x2
  go_wp2_with fail
  refine (acts_any (⟨1, pb, cb, lb, sb⟩ : Opr) _).mono ?_
  rintro e w2 ⟨rfl, hb2⟩
  have hb2 := HB1.out.then_ hb2
  have x0 := hb2.blk X0.out
  have x1 := hb2.blk X1.out
  have x2 := hb2.blk X2.out
  clear C0 C1 C2 F0 F2 L2 L0 Y0 Y2
  have C0 := blk_cell x0; have C1 := blk_cell x1; have C2 := blk_cell x2; have F0 := blk_free x0; have F2 := blk_free x2; have L2 := blk_lt x2; have L0 := blk_lt x0
  have HB2 := Lib.hid hb2; have Y0 := Lib.hid x0; have Y2 := Lib.hid x2; clear hb2 x0 x1 x2
  go_wp2_with fail
  refine (ahead_any (⟨1, pb, cb, lb, sb⟩ : Opr) (⟨2, pa, ca, la, sa⟩ : Opr) f _).mono ?_
  rintro e w3 ⟨rfl, hb3⟩
  rw [HT.out]
  have hb3 := HB2.out.then_ hb3
  have x0 := hb3.blk X0.out
  have x1 := hb3.blk X1.out
  have x2 := hb3.blk X2.out
  clear C0 C1 C2 F0 F2 L2 L0 Y0 Y2
  have C0 := blk_cell x0; have C1 := blk_cell x1; have C2 := blk_cell x2; have F0 := blk_free x0; have F2 := blk_free x2; have L2 := blk_lt x2; have L0 := blk_lt x0
  have HB3 := Lib.hid hb3; have Y0 := Lib.hid x0; have Y2 := Lib.hid x2; clear hb3 x0 x1 x2
  go_wp2
  have y2 := set5 Y2.out rfl (.int .i64 2) (.int .i64 pa) (.int .u8 ca) (.int .i64 la) (.int .i64 sa)
  have D := blk_cell y2
  refine bodyPost_ret (v := (⟨2, pa, ca, la, sa⟩ : Opr).val) (by simp [results, Tryd.results54, go_sem, D]) rfl ⟨rfl, ?_⟩
  exact bel_mod ((((Below.refl _ _).new _).new _).new _ |>.then_ HB3.out) (Mod.set5 _ _ _ _ _ _ _) (by intro k hk; simp at hk; omega)

set_option maxRecDepth 100000 in
set_option maxHeartbeats 3200000 in
theorem rshift21t (pa ca la sa pb cb lb sb : Int) (f : Bool) (w : World)  (ht : aheadB (⟨1, pb, cb, lb, sb⟩ : Opr) (⟨2, pa, ca, la, sa⟩ : Opr) f = true) : Calls Tryd.prog 54 #[(⟨2, pa, ca, la, sa⟩ : Opr).val, (⟨1, pb, cb, lb, sb⟩ : Opr).val, .bool f] w fun e w' => e = .returned ((⟨2, wrap64 (pa + 1), ca, la, sa⟩ : Opr)).val ∧ Below w.heap.size w w' := by
  have ha : actsB (⟨2, pa, ca, la, sa⟩ : Opr) = true := rfl
  have hb : actsB (⟨1, pb, cb, lb, sb⟩ : Opr) = true := rfl
  have HT := Lib.hid ht; clear ht
  have X0 := Lib.hid (blk_alloc (.cells #[.int .i64 0, .int .i64 0, .int .u8 0, .int .i64 0, .int .i64 0] 46 (0, 0)) (blk_alloc (.cells #[.int .i64 1, .int .i64 pb, .int .u8 cb, .int .i64 lb, .int .i64 sb] 46 (0, 0)) (blk_new w (.cells #[.int .i64 2, .int .i64 pa, .int .u8 ca, .int .i64 la, .int .i64 sa] 46 (0, 0)))))
  have X1 := Lib.hid (blk_alloc (.cells #[.int .i64 0, .int .i64 0, .int .u8 0, .int .i64 0, .int .i64 0] 46 (0, 0)) (blk_at (n := w.heap.size + 1) (w := w.alloc (.cells #[.int .i64 2, .int .i64 pa, .int .u8 ca, .int .i64 la, .int .i64 sa] 46 (0, 0))) (.cells #[.int .i64 1, .int .i64 pb, .int .u8 cb, .int .i64 lb, .int .i64 sb] 46 (0, 0)) (by simp)))
  have X2 := Lib.hid (blk_at (n := w.heap.size + 2) (w := (w.alloc (.cells #[.int .i64 2, .int .i64 pa, .int .u8 ca, .int .i64 la, .int .i64 sa] 46 (0, 0))).alloc (.cells #[.int .i64 1, .int .i64 pb, .int .u8 cb, .int .i64 lb, .int .i64 sb] 46 (0, 0))) (.cells #[.int .i64 0, .int .i64 0, .int .u8 0, .int .i64 0, .int .i64 0] 46 (0, 0)) (by simp))
  go_enter Tryd.func54, Tryd.ntmps54
  go_wp2_with fail
  refine (acts_any (⟨2, pa, ca, la, sa⟩ : Opr) _).mono ?_
  rintro e w1 ⟨rfl, hb1⟩
  have hb1 := hb1
  have x0 := hb1.blk X0.out
  have x1 := hb1.blk X1.out
  have x2 := hb1.blk X2.out
  have C0 := blk_cell x0; have C1 := blk_cell x1; have C2 := blk_cell x2; have F0 := blk_free x0; have F2 := blk_free x2; have L2 := blk_lt x2; have L0 := blk_lt x0
  have HB1 := Lib.hid hb1; have Y0 := Lib.hid x0; have Y2 := Lib.hid x2; clear hb1 x0 x1 x2
  go_wp2_with fail
  refine (acts_any (⟨1, pb, cb, lb, sb⟩ : Opr) _).mono ?_
  rintro e w2 ⟨rfl, hb2⟩
  have hb2 := HB1.out.then_ hb2
  have x0 := hb2.blk X0.out
  have x1 := hb2.blk X1.out
  have x2 := hb2.blk X2.out
  clear C0 C1 C2 F0 F2 L2 L0 Y0 Y2
  have C0 := blk_cell x0; have C1 := blk_cell x1; have C2 := blk_cell x2; have F0 := blk_free x0; have F2 := blk_free x2; have L2 := blk_lt x2; have L0 := blk_lt x0
  have HB2 := Lib.hid hb2; have Y0 := Lib.hid x0; have Y2 := Lib.hid x2; clear hb2 x0 x1 x2
  go_wp2_with fail
  refine (ahead_any (⟨1, pb, cb, lb, sb⟩ : Opr) (⟨2, pa, ca, la, sa⟩ : Opr) f _).mono ?_
  rintro e w3 ⟨rfl, hb3⟩
  rw [HT.out]
  have hb3 := HB2.out.then_ hb3
  have x0 := hb3.blk X0.out
  have x1 := hb3.blk X1.out
  have x2 := hb3.blk X2.out
  clear C0 C1 C2 F0 F2 L2 L0 Y0 Y2
  have C0 := blk_cell x0; have C1 := blk_cell x1; have C2 := blk_cell x2; have F0 := blk_free x0; have F2 := blk_free x2; have L2 := blk_lt x2; have L0 := blk_lt x0
  have HB3 := Lib.hid hb3; have Y0 := Lib.hid x0; have Y2 := Lib.hid x2; clear hb3 x0 x1 x2
  go_wp2
  have y2 := set5 (blk_other (w := w3) ⟨w.heap.size, 1, none⟩ (.int .i64 (wrap64 (pa + 1))) Y2.out (by simp)) rfl (.int .i64 2) (.int .i64 (wrap64 (pa + 1))) (.int .u8 ca) (.int .i64 la) (.int .i64 sa)
  have D := blk_cell y2
  refine bodyPost_ret (v := (⟨2, (wrap64 (pa + 1)), ca, la, sa⟩ : Opr).val) (by simp [results, Tryd.results54, go_sem, D]) rfl ⟨rfl, ?_⟩
  exact bel_mod (bel_mod ((((Below.refl _ _).new _).new _).new _ |>.then_ HB3.out) (Mod.setCell _ w.heap.size 1 _) (by simp)) (Mod.set5 _ _ _ _ _ _ _) (by intro k hk; simp at hk; omega)

set_option maxRecDepth 100000 in
set_option maxHeartbeats 3200000 in
theorem rshift22f (pa ca la sa pb cb lb sb : Int) (f : Bool) (w : World) (hne : (pa == pb) = false) (ht : aheadB (⟨2, pb, cb, lb, sb⟩ : Opr) (⟨2, pa, ca, la, sa⟩ : Opr) f = false) : Calls Tryd.prog 54 #[(⟨2, pa, ca, la, sa⟩ : Opr).val, (⟨2, pb, cb, lb, sb⟩ : Opr).val, .bool f] w fun e w' => e = .returned ((⟨2, pa, ca, la, sa⟩ : Opr)).val ∧ Below w.heap.size w w' := by
  have ha : actsB (⟨2, pa, ca, la, sa⟩ : Opr) = true := rfl
  have hb : actsB (⟨2, pb, cb, lb, sb⟩ : Opr) = true := rfl
  have HT := Lib.hid ht; clear ht
  have X0 := Lib.hid (blk_alloc (.cells #[.int .i64 0, .int .i64 0, .int .u8 0, .int .i64 0, .int .i64 0] 46 (0, 0)) (blk_alloc (.cells #[.int .i64 2, .int .i64 pb, .int .u8 cb, .int .i64 lb, .int .i64 sb] 46 (0, 0)) (blk_new w (.cells #[.int .i64 2, .int .i64 pa, .int .u8 ca, .int .i64 la, .int .i64 sa] 46 (0, 0)))))
  have X1 := Lib.hid (blk_alloc (.cells #[.int .i64 0, .int .i64 0, .int .u8 0, .int .i64 0, .int .i64 0] 46 (0, 0)) (blk_at (n := w.heap.size + 1) (w := w.alloc (.cells #[.int .i64 2, .int .i64 pa, .int .u8 ca, .int .i64 la, .int .i64 sa] 46 (0, 0))) (.cells #[.int .i64 2, .int .i64 pb, .int .u8 cb, .int .i64 lb, .int .i64 sb] 46 (0, 0)) (by simp)))
  have X2 := Lib.hid (blk_at (n := w.heap.size + 2) (w := (w.alloc (.cells #[.int .i64 2, .int .i64 pa, .int .u8 ca, .int .i64 la, .int .i64 sa] 46 (0, 0))).alloc (.cells #[.int .i64 2, .int .i64 pb, .int .u8 cb, .int .i64 lb, .int .i64 sb] 46 (0, 0))) (.cells #[.int .i64 0, .int .i64 0, .int .u8 0, .int .i64 0, .int .i64 0] 46 (0, 0)) (by simp))
  go_enter Tryd.func54, Tryd.ntmps54
  go_wp2_with fail
  refine (acts_any (⟨2, pa, ca, la, sa⟩ : Opr) _).mono ?_
  rintro e w1 ⟨rfl, hb1⟩
  have hb1 := hb1
  have x0 := hb1.blk X0.out
  have x1 := hb1.blk X1.out
  have x2 := hb1.blk X2.out
  have C0 := blk_cell x0; have C1 := blk_cell x1; have C2 := blk_cell x2; have F0 := blk_free x0; have F2 := blk_free x2; have L2 := blk_lt x2; have L0 := blk_lt x0
  have HB1 := Lib.hid hb1; have Y0 := Lib.hid x0; have Y2 := Lib.hid x2; clear hb1 x0 x1 x2
  go_wp2_with fail
  refine (acts_any (⟨2, pb, cb, lb, sb⟩ : Opr) _).mono ?_
  rintro e w2 ⟨rfl, hb2⟩
  have hb2 := HB1.out.then_ hb2
  have x0 := hb2.blk X0.out
  have x1 := hb2.blk X1.out
  have x2 := hb2.blk X2.out
  clear C0 C1 C2 F0 F2 L2 L0 Y0 Y2
  have C0 := blk_cell x0; have C1 := blk_cell x1; have C2 := blk_cell x2; have F0 := blk_free x0; have F2 := blk_free x2; have L2 := blk_lt x2; have L0 := blk_lt x0
  have HB2 := Lib.hid hb2; have Y0 := Lib.hid x0; have Y2 := Lib.hid x2; clear hb2 x0 x1 x2
  go_wp2_with fail
  refine (ahead_any (⟨2, pb, cb, lb, sb⟩ : Opr) (⟨2, pa, ca, la, sa⟩ : Opr) f _).mono ?_
  rintro e w3 ⟨rfl, hb3⟩
  rw [HT.out]
  have hb3 := HB2.out.then_ hb3
  have x0 := hb3.blk X0.out
  have x1 := hb3.blk X1.out
  have x2 := hb3.blk X2.out
  clear C0 C1 C2 F0 F2 L2 L0 Y0 Y2
  have C0 := blk_cell x0; have C1 := blk_cell x1; have C2 := blk_cell x2; have F0 := blk_free x0; have F2 := blk_free x2; have L2 := blk_lt x2; have L0 := blk_lt x0
  have HB3 := Lib.hid hb3; have Y0 := Lib.hid x0; have Y2 := Lib.hid x2; clear hb3 x0 x1 x2
  go_wp2
  have y2 := set5 Y2.out rfl (.int .i64 2) (.int .i64 pa) (.int .u8 ca) (.int .i64 la) (.int .i64 sa)
  have D := blk_cell y2
  refine bodyPost_ret (v := (⟨2, pa, ca, la, sa⟩ : Opr).val) (by simp [results, Tryd.results54, go_sem, D]) rfl ⟨rfl, ?_⟩
  exact bel_mod ((((Below.refl _ _).new _).new _).new _ |>.then_ HB3.out) (Mod.set5 _ _ _ _ _ _ _) (by intro k hk; simp at hk; omega)

set_option maxRecDepth 100000 in
set_option maxHeartbeats 3200000 in
theorem rshift22t (pa ca la sa pb cb lb sb : Int) (f : Bool) (w : World) (hne : (pa == pb) = false) (ht : aheadB (⟨2, pb, cb, lb, sb⟩ : Opr) (⟨2, pa, ca, la, sa⟩ : Opr) f = true) : Calls Tryd.prog 54 #[(⟨2, pa, ca, la, sa⟩ : Opr).val, (⟨2, pb, cb, lb, sb⟩ : Opr).val, .bool f] w fun e w' => e = .returned ((⟨2, wrap64 (pa - 1), ca, la, sa⟩ : Opr)).val ∧ Below w.heap.size w w' := by
  have ha : actsB (⟨2, pa, ca, la, sa⟩ : Opr) = true := rfl
  have hb : actsB (⟨2, pb, cb, lb, sb⟩ : Opr) = true := rfl
  have HT := Lib.hid ht; clear ht
  have X0 := Lib.hid (blk_alloc (.cells #[.int .i64 0, .int .i64 0, .int .u8 0, .int .i64 0, .int .i64 0] 46 (0, 0)) (blk_alloc (.cells #[.int .i64 2, .int .i64 pb, .int .u8 cb, .int .i64 lb, .int .i64 sb] 46 (0, 0)) (blk_new w (.cells #[.int .i64 2, .int .i64 pa, .int .u8 ca, .int .i64 la, .int .i64 sa] 46 (0, 0)))))
  have X1 := Lib.hid (blk_alloc (.cells #[.int .i64 0, .int .i64 0, .int .u8 0, .int .i64 0, .int .i64 0] 46 (0, 0)) (blk_at (n := w.heap.size + 1) (w := w.alloc (.cells #[.int .i64 2, .int .i64 pa, .int .u8 ca, .int .i64 la, .int .i64 sa] 46 (0, 0))) (.cells #[.int .i64 2, .int .i64 pb, .int .u8 cb, .int .i64 lb, .int .i64 sb] 46 (0, 0)) (by simp)))
  have X2 := Lib.hid (blk_at (n := w.heap.size + 2) (w := (w.alloc (.cells #[.int .i64 2, .int .i64 pa, .int .u8 ca, .int .i64 la, .int .i64 sa] 46 (0, 0))).alloc (.cells #[.int .i64 2, .int .i64 pb, .int .u8 cb, .int .i64 lb, .int .i64 sb] 46 (0, 0))) (.cells #[.int .i64 0, .int .i64 0, .int .u8 0, .int .i64 0, .int .i64 0] 46 (0, 0)) (by simp))
  go_enter Tryd.func54, Tryd.ntmps54
  go_wp2_with fail
  refine (acts_any (⟨2, pa, ca, la, sa⟩ : Opr) _).mono ?_
  rintro e w1 ⟨rfl, hb1⟩
  have hb1 := hb1
  have x0 := hb1.blk X0.out
  have x1 := hb1.blk X1.out
  have x2 := hb1.blk X2.out
  have C0 := blk_cell x0; have C1 := blk_cell x1; have C2 := blk_cell x2; have F0 := blk_free x0; have F2 := blk_free x2; have L2 := blk_lt x2; have L0 := blk_lt x0
  have HB1 := Lib.hid hb1; have Y0 := Lib.hid x0; have Y2 := Lib.hid x2; clear hb1 x0 x1 x2
  go_wp2_with fail
  refine (acts_any (⟨2, pb, cb, lb, sb⟩ : Opr) _).mono ?_
  rintro e w2 ⟨rfl, hb2⟩
  have hb2 := HB1.out.then_ hb2
  have x0 := hb2.blk X0.out
  have x1 := hb2.blk X1.out
  have x2 := hb2.blk X2.out
  clear C0 C1 C2 F0 F2 L2 L0 Y0 Y2
  have C0 := blk_cell x0; have C1 := blk_cell x1; have C2 := blk_cell x2; have F0 := blk_free x0; have F2 := blk_free x2; have L2 := blk_lt x2; have L0 := blk_lt x0
  have HB2 := Lib.hid hb2; have Y0 := Lib.hid x0; have Y2 := Lib.hid x2; clear hb2 x0 x1 x2
  go_wp2_with fail
  refine (ahead_any (⟨2, pb, cb, lb, sb⟩ : Opr) (⟨2, pa, ca, la, sa⟩ : Opr) f _).mono ?_
  rintro e w3 ⟨rfl, hb3⟩
  rw [HT.out]
  have hb3 := HB2.out.then_ hb3
  have x0 := hb3.blk X0.out
  have x1 := hb3.blk X1.out
  have x2 := hb3.blk X2.out
  clear C0 C1 C2 F0 F2 L2 L0 Y0 Y2
  have C0 := blk_cell x0; have C1 := blk_cell x1; have C2 := blk_cell x2; have F0 := blk_free x0; have F2 := blk_free x2; have L2 := blk_lt x2; have L0 := blk_lt x0
  have HB3 := Lib.hid hb3; have Y0 := Lib.hid x0; have Y2 := Lib.hid x2; clear hb3 x0 x1 x2
  go_wp2
  have y2 := set5 (blk_other (w := w3) ⟨w.heap.size, 1, none⟩ (.int .i64 (wrap64 (pa - 1))) Y2.out (by simp)) rfl (.int .i64 2) (.int .i64 (wrap64 (pa - 1))) (.int .u8 ca) (.int .i64 la) (.int .i64 sa)
  have D := blk_cell y2
  refine bodyPost_ret (v := (⟨2, (wrap64 (pa - 1)), ca, la, sa⟩ : Opr).val) (by simp [results, Tryd.results54, go_sem, D]) rfl ⟨rfl, ?_⟩
  exact bel_mod (bel_mod ((((Below.refl _ _).new _).new _).new _ |>.then_ HB3.out) (Mod.setCell _ w.heap.size 1 _) (by simp)) (Mod.set5 _ _ _ _ _ _ _) (by intro k hk; simp at hk; omega)

theorem rshift_any (a b : Opr) (f : Bool) (w : World) : Calls Tryd.prog 54 #[a.val, b.val, .bool f] w fun e w' => e = .returned (shift a b f).val ∧ Below w.heap.size w w' := by
  by_cases ha : actsB a = true
  · by_cases hb : actsB b = true
    · rw [shift_both ha hb]
      obtain ⟨ka, pa, ca, la, sa⟩ := a
      obtain ⟨kb, pb, cb, lb, sb⟩ := b
      simp [actsB] at ha hb
      rcases ha with rfl | rfl <;> rcases hb with rfl | rfl
      · rw [if_neg (by simp)]; simp only [if_true, Int.reduceEq, if_false]
        by_cases h' : aheadB ⟨1, pb, cb, lb, sb⟩ ⟨1, pa, ca, la, sa⟩ f = true
        · rw [if_pos h']; exact rshift11t pa ca la sa pb cb lb sb f w h'
        · rw [if_neg h']; exact rshift11f pa ca la sa pb cb lb sb f w (by simpa using h')
      · rw [if_neg (by simp)]; simp only [if_true, Int.reduceEq, if_false]
        by_cases h' : aheadB ⟨2, pb, cb, lb, sb⟩ ⟨1, pa, ca, la, sa⟩ f = true
        · rw [if_pos h']; exact rshift12t pa ca la sa pb cb lb sb f w h'
        · rw [if_neg h']; exact rshift12f pa ca la sa pb cb lb sb f w (by simpa using h')
      · rw [if_neg (by simp)]; simp only [if_true, Int.reduceEq, if_false]
        by_cases h' : aheadB ⟨1, pb, cb, lb, sb⟩ ⟨2, pa, ca, la, sa⟩ f = true
        · rw [if_pos h']; exact rshift21t pa ca la sa pb cb lb sb f w h'
        · rw [if_neg h']; exact rshift21f pa ca la sa pb cb lb sb f w (by simpa using h')
      · by_cases h : pa = pb
        · subst h; rw [if_pos (by simp)]; exact rshift_same pa ca la sa cb lb sb f w
        · have hne : (pa == pb) = false := by simp [h]
          rw [if_neg (by simp [h])]; simp only [if_true, Int.reduceEq, if_false]
          by_cases h' : aheadB ⟨2, pb, cb, lb, sb⟩ ⟨2, pa, ca, la, sa⟩ f = true
          · rw [if_pos h']; exact rshift22t pa ca la sa pb cb lb sb f w hne h'
          · rw [if_neg h']; exact rshift22f pa ca la sa pb cb lb sb f w hne (by simpa using h')
    · rw [shift_idle (Or.inr (by simpa using hb))]; exact rshift_idle2 a b f w ha (by simpa using hb)
  · rw [shift_idle (Or.inl (by simpa using ha))]; exact rshift_idle1 a b f w (by simpa using ha)
end Go.Proofs.YtjeidklpomekdaaDoor

/- Package doc: Apply, Replay. -/
namespace Go.Proofs.YtjeidklpomekdaaDoor
open Go.RowKit

def ApplyPost (ds : List Elm) (op : Opr) (w : World) (e : Ending) (w' : World) : Prop :=
  ∃ g n c, e = .returned (.tuple #[.slice (some ⟨g, 0, none⟩) n c, .int .i64 0]) ∧ SlO w' w.heap.size 50 Elm.cells 3 (.slice (some ⟨g, 0, none⟩) n c) (apply ds op) ∧ Below w.heap.size w w'

/-- An operation that fits, at the kinds. -/
theorem fits_insert {n : Int} {o : Opr} (h : fits n o = 0) (hk : o.kind = 1) : 0 ≤ o.pos ∧ o.pos ≤ n ∧ n < 4096 ∧ o.pos ≤ 4095 := by
  unfold fits at h
  split at h
  · omega
  · rename_i hv
    split at h
    · omega
    · split at h
      · omega
      · have : valid o = 0 := by omega
        unfold valid at this
        simp only [hk] at *
        repeat' split at this
        all_goals (first | omega | simp_all | skip)
        all_goals omega
theorem fits_delete {n : Int} {o : Opr} (h : fits n o = 0) (hk : o.kind = 2) : 0 ≤ o.pos ∧ o.pos < n ∧ n ≤ 4096 := by
  unfold fits at h
  split at h
  · omega
  · rename_i hv
    split at h
    · omega
    · split at h
      · omega
      · have : valid o = 0 := by omega
        unfold valid at this
        simp only [hk] at *
        repeat' split at this
        all_goals (first | omega | simp_all | skip)
        all_goals omega
theorem fits_le {n : Int} {o : Opr} (h : fits n o = 0) : n ≤ 4096 := by
  unfold fits at h
  split at h
  · omega
  · split at h
    · omega
    · split at h <;> omega

set_option maxRecDepth 100000 in
set_option maxHeartbeats 1600000 in
theorem apply_ins (ad : Addr) (n cap : Nat) (ds : List Elm) (op : Opr) (w : World) (hd : SlR w Elm.cells 3 (.slice (some ad) n cap) ds) (hc : 0 ≤ op.ch ∧ op.ch ≤ 255) (hf : fits ds.length op = 0) (hk : op.kind = 1) :
    Calls Tryd.prog 42 #[.slice (some ad) n cap, op.val] w (ApplyPost ds op w) := by
  obtain ⟨hp0, hp1, hlt, hp2⟩ := fits_insert hf hk
  have hf' : (fits ds.length op != 0) = false := by simp [hf]
  have hk1 : (op.kind == 1) = true := by simp [hk]
  have HD := Lib.hid hd
  obtain ⟨hcap, hl⟩ : ds.length ≤ cap ∧ n = ds.length := by obtain ⟨a, c, h, _, ⟨h1, _⟩, _⟩ := hd; cases h; exact ⟨h1, rfl⟩
  subst hl
  have hcap' : op.pos ≤ cap := by omega
  have HF := Lib.hid hf; have HK := Lib.hid hk; clear hf hk hd
  by_cases hcp : cap = op.pos.toNat
  case' pos => subst hcp
  all_goals
    go_enter Tryd.func42, Tryd.ntmps42
    go_wp2_with fail
    refine (fits_any _ op _ hc).mono ?_
    rintro e w1 ⟨rfl, hb⟩
    have x0 := hb.blk (blk_new _ _)
    have C1 := blk_cell x0
    have X0 := Lib.hid x0; have HB := Lib.hid hb; clear x0 hb
    have hb1 : Below w.heap.size w w1 := ((Below.refl _ _).new _).then_ HB.out
    have HB1 := Lib.hid hb1; clear hb1
    have l1 : w.heap.size < w1.heap.size := blk_lt X0.out
    go_wp2_with (first
      | (at_make; refine wp_make0 (α := Elm) et_elem rfl _ _ rfl Elm.cells .i64 .i64 _ (ds.length + 1) rfl rfl (by push_cast; rfl) (by omega) (by unfold maxLen; omega) ?_; intro w2 ho2 hg2 hlt2; have b2 := Below.of_grown hg2; have x2 := b2.blk X0.out; have C2 := blk_cell x2; have X2 := Lib.hid x2; have HO2 := Lib.hid ho2; have B2 := Lib.hid b2; clear ho2 hg2 b2 x2)
      | (at_builtin; refine wp_app_allN et_elem op.pos.toNat rfl (.tmp 26) (.tmp 30) rfl (w.heap.size + 1) Elm.cells len_elem one_elem (.slice (some ⟨w1.heap.size, 0, none⟩) 0 (ds.length + 1)) [] rfl (HO2.out.rebase (fun q hq => by have := (HO2.out.lt q hq).1; omega)) (ds.take op.pos.toNat) _ rfl (((HD.out.below HB1.out).below B2.out).take op.pos.toNat (by omega)) (by simp; omega) (by omega) (by omega) (by omega) ?_; intro a3 c3 w3 ho3 hm3 hb3 hs3; have HS3 := Lib.hid hs3; clear hs3; have x3 := hm3.blk (by simp [Value.ownBlock]; omega) X2.out; have C3 := blk_cell x3; have X3 := Lib.hid x3; have HO3 := Lib.hid ho3; have HM3 := Lib.hid hm3; have HB3 := Lib.hid hb3; clear ho3 hm3 hb3 x3)
      | (at_builtin; refine wp_app1N et_elem (op.pos.toNat + 1) rfl (.tmp 32) (.tmp 40) rfl (w.heap.size + 1) Elm.cells len_elem one_elem (.slice a3 op.pos.toNat c3) _ rfl HO3.out ⟨op.ch, op.client, op.seq⟩ _ rfl rfl (by simp; omega) (by omega) (by omega) (by have := blk_lt X3.out; omega) ?_; intro g4 c4 w4 ho4 hm4 hb4 hlt4; have x4 := hm4.blk (by simp; intro q; have := (HO3.out.lt _ q).1; omega) X3.out; have C4 := blk_cell x4; have X4 := Lib.hid x4; have HO4 := Lib.hid ho4; have HM4 := Lib.hid hm4; have HB4 := Lib.hid hb4; clear ho4 hm4 hb4 x4)
      | (at_builtin; refine wp_app_allN et_elem (ds.length + 1) rfl (.tmp 42) (.tmp 46) rfl (w.heap.size + 1) Elm.cells len_elem one_elem (.slice (some ⟨g4, 0, none⟩) (op.pos.toNat + 1) c4) _ rfl HO4.out (ds.drop op.pos.toNat) _ rfl (by first | exact (HD.out.modNew (HD.out.modNew ((HD.out.below HB1.out).below B2.out) HM3.out (by simp [Value.ownBlock]; omega)) HM4.out (by intro q hq; have := (HO3.out.lt q (by simpa using hq)).1; omega)).dropAdd op.pos.toNat (by omega) | exact (HD.out.modNew (HD.out.modNew ((HD.out.below HB1.out).below B2.out) HM3.out (by simp [Value.ownBlock]; omega)) HM4.out (by intro q hq; have := (HO3.out.lt q (by simpa using hq)).1; omega)).dropPast (by omega) _ _ | exact (HD.out.modNew (HD.out.modNew ((HD.out.below HB1.out).below B2.out) HM3.out (by simp [Value.ownBlock]; omega)) HM4.out (by intro q hq; have := (HO3.out.lt q (by simpa using hq)).1; omega)).dropEnd (by omega) _ _) (by simp; omega) (by omega) (by omega) (by have := blk_lt X4.out; omega) ?_; intro a5 c5 w5 ho5 hm5 hb5 hs5; have HS5 := Lib.hid hs5; clear hs5; have HO5 := Lib.hid ho5; have HM5 := Lib.hid hm5; have HB5 := Lib.hid hb5; clear ho5 hm5 hb5))
    all_goals
      obtain ⟨q, hq⟩ : ∃ q, op.pos.toNat = q := ⟨_, rfl⟩
      go_ret2
      obtain ⟨g5, rfl⟩ := HS5.out (by simp [Value.ownBlock])
      refine ⟨g5, _, _, rfl, ?_, ?_⟩
      · have h5 := HO5.out.rebase (base' := w.heap.size) (fun g hg => by have := (HO5.out.lt g hg).1; omega)
        have e : apply ds op = [] ++ ds.take op.pos.toNat ++ [⟨op.ch, op.client, op.seq⟩] ++ ds.drop op.pos.toNat := by unfold apply; rw [if_pos HK.out, List.nil_append]
        rw [e]; exact h5
      · have b2 := HB1.out.then_ B2.out
        have b3 := b2.mod HM3.out (by simp [Value.ownBlock]; omega)
        have b4 := b3.mod HM4.out (by intro q hq; have := (HO3.out.lt q (by simpa using hq)).1; omega)
        exact b4.mod HM5.out (by intro q hq; have := (HO4.out.lt q (by simpa using hq)).1; omega)
end Go.Proofs.YtjeidklpomekdaaDoor

/- doc.Apply, a deletion. -/
namespace Go.Proofs.YtjeidklpomekdaaDoor
open Go.RowKit

set_option maxRecDepth 100000 in
set_option maxHeartbeats 1600000 in
theorem apply_del (ad : Addr) (n cap : Nat) (ds : List Elm) (op : Opr) (w : World) (hd : SlR w Elm.cells 3 (.slice (some ad) n cap) ds) (hc : 0 ≤ op.ch ∧ op.ch ≤ 255) (hf : fits ds.length op = 0) (hk : op.kind = 2) :
    Calls Tryd.prog 42 #[.slice (some ad) n cap, op.val] w (ApplyPost ds op w) := by
  obtain ⟨hp0, hp1, hlt⟩ := fits_delete hf hk
  have hk0 : (op.kind == 1) = false := by simp [hk]
  have hf' : (fits ds.length op != 0) = false := by simp [hf]
  have hk1 : (op.kind == 2) = true := by simp [hk]
  have HD := Lib.hid hd
  obtain ⟨hcap, hl⟩ : ds.length ≤ cap ∧ n = ds.length := by obtain ⟨a, c, h, _, ⟨h1, _⟩, _⟩ := hd; cases h; exact ⟨h1, rfl⟩
  subst hl
  have hcap' : op.pos ≤ cap := by omega
  have hcap1 : op.pos + 1 ≤ cap := by omega
  have htn : (op.pos + 1).toNat = op.pos.toNat + 1 := by omega
  have HF := Lib.hid hf; have HK := Lib.hid hk; clear hf hk hd
  by_cases hcp : cap = op.pos.toNat + 1
  case' pos => subst hcp
  all_goals
    go_enter Tryd.func42, Tryd.ntmps42
    go_wp2_with fail
    refine (fits_any _ op _ hc).mono ?_
    rintro e w1 ⟨rfl, hb⟩
    have x0 := hb.blk (blk_new _ _)
    have C1 := blk_cell x0
    have X0 := Lib.hid x0; have HB := Lib.hid hb; clear x0 hb
    have hb1 : Below w.heap.size w w1 := ((Below.refl _ _).new _).then_ HB.out
    have HB1 := Lib.hid hb1; clear hb1
    have l1 : w.heap.size < w1.heap.size := blk_lt X0.out
    go_wp2_with (first
      | (at_make; refine wp_make0 (α := Elm) et_elem rfl _ _ rfl Elm.cells .i64 .i64 _ (ds.length + 1) rfl rfl (by push_cast; rfl) (by omega) (by unfold maxLen; omega) ?_; intro w2 ho2 hg2 hlt2; have b2 := Below.of_grown hg2; have x2 := b2.blk X0.out; have C2 := blk_cell x2; have X2 := Lib.hid x2; have HO2 := Lib.hid ho2; have B2 := Lib.hid b2; clear ho2 hg2 b2 x2)
      | (at_builtin; refine wp_app_allN et_elem op.pos.toNat rfl (.tmp 50) (.tmp 54) rfl (w.heap.size + 1) Elm.cells len_elem one_elem (.slice (some ⟨w1.heap.size, 0, none⟩) 0 (ds.length + 1)) [] rfl (HO2.out.rebase (fun q hq => by have := (HO2.out.lt q hq).1; omega)) (ds.take op.pos.toNat) _ rfl (((HD.out.below HB1.out).below B2.out).take op.pos.toNat (by omega)) (by simp; omega) (by omega) (by omega) (by omega) ?_; intro a3 c3 w3 ho3 hm3 hb3 hs3; have HS3 := Lib.hid hs3; clear hs3; have x3 := hm3.blk (by simp [Value.ownBlock]; omega) X2.out; have C3 := blk_cell x3; have X3 := Lib.hid x3; have HO3 := Lib.hid ho3; have HM3 := Lib.hid hm3; have HB3 := Lib.hid hb3; clear ho3 hm3 hb3 x3)
      | (at_builtin; refine wp_app_allN et_elem (ds.length - 1) rfl (.tmp 56) (.tmp 61) rfl (w.heap.size + 1) Elm.cells len_elem one_elem (.slice a3 op.pos.toNat c3) _ rfl HO3.out (ds.drop (op.pos.toNat + 1)) _ rfl (by first | exact (HD.out.modNew ((HD.out.below HB1.out).below B2.out) HM3.out (by simp [Value.ownBlock]; omega)).dropAdd (op.pos.toNat + 1) (by omega) | exact (HD.out.modNew ((HD.out.below HB1.out).below B2.out) HM3.out (by simp [Value.ownBlock]; omega)).dropPast (by omega) _ _ | exact (HD.out.modNew ((HD.out.below HB1.out).below B2.out) HM3.out (by simp [Value.ownBlock]; omega)).dropEnd (by omega) _ _) (by simp; omega) (by omega) (by omega) (by have := blk_lt X3.out; omega) ?_; intro a5 c5 w5 ho5 hm5 hb5 hs5; have HS5 := Lib.hid hs5; clear hs5; have HO5 := Lib.hid ho5; have HM5 := Lib.hid hm5; have HB5 := Lib.hid hb5; clear ho5 hm5 hb5))
    all_goals
      obtain ⟨q, hq⟩ : ∃ q, op.pos.toNat = q := ⟨_, rfl⟩
      go_ret2
      obtain ⟨g3, rfl⟩ := HS3.out (by simp [Value.ownBlock])
      obtain ⟨g5, rfl⟩ := HS5.out (by simp [Value.ownBlock])
      refine ⟨g5, _, _, rfl, ?_, ?_⟩
      · have h5 := HO5.out.rebase (base' := w.heap.size) (fun g hg => by have := (HO5.out.lt g hg).1; omega)
        have e : apply ds op = [] ++ ds.take op.pos.toNat ++ ds.drop (op.pos.toNat + 1) := by unfold apply; rw [if_neg (by have := HK.out; omega), if_pos HK.out, List.nil_append]
        rw [e]; exact h5
      · have b2 := HB1.out.then_ B2.out
        have b3 := b2.mod HM3.out (by simp [Value.ownBlock]; omega)
        exact b3.mod HM5.out (by intro q hq; have := (HO3.out.lt q (by simpa using hq)).1; omega)
end Go.Proofs.YtjeidklpomekdaaDoor

/- doc.Apply: a Nop, a refusal; all ways together; doc.Replay. -/
namespace Go.Proofs.YtjeidklpomekdaaDoor
open Go.RowKit

set_option maxRecDepth 100000 in
set_option maxHeartbeats 1600000 in
theorem apply_nop (ad : Addr) (n cap : Nat) (ds : List Elm) (op : Opr) (w : World) (hd : SlR w Elm.cells 3 (.slice (some ad) n cap) ds) (hc : 0 ≤ op.ch ∧ op.ch ≤ 255) (hf : fits ds.length op = 0) (hk : op.kind ≠ 1) (hk' : op.kind ≠ 2) :
    Calls Tryd.prog 42 #[.slice (some ad) n cap, op.val] w (ApplyPost ds op w) := by
  have hlt := fits_le hf
  have hf' : (fits ds.length op != 0) = false := by simp [hf]
  have hk1 : (op.kind == 1) = false := by simp [hk]
  have hk2 : (op.kind == 2) = false := by simp [hk']
  have HD := Lib.hid hd
  obtain ⟨hcap, hl⟩ : ds.length ≤ cap ∧ n = ds.length := by obtain ⟨a, c, h, _, ⟨h1, _⟩, _⟩ := hd; cases h; exact ⟨h1, rfl⟩
  subst hl
  have HF := Lib.hid hf; have HK := Lib.hid hk; have HK' := Lib.hid hk'; clear hf hk hk' hd
  go_enter Tryd.func42, Tryd.ntmps42
  go_wp2_with fail
  refine (fits_any _ op _ hc).mono ?_
  rintro e w1 ⟨rfl, hb⟩
  have x0 := hb.blk (blk_new _ _)
  have C1 := blk_cell x0
  have X0 := Lib.hid x0; have HB := Lib.hid hb; clear x0 hb
  have hb1 : Below w.heap.size w w1 := ((Below.refl _ _).new _).then_ HB.out
  have HB1 := Lib.hid hb1; clear hb1
  have l1 : w.heap.size < w1.heap.size := blk_lt X0.out
  go_wp2_with (first
    | (at_make; refine wp_make0 (α := Elm) et_elem rfl _ _ rfl Elm.cells .i64 .i64 _ (ds.length + 1) rfl rfl (by push_cast; rfl) (by omega) (by unfold maxLen; omega) ?_; intro w2 ho2 hg2 hlt2; have b2 := Below.of_grown hg2; have x2 := b2.blk X0.out; have C2 := blk_cell x2; have X2 := Lib.hid x2; have HO2 := Lib.hid ho2; have B2 := Lib.hid b2; clear ho2 hg2 b2 x2)
    | (at_builtin; refine wp_app_allN et_elem ds.length rfl (.tmp 21) (.tmp 22) rfl (w.heap.size + 1) Elm.cells len_elem one_elem (.slice (some ⟨w1.heap.size, 0, none⟩) 0 (ds.length + 1)) [] rfl (HO2.out.rebase (fun q hq => by have := (HO2.out.lt q hq).1; omega)) ds _ rfl ((HD.out.below HB1.out).below B2.out) (by simp) (by omega) (by omega) (by omega) ?_; intro a3 c3 w3 ho3 hm3 hb3 hs3; have HS3 := Lib.hid hs3; clear hs3; have HO3 := Lib.hid ho3; have HM3 := Lib.hid hm3; clear ho3 hm3 hb3))
  go_ret2
  obtain ⟨g3, rfl⟩ := HS3.out (by simp [Value.ownBlock])
  refine ⟨g3, _, _, rfl, ?_, ?_⟩
  · have h5 := HO3.out.rebase (base' := w.heap.size) (fun g hg => by have := (HO3.out.lt g hg).1; omega)
    have e : apply ds op = [] ++ ds := by unfold apply; rw [if_neg HK.out, if_neg HK'.out, List.nil_append]
    rw [e]; exact h5
  · exact (HB1.out.then_ B2.out).mod HM3.out (by simp [Value.ownBlock]; omega)

theorem apply_any (ad : Addr) (n cap : Nat) (ds : List Elm) (op : Opr) (w : World) (hd : SlR w Elm.cells 3 (.slice (some ad) n cap) ds) (hc : 0 ≤ op.ch ∧ op.ch ≤ 255) (hf : fits ds.length op = 0) :
    Calls Tryd.prog 42 #[.slice (some ad) n cap, op.val] w (ApplyPost ds op w) := by
  by_cases h1 : op.kind = 1
  · exact apply_ins ad n cap ds op w hd hc hf h1
  · by_cases h2 : op.kind = 2
    · exact apply_del ad n cap ds op w hd hc hf h2
    · exact apply_nop ad n cap ds op w hd hc hf h1 h2

/-- The text behind a list of operations. -/
def replay (d : List Elm) : List Opr → List Elm
  | [] => d
  | o :: os => replay (apply d o) os
/-- Each fits at the text that it comes to. -/
def AllFit (d : List Elm) : List Opr → Prop
  | [] => True
  | o :: os => fits d.length o = 0 ∧ AllFit (apply d o) os

theorem replay_take (d : List Elm) : ∀ (os : List Opr) (k : Nat) (h : k < os.length), replay d (os.take (k + 1)) = apply (replay d (os.take k)) os[k] := by
  intro os
  induction os generalizing d with
  | nil => intro k h; simp at h
  | cons o os ih =>
    intro k h
    cases k with
    | zero => simp [replay]
    | succ k => simpa [replay] using ih (apply d o) k (by simpa using h)
theorem AllFit.get {d : List Elm} : ∀ {os : List Opr}, AllFit d os → ∀ (k : Nat) (h : k < os.length), fits (replay d (os.take k)).length os[k] = 0 := by
  intro os
  induction os generalizing d with
  | nil => intro _ k h; simp at h
  | cons o os ih =>
    intro ha k h
    cases k with
    | zero => simpa [replay] using ha.1
    | succ k => simpa [replay] using ih ha.2 k (by simpa using h)

def ReplayPost (os : List Opr) (w : World) (e : Ending) (w' : World) : Prop :=
  ∃ a c, e = .returned (.tuple #[.slice (some a) (replay [] os).length c, .int .i64 os.length, .int .i64 0]) ∧ SlO w' w.heap.size 50 Elm.cells 3 (.slice (some a) (replay [] os).length c) (replay [] os) ∧ Below w.heap.size w w'
def ReplayInv (os : List Opr) (w : World) (k : Nat) (v : Value) (wr : World) : Prop :=
  ∃ a c, v = .slice (some a) (replay [] (os.take k)).length c ∧ SlO wr w.heap.size 50 Elm.cells 3 v (replay [] (os.take k)) ∧ Below w.heap.size w wr

set_option maxRecDepth 100000 in
set_option maxHeartbeats 1600000 in
theorem replay_any (v : Value) (os : List Opr) (w : World) (h : SlR w Opr.cells 5 v os) (hf : AllFit [] os) (hc : ∀ o ∈ os, 0 ≤ o.ch ∧ o.ch ≤ 255) :
    Calls Tryd.prog 35 #[v] w (ReplayPost os w) := by
  have h0 := h
  obtain ⟨a, cap, rfl, hl, hnil, hcell⟩ := h
  have H0 := Lib.hid h0; have HF := Lib.hid hf; have HCH := Lib.hid hc; clear h0 hnil hcell hf hc
  go_enter Tryd.func35, Tryd.ntmps35
  go_wp2
  go_loopw [5, 13] (fun v i wr => ∃ k : Nat, k ≤ os.length ∧ i = .int .i64 k ∧ ReplayInv os w k v wr) (fun _ i _ => os.length - (intOf i).toNat)
  case atStart =>
    refine ⟨0, Nat.zero_le _, rfl, ⟨w.heap.size, 0, none⟩, 0, rfl, ?_, (Below.refl _ _).new _⟩
    exact World.ownsRow_made w #[] 0 (Nat.le_refl _) (Nat.zero_le _) (by simp)
  case round =>
    obtain ⟨k, hk, rfl, inv⟩ := hrel
    obtain ⟨ad, c, rfl, ho, hb⟩ := inv
    have HO := Lib.hid ho; have HB := Lib.hid hb; clear ho hb
    by_cases hlt : k < os.length
    · obtain ⟨b, off, rfl, c0, c1, c2, c3, c4⟩ := (H0.out.below HB.out).op k hlt
      have hfk := HF.out.get k hlt
      have hck := HCH.out os[k] (List.getElem_mem hlt)
      have HFK := Lib.hid hfk; have HCK := Lib.hid hck; clear hfk hck
      go_wp2_with fail
      refine (apply_any ad _ c (replay [] (os.take k)) os[k] _ ((HO.out.reads len_elem).below ((Below.refl _ _).new _)) HCK.out HFK.out).mono ?_
      rintro e w2 ⟨g', n', c', rfl, ho2, hb2⟩
      have hrt := replay_take [] os k hlt
      rw [← hrt] at ho2
      have hn' : n' = (replay [] (os.take (k + 1))).length := ho2.row.elim (fun cur h => h.2.2.2.2.2.2)
      subst hn'
      have HO2 := Lib.hid ho2; have HB2 := Lib.hid hb2; clear ho2 hb2 hrt
      go_wp2
      exact ⟨⟨k + 1, by omega, by go_num, ⟨_, _, rfl, HO2.out.rebase (fun q hq => by have := (HO2.out.lt q hq).1; have := HB.out.size; simp at *; omega), (HB.out.new _).then_ HB2.out⟩⟩, by simp [intOf]; omega⟩
    · obtain rfl : k = os.length := by omega
      have hto : os.take os.length = os := by simp
      have ho := HO.out
      rw [hto] at ho
      have HO' := Lib.hid ho; clear ho
      go_wp2
      go_ret3
      exact ⟨ad, c, by rw [hto]; rfl, HO'.out, HB.out⟩
end Go.Proofs.YtjeidklpomekdaaDoor

/- jotterref04's at. -/
namespace Go.Proofs.YtjeidklpomekdaaDoor
open Go.RowKit

/-- The three cells of one element in a list that is read. -/
theorem SlR.elm {w : World} {a : Option Addr} {n cap : Nat} {xs : List Elm} (h : SlR w Elm.cells 3 (.slice a n cap) xs) (i : Nat) (hi : i < xs.length) : ∃ b off, a = some ⟨b, off, none⟩ ∧
    w.cell? ⟨b, off + i * 3, none⟩ = some (.int .u8 xs[i].ch) ∧ w.cell? ⟨b, off + i * 3 + 1, none⟩ = some (.int .i64 xs[i].client) ∧ w.cell? ⟨b, off + i * 3 + 2, none⟩ = some (.int .i64 xs[i].seq) := by
  obtain ⟨a', c', hv, _, _, hc⟩ := h
  cases hv
  obtain ⟨b, off, rfl, hj⟩ := hc i hi
  exact ⟨b, off, rfl, hj 0 _ rfl, hj 1 _ rfl, hj 2 _ rfl⟩

set_option maxRecDepth 100000 in
set_option maxHeartbeats 3200000 in
theorem at_here (v : Value) (ds : List Elm) (o : Opr) (i : Nat) (w : World) (h : SlR w Elm.cells 3 v ds) (hi : i < ds.length) (hk : o.kind = 0 ∨ (i : Int) < o.pos) :
    Calls Tryd.prog 41 #[v, o.val, .int .i64 i] w fun e w' => e = .returned ds[i].val ∧ Below w.heap.size w w' := by
  have hb : Below w.heap.size w ((w.alloc (.cells #[.int .i64 o.kind, .int .i64 o.pos, .int .u8 o.ch, .int .i64 o.client, .int .i64 o.seq] 46 (0, 0))).alloc (.cells #[.int .u8 0, .int .i64 0, .int .i64 0] 50 (0, 0))) := ((Below.refl _ _).new _).new _
  have h1 := h.below hb
  obtain ⟨a, cap, rfl, hl, _⟩ := h
  obtain ⟨b, off, rfl, c0, c1, c2⟩ := h1.elm i hi
  generalize ds[i] = x at *
  clear h1 hb
  by_cases h0 : (o.kind == 0) = true
  · clear hk
    go_enter Tryd.func41, Tryd.ntmps41
    go_wp2
    exact bodyPost_ret (v := x.val) (by simp [results, Tryd.results41, go_sem]) rfl ⟨rfl, ((Below.refl _ _).new _).new _⟩
  · have h0' : (o.kind == 0) = false := by simpa using h0
    have hlt : (i : Int) < o.pos := hk.resolve_left (by simpa using h0)
    clear hk h0
    go_enter Tryd.func41, Tryd.ntmps41
    go_wp2
    exact bodyPost_ret (v := x.val) (by simp [results, Tryd.results41, go_sem]) rfl ⟨rfl, ((Below.refl _ _).new _).new _⟩

set_option maxRecDepth 100000 in
set_option maxHeartbeats 3200000 in
theorem at_next (v : Value) (ds : List Elm) (o : Opr) (i : Nat) (w : World) (h : SlR w Elm.cells 3 v ds) (hi : i + 1 < ds.length) (hk : o.kind = 2) (hp : ¬ (i : Int) < o.pos) :
    Calls Tryd.prog 41 #[v, o.val, .int .i64 i] w fun e w' => e = .returned ds[i + 1].val ∧ Below w.heap.size w w' := by
  have h2 : (o.kind == 2) = true := by simp [hk]
  have h0 : (o.kind == 0) = false := by simp [hk]
  clear hk
  have hb : Below w.heap.size w ((w.alloc (.cells #[.int .i64 o.kind, .int .i64 o.pos, .int .u8 o.ch, .int .i64 o.client, .int .i64 o.seq] 46 (0, 0))).alloc (.cells #[.int .u8 0, .int .i64 0, .int .i64 0] 50 (0, 0))) := ((Below.refl _ _).new _).new _
  have h1 := h.below hb
  obtain ⟨a, cap, rfl, hl, _⟩ := h
  obtain ⟨b, off, rfl, c0, c1, c2⟩ := h1.elm (i + 1) hi
  generalize ds[i + 1] = x at *
  clear h1 hb
  go_enter Tryd.func41, Tryd.ntmps41
  go_wp2
  exact bodyPost_ret (v := x.val) (by simp [results, Tryd.results41, go_sem]) rfl ⟨rfl, ((Below.refl _ _).new _).new _⟩

set_option maxRecDepth 100000 in
set_option maxHeartbeats 3200000 in
theorem at_new (v : Value) (ds : List Elm) (o : Opr) (i : Nat) (w : World) (h : SlR w Elm.cells 3 v ds) (hk : o.kind = 1) (hp : (i : Int) = o.pos) :
    Calls Tryd.prog 41 #[v, o.val, .int .i64 i] w fun e w' => e = .returned (⟨o.ch, o.client, o.seq⟩ : Elm).val ∧ Below w.heap.size w w' := by
  have h2 : (o.kind == 2) = false := by simp [hk]
  have h0 : (o.kind == 0) = false := by simp [hk]
  have h3 : ¬ (i : Int) < o.pos := by omega
  have h4 : ((i : Int) == o.pos) = true := by simp [hp]
  clear hk hp
  obtain ⟨a, cap, rfl, hl, _⟩ := h
  go_enter Tryd.func41, Tryd.ntmps41
  go_wp2
  exact bodyPost_ret (v := (⟨o.ch, o.client, o.seq⟩ : Elm).val) (by simp [results, Tryd.results41, go_sem]) rfl ⟨rfl, ((Below.refl _ _).new _).new _⟩

set_option maxRecDepth 100000 in
set_option maxHeartbeats 3200000 in
theorem at_prev (v : Value) (ds : List Elm) (o : Opr) (i : Nat) (w : World) (h : SlR w Elm.cells 3 v ds) (hi : i < ds.length) (hk : o.kind = 1) (hp : o.pos < (i : Int) + 1) :
    Calls Tryd.prog 41 #[v, o.val, .int .i64 ((i : Int) + 1)] w fun e w' => e = .returned ds[i].val ∧ Below w.heap.size w w' := by
  have h2 : (o.kind == 2) = false := by simp [hk]
  have h0 : (o.kind == 0) = false := by simp [hk]
  have h3 : ¬ (i : Int) + 1 < o.pos := by omega
  have h4 : (((i : Int) + 1) == o.pos) = false := by simp; omega
  clear hk hp
  have hb : Below w.heap.size w ((w.alloc (.cells #[.int .i64 o.kind, .int .i64 o.pos, .int .u8 o.ch, .int .i64 o.client, .int .i64 o.seq] 46 (0, 0))).alloc (.cells #[.int .u8 0, .int .i64 0, .int .i64 0] 50 (0, 0))) := ((Below.refl _ _).new _).new _
  have h1 := h.below hb
  obtain ⟨a, cap, rfl, hl, _⟩ := h
  obtain ⟨b, off, rfl, c0, c1, c2⟩ := h1.elm i hi
  generalize ds[i] = x at *
  clear h1 hb
  go_enter Tryd.func41, Tryd.ntmps41
  go_wp2
  exact bodyPost_ret (v := x.val) (by simp [results, Tryd.results41, go_sem]) rfl ⟨rfl, ((Below.refl _ _).new _).new _⟩
end Go.Proofs.YtjeidklpomekdaaDoor

