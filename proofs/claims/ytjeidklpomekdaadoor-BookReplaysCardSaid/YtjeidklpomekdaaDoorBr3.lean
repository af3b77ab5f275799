/- Part 3 of the proof of BookReplays: Map, Space2, Space3, Cross, Book, Book2, Book3, Book4. -/
import Derived.Maps.Own
import Derived.DeepKeys5
import Derived.Deep.RegionHeld3
import Derived.Deep.DeepMust
import Derived.RegionTactic
import Derived.BigRegion
import Derived.Deep.RegionLaw
import Derived.Test.YtjeidklpomekdaaDoorBr2

set_option linter.unusedVariables false
set_option linter.unusedSimpArgs false
set_option linter.unnecessarySimpa false

/- The book's map: keys are structs of two numbers; what counts is which keys stand in it. -/
namespace Go.Proofs.YtjeidklpomekdaaDoor
open Go.RowKit Go.Maps
open Go.WideElems (Fit)

abbrev whoVal (c s : Int) : Value := .agg #[.int .i64 c, .int .i64 s]
theorem who_laid : laidOutB Tryd.prog = true := by kernel_rfl
theorem who_row : 110 < Tryd.prog.types.size := of_decide_eq_true (by kernel_rfl)
theorem who_law : Keyed Tryd.prog 110 := Keyed.of_law (deep_law_laid who_laid (m := 2) (by omega) who_row (by kernel_rfl) (by kernel_rfl))
theorem whoMap_ty : Tryd.prog.underlying 70 = some (.map 110 3) := by kernel_rfl
theorem int_ty : Tryd.prog.underlying 3 = some (.int .i64) := by kernel_rfl
theorem int_zero (w : World) : (zeroValue 3).run Tryd.prog w = .ok (.int .i64 0) w := by kernel_rfl
theorem whoVal_inj {c s c' s' : Int} (h : whoVal c s = whoVal c' s') : c = c' ∧ s = s' := by
  simp at h; exact h

def InI64 (x : Int) : Prop := -9223372036854775808 ≤ x ∧ x ≤ 9223372036854775807
theorem wf_of {x : Int} (h : InI64 x) : (Lit.int .i64 x).wf = true := WalkArith.wf_i64 h
theorem who_ty : Tryd.prog.underlying 110 = some (.struct #[{ name := "client", type := 3, offset := 0, embedded := false, tag := "", pkgPath := "jotter/book", byteOffset := 0 }, { name := "seq", type := 3, offset := 1, embedded := false, tag := "", pkgPath := "jotter/book", byteOffset := 8 }]) := by kernel_rfl
theorem who_cells : Tryd.prog.cellsOf 110 = 2 := by kernel_rfl
theorem int_cells : Tryd.prog.cellsOf 3 = 1 := by kernel_rfl
theorem who_kt : Tryd.prog.keyType 110 = true := by kernel_rfl
theorem lits_int (d : Nat) (c : Int) (hc : InI64 c) : Tryd.prog.keyLits (d + 1) 3 [.int .i64 c] = some [.int .i64 c] := by
  have := wf_of hc
  simp [Program.keyLits, int_ty, this]
theorem lits_who (d : Nat) (c s : Int) (hc : InI64 c) (hs : InI64 s) : Tryd.prog.keyLits (d + 2) 110 [.int .i64 c, .int .i64 s] = some [.int .i64 c, .int .i64 s] := by
  have h1 := lits_int d c hc
  have h2 := lits_int d s hs
  unfold Program.keyLits
  simp [who_ty, who_cells, int_cells, h1, h2]
theorem who_formed (c s : Int) : (whoVal c s).formed Tryd.prog 110 = true := by simp [Value.formed, who_ty, who_cells]
theorem who_key (c s : Int) (hc : InI64 c) (hs : InI64 s) : ∃ l, keyOf Tryd.prog 110 (whoVal c s) = some l := by
  have hsz : ∃ d, Tryd.prog.types.size + 1 = d + 2 := ⟨Tryd.prog.types.size - 1, by have := who_row; omega⟩
  obtain ⟨d, hd⟩ := hsz
  have e : (whoVal c s).cells.toList = [.int .i64 c, .int .i64 s] := rfl
  unfold keyOf
  rw [who_ty]
  simp only [who_formed, who_kt, Bool.and_self, if_true, hd, e, lits_who d c s hc hs]
  exact ⟨_, rfl⟩

/-- Block mb is a map of at most n entries; its keys are just those that K tells. -/
def MapIs (w : World) (mb n : Nat) (K : Int → Int → Prop) : Prop :=
  ∃ es clock, w.heap[mb]? = some (.map es clock) ∧ Fit Tryd.prog 110 (plainElem (H := Unit) Tryd.prog 3) es clock ∧ es.size ≤ n ∧ ∀ c s, K c s ↔ ∃ e ∈ es.toList, e.key = whoVal c s

theorem MapIs.made (w : World) : MapIs (w.alloc (.map #[] 0)) w.heap.size 0 (fun _ _ => False) :=
  ⟨#[], 0, (MapKept.heap_alloc w _).1, ⟨by simp, MapKept.stamped_empty 0, by simp⟩, Nat.le_refl _, fun c s => by simp⟩
theorem MapIs.lt {w : World} {mb n : Nat} {K : Int → Int → Prop} (h : MapIs w mb n K) : mb < w.heap.size := by
  obtain ⟨es, clock, hb, _⟩ := h; exact blk_lt hb
theorem MapIs.mod {w w' : World} {mb n : Nat} {K : Int → Int → Prop} {L : List Nat} (h : MapIs w mb n K) (hm : Mod L w w') (hL : mb ∉ L) : MapIs w' mb n K := by
  obtain ⟨es, clock, hb, r⟩ := h; exact ⟨es, clock, hm.blk hL hb, r⟩
theorem MapIs.iff {w : World} {mb n : Nat} {K K' : Int → Int → Prop} (h : MapIs w mb n K) (hk : ∀ c s, K' c s ↔ K c s) : MapIs w mb n K' := by
  obtain ⟨es, clock, hb, F, hn, r⟩ := h; exact ⟨es, clock, hb, F, hn, fun c s => (hk c s).trans (r c s)⟩

theorem one_key {l : List MapEntry} (h : l.Pairwise (fun x y => x.key ≠ y.key)) {a b : MapEntry} (ha : a ∈ l) (hb : b ∈ l) (hk : a.key = b.key) : a = b := by
  induction l with
  | nil => cases ha
  | cons x l ih =>
    obtain ⟨h1, h2⟩ := List.pairwise_cons.1 h
    rcases List.mem_cons.1 ha with e1 | ha' <;> rcases List.mem_cons.1 hb with e2 | hb'
    · rw [e1, e2]
    · rw [e1] at hk; exact absurd hk (h1 b hb')
    · rw [e2] at hk; exact absurd hk.symm (h1 a ha')
    · exact ih h2 ha' hb'
/-- 'v, ok := m[k]'. -/
theorem MapIs.look {w : World} {mb n : Nat} {K : Int → Int → Prop} (h : MapIs w mb n K) (c s : Int) (hc : InI64 c) (hs : InI64 s) :
    ∃ x b, (b = true ↔ K c s) ∧ ∀ W : World, W.heap = w.heap → (Instr.lookup 70 (.map (some mb)) (whoVal c s) true).run Tryd.prog W = .ok (.tuple #[.int .i64 x, .bool b]) W := by
  obtain ⟨es, clock, hb, F, hn, hk⟩ := h
  obtain ⟨l, hl⟩ := who_key c s hc hs
  by_cases hex : ∃ e ∈ es.toList, e.key = whoVal c s
  · obtain ⟨e0, he0, hk0⟩ := hex
    obtain ⟨y0, hy0⟩ := F.reads e0 he0
    obtain ⟨z0, hz0, _⟩ := WideElems.rd_val hy0
    obtain ⟨a, ha, _, _⟩ := plainElem_int_inv int_ty hz0
    refine ⟨a, true, by rw [hk]; simp only [true_iff]; exact ⟨e0, he0, hk0⟩, fun W hW => ?_⟩
    rcases fit_look (w := W) true who_law whoMap_ty (int_zero W) (by rw [hW]; exact hb) F hl with ⟨h1, h2, _⟩ | ⟨e1, y, h1, h2, h3, h4, _⟩
    · exact absurd hk0 (h2 e0 he0)
    · obtain rfl := one_key ((MapKept.stamped_iff es clock).1 F.stamped).2.2 he0 h1 (hk0.trans h2.symm)
      rw [← ha]; exact h3
  · refine ⟨0, false, by rw [hk]; simp only [Bool.false_eq_true, false_iff]; exact hex, fun W hW => ?_⟩
    rcases fit_look (w := W) true who_law whoMap_ty (int_zero W) (by rw [hW]; exact hb) F hl with ⟨h1, h2, _⟩ | ⟨e1, y, h1, h2, h3, h4, _⟩
    · exact h1
    · exact absurd ⟨e1, h1, h2⟩ hex

/-- 'm[k] = v'. -/
theorem MapIs.store {w : World} {mb n : Nat} {K : Int → Int → Prop} (h : MapIs w mb n K) (hn : n < maxLen) (c s x : Int) (hc : InI64 c) (hs : InI64 s) (hx : InI64 x) (W : World) (hW : W.heap = w.heap) :
    ∃ w', (Instr.mapUpdate 70 (.map (some mb)) (whoVal c s) (.int .i64 x)).run Tryd.prog W = .ok () w' ∧ MapIs w' mb (n + 1) (fun c' s' => (c' = c ∧ s' = s) ∨ K c' s') ∧ Mod [mb] W w' := by
  obtain ⟨es, clock, hb, F, hsz, hk⟩ := h
  obtain ⟨l, hl⟩ := who_key c s hc hs
  obtain ⟨es', clock', hrun, F', hput, _, _, hin⟩ := fit_store (w := W) (R' := plainElem (H := Unit) Tryd.prog 3) who_law whoMap_ty (by rw [hW]; exact hb) F (Nat.lt_of_le_of_lt hsz hn) (fun _ _ _ _ hz => hz) hl (plainElem_int int_ty (wf_of hx))
  have hmem : ∀ p, p ∈ es'.toList.map (WideElems.rg Tryd.prog 110 (plainElem (H := Unit) Tryd.prog 3)) ↔ p = (l, DataW.lit (.int .i64 x)) ∨ (p ∈ es.toList.map (WideElems.rg Tryd.prog 110 (plainElem (H := Unit) Tryd.prog 3)) ∧ ChangeMaps.notKey l p = true) := by
    intro p
    rw [← (WideShapes.sorted_perm _).mem_iff, hput]
    unfold ChangeMaps.putKey
    rw [ChangeMaps.mem_insert_iff, List.mem_filter, (WideShapes.sorted_perm _).mem_iff]
  have hkeyin : ∀ e' ∈ es'.toList, keyOf Tryd.prog 110 e'.key = some (WideElems.rg Tryd.prog 110 (plainElem (H := Unit) Tryd.prog 3) e').1 := by
    intro e' he'
    obtain ⟨y, hy⟩ := F'.reads e' he'
    rw [WideElems.rg_of hy]; exact WideElems.rd_key hy
  refine ⟨_, hrun, ⟨es', clock', by have hbW : W.heap[mb]? = some (.map es clock) := by rw [hW]; exact hb
                                    exact ChangeMaps.heap_setBlock_same hbW _, F', ?_, ?_⟩, ?_⟩
  · have e1 : es'.size = ((es'.toList.map (WideElems.rg Tryd.prog 110 (plainElem (H := Unit) Tryd.prog 3))).foldr DataW.insert []).length := by rw [length_sorted]; simp
    rw [e1, hput]
    unfold ChangeMaps.putKey
    rw [length_insert]
    have e2 := List.length_filter_le (ChangeMaps.notKey l) ((es.toList.map (WideElems.rg Tryd.prog 110 (plainElem (H := Unit) Tryd.prog 3))).foldr DataW.insert [])
    rw [length_sorted] at e2
    simp at e2
    omega
  · intro c' s'
    constructor
    · rintro (⟨rfl, rfl⟩ | h)
      · obtain ⟨e', he', hr⟩ := List.mem_map.1 ((hmem _).2 (Or.inl rfl))
        refine ⟨e', he', ?_⟩
        have := hkeyin e' he'
        rw [hr] at this
        exact who_law.inj this hl
      · obtain ⟨e, he, hke⟩ := (hk c' s').1 h
        by_cases hsame : e.key = whoVal c s
        · obtain ⟨e', he', hr⟩ := List.mem_map.1 ((hmem _).2 (Or.inl rfl))
          refine ⟨e', he', ?_⟩
          have := hkeyin e' he'
          rw [hr] at this
          rw [who_law.inj this hl, ← hsame, hke]
        · obtain ⟨y, hy⟩ := F.reads e he
          have hke' := WideElems.rd_key hy
          have hne : ChangeMaps.notKey l (WideElems.rg Tryd.prog 110 (plainElem (H := Unit) Tryd.prog 3) e) = true := by
            rw [notKey_iff (who_law.key hl), WideElems.rg_of hy]
            intro e2
            exact hsame (who_law.inj hke' (by rw [e2]; exact hl))
          obtain ⟨e', he', hr⟩ := List.mem_map.1 ((hmem _).2 (Or.inr ⟨List.mem_map.2 ⟨e, he, rfl⟩, hne⟩))
          refine ⟨e', he', ?_⟩
          have := hkeyin e' he'
          rw [hr, WideElems.rg_of hy] at this
          rw [who_law.inj this hke', hke]
    · rintro ⟨e', he', hke⟩
      rcases hin e' he' with ⟨h1, _⟩ | ⟨h1, _⟩
      · exact Or.inr ((hk c' s').2 ⟨e', h1, hke⟩)
      · rw [hke] at h1
        exact Or.inl (whoVal_inj h1)
  · exact ⟨rfl, rfl, rfl, by simp [ChangeMaps.setBlock], fun i _ hi => ChangeMaps.heap_setBlock_other (w := W) (by rw [hW]; exact hb) _ (fun e => hi (by rw [e]; simp))⟩
end Go.Proofs.YtjeidklpomekdaaDoor

/- Package space: Queue, DropTo, line. -/
namespace Go.Proofs.YtjeidklpomekdaaDoor
open Go.RowKit

set_option maxRecDepth 100000 in
set_option maxHeartbeats 800000 in
theorem queue_any (sb : Nat) (S : SpaceS) (L : List Nat) (w : World) (h : SpaceAt w sb S L) (hn : S.list.length ≤ 100000) :
    Calls Tryd.prog 44 #[.pointer (some ⟨sb, 0, none⟩)] w fun e w' => ∃ v', e = .returned v' ∧ SlO w' w.heap.size 113 Mrk.cells 6 v' S.list ∧ Below w.heap.size w w' ∧ (∃ a c, v' = .slice a S.list.length c) := by
  obtain ⟨lv, hs, ho, hne, rfl⟩ := h
  have CS := blk_cell hs
  have HO := Lib.hid ho; clear hs ho
  go_enter Tryd.func44, Tryd.ntmps44
  go_wp2_with fail
  refine (cloneMark_any lv S.list _ (HO.out.reads len_mark) hn).mono ?_
  rintro e w1 ⟨v', rfl, h1, h2, h3⟩
  have H1 := Lib.hid h1; have H2 := Lib.hid h2; have H3 := Lib.hid h3; clear h1 h2 h3
  go_wp2
  go_ret
  exact ⟨v', rfl, H1.out, H2.out, H3.out⟩

set_option maxRecDepth 100000 in
set_option maxHeartbeats 1600000 in
theorem dropTo_any (sb : Nat) (S : SpaceS) (L : List Nat) (m : Int) (w : World) (h : SpaceAt w sb S L) (hn : S.list.length ≤ 100000) :
    Calls Tryd.prog 47 #[.pointer (some ⟨sb, 0, none⟩), .int .i64 m] w fun e w' => e = .returned (.int .i64 (upto m S.list)) ∧
      ∃ L', SpaceAt w' sb (S.dropTo m) L' ∧ Mod L w w' ∧ Fresh w L L' := by
  obtain ⟨lv, hs, ho, hne, rfl⟩ := h
  have CS := blk_cell hs; have FS := blk_free hs
  have HO := Lib.hid ho; have HS := Lib.hid hs; have HNE := Lib.hid hne; clear hs ho hne
  have fin : ∀ (w1 : World) (k : Nat) (a' : Option Addr) (n c' : Nat), w1.heap[sb]? = some (.cells #[lv, .int .i64 S.last, .bool S.first] 105 (0, 0)) →
      SlO w1 w.heap.size 113 Mrk.cells 6 (.slice a' n c') (S.list.drop k) → Below w.heap.size w w1 → k = upto m S.list →
      ∃ L', SpaceAt (w1.setCell ⟨sb, 0, none⟩ (.slice a' n c')) sb (S.dropTo m) L' ∧ Mod (sb :: lv.ownBlock.toList) w (w1.setCell ⟨sb, 0, none⟩ (.slice a' n c')) ∧ Fresh w (sb :: lv.ownBlock.toList) L' := by
    rintro w1 k a' n c' x h1 h2 rfl
    have hm := Mod.setCell w1 sb 0 (.slice a' n c')
    have hsb := blk_lt HS.out
    have hg : ∀ g, (Value.slice a' n c').ownBlock = some g → g ≠ sb ∧ w.heap.size ≤ g := fun g hg => by have := (h1.lt g hg).1; omega
    refine ⟨_, ⟨_, blk_set x 0 _, (h1.rebase (base' := 0) (by simp)).mod hm (fun g h => by simpa using (hg g h).1), fun h => (hg sb h).1 rfl, rfl⟩, (Mod.of_below h2).then_ hm (by simp), ?_⟩
    intro q hq
    rcases List.mem_cons.1 hq with rfl | hq
    · left; simp
    · right; exact (hg q (by simpa using hq)).2
  obtain ⟨a, cap, hlv, hll, hnil, hcell⟩ := HO.out.reads len_mark
  have hcl : S.list.length ≤ cap := by
    rcases HO.out.form with ⟨e, h⟩ | ⟨g, c, e, _, _, h, _⟩
    · rw [h]; simp
    · rw [hlv] at e; cases e; exact h
  subst hlv
  have HRD := Lib.hid (HO.out.reads len_mark)
  have HC := Lib.hid hcell; have HNL := Lib.hid hnil; clear hcell hnil
  go_enter Tryd.func47, Tryd.ntmps47
  go_wp2
  go_loop [5] (fun i => ∃ k : Nat, k ≤ upto m S.list ∧ i = .int .i64 k) (fun i => S.list.length - (intOf i).toNat)
  case atStart => exact ⟨0, Nat.zero_le _, rfl⟩
  case round =>
    obtain ⟨k, hk, rfl⟩ := hrel
    have hul := upto_le m S.list
    by_cases hlt : k < S.list.length
    · obtain ⟨b, off, rfl, hc⟩ := HC.out k hlt
      have c0 : w.cell? ⟨b, off + k * 6, none⟩ = some (.int .i64 S.list[k].mark) := hc 0 _ rfl
      clear hc
      by_cases hm : S.list[k].mark ≤ m
      · have hk' : k < upto m S.list := by
          rcases Nat.lt_or_ge k (upto m S.list) with h | h
          · exact h
          · obtain rfl : k = upto m S.list := by omega
            exact absurd hm (upto_at m S.list hlt)
        go_wp2
        go_round
        case rel => exact ⟨k + 1, by omega, by go_num⟩
        case measure => simp [intOf]; omega
      · have hk' : k = upto m S.list := by
          rcases Nat.lt_or_ge k (upto m S.list) with h | h
          · exact absurd (upto_lt m S.list k hlt h) hm
          · omega
        have HK := Lib.hid hk'; clear hk'
        go_wp2_with fail
        refine (cloneMark_any _ (S.list.drop k) _ (HRD.out.drop k (by omega)) (by simp; omega)).mono ?_
        rintro e w1 ⟨v', rfl, h1, h2, a', c', rfl⟩
        have x := h2.blk HS.out
        have C1 := blk_cell x; have F1 := blk_free x
        have X := Lib.hid x; have H1 := Lib.hid h1; have H2 := Lib.hid h2; clear x h1 h2
        go_wp2
        go_ret
        exact ⟨ret_int (by rw [HK.out]), fin w1 k _ _ _ X.out (by simpa using H1.out) H2.out HK.out⟩
    · obtain rfl : k = S.list.length := by omega
      have hk' : S.list.length = upto m S.list := by omega
      have HK := Lib.hid hk'; clear hk'
      have hd : S.list.drop S.list.length = [] := by simp
      have HD := Lib.hid hd; clear hd
      cases a with
      | none =>
        obtain rfl := HNL.out.2 rfl
        have h0 : S.list.length = 0 := by omega
        have H0 := Lib.hid h0; clear h0
        go_wp2_with fail
        refine (cloneMark_any _ [] _ (SlR.nil _ _ _) (by simp)).mono ?_
        rintro e w1 ⟨v', rfl, h1, h2, a', c', rfl⟩
        have x := h2.blk HS.out
        have C1 := blk_cell x; have F1 := blk_free x
        have X := Lib.hid x; have H1 := Lib.hid h1; have H2 := Lib.hid h2; clear x h1 h2
        go_wp2
        go_ret
        exact ⟨ret_int (by rw [HK.out]), fin w1 _ _ _ _ X.out (by rw [HD.out]; exact H1.out) H2.out HK.out⟩
      | some ad =>
        go_wp2_with fail
        all_goals
          refine (cloneMark_any _ [] _ (SlR.empty _ _ _ _ _) (by simp)).mono ?_
          rintro e w1 ⟨v', rfl, h1, h2, a', c', rfl⟩
          have x := h2.blk HS.out
          have C1 := blk_cell x; have F1 := blk_free x
          have X := Lib.hid x; have H1 := Lib.hid h1; have H2 := Lib.hid h2; clear x h1 h2
          go_wp2
          go_ret
          exact ⟨ret_int (by rw [HK.out]), fin w1 _ _ _ _ X.out (by rw [HD.out]; exact H1.out) H2.out HK.out⟩

theorem set_take_rep {α : Type} (l : List α) (k n : Nat) (hn : l.length = n) (h : k < l.length) (x z : α) (hx : l[k] = x) : (l.take k ++ List.replicate (n - k) z).set k x = l.take (k + 1) ++ List.replicate (n - (k + 1)) z := by
  subst hn; subst hx
  have h1 : (l.take k).length = k := by rw [List.length_take]; omega
  rw [List.set_append_right _ _ (by omega), h1, Nat.sub_self, show l.length - k = (l.length - (k + 1)) + 1 by omega, List.replicate_succ, List.set_cons_zero, List.take_succ_eq_append_getElem h]
  simp only [List.append_assoc, List.singleton_append]
def zop : Opr := ⟨0, 0, 0, 0, 0⟩
def LineInv (S : SpaceS) (w : World) (k : Nat) (wr : World) : Prop := SlO wr w.heap.size 46 Opr.cells 5 (.slice (some ⟨w.heap.size, 0, none⟩) S.list.length S.list.length) ((ops S.list).take k ++ List.replicate (S.list.length - k) zop) ∧ Below w.heap.size w wr

set_option maxRecDepth 100000 in
set_option maxHeartbeats 1600000 in
theorem line_any (sb : Nat) (S : SpaceS) (L : List Nat) (w : World) (h : SpaceAt w sb S L) (hn : S.list.length ≤ 100000) :
    Calls Tryd.prog 64 #[.pointer (some ⟨sb, 0, none⟩)] w fun e w' => ∃ v', e = .returned v' ∧ SlO w' w.heap.size 46 Opr.cells 5 v' (ops S.list) ∧ Below w.heap.size w w' := by
  obtain ⟨lv, hs, ho, hne, rfl⟩ := h
  have CS := blk_cell hs
  have HO := Lib.hid ho; have HS := Lib.hid hs; clear hs ho
  obtain ⟨a, cap, hlv, hll, hnil, hcell⟩ := HO.out.reads len_mark
  subst hlv
  have HC := Lib.hid hcell; clear hcell hnil
  go_enter Tryd.func64, Tryd.ntmps64
  go_wp2_with (at_make; refine wp_maken et_op rfl _ _ rfl Opr.cells len_op zop.val zop (by kernel_rfl) rfl .i64 .i64 _ _ S.list.length rfl rfl rfl rfl (by omega) (by omega) ?_; intro w1 hown hb1 hlt1; have xs := hb1.blk HS.out; have CS1 := blk_cell xs; have HO1 := Lib.hid hown; have HB1 := Lib.hid hb1; have XS := Lib.hid xs; clear hown hb1 xs)
  have HN := Lib.hid hn; clear hn
  go_loopw [17] (fun i wr => ∃ k : Nat, k ≤ S.list.length ∧ i = .int .i64 k ∧ LineInv S w k wr) (fun i _ => S.list.length - (intOf i).toNat)
  case atStart => exact ⟨0, Nat.zero_le _, rfl, by simpa using HO1.out, HB1.out⟩
  case round =>
    obtain ⟨k, hk, rfl, ho, hb⟩ := hrel
    by_cases hlt : k < S.list.length
    · obtain ⟨b, off, rfl, hc⟩ := HC.out k hlt
      have c0 : wr.cell? ⟨b, off + k * 6, none⟩ = some (.int .i64 S.list[k].mark) := hb.cell' (hc 0 _ rfl)
      have c1 : wr.cell? ⟨b, off + k * 6 + 1, none⟩ = some (.int .i64 S.list[k].op.kind) := hb.cell' (hc 1 _ rfl)
      have c2 : wr.cell? ⟨b, off + k * 6 + 2, none⟩ = some (.int .i64 S.list[k].op.pos) := hb.cell' (hc 2 _ rfl)
      have c3 : wr.cell? ⟨b, off + k * 6 + 3, none⟩ = some (.int .u8 S.list[k].op.ch) := hb.cell' (hc 3 _ rfl)
      have c4 : wr.cell? ⟨b, off + k * 6 + 4, none⟩ = some (.int .i64 S.list[k].op.client) := hb.cell' (hc 4 _ rfl)
      have c5 : wr.cell? ⟨b, off + k * 6 + 5, none⟩ = some (.int .i64 S.list[k].op.seq) := hb.cell' (hc 5 _ rfl)
      have hX : k < ((ops S.list).take k ++ List.replicate (S.list.length - k) zop).length := by simp [ops]; omega
      obtain ⟨d0, d1, d2, d3, d4⟩ := ho.op k hX
      generalize hy : ((ops S.list).take k ++ List.replicate (S.list.length - k) zop)[k] = y at d0 d1 d2 d3 d4
      clear hy
      obtain ⟨cur, hg, hcs, hrest⟩ := ho.row; clear hrest
      have FG := blk_free hg
      have LG := blk_lt hg
      have HX := Lib.hid hX; have HOW := Lib.hid ho; have HBW := Lib.hid hb; have HG := Lib.hid hg; have HCS := Lib.hid hcs; clear hX ho hb hg hcs hc CS CS1 hne hlt1
      go_wp2
      have ho2 := HOW.out.setOp k HX.out S.list[k].op
      have hl : (ops S.list).length = S.list.length := by simp [ops]
      have hop : (ops S.list)[k]'(by omega) = S.list[k].op := by simp [ops]
      rw [set_take_rep (ops S.list) k _ hl (by omega) _ zop hop] at ho2
      have hm := Mod.set5_at wr w.heap.size (k * 5) (.int .i64 S.list[k].op.kind) (.int .i64 S.list[k].op.pos) (.int .u8 S.list[k].op.ch) (.int .i64 S.list[k].op.client) (.int .i64 S.list[k].op.seq)
      exact ⟨⟨k + 1, by omega, by go_num, ho2.below ((Below.refl _ _).new _), (HBW.out.mod hm (by simp)).new _⟩, by simp [intOf]; omega⟩
    · have HOW := Lib.hid ho; have HBW := Lib.hid hb; clear ho hb
      obtain rfl : k = S.list.length := by omega
      go_wp2
      go_ret
      have h := HOW.out
      have hl : (ops S.list).length = S.list.length := by simp [ops]
      rw [Nat.sub_self, List.replicate_zero, List.append_nil, List.take_of_length_le (by omega)] at h
      exact ⟨_, rfl, h, HBW.out⟩
end Go.Proofs.YtjeidklpomekdaaDoor

/- Package space: through, Cross. -/
namespace Go.Proofs.YtjeidklpomekdaaDoor
open Go.RowKit

theorem Rules.drewN {w : World} (h : Rules w) (n : Nat) : Rules (w.drewN n) := ⟨h.c0, h.c1, h.c2, h.c3, h.c4, h.c5, h.c6, h.c7, h.c8⟩
theorem Rules.mod {L : List Nat} {w w' : World} (h : Rules w) (hm : Mod L w w') (hL : 1 ∉ L) : Rules w' := by
  have hc : ∀ (o : Nat) u, w.cell? ⟨1, o, none⟩ = some u → w'.cell? ⟨1, o, none⟩ = some u := by
    intro o u hu
    rw [World.cell?_of_block (w := w) (hm.block _ (World.block_lt_of_cell? _ _ hu) hL)]; exact hu
  exact ⟨hc _ _ h.c0, hc _ _ h.c1, hc _ _ h.c2, hc _ _ h.c3, hc _ _ h.c4, hc _ _ h.c5, hc _ _ h.c6, hc _ _ h.c7, hc _ _ h.c8⟩
def ThroughPost (S : SpaceS) (op : Opr) (w : World) (e : Ending) (w' : World) : Prop :=
  ∃ mv, e = .returned (.tuple #[(past S.first op (ops S.list)).1.val, mv, .int .i64 0]) ∧ SlO w' w.heap.size 46 Opr.cells 5 mv (past S.first op (ops S.list)).2 ∧ Below w.heap.size w w'

set_option maxRecDepth 100000 in
set_option maxHeartbeats 3200000 in
theorem xthrough_any (sb : Nat) (S : SpaceS) (L : List Nat) (op : Opr) (w : World) (h : SpaceAt w sb S L) (hR : Rules w) (hc : 0 ≤ op.ch ∧ op.ch ≤ 255) (hv : valid op = 0) (hn : S.list.length ≤ 4096) :
    Calls Tryd.prog 57 #[.pointer (some ⟨sb, 0, none⟩), op.val] w (ThroughPost S op w) := by
  have hv' : (valid op != 0) = false := by simp [hv]
  have HSp := Lib.hid h
  obtain ⟨lv, hs, ho, hne, rfl⟩ := h
  have hsb := blk_lt hs
  have HS := Lib.hid hs; have HR := Lib.hid hR; clear hs ho hne hR hv
  go_enter Tryd.func57, Tryd.ntmps57
  go_wp2_with fail
  refine (valid_any op _ hc).mono ?_
  rintro e w1 ⟨rfl, hb⟩
  have hb1 := ((((Below.refl w.heap.size w).new (.cells #[.int .i64 op.kind, .int .i64 op.pos, .int .u8 op.ch, .int .i64 op.client, .int .i64 op.seq] 46)).new (.cells #[.int .i64 0, .int .i64 0, .int .u8 0, .int .i64 0, .int .i64 0] 46)).then_ hb)
  have x0 := hb.blk (blk_alloc _ (blk_new _ _))
  have x1 := hb.blk (blk_at (n := w.heap.size + 1) _ (by simp))
  have xs := hb.blk (blk_alloc _ (blk_alloc _ HS.out))
  have C0 := blk_cell x0; have CS := blk_cell xs
  have X0 := Lib.hid x0; have X1 := Lib.hid x1; have XS := Lib.hid xs; have HB := Lib.hid hb1; clear x0 x1 xs hb hb1
  have hsp1 : SpaceAt w1 sb S (sb :: lv.ownBlock.toList) := HSp.out.mod (Mod.of_below (L := []) HB.out) (by simp)
  have HSp1 := Lib.hid hsp1; clear hsp1
  go_wp2
  have hk : ∀ W, Mod [w.heap.size + 1] w1 W → W.cell? ⟨w.heap.size, 0, none⟩ = some (.int .i64 op.kind) ∧ W.cell? ⟨w.heap.size, 1, none⟩ = some (.int .i64 op.pos) ∧ W.cell? ⟨w.heap.size, 2, none⟩ = some (.int .u8 op.ch) ∧ W.cell? ⟨w.heap.size, 3, none⟩ = some (.int .i64 op.client) ∧ W.cell? ⟨w.heap.size, 4, none⟩ = some (.int .i64 op.seq) ∧ W.cell? ⟨sb, 2, none⟩ = some (.bool S.first) :=
    fun W hW => by
      have h0 := hW.blk (by simp) X0.out
      have h1 := hW.blk (by simp; omega) XS.out
      exact ⟨blk_cell h0 0, blk_cell h0 1, blk_cell h0 2, blk_cell h0 3, blk_cell h0 4, blk_cell h1 2⟩
  have HK := Lib.hid hk; clear hk
  go_region_held3 (fun W => W.cell? ⟨w.heap.size, 0, none⟩ = some (.int .i64 op.kind) ∧ W.cell? ⟨w.heap.size, 1, none⟩ = some (.int .i64 op.pos) ∧ W.cell? ⟨w.heap.size, 2, none⟩ = some (.int .u8 op.ch) ∧ W.cell? ⟨w.heap.size, 3, none⟩ = some (.int .i64 op.client) ∧ W.cell? ⟨w.heap.size, 4, none⟩ = some (.int .i64 op.seq) ∧ W.cell? ⟨sb, 2, none⟩ = some (.bool S.first))
    (first
      | exact HK.out _ (Mod.refl _ _)
      | exact HK.out _ (Mod.of_below ((Below.refl _ _).drew))
      | exact HK.out _ (Mod.of_below ((Below.refl _ _).drew.then_ HB2.out))
      | exact HK.out _ (Mod.of_below (((Below.refl _ _).drew.then_ HB2.out).then_ HB3.out))
      | exact HK.out _ ((Mod.of_below (((Below.refl _ _).drew.then_ HB2.out).then_ HB3.out)).then_ (Mod.set5 _ _ _ _ _ _ _) (fun _ h => h)))
    (first
    | (go_at_call 64; refine (line_any sb S _ _ (by exact HSp1.out) (by omega)).mono ?_; rintro e w2 ⟨v', rfl, hl2, hb2⟩; have HL2 := Lib.hid hl2; have HB2 := Lib.hid hb2; clear hl2 hb2)
    | (go_at_call 63; refine (through_any op _ (ops S.list) S.first _ (by exact HR.out.below (HB.out.drew.then_ HB2.out)) (by exact HL2.out.reads len_op) (by simp [ops]; omega)).mono ?_; rintro e w3 ⟨mv, rfl, hl3, hb3⟩; have x3 := hb3.blk (HB2.out.blk X1.out); have C3 := blk_cell x3; have F3 := blk_free x3; have X3 := Lib.hid x3; have HL3 := Lib.hid hl3; have HB3 := Lib.hid hb3; clear x3 hl3 hb3))
  generalize hr : (past S.first op (ops S.list)).1 = r
  have HRR := Lib.hid hr; clear hr
  have s0 := fun W => Mod.set5 W (w.heap.size + 1) (.int .i64 r.kind) (.int .i64 r.pos) (.int .u8 r.ch) (.int .i64 r.client) (.int .i64 r.seq)
  have D := blk_cell (set5 X3.out rfl (.int .i64 r.kind) (.int .i64 r.pos) (.int .u8 r.ch) (.int .i64 r.client) (.int .i64 r.seq))
  go_wp2
  refine bodyPost_ret (v := .tuple #[r.val, mv, .int .i64 0]) (by simp [results, Tryd.results57, go_sem, D]) rfl ⟨mv, by rw [HRR.out], ?_, ?_⟩
  · have hsz := HB.out.size
    have hsz2 := HB2.out.size
    have hlt := fun q hq => (HL3.out.lt q hq).1
    have h1 : w.heap.size + 1 < w1.heap.size := blk_lt X1.out
    exact (HL3.out.mod (s0 _) (by intro q hq; have := hlt q hq; simp at hsz2; simp; omega)).rebase (fun q hq => by have := hlt q hq; simp at hsz2; omega)
  · exact ((HB.out.drew.then_ HB2.out).then_ HB3.out).mod (s0 _) (by simp)
end Go.Proofs.YtjeidklpomekdaaDoor

/- (*Space).Cross. -/
namespace Go.Proofs.YtjeidklpomekdaaDoor
open Go.RowKit

structure CrossInv (sb : Nat) (S : SpaceS) (lv : Value) (forms : List Opr) (fv : Value) (r : Opr) (b1 : Nat) (w : World) (k : Nat) (wr : World) : Prop where
  hs : wr.heap[sb]? = some (.cells #[lv, .int .i64 S.last, .bool S.first] 105 (0, 0))
  ho : SlO wr 0 113 Mrk.cells 6 lv ((remark S.list forms).take k ++ S.list.drop k)
  hr : wr.heap[b1]? = some (.cells #[.int .i64 r.kind, .int .i64 r.pos, .int .u8 r.ch, .int .i64 r.client, .int .i64 r.seq] 46 (0, 0))
  hz : wr.heap[w.heap.size + 1]? = some (.cells #[.int .i64 0, .int .i64 0, .int .u8 0, .int .i64 0, .int .i64 0] 46 (0, 0))
  hf : SlR wr Opr.cells 5 fv forms
  hm : Mod (sb :: lv.ownBlock.toList) w wr

set_option maxRecDepth 100000 in
set_option maxHeartbeats 1600000 in
theorem cross_any (sb : Nat) (S : SpaceS) (L : List Nat) (op : Opr) (w : World) (h : SpaceAt w sb S L) (hR : Rules w) (hc : 0 ≤ op.ch ∧ op.ch ≤ 255) (hv : valid op = 0) (hn : S.list.length ≤ 4096) :
    Calls Tryd.prog 48 #[.pointer (some ⟨sb, 0, none⟩), op.val] w fun e w' => e = .returned (.tuple #[(past S.first op (ops S.list)).1.val, .int .i64 0]) ∧
      SpaceAt w' sb (S.cross op) L ∧ Mod L w w' := by
  have HSp := Lib.hid h
  obtain ⟨lv, hs, ho, hne, rfl⟩ := h
  have hsb := blk_lt hs
  have HS := Lib.hid hs; have HO := Lib.hid ho; have HNE := Lib.hid hne; have HR := Lib.hid hR; clear hs ho hne hR
  have HN := Lib.hid hn; clear hn
  go_enter Tryd.func48, Tryd.ntmps48
  go_wp2_with fail
  refine (xthrough_any sb S _ op _ (HSp.out.mod ((Mod.alloc [] _ _).then_ (Mod.alloc [] _ _) (by simp)) (by simp)) ((HR.out.alloc _).alloc _) hc hv HN.out).mono ?_
  rintro e w1 ⟨mv, rfl, hl, hb⟩
  have x0 := hb.blk (blk_alloc _ (blk_new _ _))
  have x1 := hb.blk (blk_at (n := w.heap.size + 1) _ (by simp))
  have xs := hb.blk (blk_alloc _ (blk_alloc _ HS.out))
  generalize hr : (past S.first op (ops S.list)).1 = r
  have HRR := Lib.hid hr; clear hr
  have hlen : (past S.first op (ops S.list)).2.length = S.list.length := by rw [past_length]; simp [ops]
  have hgm : ∀ g, mv.ownBlock = some g → w.heap.size + 2 ≤ g := fun g hg => by have := (hl.lt g hg).1; simpa using this
  have hrd := hl.reads len_op
  obtain ⟨a, cap, hmv, hll, hnil, hcell⟩ := hrd
  subst hmv
  generalize hfo : (past S.first op (ops S.list)).2 = forms at *
  have HF := Lib.hid hfo; have HLEN := Lib.hid hlen; have HB := Lib.hid hb; have HL := Lib.hid hl; have X0 := Lib.hid x0; have X1 := Lib.hid x1; have XS := Lib.hid xs; have HGM := Lib.hid hgm; have HSR := Lib.hid (hl.reads len_op); clear hfo hlen hb hl x0 x1 xs hcell hnil hgm
  have F1 := blk_free X1.out
  have C1 := blk_cell X1.out
  have l1 : w.heap.size + 1 < w1.heap.size := blk_lt X1.out
  have inv0 : CrossInv sb S lv forms (.slice a forms.length cap) r w1.heap.size w 0 (w1.alloc (.cells #[.int .i64 r.kind, .int .i64 r.pos, .int .u8 r.ch, .int .i64 r.client, .int .i64 r.seq] 46)) := by
    have hbb := (((Below.refl w.heap.size w).new _).new _).then_ HB.out
    refine ⟨blk_alloc _ XS.out, ?_, blk_new _ _, blk_alloc _ X1.out, HSR.out.below ((Below.refl _ _).new _), Mod.of_below (hbb.new _)⟩
    rw [List.take_zero, List.drop_zero, List.nil_append]
    exact HO.out.below (hbb.new _)
  have I0 := Lib.hid inv0; clear inv0
  have hb1 : Below w.heap.size w w1 := (((Below.refl w.heap.size w).new _).new _).then_ HB.out
  have HB1 := Lib.hid hb1; clear hb1
  go_wp2
  go_loopw [24] (fun i wr => ∃ k : Nat, k ≤ forms.length ∧ i = .int .i64 k ∧ CrossInv sb S lv forms (.slice a forms.length cap) r w1.heap.size w k wr) (fun i _ => forms.length - (intOf i).toNat)
  case atStart => exact ⟨0, Nat.zero_le _, rfl, I0.out⟩
  case round =>
    obtain ⟨k, hk, rfl, inv⟩ := hrel
    have INV := Lib.hid inv; clear inv
    by_cases hlt : k < forms.length
    · obtain ⟨b, off, rfl, c0, c1, c2, c3, c4⟩ := INV.out.hf.op k hlt
      have hl1 := HLEN.out
      have hkl : k < ((remark S.list forms).take k ++ S.list.drop k).length := by simp [remark_length _ _ hl1]; omega
      rcases INV.out.ho.form with ⟨_, h0⟩ | ⟨g, c, hlv, _, hglt, hgl, hgc⟩
      · rw [h0] at hkl; simp at hkl
      · have hxl : ((remark S.list forms).take k ++ S.list.drop k).length = forms.length := by simp [remark_length _ _ hl1]; omega
        rw [hxl] at hlv
        subst hlv
        have CS := blk_cell INV.out.hs
        obtain ⟨d0, d1, d2, d3, d4, d5⟩ := INV.out.ho.markOp k hkl
        generalize hy : ((remark S.list forms).take k ++ S.list.drop k)[k] = y at d0 d1 d2 d3 d4 d5
        obtain ⟨cur, hg, hrest⟩ := INV.out.ho.row
        have FG := blk_free hg
        clear hy; have HKL := Lib.hid hkl; clear hkl; have HXL := Lib.hid hxl; have HG := Lib.hid hg; clear hxl hg hrest hl1 hgc
        have lsb : sb < wr.heap.size := blk_lt INV.out.hs
        go_wp2
        go_region
        all_goals go_wp2
        have hgw : g < w.heap.size := (HO.out.lt g rfl).2
        have hbw : w.heap.size + 2 ≤ b := HGM.out b rfl
        have hgs : g ≠ sb := fun e => HNE.out (by rw [e]; rfl)
        have hm5 := Mod.set5_at wr g (k * 6 + 1) (.int .i64 forms[k].kind) (.int .i64 forms[k].pos) (.int .u8 forms[k].ch) (.int .i64 forms[k].client) (.int .i64 forms[k].seq)
        have hm6 := (hm5.then_ (Mod.alloc [g] _ (.cells #[.int .i64 forms[k].kind, .int .i64 forms[k].pos, .int .u8 forms[k].ch, .int .i64 forms[k].client, .int .i64 forms[k].seq] 46)) (fun _ h => h)).then_ (Mod.drewN [g] _ 1) (fun _ h => h)
        have ho2 := INV.out.ho.setMarkOp k HKL.out forms[k]
        have hkS : k < S.list.length := by have := HLEN.out; omega
        rw [remark_step _ _ HLEN.out k hkS HKL.out forms[k] rfl] at ho2
        exact ⟨⟨k + 1, by omega, by go_num, ⟨hm6.blk (by simp; exact Ne.symm hgs) INV.out.hs, (ho2.below ((Below.refl _ _).new _)).below ((Below.refl _ _).drew), hm6.blk (by simp; omega) INV.out.hr, hm6.blk (by simp; omega) INV.out.hz, INV.out.hf.mod hm6 (by intro q hq; cases hq; simp; omega), INV.out.hm.then_ hm6 (by simp [Value.ownBlock])⟩⟩, by simp [intOf]; omega⟩
    · obtain rfl : k = forms.length := by omega
      have CR := blk_cell INV.out.hr
      have CZ := blk_cell INV.out.hz
      have FZ := blk_free INV.out.hz
      go_wp2
      have h5 := set5 INV.out.hz rfl (.int .i64 r.kind) (.int .i64 r.pos) (.int .u8 r.ch) (.int .i64 r.client) (.int .i64 r.seq)
      have hm5 := Mod.set5 wr (w.heap.size + 1) (.int .i64 r.kind) (.int .i64 r.pos) (.int .u8 r.ch) (.int .i64 r.client) (.int .i64 r.seq)
      have D := blk_cell h5
      refine bodyPost_ret (v := .tuple #[r.val, .int .i64 0]) (by simp [results, Tryd.results48, go_sem, D]) rfl ⟨by rw [HRR.out], ⟨lv, hm5.blk (by simp; omega) INV.out.hs, ?_, HNE.out, rfl⟩, INV.out.hm.trans hm5 (by simp)⟩
      have hrl := remark_length _ _ HLEN.out
      have h := INV.out.ho.mod hm5 (by intro q hq; have := (HO.out.lt q hq).2; simp; omega)
      rw [List.take_of_length_le (by rw [hrl, HLEN.out]; exact Nat.le_refl _), List.drop_of_length_le (by rw [HLEN.out]; exact Nat.le_refl _), List.append_nil] at h
      have hx : (S.cross op).list = remark S.list forms := by unfold SpaceS.cross; rw [HF.out]
      rw [hx]; exact h
end Go.Proofs.YtjeidklpomekdaaDoor

/- The book: how it lies in memory; fresh, start, Revs. -/
namespace Go.Proofs.YtjeidklpomekdaaDoor
open Go.RowKit

structure HandS where
  seq : Int
  tag : Int
  q : SpaceS
structure BookS where
  epoch : Int
  edited : List Int
  edits : List Edt
  done : List Opr
  length : Int
  hands : List HandS
  nk : Nat
  keys : Int → Int → Prop

/-- Where a client's hand lies: its block, its space's block, what the space takes up. -/
structure HandL where
  hb : Nat
  sb : Nat
  L : List Nat
abbrev HandL.cell (l : HandL) : List Value := [.pointer (some ⟨l.hb, 0, none⟩)]
abbrev HandL.foot (l : HandL) : List Nat := l.hb :: l.L
theorem len_hand (l : HandL) : l.cell.length = 1 := rfl
theorem one_hand (l : HandL) : ∀ u ∈ l.cell, u.oneCell' = true := by intro u hu; simp at hu; subst hu; rfl
theorem et_hand : ElemTy Tryd.prog 71 88 1 8 := .of (z := .pointer none) (by kernel_rfl) (by kernel_rfl) rfl (by decide)

def HandAt (w : World) (l : HandL) (h : HandS) : Prop :=
  w.heap[l.hb]? = some (.cells #[.int .i64 h.seq, .int .i64 h.tag, .pointer (some ⟨l.sb, 0, none⟩)] 92 (0, 0)) ∧ SpaceAt w l.sb h.q l.L ∧ l.hb ∉ l.L
theorem HandAt.mod {w w' : World} {l : HandL} {h : HandS} {M : List Nat} (a : HandAt w l h) (hm : Mod M w w') (hd : ∀ k ∈ l.foot, k ∉ M) : HandAt w' l h :=
  ⟨hm.blk (hd _ (by simp)) a.1, a.2.1.mod hm (fun k hk => hd k (List.mem_cons_of_mem _ hk)), a.2.2⟩
theorem HandAt.lt {w : World} {l : HandL} {h : HandS} (a : HandAt w l h) : ∀ k ∈ l.foot, k < w.heap.size := by
  intro k hk
  rcases List.mem_cons.1 hk with rfl | hk
  · exact blk_lt a.1
  · exact a.2.1.lt k hk

/-- The parts keep apart. -/
def Sep (ps : List (List Nat)) : Prop := ∀ i j, (hi : i < ps.length) → (hj : j < ps.length) → i ≠ j → ∀ k ∈ ps[i], k ∉ ps[j]
theorem Sep.set {ps : List (List Nat)} {w : World} (h : Sep ps) (hlt : ∀ l ∈ ps, ∀ k ∈ l, k < w.heap.size) (i : Nat) (L : List Nat) (hi : i < ps.length) (hf : Fresh w ps[i] L) : Sep (ps.set i L) := by
  intro a b ha hb hab k hk hk'
  rw [List.length_set] at ha hb
  rw [List.getElem_set] at hk hk'
  split at hk <;> split at hk'
  · omega
  · rename_i e1 e2
    subst e1
    rcases hf k hk with h' | h'
    · exact h _ _ hi hb hab k h' hk'
    · have := hlt _ (List.getElem_mem hb) k hk'; omega
  · rename_i e1 e2
    subst e2
    rcases hf k hk' with h' | h'
    · exact h _ _ ha hi hab k hk h'
    · have := hlt _ (List.getElem_mem ha) k hk; omega
  · exact h _ _ ha hb hab k hk hk'
theorem Sep.push {ps : List (List Nat)} (h : Sep ps) (L : List Nat) (hf : ∀ l ∈ ps, ∀ k ∈ l, k ∉ L) : Sep (ps ++ [L]) := by
  intro a b ha hb hab k hk hk'
  simp only [List.length_append, List.length_singleton] at ha hb
  rw [List.getElem_append] at hk hk'
  split at hk <;> split at hk'
  · rename_i h1 h2; exact h _ _ h1 h2 hab k hk hk'
  · rename_i h1 h2
    simp at hk'
    exact hf _ (List.getElem_mem h1) k hk hk'
  · rename_i h1 h2
    simp at hk
    exact hf _ (List.getElem_mem h2) k hk' hk
  · omega

/-- Where a book lies. -/
structure BookL where
  mb : Nat
  lg : Value
  vI : Value
  vE : Value
  vD : Value
  vH : Value
  hl : List HandL
abbrev BookL.parts (ρ : BookL) (pb : Nat) : List (List Nat) := [pb] :: [ρ.mb] :: ρ.vI.ownBlock.toList :: ρ.vE.ownBlock.toList :: ρ.vD.ownBlock.toList :: ρ.vH.ownBlock.toList :: ρ.hl.map HandL.foot
abbrev BookL.block (ρ : BookL) (σ : BookS) : Obj := .cells #[ρ.lg, .int .i64 σ.epoch, ρ.vI, ρ.vE, ρ.vD, .int .i64 σ.length, .map (some ρ.mb), ρ.vH] 73 (0, 0)

structure BookAt (w : World) (pb : Nat) (ρ : BookL) (σ : BookS) : Prop where
  hp : w.heap[pb]? = some (ρ.block σ)
  hm : MapIs w ρ.mb σ.nk σ.keys
  hI : SlO w 0 3 icell 1 ρ.vI σ.edited
  hE : SlO w 0 48 Edt.cells 6 ρ.vE σ.edits
  hD : SlO w 0 46 Opr.cells 5 ρ.vD σ.done
  hH : SlO w 0 88 HandL.cell 1 ρ.vH ρ.hl
  hn : ρ.hl.length = σ.hands.length
  hh : ∀ i (h : i < ρ.hl.length) (h' : i < σ.hands.length), HandAt w ρ.hl[i] σ.hands[i]
  sep : Sep (ρ.parts pb)

theorem ownLt {α : Type} {w : World} {base k : Nat} {E : TypeId} {enc : α → List Value} {v : Value} {xs : List α} (h : SlO w base E enc k v xs) : ∀ q ∈ v.ownBlock.toList, q < w.heap.size := fun q hq => (h.lt q (by simpa using hq)).2

theorem BookAt.lt {w : World} {pb : Nat} {ρ : BookL} {σ : BookS} (h : BookAt w pb ρ σ) : ∀ l ∈ ρ.parts pb, ∀ k ∈ l, k < w.heap.size := by
  intro l hl k hk
  simp only [BookL.parts, List.mem_cons, List.mem_map] at hl
  rcases hl with rfl | rfl | rfl | rfl | rfl | rfl | ⟨a, ha, rfl⟩
  · simp at hk; subst hk; exact blk_lt h.hp
  · simp at hk; subst hk; exact h.hm.lt
  · exact ownLt h.hI k hk
  · exact ownLt h.hE k hk
  · exact ownLt h.hD k hk
  · exact ownLt h.hH k hk
  · obtain ⟨i, hi, rfl⟩ := List.getElem_of_mem ha
    exact (h.hh i hi (by rw [← h.hn]; exact hi)).lt k hk

/-- Nothing of the book was turned. -/
theorem BookAt.mod {w w' : World} {pb : Nat} {ρ : BookL} {σ : BookS} {M : List Nat} (h : BookAt w pb ρ σ) (hm : Mod M w w') (hd : ∀ l ∈ ρ.parts pb, ∀ k ∈ l, k ∉ M) : BookAt w' pb ρ σ where
  hp := hm.blk (hd [pb] (by simp) _ (by simp)) h.hp
  hm := h.hm.mod hm (hd [ρ.mb] (by simp) _ (by simp))
  hI := h.hI.mod hm (fun g hg => hd ρ.vI.ownBlock.toList (by simp) g (by simp [hg]))
  hE := h.hE.mod hm (fun g hg => hd ρ.vE.ownBlock.toList (by simp) g (by simp [hg]))
  hD := h.hD.mod hm (fun g hg => hd ρ.vD.ownBlock.toList (by simp) g (by simp [hg]))
  hH := h.hH.mod hm (fun g hg => hd ρ.vH.ownBlock.toList (by simp) g (by simp [hg]))
  hn := h.hn
  hh := fun i hi hi' => (h.hh i hi hi').mod hm (fun k hk => hd (ρ.hl[i].foot) (by simp only [BookL.parts, List.mem_cons]; right; right; right; right; right; right; exact List.mem_map_of_mem (List.getElem_mem hi)) k hk)
  sep := h.sep
theorem BookAt.below {w w' : World} {pb : Nat} {ρ : BookL} {σ : BookS} (h : BookAt w pb ρ σ) (hb : Below w.heap.size w w') : BookAt w' pb ρ σ := h.mod (Mod.of_below (L := []) hb) (by simp)
theorem BookAt.drewN {w : World} {pb : Nat} {ρ : BookL} {σ : BookS} (h : BookAt w pb ρ σ) (n : Nat) : BookAt (w.drewN n) pb ρ σ := h.mod (Mod.drewN [] w n) (by simp)

/-- All that a book takes up. -/
def BookL.foot (ρ : BookL) (pb : Nat) : List Nat := (ρ.parts pb).flatten
theorem BookL.mem_foot {ρ : BookL} {pb k : Nat} : k ∈ ρ.foot pb ↔ ∃ l ∈ ρ.parts pb, k ∈ l := by simp only [BookL.foot, List.mem_flatten]
/-- From w to w' the book alone was turned, and takes up what it took up, or new blocks. -/
structure BStep (w w' : World) (pb : Nat) (ρ ρ' : BookL) : Prop where
  mod : Mod (ρ.foot pb) w w'
  fresh : Fresh w (ρ.foot pb) (ρ'.foot pb)
theorem BStep.trans {a b c : World} {pb : Nat} {ρ ρ1 ρ2 : BookL} (h : BStep a b pb ρ ρ1) (g : BStep b c pb ρ1 ρ2) : BStep a c pb ρ ρ2 :=
  ⟨h.mod.trans g.mod (fun k hk => h.fresh k hk), h.fresh.trans g.fresh h.mod.size⟩
theorem BStep.below {w w' : World} (hb : Below w.heap.size w w') (pb : Nat) (ρ : BookL) : BStep w w' pb ρ ρ := ⟨Mod.of_below hb, Fresh.refl _ _⟩

/-- Part i was turned, what it takes up now is its own or new. -/
theorem parts_lt {ρ : BookL} {pb : Nat} {w : World} (hlt : ∀ l ∈ ρ.parts pb, ∀ k ∈ l, k < w.heap.size) (i : Nat) (hi : i < (ρ.parts pb).length) : ∀ k ∈ (ρ.parts pb)[i], k < w.heap.size := hlt _ (List.getElem_mem hi)
theorem fresh_parts {ρ ρ' : BookL} {pb : Nat} {w : World} (i : Nat) (L : List Nat) (hi : i < (ρ.parts pb).length) (he : ρ'.parts pb = (ρ.parts pb).set i L) (hf : Fresh w (ρ.parts pb)[i] L) : Fresh w (ρ.foot pb) (ρ'.foot pb) := by
  intro k hk
  obtain ⟨l, hl, hkl⟩ := BookL.mem_foot.1 hk
  rw [he] at hl
  rcases List.mem_or_eq_of_mem_set hl with hl | rfl
  · exact Or.inl (BookL.mem_foot.2 ⟨l, hl, hkl⟩)
  · rcases hf k hkl with h | h
    · exact Or.inl (BookL.mem_foot.2 ⟨_, List.getElem_mem hi, h⟩)
    · exact Or.inr h
theorem foot_part {ρ : BookL} {pb : Nat} (i : Nat) (hi : i < (ρ.parts pb).length) : ∀ k ∈ (ρ.parts pb)[i], k ∈ ρ.foot pb := fun k hk => BookL.mem_foot.2 ⟨_, List.getElem_mem hi, hk⟩
theorem foot_pb (ρ : BookL) (pb : Nat) : pb ∈ ρ.foot pb := BookL.mem_foot.2 ⟨[pb], by simp [BookL.parts], by simp⟩
/-- A part keeps out of part c and of the book's own block. -/
theorem apart2 {ρ : BookL} {pb : Nat} (hs : Sep (ρ.parts pb)) (c : Nat) (hc : c < (ρ.parts pb).length) {M : List Nat} (hM : ∀ k ∈ M, k ∈ (ρ.parts pb)[c] ∨ k = pb) (i : Nat) (hi : i < (ρ.parts pb).length) (h1 : i ≠ c) (h0 : i ≠ 0) : ∀ q ∈ (ρ.parts pb)[i], q ∉ M := by
  intro q hq hq'
  rcases hM q hq' with h | rfl
  · exact hs i c hi hc h1 q hq h
  · exact hs i 0 hi (by simp) h0 q hq (by simp)
theorem parts_get (ρ : BookL) (pb : Nat) (j : Nat) (hj : j < ρ.hl.length) (h : j + 6 < (ρ.parts pb).length) : (ρ.parts pb)[j + 6] = ρ.hl[j].foot := by
  simp [BookL.parts]
theorem parts_len (ρ : BookL) (pb : Nat) : (ρ.parts pb).length = ρ.hl.length + 6 := by simp [BookL.parts]
/-- A book as the walks read it. -/
structure BookView (w : World) (pb : Nat) (ρ : BookL) (σ : BookS) (j : Nat) (l : HandL) (x : HandS) (aI : Option Addr) (cI : Nat) (aE : Option Addr) (cE : Nat) (aD : Option Addr) (cD gH cH : Nat) : Prop where
  hp : w.heap[pb]? = some (.cells #[ρ.lg, .int .i64 σ.epoch, .slice aI σ.edited.length cI, .slice aE σ.edits.length cE, .slice aD σ.done.length cD, .int .i64 σ.length, .map (some ρ.mb), .slice (some ⟨gH, 0, none⟩) ρ.hl.length cH] 73 (0, 0))
  hx : w.heap[l.hb]? = some (.cells #[.int .i64 x.seq, .int .i64 x.tag, .pointer (some ⟨l.sb, 0, none⟩)] 92 (0, 0))
  hs : SpaceAt w l.sb x.q l.L
  hc : w.cell? ⟨gH, j, none⟩ = some (.pointer (some ⟨l.hb, 0, none⟩))
  eI : ρ.vI = .slice aI σ.edited.length cI
  eE : ρ.vE = .slice aE σ.edits.length cE
  eD : ρ.vD = .slice aD σ.done.length cD
  eH : ρ.vH = .slice (some ⟨gH, 0, none⟩) ρ.hl.length cH
theorem SlO.len {α : Type} {w : World} {base k : Nat} {E : TypeId} {enc : α → List Value} {v : Value} {xs : List α} (h : SlO w base E enc k v xs) : ∃ a c, v = .slice a xs.length c ∧ (v.ownBlock = none → a = none) := by
  rcases h.form with ⟨rfl, rfl⟩ | ⟨g, cap, rfl, _, _, _, _⟩
  · exact ⟨none, 0, rfl, fun _ => rfl⟩
  · exact ⟨_, cap, rfl, fun h => by simp [Value.ownBlock] at h⟩
theorem BookAt.view {w : World} {pb : Nat} {ρ : BookL} {σ : BookS} (h : BookAt w pb ρ σ) (j : Nat) (hj : j < ρ.hl.length) (hj' : j < σ.hands.length) : ∃ aI cI aE cE aD cD gH cH, BookView w pb ρ σ j ρ.hl[j] σ.hands[j] aI cI aE cE aD cD gH cH := by
  obtain ⟨aI, cI, eI, _⟩ := h.hI.len
  obtain ⟨aE, cE, eE, _⟩ := h.hE.len
  obtain ⟨aD, cD, eD, _⟩ := h.hD.len
  rcases h.hH.form with ⟨e1, e2⟩ | ⟨g, c, eH, _, e2, _, _⟩
  · rw [e2] at hj; simp at hj
  · have hp := h.hp
    rw [BookL.block, eI, eE, eD, eH] at hp
    refine ⟨aI, cI, aE, cE, aD, cD, g, c, hp, (h.hh j hj hj').1, (h.hh j hj hj').2.1, ?_, eI, eE, eD, eH⟩
    have := SlO.cell h.hH len_hand (by rw [eH]; rfl) j 0 hj _ rfl
    simpa using this
end Go.Proofs.YtjeidklpomekdaaDoor

/- The book: fresh. -/
namespace Go.Proofs.YtjeidklpomekdaaDoor
open Go.RowKit

theorem step_app1N {P : Program} {α : Type} {t e : TypeId} {size bytes : Nat} (et : ElemTy P t e size bytes) {W : World} {ops : Array Oper} {o : Oper} {a : Act} {K : Act → World → Prop} {Q : Exit → Act → World → Prop} {E : Prop} (N : Nat) (hgd : o.guard = none) (s x : Operand)
    (ho : o.op = .call { callee := .builtin .append, args := #[s, x], argTypes := #[t, t] })
    (base : Nat) (enc : α → List Value) (hk : ∀ x, (enc x).length = size) (h1 : ∀ x, ∀ u ∈ enc x, u.oneCell' = true) (v : Value) (xs : List α) (hs : a.eval s = v) (hown : SlO W base e enc size v xs)
    (y : α) (cs : Array Value) (hcs : cs.toList = enc y) (B : Nat) (hx : a.eval x = .slice (some ⟨B, 0, none⟩) 1 1) (hB : B = W.heap.size) (hN : xs.length + 1 = N)
    (hbytes : N * bytes ≤ 140737488355328) (h63 : N ≤ 9223372036854775807) (hbase : base ≤ W.heap.size)
    (h : ∀ g cap w', SlO w' base e enc size (.slice (some ⟨g, 0, none⟩) N cap) (xs ++ [y]) → Mod v.ownBlock.toList W w' → (v.ownBlock = some g ∨ W.heap.size ≤ g) → g < w'.heap.size →
      K (a.put o.dst (.slice (some ⟨g, 0, none⟩) N cap)) w') : if Region.wanted o (yielded ops a.tmps) = true then Oper.wp P o a (W.alloc (.cells cs e)) K Q else E := by
  subst hN; subst hB
  exact step_app1 et hgd s x ho base enc hk h1 v xs hs hown y cs hcs hx hbytes h63 hbase h

def hand0 : HandS := ⟨0, 0, ⟨[], 0, true⟩⟩
def book0 (n : Nat) : BookS := ⟨0, [], [], [], 0, List.replicate n hand0, 0, fun _ _ => False⟩
def FreshInv (w : World) (k : Nat) (wr : World) : Prop :=
  ∃ vH hl, BookAt wr (w.heap.size + 1) ⟨w.heap.size, .pointer none, .slice none 0 0, .slice none 0 0, .slice none 0 0, vH, hl⟩ (book0 k) ∧ Below w.heap.size w wr ∧ w.heap.size + 1 < wr.heap.size ∧ (∀ l ∈ hl, ∀ q ∈ l.foot, w.heap.size ≤ q) ∧ (∀ q ∈ vH.ownBlock.toList, w.heap.size ≤ q)

theorem fresh_start (w : World) : FreshInv w 0 ((w.alloc (.map #[] 0)).alloc (.cells #[.pointer none, .int .i64 0, .slice none 0 0, .slice none 0 0, .slice none 0 0, .int .i64 0, .map (some w.heap.size), .slice none 0 0] 73 (0, 0))) := by
  refine ⟨.slice none 0 0, [], ⟨blk_at _ (by simp), ?_, SlO.nil _ _ _ _ _, SlO.nil _ _ _ _ _, SlO.nil _ _ _ _ _, SlO.nil _ _ _ _ _, rfl, fun i hi => by simp at hi, ?_⟩, (((Below.refl _ _).new _).new _), by simp, by simp, by simp [Value.ownBlock]⟩
  · exact (MapIs.made w).mod (Mod.alloc [] _ _) (by simp)
  · intro i j hi hj hij k hk
    have e : (BookL.parts ⟨w.heap.size, .pointer none, .slice none 0 0, .slice none 0 0, .slice none 0 0, .slice none 0 0, []⟩ (w.heap.size + 1)) = [[w.heap.size + 1], [w.heap.size], [], [], [], []] := rfl
    simp only [e] at hi hj hk ⊢
    match i, j, hi, hj with
    | 0, 0, _, _ => omega
    | 0, 1, _, _ => simp at hk ⊢; omega
    | 1, 0, _, _ => simp at hk ⊢; omega
    | 1, 1, _, _ => omega
    | 2, _, _, _ | 3, _, _, _ | 4, _, _, _ | 5, _, _, _ => simp at hk
    | 0, 2, _, _ | 0, 3, _, _ | 0, 4, _, _ | 0, 5, _, _ | 1, 2, _, _ | 1, 3, _, _ | 1, 4, _, _ | 1, 5, _, _ => simp

theorem fresh_step {w wr w3 : World} {k g cap : Nat} {vH : Value} {hl : List HandL} (h : BookAt wr (w.heap.size + 1) ⟨w.heap.size, .pointer none, .slice none 0 0, .slice none 0 0, .slice none 0 0, vH, hl⟩ (book0 k)) (hb : Below w.heap.size w wr) (hs : w.heap.size + 1 < wr.heap.size)
    (hl1 : ∀ l ∈ hl, ∀ q ∈ l.foot, w.heap.size ≤ q) (hv1 : ∀ q ∈ vH.ownBlock.toList, w.heap.size ≤ q) (hlk : hl.length = k)
    (ho : SlO w3 0 88 HandL.cell 1 (.slice (some ⟨g, 0, none⟩) (k + 1) cap) (hl ++ [⟨wr.heap.size + 1, wr.heap.size, [wr.heap.size]⟩]))
    (hm : Mod vH.ownBlock.toList ((wr.drew.alloc (.cells #[.slice none 0 0, .int .i64 0, .bool true] 105 (0, 0))).alloc (.cells #[.int .i64 0, .int .i64 0, .pointer (some ⟨wr.heap.size, 0, none⟩)] 92 (0, 0))) w3)
    (hg : vH.ownBlock = some g ∨ wr.heap.size + 2 ≤ g) : FreshInv w (k + 1) (w3.setCell ⟨w.heap.size + 1, 7, none⟩ (.slice (some ⟨g, 0, none⟩) (k + 1) cap)) := by
  have hvlt := ownLt h.hH
  have hsep := h.sep
  have hblt := h.lt
  have hm1 : Mod vH.ownBlock.toList wr w3 := (((Mod.drewN [] wr 1).weaken (by simp)).then_ ((Mod.alloc vH.ownBlock.toList (wr.drewN 1) _).then_ (Mod.alloc vH.ownBlock.toList _ _) (fun _ h => h)) (fun _ h => h)).then_ hm (fun _ h => h)
  have hms := Mod.setCell w3 (w.heap.size + 1) 7 (.slice (some ⟨g, 0, none⟩) (k + 1) cap)
  have hmt : Mod (vH.ownBlock.toList ++ [w.heap.size + 1]) wr (w3.setCell ⟨w.heap.size + 1, 7, none⟩ (.slice (some ⟨g, 0, none⟩) (k + 1) cap)) :=
    (hm1.weaken (fun q hq => Or.inl (by simp [hq]))).then_ (hms.weaken (fun q hq => Or.inl (List.mem_append.2 (Or.inr hq)))) (fun q hq => hq)
  have hpw : wr.heap[w.heap.size + 1]? = _ := h.hp
  have hpn : w.heap.size + 1 ∉ vH.ownBlock.toList := fun hq => hsep 5 0 (by simp) (by simp) (by omega) (w.heap.size + 1) (by simpa using hq) (by simp)
  have hp3 := hm1.blk hpn hpw
  have hnM : ∀ i, (hi : i < (BookL.parts ⟨w.heap.size, .pointer none, .slice none 0 0, .slice none 0 0, .slice none 0 0, vH, hl⟩ (w.heap.size + 1)).length) → i ≠ 5 → i ≠ 0 → ∀ q ∈ (BookL.parts ⟨w.heap.size, .pointer none, .slice none 0 0, .slice none 0 0, .slice none 0 0, vH, hl⟩ (w.heap.size + 1))[i], q ∉ vH.ownBlock.toList ++ [w.heap.size + 1] := by
    intro i hi h5 h0 q hq hq'
    rcases List.mem_append.1 hq' with hq' | hq'
    · exact hsep i 5 hi (by simp) h5 q hq (by simpa using hq')
    · exact hsep i 0 hi (by simp) h0 q hq (by simpa using hq')
  have hmr : Mod ([] : List Nat) wr ((wr.drew.alloc (.cells #[.slice none 0 0, .int .i64 0, .bool true] 105 (0, 0))).alloc (.cells #[.int .i64 0, .int .i64 0, .pointer (some ⟨wr.heap.size, 0, none⟩)] 92 (0, 0))) := Mod.of_below (((Below.refl _ _).drew.new _).new _)
  have hnew1 : ((wr.drew.alloc (.cells #[.slice none 0 0, .int .i64 0, .bool true] 105 (0, 0))).alloc (.cells #[.int .i64 0, .int .i64 0, .pointer (some ⟨wr.heap.size, 0, none⟩)] 92 (0, 0))).heap[wr.heap.size + 1]? = some (.cells #[.int .i64 0, .int .i64 0, .pointer (some ⟨wr.heap.size, 0, none⟩)] 92 (0, 0)) := blk_at _ (by simp)
  have hnew0 : ((wr.drew.alloc (.cells #[.slice none 0 0, .int .i64 0, .bool true] 105 (0, 0))).alloc (.cells #[.int .i64 0, .int .i64 0, .pointer (some ⟨wr.heap.size, 0, none⟩)] 92 (0, 0))).heap[wr.heap.size]? = some (.cells #[.slice none 0 0, .int .i64 0, .bool true] 105 (0, 0)) := blk_alloc _ (blk_new wr.drew _)
  have hv2 : ∀ q ∈ vH.ownBlock.toList, q < wr.heap.size := hvlt
  have n1 : wr.heap.size + 1 ∉ vH.ownBlock.toList := fun hq => by have := hv2 _ hq; omega
  have n0 : wr.heap.size ∉ vH.ownBlock.toList := fun hq => by have := hv2 _ hq; omega
  have p1 : wr.heap.size + 1 ≠ w.heap.size + 1 := by omega
  have p0 : wr.heap.size ≠ w.heap.size + 1 := by omega
  have hs3 : wr.heap.size + 2 ≤ w3.heap.size := by have := hm.size; simp at this; omega
  refine ⟨.slice (some ⟨g, 0, none⟩) (k + 1) cap, hl ++ [⟨wr.heap.size + 1, wr.heap.size, [wr.heap.size]⟩], ⟨blk_set hp3 7 (.slice (some ⟨g, 0, none⟩) (k + 1) cap), ?_, SlO.nil _ _ _ _ _, SlO.nil _ _ _ _ _, SlO.nil _ _ _ _ _, ?_, ?_, ?_, ?_⟩, ?_, ?_, ?_, ?_⟩
  · exact h.hm.mod hmt (hnM 1 (by simp) (by omega) (by omega) _ (by simp))
  · refine ho.mod hms (fun q hq => ?_)
    simp [Value.ownBlock] at hq
    subst hq
    simp
    rcases hg with hg | hg
    · intro e; exact hpn (by rw [hg, e]; simp)
    · omega
  · simp [book0, hlk]
  · intro i hi hi'
    by_cases hlt : i < hl.length
    · have e1 : (hl ++ [(⟨wr.heap.size + 1, wr.heap.size, [wr.heap.size]⟩ : HandL)])[i] = hl[i] := by simp [hlt]
      have e2 : (book0 (k + 1)).hands[i] = (book0 k).hands[i]'(by simp [book0]; omega) := by simp [book0]
      rw [show ({ mb := w.heap.size, lg := Value.pointer none, vI := Value.slice none 0 0, vE := Value.slice none 0 0, vD := Value.slice none 0 0, vH := Value.slice (some ⟨g, 0, none⟩) (k + 1) cap, hl := hl ++ [⟨wr.heap.size + 1, wr.heap.size, [wr.heap.size]⟩] } : BookL).hl[i] = hl[i] from e1, e2]
      exact (h.hh i hlt (by simp [book0]; omega)).mod hmt (fun q hq => hnM (i + 6) (by simp; omega) (by omega) (by omega) q (by rw [parts_get _ _ _ hlt]; exact hq))
    · obtain rfl : i = hl.length := by simp at hi; omega
      have e1 : (hl ++ [(⟨wr.heap.size + 1, wr.heap.size, [wr.heap.size]⟩ : HandL)])[hl.length]'(by simp) = ⟨wr.heap.size + 1, wr.heap.size, [wr.heap.size]⟩ := by simp
      have e2 : (book0 (k + 1)).hands[hl.length] = hand0 := by simp [book0]
      rw [show ({ mb := w.heap.size, lg := Value.pointer none, vI := Value.slice none 0 0, vE := Value.slice none 0 0, vD := Value.slice none 0 0, vH := Value.slice (some ⟨g, 0, none⟩) (k + 1) cap, hl := hl ++ [⟨wr.heap.size + 1, wr.heap.size, [wr.heap.size]⟩] } : BookL).hl[hl.length] = ⟨wr.heap.size + 1, wr.heap.size, [wr.heap.size]⟩ from e1, e2]
      exact ⟨hms.blk (by simpa using p1) (hm.blk n1 hnew1), ⟨.slice none 0 0, hms.blk (by simpa using p0) (hm.blk n0 hnew0), SlO.nil _ _ _ _ _, by simp [Value.ownBlock], rfl⟩, by simp⟩
  · have s1 := hsep.set hblt 5 [g] (by simp) (by
      intro q hq
      obtain rfl : q = g := by simpa using hq
      rcases hg with hg | hg
      · left; simp [hg]
      · right; omega)
    have s2 := s1.push [wr.heap.size + 1, wr.heap.size] (by
      intro l hl' q hq hq'
      rcases List.mem_or_eq_of_mem_set hl' with hl' | rfl
      · have := hblt l hl' q hq; simp at hq'; omega
      · simp at hq; subst hq
        rcases hg with hg | hg
        · have := hv2 _ (show q ∈ vH.ownBlock.toList by simp [hg]); simp at hq'; omega
        · simp at hq'; omega)
    have e : BookL.parts ⟨w.heap.size, .pointer none, .slice none 0 0, .slice none 0 0, .slice none 0 0, .slice (some ⟨g, 0, none⟩) (k + 1) cap, hl ++ [⟨wr.heap.size + 1, wr.heap.size, [wr.heap.size]⟩]⟩ (w.heap.size + 1) = (BookL.parts ⟨w.heap.size, .pointer none, .slice none 0 0, .slice none 0 0, .slice none 0 0, vH, hl⟩ (w.heap.size + 1)).set 5 [g] ++ [[wr.heap.size + 1, wr.heap.size]] := by simp [BookL.parts, Value.ownBlock]
    rw [e]; exact s2
  · exact (hb.trans ⟨hmt.os, hmt.tape, hmt.output, hmt.size, fun q hq => hmt.block q (by have := hb.size; omega) (fun hq' => by
      rcases List.mem_append.1 hq' with h' | h'
      · have := hv1 q h'; omega
      · simp at h'; omega)⟩)
  · have := hmt.size; omega
  · intro l hl' q hq
    rcases List.mem_append.1 hl' with h' | h'
    · exact hl1 l h' q hq
    · simp at h'; subst h'; simp at hq; omega
  · intro q hq
    simp [Value.ownBlock] at hq; subst hq
    rcases hg with hg | hg
    · exact hv1 _ (by simp [hg])
    · omega

set_option maxRecDepth 100000 in
set_option maxHeartbeats 1600000 in
theorem fresh_any (w : World) : Calls Tryd.prog 20 #[.pointer none] w fun e w' => e = .returned (.pointer (some ⟨w.heap.size + 1, 0, none⟩)) ∧ FreshInv w 65 w' := by
  go_enter Tryd.func20, Tryd.ntmps20
  have hmm := @run_makeMap Tryd.prog
  go_wp2
  go_loopw [8] (fun i wr => ∃ k : Nat, k ≤ 65 ∧ i = .int .i64 k ∧ FreshInv w k wr) (fun i _ => 65 - (intOf i).toNat)
  case atStart => exact ⟨0, by omega, rfl, fresh_start w⟩
  case round =>
    obtain ⟨k, hk, rfl, vH, hl, hB, hb, hs, hl1, hv1⟩ := hrel
    have hlk : hl.length = k := by have := hB.hn; simpa [book0] using this
    by_cases hlt : k < 65
    · have hp := hB.hp
      have C := blk_cell hp; have F := blk_free hp
      have LP := blk_lt hp
      have HB := Lib.hid hB; have Hb := Lib.hid hb; have HL1 := Lib.hid hl1; have HV1 := Lib.hid hv1; have HLK := Lib.hid hlk; clear hp hB hb hl1 hv1 hlk
      go_wp2
      have hB1 : (k + 1) * 8 ≤ 140737488355328 := by omega
      have hB2 : k + 1 ≤ 9223372036854775807 := by omega
      have HB1 := Lib.hid hB1; have HB2 := Lib.hid hB2; clear hB1 hB2
      have hH1 : SlO ((wr.drew.alloc (.cells #[.slice none 0 0, .int .i64 0, .bool true] 105 (0, 0))).alloc (.cells #[.int .i64 0, .int .i64 0, .pointer (some ⟨wr.heap.size, 0, none⟩)] 92 (0, 0))) 0 88 HandL.cell 1 vH hl := HB.out.hH.below (((Below.refl _ _).drew.new _).new _)
      have HH1 := Lib.hid hH1; clear hH1
      have hpn : w.heap.size + 1 ∉ vH.ownBlock.toList := fun hq => HB.out.sep 5 0 (by simp) (by simp) (by omega) (w.heap.size + 1) (by simpa using hq) (by simp)
      have hpw : ((wr.drew.alloc (.cells #[.slice none 0 0, .int .i64 0, .bool true] 105 (0, 0))).alloc (.cells #[.int .i64 0, .int .i64 0, .pointer (some ⟨wr.heap.size, 0, none⟩)] 92 (0, 0))).heap[w.heap.size + 1]? = _ := blk_alloc _ (blk_alloc _ HB.out.hp)
      have CW1 := fun o => blk_cell (w := wr.alloc (.cells #[.slice none 0 0, .int .i64 0, .bool true] 105 (0, 0))) (blk_alloc _ HB.out.hp) o
      have CW2 := fun o => blk_cell (w := (wr.alloc (.cells #[.slice none 0 0, .int .i64 0, .bool true] 105 (0, 0))).alloc (.cells #[.int .i64 0, .int .i64 0, .pointer (some ⟨wr.heap.size, 0, none⟩)] 92 (0, 0))) (blk_alloc _ (blk_alloc _ HB.out.hp)) o
      have CW3 := fun o => blk_cell (w := ((wr.alloc (.cells #[.slice none 0 0, .int .i64 0, .bool true] 105 (0, 0))).alloc (.cells #[.int .i64 0, .int .i64 0, .pointer (some ⟨wr.heap.size, 0, none⟩)] 92 (0, 0))).alloc (.cells #[.pointer (some ⟨wr.heap.size + 1, 0, none⟩)] 88 (0, 0))) (blk_alloc _ (blk_alloc _ (blk_alloc _ HB.out.hp))) o
      have HPN := Lib.hid hpn; have HPW := Lib.hid hpw; clear hpn hpw
      have HN := Lib.hid (show hl.length + 1 = k + 1 by rw [HLK.out])
      go_region_law (first
        | (go_simp; go_at_call 34; refine (spaceNew_any true _).mono ?_; rintro e w1 ⟨rfl, rfl⟩)
        | (refine step_app1N et_hand (W := (wr.drew.alloc (.cells #[.slice none 0 0, .int .i64 0, .bool true] 105 (0, 0))).alloc (.cells #[.int .i64 0, .int .i64 0, .pointer (some ⟨wr.heap.size, 0, none⟩)] 92 (0, 0))) (k + 1) rfl _ _ rfl 0 HandL.cell len_hand one_hand vH hl rfl HH1.out ⟨wr.heap.size + 1, wr.heap.size, [wr.heap.size]⟩ _ rfl (wr.heap.size + 1 + 1) rfl (by simp) HN.out HB1.out HB2.out (Nat.zero_le _) ?_; intro g cap w2 ho2 hm2 hg2 hlt2; have s2 := hm2.blk HPN.out HPW.out; have C2 := blk_cell s2; have F2 := blk_free s2; have S2 := Lib.hid s2; have HO2 := Lib.hid ho2; have HM2 := Lib.hid hm2; have HG2 := Lib.hid hg2; clear s2 ho2 hm2 hg2))
      all_goals
        go_wp2
        go_round
        case rel => exact ⟨k + 1, by omega, by go_num, fresh_step HB.out Hb.out hs HL1.out HV1.out HLK.out HO2.out HM2.out (by simpa using HG2.out)⟩
        case measure => simp [intOf]; omega
    · obtain rfl : k = 65 := by omega
      have H := Lib.hid (show FreshInv w 65 wr from ⟨vH, hl, hB, hb, hs, hl1, hv1⟩)
      clear hB hb hl1 hv1
      go_wp2
      go_ret
      exact ⟨rfl, H.out⟩
end Go.Proofs.YtjeidklpomekdaaDoor

/- The book: what a store into it, or into a part of it, makes of it. -/
namespace Go.Proofs.YtjeidklpomekdaaDoor
open Go.RowKit

/-- What is left of a book where part c alone, and its own block, were turned. -/
theorem BookAt.rest {w w' : World} {pb : Nat} {ρ : BookL} {σ : BookS} {M : List Nat} (h : BookAt w pb ρ σ) (c : Nat) (hc : c < (ρ.parts pb).length) (hM : ∀ k ∈ M, k ∈ (ρ.parts pb)[c] ∨ k = pb) (hm : Mod M w w') :
    (c ≠ 1 → MapIs w' ρ.mb σ.nk σ.keys) ∧ (c ≠ 2 → SlO w' 0 3 icell 1 ρ.vI σ.edited) ∧ (c ≠ 3 → SlO w' 0 48 Edt.cells 6 ρ.vE σ.edits) ∧ (c ≠ 4 → SlO w' 0 46 Opr.cells 5 ρ.vD σ.done) ∧
    (c ≠ 5 → SlO w' 0 88 HandL.cell 1 ρ.vH ρ.hl) ∧ (∀ i (h1 : i < ρ.hl.length) (h2 : i < σ.hands.length), c ≠ i + 6 → HandAt w' ρ.hl[i] σ.hands[i]) := by
  have A := apart2 h.sep c hc hM
  refine ⟨fun e => h.hm.mod hm (A 1 (by simp) (Ne.symm e) (by omega) _ (by simp)), fun e => h.hI.mod hm (fun g hg => A 2 (by simp) (Ne.symm e) (by omega) g (by simp [hg])), fun e => h.hE.mod hm (fun g hg => A 3 (by simp) (Ne.symm e) (by omega) g (by simp [hg])),
    fun e => h.hD.mod hm (fun g hg => A 4 (by simp) (Ne.symm e) (by omega) g (by simp [hg])), fun e => h.hH.mod hm (fun g hg => A 5 (by simp) (Ne.symm e) (by omega) g (by simp [hg])), fun i h1 h2 e => (h.hh i h1 h2).mod hm (fun q hq => A (i + 6) (by simp; omega) (Ne.symm e) (by omega) q (by rw [parts_get _ _ _ h1]; exact hq))⟩

theorem pb_notin {w : World} {pb : Nat} {ρ : BookL} {σ : BookS} (h : BookAt w pb ρ σ) (c : Nat) (hc : c < (ρ.parts pb).length) (h0 : c ≠ 0) : pb ∉ (ρ.parts pb)[c] := fun hq => h.sep c 0 hc (by simp) h0 pb hq (by simp)

/-- Field edited: a slice that was lengthened is stored. -/
theorem BookAt.appI {w w3 : World} {pb g N cap : Nat} {ρ : BookL} {σ : BookS} {xs : List Int} (h : BookAt w pb ρ σ) (hm : Mod ρ.vI.ownBlock.toList w w3) (ho : SlO w3 0 3 icell 1 (.slice (some ⟨g, 0, none⟩) N cap) xs) (hg : ρ.vI.ownBlock = some g ∨ w.heap.size ≤ g) :
    BookAt (w3.setCell ⟨pb, 2, none⟩ (.slice (some ⟨g, 0, none⟩) N cap)) pb { ρ with vI := .slice (some ⟨g, 0, none⟩) N cap } { σ with edited := xs } ∧ BStep w (w3.setCell ⟨pb, 2, none⟩ (.slice (some ⟨g, 0, none⟩) N cap)) pb ρ { ρ with vI := .slice (some ⟨g, 0, none⟩) N cap } := by
  have hpn : pb ∉ ρ.vI.ownBlock.toList := pb_notin h 2 (by simp) (by omega)
  have hp3 := hm.blk hpn h.hp
  have hlt := h.lt
  have hmt : Mod (ρ.vI.ownBlock.toList ++ [pb]) w (w3.setCell ⟨pb, 2, none⟩ (.slice (some ⟨g, 0, none⟩) N cap)) :=
    (hm.weaken (fun q hq => Or.inl (by simp [hq]))).then_ ((Mod.setCell w3 pb 2 _).weaken (fun q hq => Or.inl (List.mem_append.2 (Or.inr hq)))) (fun q hq => hq)
  have hgp : g ≠ pb := by
    rcases hg with hg | hg
    · intro e; exact hpn (by rw [hg, e]; simp)
    · have := blk_lt h.hp; omega
  have hf : Fresh w (ρ.parts pb)[2] [g] := by
    intro q hq
    obtain rfl : q = g := by simpa using hq
    rcases hg with hg | hg
    · left; simp [hg]
    · right; omega
  have r := h.rest 2 (by simp) (M := ρ.vI.ownBlock.toList ++ [pb]) (by intro q hq; simpa using hq) hmt
  refine ⟨⟨blk_set hp3 2 _, r.1 (by omega), (ho.mod (Mod.setCell w3 pb 2 _) (fun q hq => by simp [Value.ownBlock] at hq; subst hq; simpa using hgp)), r.2.2.1 (by omega), r.2.2.2.1 (by omega), r.2.2.2.2.1 (by omega), h.hn, fun i h1 h2 => r.2.2.2.2.2 i h1 h2 (by omega), ?_⟩, hmt.weaken (fun q hq => Or.inl ?_), fresh_parts 2 [g] (by simp) (by simp [Value.ownBlock]) hf⟩
  · have := h.sep.set hlt 2 [g] (by simp) hf
    have e : ({ ρ with vI := .slice (some ⟨g, 0, none⟩) N cap } : BookL).parts pb = (ρ.parts pb).set 2 [g] := by simp [BookL.parts, Value.ownBlock]
    rw [e]; exact this
  · rcases List.mem_append.1 hq with hq | hq
    · exact foot_part 2 (by simp) q hq
    · obtain rfl : q = pb := by simpa using hq
      exact foot_pb ρ _

/-- Field edits: a slice that was lengthened is stored. -/
theorem BookAt.appE {w w3 : World} {pb g N cap : Nat} {ρ : BookL} {σ : BookS} {xs : List Edt} (h : BookAt w pb ρ σ) (hm : Mod ρ.vE.ownBlock.toList w w3) (ho : SlO w3 0 48 Edt.cells 6 (.slice (some ⟨g, 0, none⟩) N cap) xs) (hg : ρ.vE.ownBlock = some g ∨ w.heap.size ≤ g) :
    BookAt (w3.setCell ⟨pb, 3, none⟩ (.slice (some ⟨g, 0, none⟩) N cap)) pb { ρ with vE := .slice (some ⟨g, 0, none⟩) N cap } { σ with edits := xs } ∧ BStep w (w3.setCell ⟨pb, 3, none⟩ (.slice (some ⟨g, 0, none⟩) N cap)) pb ρ { ρ with vE := .slice (some ⟨g, 0, none⟩) N cap } := by
  have hpn : pb ∉ ρ.vE.ownBlock.toList := pb_notin h 3 (by simp) (by omega)
  have hp3 := hm.blk hpn h.hp
  have hlt := h.lt
  have hmt : Mod (ρ.vE.ownBlock.toList ++ [pb]) w (w3.setCell ⟨pb, 3, none⟩ (.slice (some ⟨g, 0, none⟩) N cap)) :=
    (hm.weaken (fun q hq => Or.inl (by simp [hq]))).then_ ((Mod.setCell w3 pb 3 _).weaken (fun q hq => Or.inl (List.mem_append.2 (Or.inr hq)))) (fun q hq => hq)
  have hgp : g ≠ pb := by
    rcases hg with hg | hg
    · intro e; exact hpn (by rw [hg, e]; simp)
    · have := blk_lt h.hp; omega
  have hf : Fresh w (ρ.parts pb)[3] [g] := by
    intro q hq
    obtain rfl : q = g := by simpa using hq
    rcases hg with hg | hg
    · left; simp [hg]
    · right; omega
  have r := h.rest 3 (by simp) (M := ρ.vE.ownBlock.toList ++ [pb]) (by intro q hq; simpa using hq) hmt
  refine ⟨⟨blk_set hp3 3 _, r.1 (by omega), r.2.1 (by omega), (ho.mod (Mod.setCell w3 pb 3 _) (fun q hq => by simp [Value.ownBlock] at hq; subst hq; simpa using hgp)), r.2.2.2.1 (by omega), r.2.2.2.2.1 (by omega), h.hn, fun i h1 h2 => r.2.2.2.2.2 i h1 h2 (by omega), ?_⟩, hmt.weaken (fun q hq => Or.inl ?_), fresh_parts 3 [g] (by simp) (by simp [Value.ownBlock]) hf⟩
  · have := h.sep.set hlt 3 [g] (by simp) hf
    have e : ({ ρ with vE := .slice (some ⟨g, 0, none⟩) N cap } : BookL).parts pb = (ρ.parts pb).set 3 [g] := by simp [BookL.parts, Value.ownBlock]
    rw [e]; exact this
  · rcases List.mem_append.1 hq with hq | hq
    · exact foot_part 3 (by simp) q hq
    · obtain rfl : q = pb := by simpa using hq
      exact foot_pb ρ _

/-- Field done: a slice that was lengthened is stored. -/
theorem BookAt.appD {w w3 : World} {pb g N cap : Nat} {ρ : BookL} {σ : BookS} {xs : List Opr} (h : BookAt w pb ρ σ) (hm : Mod ρ.vD.ownBlock.toList w w3) (ho : SlO w3 0 46 Opr.cells 5 (.slice (some ⟨g, 0, none⟩) N cap) xs) (hg : ρ.vD.ownBlock = some g ∨ w.heap.size ≤ g) :
    BookAt (w3.setCell ⟨pb, 4, none⟩ (.slice (some ⟨g, 0, none⟩) N cap)) pb { ρ with vD := .slice (some ⟨g, 0, none⟩) N cap } { σ with done := xs } ∧ BStep w (w3.setCell ⟨pb, 4, none⟩ (.slice (some ⟨g, 0, none⟩) N cap)) pb ρ { ρ with vD := .slice (some ⟨g, 0, none⟩) N cap } := by
  have hpn : pb ∉ ρ.vD.ownBlock.toList := pb_notin h 4 (by simp) (by omega)
  have hp3 := hm.blk hpn h.hp
  have hlt := h.lt
  have hmt : Mod (ρ.vD.ownBlock.toList ++ [pb]) w (w3.setCell ⟨pb, 4, none⟩ (.slice (some ⟨g, 0, none⟩) N cap)) :=
    (hm.weaken (fun q hq => Or.inl (by simp [hq]))).then_ ((Mod.setCell w3 pb 4 _).weaken (fun q hq => Or.inl (List.mem_append.2 (Or.inr hq)))) (fun q hq => hq)
  have hgp : g ≠ pb := by
    rcases hg with hg | hg
    · intro e; exact hpn (by rw [hg, e]; simp)
    · have := blk_lt h.hp; omega
  have hf : Fresh w (ρ.parts pb)[4] [g] := by
    intro q hq
    obtain rfl : q = g := by simpa using hq
    rcases hg with hg | hg
    · left; simp [hg]
    · right; omega
  have r := h.rest 4 (by simp) (M := ρ.vD.ownBlock.toList ++ [pb]) (by intro q hq; simpa using hq) hmt
  refine ⟨⟨blk_set hp3 4 _, r.1 (by omega), r.2.1 (by omega), r.2.2.1 (by omega), (ho.mod (Mod.setCell w3 pb 4 _) (fun q hq => by simp [Value.ownBlock] at hq; subst hq; simpa using hgp)), r.2.2.2.2.1 (by omega), h.hn, fun i h1 h2 => r.2.2.2.2.2 i h1 h2 (by omega), ?_⟩, hmt.weaken (fun q hq => Or.inl ?_), fresh_parts 4 [g] (by simp) (by simp [Value.ownBlock]) hf⟩
  · have := h.sep.set hlt 4 [g] (by simp) hf
    have e : ({ ρ with vD := .slice (some ⟨g, 0, none⟩) N cap } : BookL).parts pb = (ρ.parts pb).set 4 [g] := by simp [BookL.parts, Value.ownBlock]
    rw [e]; exact this
  · rcases List.mem_append.1 hq with hq | hq
    · exact foot_part 4 (by simp) q hq
    · obtain rfl : q = pb := by simpa using hq
      exact foot_pb ρ _

theorem BookAt.setEpoch {w : World} {pb : Nat} {ρ : BookL} {σ : BookS} (h : BookAt w pb ρ σ) (x : Int) : BookAt (w.setCell ⟨pb, 1, none⟩ (.int .i64 x)) pb ρ { σ with epoch := x } ∧ BStep w (w.setCell ⟨pb, 1, none⟩ (.int .i64 x)) pb ρ ρ := by
  have hmt := Mod.setCell w pb 1 (.int .i64 x)
  have r := h.rest 0 (by simp) (M := [pb]) (by intro q hq; right; simpa using hq) hmt
  exact ⟨⟨blk_set h.hp 1 _, r.1 (by omega), r.2.1 (by omega), r.2.2.1 (by omega), r.2.2.2.1 (by omega), r.2.2.2.2.1 (by omega), h.hn, fun i h1 h2 => r.2.2.2.2.2 i h1 h2 (by omega), h.sep⟩, hmt.weaken (fun q hq => Or.inl ((List.mem_singleton.1 hq) ▸ foot_pb ρ pb)), Fresh.refl _ _⟩

theorem BookAt.setLen {w : World} {pb : Nat} {ρ : BookL} {σ : BookS} (h : BookAt w pb ρ σ) (x : Int) : BookAt (w.setCell ⟨pb, 5, none⟩ (.int .i64 x)) pb ρ { σ with length := x } ∧ BStep w (w.setCell ⟨pb, 5, none⟩ (.int .i64 x)) pb ρ ρ := by
  have hmt := Mod.setCell w pb 5 (.int .i64 x)
  have r := h.rest 0 (by simp) (M := [pb]) (by intro q hq; right; simpa using hq) hmt
  exact ⟨⟨blk_set h.hp 5 _, r.1 (by omega), r.2.1 (by omega), r.2.2.1 (by omega), r.2.2.2.1 (by omega), r.2.2.2.2.1 (by omega), h.hn, fun i h1 h2 => r.2.2.2.2.2 i h1 h2 (by omega), h.sep⟩, hmt.weaken (fun q hq => Or.inl ((List.mem_singleton.1 hq) ▸ foot_pb ρ pb)), Fresh.refl _ _⟩

/-- The map alone was turned. -/
theorem BookAt.setMap {w w' : World} {pb n : Nat} {ρ : BookL} {σ : BookS} {K : Int → Int → Prop} (h : BookAt w pb ρ σ) (hK : MapIs w' ρ.mb n K) (hmt : Mod [ρ.mb] w w') : BookAt w' pb ρ { σ with nk := n, keys := K } ∧ BStep w w' pb ρ ρ := by
  have r := h.rest 1 (by simp) (M := [ρ.mb]) (by intro q hq; left; simpa using hq) hmt
  exact ⟨⟨hmt.blk (pb_notin h 1 (by simp) (by omega)) h.hp, hK, r.2.1 (by omega), r.2.2.1 (by omega), r.2.2.2.1 (by omega), r.2.2.2.2.1 (by omega), h.hn, fun i h1 h2 => r.2.2.2.2.2 i h1 h2 (by omega), h.sep⟩, hmt.weaken (fun q hq => Or.inl (foot_part 1 (by simp) q (by simpa using hq))), Fresh.refl _ _⟩

/-- Hand i alone was turned: its space may take up new blocks. -/
theorem BookAt.setHand {w w' : World} {pb : Nat} {ρ : BookL} {σ : BookS} (h : BookAt w pb ρ σ) (i : Nat) (hi : i < ρ.hl.length) (hi' : i < σ.hands.length) (l : HandL) (x : HandS) (hx : HandAt w' l x) (hhb : l.hb = ρ.hl[i].hb) (hmt : Mod ρ.hl[i].foot w w') (hf : Fresh w ρ.hl[i].foot l.foot) :
    BookAt w' pb { ρ with hl := ρ.hl.set i l } { σ with hands := σ.hands.set i x } ∧ BStep w w' pb ρ { ρ with hl := ρ.hl.set i l } := by
  have hip : i + 6 < (ρ.parts pb).length := by rw [parts_len]; omega
  have hg := parts_get ρ pb i hi hip
  have hpn : pb ∉ ρ.hl[i].foot := by rw [← hg]; exact pb_notin h (i + 6) hip (by omega)
  have hlt := h.lt
  have hpe : ({ ρ with hl := ρ.hl.set i l } : BookL).parts pb = (ρ.parts pb).set (i + 6) l.foot := by simp [BookL.parts, List.map_set]
  have r := h.rest (i + 6) hip (M := ρ.hl[i].foot) (by intro q hq; left; rw [hg]; exact hq) hmt
  have hH : SlO w' 0 88 HandL.cell 1 ρ.vH (ρ.hl.set i l) := by
    have h5 := r.2.2.2.2.1 (by omega)
    have e : (ρ.hl.set i l).flatMap HandL.cell = ρ.hl.flatMap HandL.cell := by
      have e1 : ∀ xs : List HandL, xs.flatMap HandL.cell = (xs.map HandL.hb).map (fun b => Value.pointer (some ⟨b, 0, none⟩)) := fun xs => by rw [List.map_map]; induction xs <;> simp_all [HandL.cell]
      rw [e1, e1, List.map_set, hhb]
      congr 1
      apply List.ext_getElem (by simp)
      intro j h1 h2
      rw [List.getElem_set]
      split
      · rename_i e; subst e; simp
      · rfl
    unfold SlO at h5 ⊢
    rw [e, List.length_set]; exact h5
  refine ⟨⟨hmt.blk hpn h.hp, r.1 (by omega), r.2.1 (by omega), r.2.2.1 (by omega), r.2.2.2.1 (by omega), hH, by simp [h.hn], ?_, ?_⟩, hmt.weaken (fun q hq => Or.inl (foot_part (i + 6) hip q (by rw [hg]; exact hq))), fresh_parts (i + 6) l.foot hip hpe (by rw [hg]; exact hf)⟩
  · intro j h1 h2
    simp only [List.length_set] at h1 h2
    by_cases e : j = i
    · subst e
      simpa using hx
    · have := r.2.2.2.2.2 j h1 h2 (by omega)
      simpa [List.getElem_set, Ne.symm e] using this
  · rw [hpe]
    exact h.sep.set hlt (i + 6) l.foot hip (by rw [hg]; exact hf)

/-- A hand's space alone was turned. -/
theorem BookAt.setSpace {w w' : World} {pb : Nat} {ρ : BookL} {σ : BookS} (h : BookAt w pb ρ σ) (i : Nat) (hi : i < ρ.hl.length) (hi' : i < σ.hands.length) {S : SpaceS} {L : List Nat} (hs : SpaceAt w' ρ.hl[i].sb S L) (hm : Mod ρ.hl[i].L w w') (hf : Fresh w ρ.hl[i].L L) :
    BookAt w' pb { ρ with hl := ρ.hl.set i ⟨ρ.hl[i].hb, ρ.hl[i].sb, L⟩ } { σ with hands := σ.hands.set i { σ.hands[i] with q := S } } ∧ BStep w w' pb ρ { ρ with hl := ρ.hl.set i ⟨ρ.hl[i].hb, ρ.hl[i].sb, L⟩ } := by
  obtain ⟨hx, hsp, hne⟩ := h.hh i hi hi'
  have hlt := blk_lt hx
  exact h.setHand i hi hi' ⟨ρ.hl[i].hb, ρ.hl[i].sb, L⟩ { σ.hands[i] with q := S } ⟨hm.blk hne hx, hs, fun hq => (hf _ hq).elim hne (fun h' => absurd (show ρ.hl[i].hb < w.heap.size from hlt) (by have h2 : w.heap.size ≤ ρ.hl[i].hb := h'; omega))⟩ rfl (hm.weaken (fun q hq => Or.inl (List.mem_cons_of_mem _ hq)))
    (fun q hq => by
      rcases List.mem_cons.1 hq with rfl | hq
      · left; simp
      · exact (hf q hq).imp (fun h' => List.mem_cons_of_mem _ h') id)

/-- A hand's two numbers are stored, in whatever order. -/
theorem BookAt.setNums {w w' : World} {pb : Nat} {ρ : BookL} {σ : BookS} (h : BookAt w pb ρ σ) (i : Nat) (hi : i < ρ.hl.length) (hi' : i < σ.hands.length) (a b : Int)
    (hw : w' = (w.setCell ⟨ρ.hl[i].hb, 0, none⟩ (.int .i64 a)).setCell ⟨ρ.hl[i].hb, 1, none⟩ (.int .i64 b) ∨ w' = (w.setCell ⟨ρ.hl[i].hb, 1, none⟩ (.int .i64 b)).setCell ⟨ρ.hl[i].hb, 0, none⟩ (.int .i64 a)) :
    BookAt w' pb { ρ with hl := ρ.hl.set i ρ.hl[i] } { σ with hands := σ.hands.set i ⟨a, b, σ.hands[i].q⟩ } ∧ BStep w w' pb ρ { ρ with hl := ρ.hl.set i ρ.hl[i] } := by
  obtain ⟨hx, hsp, hne⟩ := h.hh i hi hi'
  have hm : Mod [ρ.hl[i].hb] w w' := by
    rcases hw with rfl | rfl
    · exact (Mod.setCell _ _ _ _).then_ (Mod.setCell _ _ _ _) (fun _ h => h)
    · exact (Mod.setCell _ _ _ _).then_ (Mod.setCell _ _ _ _) (fun _ h => h)
  have hb : w'.heap[ρ.hl[i].hb]? = some (.cells #[.int .i64 a, .int .i64 b, .pointer (some ⟨ρ.hl[i].sb, 0, none⟩)] 92 (0, 0)) := by
    rcases hw with rfl | rfl
    · exact blk_set (blk_set hx 0 _) 1 _
    · exact blk_set (blk_set hx 1 _) 0 _
  exact h.setHand i hi hi' ρ.hl[i] ⟨a, b, σ.hands[i].q⟩ ⟨hb, hsp.mod hm (fun k hk hk' => hne (by rw [List.mem_singleton] at hk'; exact hk' ▸ hk)), hne⟩ rfl (hm.weaken (fun q hq => Or.inl (by rw [List.mem_singleton] at hq; simp [hq]))) (fun q hq => Or.inl hq)
end Go.Proofs.YtjeidklpomekdaaDoor

/- The book: start, Revs, Doc. -/
namespace Go.Proofs.YtjeidklpomekdaaDoor
open Go.RowKit

def BookPost (w w' : World) (pb : Nat) (ρ : BookL) (σ' : BookS) : Prop := ∃ ρ', BookAt w' pb ρ' σ' ∧ BStep w w' pb ρ ρ'

set_option maxRecDepth 100000 in
set_option maxHeartbeats 1600000 in
theorem start_any (pb : Nat) (ρ : BookL) (σ : BookS) (w : World) (h : BookAt w pb ρ σ) (he : 0 ≤ σ.epoch ∧ σ.epoch ≤ 100000) (h1 : σ.edited.length ≤ 100000) (h2 : σ.edits.length ≤ 100000) :
    Calls Tryd.prog 21 #[.pointer (some ⟨pb, 0, none⟩)] w fun e w' => e = .returned (.tuple #[]) ∧ BookPost w w' pb ρ { σ with epoch := σ.epoch + 1, edited := σ.edited ++ [(σ.edits.length : Int)] } := by
  have hp := h.hp
  have C := blk_cell hp; have F := blk_free hp
  obtain ⟨aE, cE, hvE, _⟩ := h.hE.len
  obtain ⟨hs1, hs2⟩ := h.setEpoch (σ.epoch + 1)
  have hI := SlO.below hs1.hI (Below.refl _ _).drew
  have hpw := hs1.hp
  have CW := blk_cell hpw
  have hpn : pb ∉ ρ.vI.ownBlock.toList := pb_notin hs1 2 (by simp) (by omega)
  have H := Lib.hid h; have HS1 := Lib.hid hs1; have HS2 := Lib.hid hs2; have HI := Lib.hid hI; have HPN := Lib.hid hpn; have HPW := Lib.hid hpw
  clear h hs1 hs2 hI hpn hp hpw
  rw [hvE] at C CW
  go_enter Tryd.func21, Tryd.ntmps21
  go_wp2
  generalize w.setCell ⟨pb, 1, none⟩ (.int .i64 (σ.epoch + 1)) = w1 at *
  have B1 := Lib.hid (show (σ.edited.length + 1) * 8 ≤ 140737488355328 by omega)
  have B2 := Lib.hid (show σ.edited.length + 1 ≤ 9223372036854775807 by omega)
  have LP := blk_lt HPW.out
  go_region_law (refine step_app1N et_int (W := w1.drew) (σ.edited.length + 1) rfl (.tmp 13) (.tmp 19) rfl 0 icell len_int one_int ρ.vI σ.edited rfl HI.out (σ.edits.length : Int) _ rfl w1.heap.size rfl rfl rfl B1.out B2.out (Nat.zero_le _) ?_; intro g cap w2 ho2 hm2 hg2 hlt2; have s2 := hm2.blk HPN.out HPW.out; have C2 := blk_cell s2; have F2 := blk_free s2; have S2 := Lib.hid s2; have HO2 := Lib.hid ho2; have HM2 := Lib.hid hm2; have HG2 := Lib.hid hg2; clear s2 ho2 hm2 hg2)
  all_goals
    go_wp2
    refine bodyPost_end (results_none rfl _ _ _) rfl ?_
    obtain ⟨a1, a2⟩ := HS1.out.appI (Mod.trans (Mod.drewN _ w1 1) HM2.out (fun _ h => Or.inl h)) HO2.out HG2.out
    exact ⟨rfl, _, a1, HS2.out.trans a2⟩

theorem revs_any (pb : Nat) (ρ : BookL) (σ : BookS) (w : World) (h : BookAt w pb ρ σ) (h2 : σ.edits.length ≤ 100000) :
    Calls Tryd.prog 24 #[.pointer (some ⟨pb, 0, none⟩)] w fun e w' => e = .returned (.int .i64 σ.edits.length) ∧ w = w' := by
  have hp := h.hp
  have C := blk_cell hp
  obtain ⟨aE, cE, hvE, _⟩ := h.hE.len
  rw [hvE] at C
  clear hp h hvE
  go_enter Tryd.func24, Tryd.ntmps24
  go_wp2
  go_ret
  exact ⟨rfl, rfl⟩

/-- The text behind all records. -/
def DocPost (w w' : World) (e : Ending) (os : List Opr) : Prop := ∃ dv, e = .returned (.tuple #[dv, .int .i64 0]) ∧ SlO w' w.heap.size 50 Elm.cells 3 dv (replay [] os) ∧ Below w.heap.size w w' ∧ (∃ a c, dv = .slice (some a) (replay [] os).length c)
set_option maxRecDepth 100000 in
set_option maxHeartbeats 1600000 in
theorem bookDoc_any (pb : Nat) (ρ : BookL) (σ : BookS) (w : World) (h : BookAt w pb ρ σ) (n : Nat) (hn : n ≤ σ.edits.length) (hd : σ.edits.length = σ.done.length) (h2 : σ.edits.length ≤ 4096) (hf : AllFit [] (σ.done.take n)) (hc : ∀ o ∈ σ.done, 0 ≤ o.ch ∧ o.ch ≤ 255) :
    Calls Tryd.prog 23 #[.pointer (some ⟨pb, 0, none⟩), .int .i64 n] w fun e w' => DocPost w w' e (σ.done.take n) := by
  have hp := h.hp
  have C := blk_cell hp
  obtain ⟨aE, cE, hvE, _⟩ := h.hE.len
  rw [hvE] at C
  have hD := SlO.reads h.hD len_op
  obtain ⟨aD, cD, hvD, hnD⟩ := h.hD.len
  have hle : n ≤ σ.done.length := by omega
  have hcap : σ.done.length ≤ cD := by
    obtain ⟨a', c', e1, _, e2, _⟩ := hD
    rw [hvD] at e1; cases e1; exact e2.1
  rw [hvD] at C hD
  have hT := hD.take n hle
  have hlt : (σ.done.take n).length = n := by rw [List.length_take]; omega
  have H := Lib.hid h; have HT := Lib.hid hT; have HF := Lib.hid hf; have HC := Lib.hid hc
  clear hp h hvE hD hT hf hc hvD
  go_enter Tryd.func23, Tryd.ntmps23
  go_wp2_with fail
  refine (replay_any _ (σ.done.take n) _ HT.out HF.out (fun o ho => HC.out o (List.mem_of_mem_take ho))).mono ?_
  rintro e w1 ⟨a, c, rfl, ho, hb⟩
  have HO := Lib.hid ho; have HB := Lib.hid hb; clear ho hb
  go_wp2
  go_ret2
  exact ⟨_, rfl, HO.out, HB.out, _, _, rfl⟩
end Go.Proofs.YtjeidklpomekdaaDoor

