/- Part 6 of the proof of BookReplays: ShelfE2, ShelfD, ShelfD2, Eqs. -/
import Derived.Deep.DeepCutAuto
import Derived.Laws.StructEq
import Derived.Test.YtjeidklpomekdaaDoorBr5

set_option linter.unusedVariables false
set_option linter.unusedSimpArgs false
set_option linter.unnecessarySimpa false

/- The law's shelf: (*jotter/jotterlaw12.Shelf).edits. -/
namespace Go.Proofs.YtjeidklpomekdaaDoor
open Go.RowKit

theorem set6_list {α : Type} (l : List α) (o : Nat) (v0 v1 v2 v3 v4 v5 : α) (h : o + 6 ≤ l.length) : (((((l.set o v0).set (o + 1) v1).set (o + 2) v2).set (o + 3) v3).set (o + 4) v4).set (o + 5) v5 = l.take o ++ [v0, v1, v2, v3, v4, v5] ++ l.drop (o + 6) := by
  obtain ⟨x, y, rfl, rfl⟩ : ∃ x y, l = x ++ y ∧ x.length = o := ⟨l.take o, l.drop o, (List.take_append_drop o l).symm, by rw [List.length_take]; omega⟩
  match y, h with
  | a :: b :: c :: d :: e :: f :: r, _ =>
    rw [List.take_left, List.drop_length_add_append]
    simp [List.set_append, show ∀ n : Nat, ¬ x.length + n < x.length by omega, Nat.add_sub_cancel_left]
  | [], h => exact absurd h (by simp <;> omega)
  | [_], h => exact absurd h (by simp <;> omega)
  | [_, _], h => exact absurd h (by simp <;> omega)
  | [_, _, _], h => exact absurd h (by simp <;> omega)
  | [_, _, _, _], h => exact absurd h (by simp <;> omega)
  | [_, _, _, _, _], h => exact absurd h (by simp <;> omega)
theorem SlO.setEdt {w : World} {base : Nat} {E : TypeId} {g n cap : Nat} {xs : List Edt} (h : SlO w base E Edt.cells 6 (.slice (some ⟨g, 0, none⟩) n cap) xs) (i : Nat) (hi : i < xs.length) (y : Edt) :
    SlO ((((((w.setCell ⟨g, i * 6, none⟩ (.int .i64 y.tag)).setCell ⟨g, i * 6 + 1, none⟩ (.int .i64 y.op.kind)).setCell ⟨g, i * 6 + 2, none⟩ (.int .i64 y.op.pos)).setCell ⟨g, i * 6 + 3, none⟩ (.int .u8 y.op.ch)).setCell ⟨g, i * 6 + 4, none⟩ (.int .i64 y.op.client)).setCell ⟨g, i * 6 + 5, none⟩ (.int .i64 y.op.seq)) base E Edt.cells 6 (.slice (some ⟨g, 0, none⟩) n cap) (xs.set i y) := by
  obtain ⟨cur, hg, hs, _, hl, _, _, rfl⟩ := h.row
  have hik : i * 6 + 6 ≤ cur.size := by rw [hs]; omega
  have h0 := blk_set hg (i * 6) (.int .i64 y.tag)
  have h1 := blk_set h0 (i * 6 + 1) (.int .i64 y.op.kind)
  have h2 := blk_set h1 (i * 6 + 2) (.int .i64 y.op.pos)
  have h3 := blk_set h2 (i * 6 + 3) (.int .u8 y.op.ch)
  have h4 := blk_set h3 (i * 6 + 4) (.int .i64 y.op.client)
  refine h.set len_edit i hi y (blk_set h4 (i * 6 + 5) (.int .i64 y.op.seq)) (fun cur' hc => ?_)
  rw [hg] at hc; cases hc
  show _ = cur.toList.take (i * 6) ++ [_, _, _, _, _, _] ++ cur.toList.drop (i * 6 + 6)
  rw [← set6_list _ _ _ _ _ _ _ _ (by simpa using hik)]
  simp
theorem Mod.set6_at (w : World) (b o : Nat) (v0 v1 v2 v3 v4 v5 : Value) : Mod [b] w ((((((w.setCell ⟨b, o, none⟩ v0).setCell ⟨b, o + 1, none⟩ v1).setCell ⟨b, o + 2, none⟩ v2).setCell ⟨b, o + 3, none⟩ v3).setCell ⟨b, o + 4, none⟩ v4).setCell ⟨b, o + 5, none⟩ v5) :=
  (Mod.set5_at w b o v0 v1 v2 v3 v4).then_ (Mod.setCell _ b (o + 5) v5) (fun _ h => h)

theorem last_regionE {P : Program} {c : Code} {F : Func} {Post : Ending → World → Prop} {a : Act} {w : World} (h : c.wp P (Exit.then (fun a w => bodyPost P F Post .normal a w) (bodyPost P F Post)) a w) : c.wp P (bodyPost P F Post) a w := wp_mono h (by intro e a w h; cases e <;> exact h)
abbrev mkSE (mark : Int) : Edt := (⟨-(mark + 1), ⟨0, 0, 0, 0, 0⟩⟩ : Edt)
def FillE (w : World) (base : Nat) (lv : Value) (xs : List Edt) (m : Edt) (k : Nat) (wr : World) : Prop :=
  SlO wr base 48 Edt.cells 6 lv (List.replicate k m ++ xs.drop k) ∧ Mod lv.ownBlock.toList w wr
theorem threeE (mark : Int) (w : World) : ∀ j u, (([mkSE mark, mkSE mark, mkSE mark] : List Edt).flatMap Edt.cells)[j]? = some u → (w.alloc (.cells #[.int .i64 (-(mark + 1)), .int .i64 0, .int .i64 0, .int .u8 0, .int .i64 0, .int .i64 0, .int .i64 (-(mark + 1)), .int .i64 0, .int .i64 0, .int .u8 0, .int .i64 0, .int .i64 0, .int .i64 (-(mark + 1)), .int .i64 0, .int .i64 0, .int .u8 0, .int .i64 0, .int .i64 0] 48 (0, 0))).cell? ((⟨w.heap.size, 0, none⟩ : Addr).add j) = some u := by
  intro j u hu
  rw [addr_add0, blk_cell (blk_new w _), ← hu]
  simp [Edt.cells]

theorem pushAE_end {base sb : Nat} {w w2 : World} {v0 v1 v2 v3 : Value} {mark : Int} {ps qs : List Sv} {ens : List (Sv × List Edt)} {L : List Nat} {s : Sv} {g N cap : Nat} (hp : w.heap[sb]? = some (shBlk v0 v1 v2 v3 (mark))) (h : Half w base 22 Edt.cells 6 v0 v1 ps qs ens L) (hsb : sb ∉ hfoot v0 v1 L)
    (hm : Mod v0.ownBlock.toList w w2) (ho : SlO w2 base 22 Sv.cells 1 (.slice (some ⟨g, 0, none⟩) N cap) (ps ++ [s])) (hg : v0.ownBlock = some g ∨ w.heap.size ≤ g) :
    (w2.setCell ⟨sb, 0, none⟩ (.slice (some ⟨g, 0, none⟩) N cap)).heap[sb]? = some (shBlk (.slice (some ⟨g, 0, none⟩) N cap) v1 v2 v3 (mark)) ∧ Half (w2.setCell ⟨sb, 0, none⟩ (.slice (some ⟨g, 0, none⟩) N cap)) base 22 Edt.cells 6 (.slice (some ⟨g, 0, none⟩) N cap) v1 (ps ++ [s]) qs ens L ∧
      Mod (sb :: v0.ownBlock.toList) w (w2.setCell ⟨sb, 0, none⟩ (.slice (some ⟨g, 0, none⟩) N cap)) ∧ (∀ q ∈ hfoot (.slice (some ⟨g, 0, none⟩) N cap) v1 L, q ∈ hfoot v0 v1 L ∨ w.heap.size ≤ q) := by
  have hlt : sb < w.heap.size := blk_lt hp
  have h2 := h.pushA hm ho hg
  have hsbA : sb ∉ v0.ownBlock.toList := fun hq => hsb (by simp [hfoot]; exact Or.inl (by simpa using hq))
  have hnew : ∀ q ∈ hfoot (.slice (some ⟨g, 0, none⟩) N cap) v1 L, q ∈ hfoot v0 v1 L ∨ w.heap.size ≤ q := by
    intro q hq
    simp only [hfoot, List.mem_append] at hq ⊢
    rcases hq with (hq | hq) | hq
    · simp [Value.ownBlock] at hq; subst hq
      rcases hg with hg | hg
      · exact Or.inl (Or.inl (Or.inl (by simp [hg])))
      · exact Or.inr hg
    · exact Or.inl (Or.inl (Or.inr hq))
    · exact Or.inl (Or.inr hq)
  have hms := Mod.setCell w2 sb 0 (.slice (some ⟨g, 0, none⟩) N cap)
  have hsb' : sb ∉ hfoot (.slice (some ⟨g, 0, none⟩) N cap) v1 L := fun hq => (hnew sb hq).elim hsb (fun h' => by omega)
  refine ⟨blk_set (hm.blk hsbA hp) 0 _, h2.mod hms (fun q hq hq' => hsb' (by simp at hq'; exact hq' ▸ hq)), ?_, hnew⟩
  exact (hm.weaken (fun q hq => Or.inl (List.mem_cons_of_mem _ hq))).then_ (hms.weaken (fun q hq => Or.inl (by simp at hq; simp [hq]))) (fun _ h => h)

def PushAE (base sb : Nat) (w : World) (v0 v1 v2 v3 : Value) (mark : Int) (ps qs : List Sv) (ens : List (Sv × List Edt)) (L : List Nat) (s : Sv) (w' : World) : Prop :=
  ∃ (g N cap : Nat), w'.heap[sb]? = some (shBlk (.slice (some ⟨g, 0, none⟩) N cap) v1 v2 v3 (mark)) ∧ Half w' base 22 Edt.cells 6 (.slice (some ⟨g, 0, none⟩) N cap) v1 (ps ++ [s]) qs ens L ∧ Mod (sb :: v0.ownBlock.toList) w w' ∧ (∀ q ∈ hfoot (.slice (some ⟨g, 0, none⟩) N cap) v1 L, q ∈ hfoot v0 v1 L ∨ w.heap.size ≤ q)

set_option maxRecDepth 100000 in
set_option maxHeartbeats 3200000 in
theorem shE_r10 {u1 u2 u3 u4 u5 u7 u8 u9 u10 u11 u12 u13 u14 u15 u16 u17 u18 u19 u20 u21 u22 u23 u24 u25 u26 u27 u28 u29 u30 u31 u32 u33 u34 u35 u36 u37 u38 u39 u40 u41 u42 u43 u44 u45 u46 u47 u48 u49 u50 u51 u52 u53 u54 u55 u56 u57 u58 u59 u60 u61 u62 u63 u64 u65 u66 u67 u68 u69 u70 u71 u72 u73 u74 u75 u76 u77 u78 u79 u80 u81 u82 u83 u84 u85 : Value} (base sb : Nat) (v0 v1 v2 v3 : Value) (mark : Int) (ps qs : List Sv) (ens : List (Sv × List Edt)) (L : List Nat) (ad : Addr) (n c : Nat) (w : World) (hp : w.heap[sb]? = some (shBlk v0 v1 v2 v3 (mark))) (h : Half w base 22 Edt.cells 6 v0 v1 ps qs ens L) (hsb : sb ∉ hfoot v0 v1 L) (hbase : base ≤ w.heap.size) (hq : ps.length ≤ 1000) (K : Act → World → Prop) (Post : Ending → World → Prop)
    (hK : ∀ (v64 v65 v66 v67 v68 v69 v70 v71 v72 v73 : Value) (w' : World), PushAE base sb w v0 v1 v2 v3 mark ps qs ens L ⟨some ad, n, c⟩ w' → K ⟨List.toArray (.pointer (some ⟨sb, 0, none⟩) :: u1 :: u2 :: u3 :: u4 :: u5 :: .slice (some ad) n c :: u7 :: u8 :: u9 :: u10 :: u11 :: u12 :: u13 :: u14 :: u15 :: u16 :: u17 :: u18 :: u19 :: u20 :: u21 :: u22 :: u23 :: u24 :: u25 :: u26 :: u27 :: u28 :: u29 :: u30 :: u31 :: u32 :: u33 :: u34 :: u35 :: u36 :: u37 :: u38 :: u39 :: u40 :: u41 :: u42 :: u43 :: u44 :: u45 :: u46 :: u47 :: u48 :: u49 :: u50 :: u51 :: u52 :: u53 :: u54 :: u55 :: u56 :: u57 :: u58 :: u59 :: u60 :: u61 :: u62 :: u63 :: v64 :: v65 :: v66 :: v67 :: v68 :: v69 :: v70 :: v71 :: v72 :: v73 :: u74 :: u75 :: u76 :: u77 :: u78 :: u79 :: u80 :: u81 :: u82 :: u83 :: u84 :: u85 :: []), []⟩ w') :
    Code.wp Tryd.prog (shRegE 10) (Exit.then K (bodyPost Tryd.prog Tryd.f9 Post)) ⟨List.toArray (.pointer (some ⟨sb, 0, none⟩) :: u1 :: u2 :: u3 :: u4 :: u5 :: .slice (some ad) n c :: u7 :: u8 :: u9 :: u10 :: u11 :: u12 :: u13 :: u14 :: u15 :: u16 :: u17 :: u18 :: u19 :: u20 :: u21 :: u22 :: u23 :: u24 :: u25 :: u26 :: u27 :: u28 :: u29 :: u30 :: u31 :: u32 :: u33 :: u34 :: u35 :: u36 :: u37 :: u38 :: u39 :: u40 :: u41 :: u42 :: u43 :: u44 :: u45 :: u46 :: u47 :: u48 :: u49 :: u50 :: u51 :: u52 :: u53 :: u54 :: u55 :: u56 :: u57 :: u58 :: u59 :: u60 :: u61 :: u62 :: u63 :: u64 :: u65 :: u66 :: u67 :: u68 :: u69 :: u70 :: u71 :: u72 :: u73 :: u74 :: u75 :: u76 :: u77 :: u78 :: u79 :: u80 :: u81 :: u82 :: u83 :: u84 :: u85 :: []), []⟩ w := by
  conv => arg 2; whnf

  obtain ⟨aA, cA, hvA, hnA⟩ := h.hA.len
  have C := blk_cell hp; have F := blk_free hp; have LP := blk_lt hp
  rw [hvA] at C
  have HP := Lib.hid hp; have HH := Lib.hid h; have HSB := Lib.hid hsb; have HVA := Lib.hid hvA
  have HNR := Lib.hid (show sb ∉ v0.ownBlock.toList from fun hq => hsb (by simp [hfoot]; exact Or.inl (by simpa using hq)))
  clear h hsb hp hvA hnA
  have B1 := Lib.hid (show (ps.length + 1) * 24 ≤ 140737488355328 by omega)
  have B2 := Lib.hid (show ps.length + 1 ≤ 9223372036854775807 by omega)
  go_wp2_with (at_builtin; refine wp_app1 et_se rfl _ _ rfl base Sv.cells len_sv one_sv v0 ps (by exact HVA.out.symm) HH.out.hA (⟨some ad, n, c⟩ : Sv) _ rfl rfl B1.out B2.out hbase ?_; intro g1 cap1 w2 ho2 hm2 hg2 hl2; have s3 := hm2.blk HNR.out HP.out; have C2 := blk_cell s3; have F2 := blk_free s3; have LP2 := blk_lt s3; have HO2 := Lib.hid ho2; have HM2 := Lib.hid hm2; have HG2 := Lib.hid hg2; clear s3 ho2 hm2 hg2)
  exact ⟨_, _, _, pushAE_end HP.out HH.out HSB.out HM2.out HO2.out HG2.out⟩

set_option maxRecDepth 100000 in
set_option maxHeartbeats 6400000 in
theorem shelfE_any (base sb : Nat) (v0 v1 v2 v3 : Value) (mark : Int) (ps qs : List Sv) (ens : List (Sv × List Edt)) (L : List Nat) (gl n c : Nat) (xs : List Edt) (w : World) (hp : w.heap[sb]? = some (shBlk v0 v1 v2 v3 (mark))) (h : Half w base 22 Edt.cells 6 v0 v1 ps qs ens L) (hsb : sb ∉ hfoot v0 v1 L) (hbase : base ≤ w.heap.size)
    (hl : SlO w base 48 Edt.cells 6 (.slice (some ⟨gl, 0, none⟩) n c) xs) (hgs : gl ≠ sb) (hgl : gl ∉ hfoot v0 v1 L) (hn2 : n ≤ 2932031007330) (hps : ps.length ≤ 30) (hqs : qs.length ≤ 100) (hmk : 0 ≤ mark ∧ mark ≤ 1000) :
    Calls Tryd.prog 9 #[.pointer (some ⟨sb, 0, none⟩), .slice (some ⟨gl, 0, none⟩) n c] w fun e w' => e = .returned (.tuple #[]) ∧ ∃ (a' b' : Value) (x1 x2 x3 x4 : Sv) (L' : List Nat), w'.heap[sb]? = some (shBlk a' b' v2 v3 (mark + 1)) ∧
      Half w' base 22 Edt.cells 6 a' b' (ps ++ [x1, x2]) (qs ++ [x3, x4]) (ens ++ [(x1, List.replicate n (mkSE mark)), (x3, List.replicate n (mkSE mark)), (x2, List.replicate (n + 3) (mkSE mark)), (x4, List.replicate (n + 3) (mkSE mark))]) L' ∧ Mod (sb :: gl :: hfoot v0 v1 L) w w' ∧ sb ∉ hfoot a' b' L' ∧ (∀ q ∈ hfoot a' b' L', q ∈ gl :: hfoot v0 v1 L ∨ w.heap.size ≤ q) := by
  obtain ⟨aA, cA, hvA, _⟩ := h.hA.len
  have hxn : xs.length = n := (hl.row.elim (fun cur h => h.2.2.2.2.2.2)).symm
  have C := blk_cell hp; have F := blk_free hp; have LP := blk_lt hp
  rw [hvA] at C
  have hglt := (hl.lt gl rfl).2
  obtain ⟨hmk0, hmk1⟩ := hmk
  -- the mark, and its box
  have s1 := blk_set hp 4 (.int .i64 (mark + 1))
  have m1 := Mod.setCell w sb 4 (.int .i64 (mark + 1))
  have HP := Lib.hid hp; have HH := Lib.hid h; have HSB := Lib.hid hsb; have HL := Lib.hid hl; have HGL := Lib.hid hgl; have HVA := Lib.hid hvA; have HXN := Lib.hid hxn; have HGS := Lib.hid hgs
  have H1 := Lib.hid (h.mod m1 (fun q hq hq' => hsb (by simp at hq'; exact hq' ▸ hq)))
  have L1 := Lib.hid (hl.mod m1 (fun q hq hq' => hgs (by simp [Value.ownBlock] at hq; simp at hq'; omega)))
  have S1 := Lib.hid s1; have M1 := Lib.hid m1
  have CW := blk_cell s1; have FW := blk_free s1; have LW := blk_lt s1
  rw [hvA] at CW
  clear h hsb hl hgl hvA hxn s1 m1 hp hgs
  go_enter Tryd.func9, Tryd.ntmps9
  go_wp2
  clear C F LP CW FW LW
  have hBL : Below (w.setCell ⟨sb, 4, none⟩ (.int .i64 (mark + 1))).heap.size (w.setCell ⟨sb, 4, none⟩ (.int .i64 (mark + 1))) ((w.setCell ⟨sb, 4, none⟩ (.int .i64 (mark + 1))).alloc (.cells #[.int .i64 (-(mark + 1)), .int .i64 0, .int .i64 0, .int .u8 0, .int .i64 0, .int .i64 0] 48 (0, 0))) := (Below.refl _ _).new _
  have SB := Lib.hid (hBL.blk S1.out)
  have B4 := Lib.hid (blk_at (n := w.heap.size) (w := w.setCell ⟨sb, 4, none⟩ (.int .i64 (mark + 1))) (.cells #[.int .i64 (-(mark + 1)), .int .i64 0, .int .i64 0, .int .u8 0, .int .i64 0, .int .i64 0] 48 (0, 0)) (by simp))
  have HB := Lib.hid (H1.out.below hBL)
  have LB := Lib.hid (L1.out.below hBL)
  have MB := Lib.hid (M1.out.then_ (Mod.of_below (L := [sb]) hBL) (fun _ h => h))
  have hsz := MB.out.size
  have I0 := Lib.hid (show FillE ((w.setCell ⟨sb, 4, none⟩ (.int .i64 (mark + 1))).alloc (.cells #[.int .i64 (-(mark + 1)), .int .i64 0, .int .i64 0, .int .u8 0, .int .i64 0, .int .i64 0] 48 (0, 0))) base (.slice (some ⟨gl, 0, none⟩) n c) xs (mkSE mark) 0 ((w.setCell ⟨sb, 4, none⟩ (.int .i64 (mark + 1))).alloc (.cells #[.int .i64 (-(mark + 1)), .int .i64 0, .int .i64 0, .int .u8 0, .int .i64 0, .int .i64 0] 48 (0, 0))) from ⟨by simpa using LB.out, Mod.refl _ _⟩)
  clear hBL S1 M1 H1 L1 LB HL
  generalize (w.setCell ⟨sb, 4, none⟩ (.int .i64 (mark + 1))).alloc (.cells #[.int .i64 (-(mark + 1)), .int .i64 0, .int .i64 0, .int .u8 0, .int .i64 0, .int .i64 0] 48 (0, 0)) = wb at *
  go_loopw [5] (fun i wr => ∃ k : Nat, k ≤ n ∧ i = .int .i64 k ∧ FillE wb base (.slice (some ⟨gl, 0, none⟩) n c) xs (mkSE mark) k wr) (fun i _ => n - (intOf i).toNat)
  case atStart => exact ⟨0, Nat.zero_le _, rfl, I0.out⟩
  case round =>
    obtain ⟨k, hk, rfl, ho, hm⟩ := hrel
    have hxl : (List.replicate k (mkSE mark) ++ xs.drop k).length = n := by simp [HXN.out]; omega
    by_cases hlt : k < n
    · obtain ⟨cur, hg, hs, r1, r2, r3, r4, r5⟩ := ho.row
      have F4 := blk_free hg; have L4 := blk_lt hg; have C4 := blk_cell hg
      have hle : k * 6 + 6 ≤ cur.size := by rw [hs]; rw [hxl] at r2; omega
      obtain ⟨u0, e0⟩ : ∃ u, cur[k * 6]? = some u := ⟨_, Array.getElem?_eq_getElem (by omega)⟩
      obtain ⟨u1, e1⟩ : ∃ u, cur[k * 6 + 1]? = some u := ⟨_, Array.getElem?_eq_getElem (by omega)⟩
      obtain ⟨u2, e2⟩ : ∃ u, cur[k * 6 + 2]? = some u := ⟨_, Array.getElem?_eq_getElem (by omega)⟩
      obtain ⟨u3, e3⟩ : ∃ u, cur[k * 6 + 3]? = some u := ⟨_, Array.getElem?_eq_getElem (by omega)⟩
      obtain ⟨u4, e4⟩ : ∃ u, cur[k * 6 + 4]? = some u := ⟨_, Array.getElem?_eq_getElem (by omega)⟩
      obtain ⟨u5, e5⟩ : ∃ u, cur[k * 6 + 5]? = some u := ⟨_, Array.getElem?_eq_getElem (by omega)⟩
      have d0 := (C4 (k * 6)).trans e0; have d1 := (C4 (k * 6 + 1)).trans e1; have d2 := (C4 (k * 6 + 2)).trans e2; have d3 := (C4 (k * 6 + 3)).trans e3; have d4 := (C4 (k * 6 + 4)).trans e4; have d5 := (C4 (k * 6 + 5)).trans e5
      have c4 := hm.blk (by simp [Value.ownBlock]; omega) B4.out
      have C0 := blk_cell c4
      have HO := Lib.hid ho; have HM := Lib.hid hm; have HXL := Lib.hid hxl
      clear ho hm hg hs r1 r2 r3 r4 r5 C4 hle c4 e0 e1 e2 e3 e4 e5 hxl
      go_wp2
      refine ⟨⟨k + 1, by omega, by go_num, ?_, ?_⟩, by simp [intOf]; omega⟩
      · have := HO.out.setEdt k (by rw [HXL.out]; exact hlt) (mkSE mark)
        rwa [mark_step _ _ (by rw [HXN.out]; exact hlt)] at this
      · exact HM.out.then_ (Mod.set6_at _ _ _ _ _ _ _ _ _) (by simp [Value.ownBlock])
    · obtain rfl : k = n := by omega
      rw [← HXN.out, List.drop_length, List.append_nil, HXN.out] at ho
      have HO := Lib.hid ho; have HM := Lib.hid hm; clear hxl
      have s2 := hm.blk (by simp [Value.ownBlock]; exact Ne.symm HGS.out) SB.out
      have c4 := hm.blk (by simp [Value.ownBlock]; omega) B4.out
      have H2 := Lib.hid (HB.out.mod hm (fun q hq hq' => HGL.out (by simp [Value.ownBlock] at hq'; exact hq' ▸ hq)))
      have C := blk_cell s2; have F := blk_free s2; have LP := blk_lt s2
      rw [HVA.out] at C
      have S2 := Lib.hid s2; have X4 := Lib.hid c4
      clear ho hm s2 c4
      have hsz2 := HM.out.size
      have hbase2 : base ≤ wr.heap.size := by omega
      have B1 := Lib.hid (show (ps.length + 1) * 24 ≤ 140737488355328 by omega)
      have B2 := Lib.hid (show ps.length + 1 ≤ 9223372036854775807 by omega)
      have HNR := Lib.hid (show sb ∉ v0.ownBlock.toList from fun hq => HSB.out (by simp [hfoot]; exact Or.inl (by simpa using hq)))
      go_wp2_with (at_builtin; refine wp_app1 et_se rfl _ _ rfl base Sv.cells len_sv one_sv v0 ps (by exact HVA.out.symm) H2.out.hA (⟨some ⟨gl, 0, none⟩, k, c⟩ : Sv) _ rfl rfl B1.out B2.out hbase2 ?_; intro g1 cap1 w2 ho2 hm2 hg2 hl2; have s3 := hm2.blk HNR.out S2.out; have C2 := blk_cell s3; have F2 := blk_free s3; have LP2 := blk_lt s3; have S3 := Lib.hid s3; have HO2 := Lib.hid ho2; have HM2 := Lib.hid hm2; have HG2 := Lib.hid hg2; clear s3 ho2 hm2 hg2)
      obtain ⟨t4, h4, m4, f4⟩ := pushAE_end (mark := mark + 1) S2.out H2.out HSB.out HM2.out HO2.out HG2.out
      clear C F LP C2 F2 LP2
      have hvAlt := fun q (hq : v0.ownBlock = some q) => (HH.out.hA.lt q hq).2
      have hgl4 : gl ∉ hfoot (.slice (some ⟨g1, 0, none⟩) (ps.length + 1) cap1) v1 L := fun hq => (f4 gl hq).elim HGL.out (fun h' => by omega)
      have hsb4 : sb ∉ hfoot (.slice (some ⟨g1, 0, none⟩) (ps.length + 1) cap1) v1 L := fun hq => (f4 sb hq).elim HSB.out (fun h' => by have := blk_lt S2.out; omega)
      have hglm : gl ∉ sb :: v0.ownBlock.toList := by
        intro hq
        rcases List.mem_cons.1 hq with hq | hq
        · exact HGS.out hq
        · exact HGL.out (by simp [hfoot]; exact Or.inl (by simpa using hq))
      have hblt : w.heap.size ∉ sb :: v0.ownBlock.toList := by
        intro hq
        rcases List.mem_cons.1 hq with hq | hq
        · have := blk_lt HP.out; omega
        · have := hvAlt w.heap.size (by simpa using hq); omega
      have l4 := HO.out.mod m4 (fun q hq hq' => hglm (by simp [Value.ownBlock] at hq; exact hq ▸ hq'))
      have x4 := m4.blk hblt X4.out
      have T4 := Lib.hid t4; have H4 := Lib.hid h4; have M4 := Lib.hid m4; have FR4 := Lib.hid f4; have L4 := Lib.hid l4; have X5 := Lib.hid x4; have HGL4 := Lib.hid hgl4; have HSB4 := Lib.hid hsb4
      have hsz4 := m4.size
      clear t4 h4 m4 f4 l4 x4 hgl4 hsb4 hglm hblt
      generalize w2.setCell ⟨sb, 0, none⟩ (.slice (some ⟨g1, 0, none⟩) (ps.length + 1) cap1) = w3 at *
      go_upto_region 8 with fail
      refine shE_r8 base sb (.slice (some ⟨g1, 0, none⟩) (ps.length + 1) cap1) v1 v2 v3 (mark + 1) _ qs ens L ⟨gl, 0, none⟩ k c (List.replicate k (mkSE mark)) w3 T4.out H4.out HSB4.out (by omega) (L4.out.reads len_edit) (by simp) (by omega) (by omega) _ _ ?_
      intro x46 x47 x48 x49 x50 x51 x52 x53 x54 x55 x56 x57 w4 p4
      obtain ⟨s3, g3, N3, c3, t5, h5, m5, f5, r5, o5⟩ := p4
      have hvBlt := fun q (hq : v1.ownBlock = some q) => (HH.out.hB.lt q hq).2
      have hsz5 := m5.size
      have hglB : gl ∉ sb :: v1.ownBlock.toList := by
        intro hq
        rcases List.mem_cons.1 hq with hq | hq
        · exact HGS.out hq
        · exact HGL4.out (by simp [hfoot]; exact Or.inr (Or.inl (by simpa using hq)))
      have hblB : w.heap.size ∉ sb :: v1.ownBlock.toList := by
        intro hq
        rcases List.mem_cons.1 hq with hq | hq
        · have := blk_lt HP.out; omega
        · have := hvBlt w.heap.size (by simpa using hq); omega
      have l5 := L4.out.mod m5 (fun q hq hq' => hglB (by simp [Value.ownBlock] at hq; exact hq ▸ hq'))
      have x5 := m5.blk hblB X5.out
      have hgl5 : gl ∉ hfoot (.slice (some ⟨g1, 0, none⟩) (ps.length + 1) cap1) (.slice (some ⟨g3, 0, none⟩) N3 c3) L := fun hq => (f5 gl hq).elim HGL4.out (fun h' => by omega)
      have hsb5 : sb ∉ hfoot (.slice (some ⟨g1, 0, none⟩) (ps.length + 1) cap1) (.slice (some ⟨g3, 0, none⟩) N3 c3) L := fun hq => (f5 sb hq).elim HSB4.out (fun h' => by have := blk_lt T4.out; omega)
      have C5 := blk_cell x5
      have hbase5 : base ≤ w4.heap.size := by omega
      have LB5 := Lib.hid (l5.below ((Below.refl _ _).new (.cells #[.int .i64 (-(mark + 1)), .int .i64 0, .int .i64 0, .int .u8 0, .int .i64 0, .int .i64 0, .int .i64 (-(mark + 1)), .int .i64 0, .int .i64 0, .int .u8 0, .int .i64 0, .int .i64 0, .int .i64 (-(mark + 1)), .int .i64 0, .int .i64 0, .int .u8 0, .int .i64 0, .int .i64 0] 48 (0, 0))))
      have T5 := Lib.hid t5; have H5 := Lib.hid h5; have M5 := Lib.hid m5; have FR5 := Lib.hid f5; have R5 := Lib.hid r5; have O5 := Lib.hid o5; have GL5 := Lib.hid hgl5; have SB5 := Lib.hid hsb5
      have hg1 : g1 ≠ gl := fun e => hgl5 (by simp [hfoot, Value.ownBlock, e])
      have HG1 := Lib.hid hg1
      clear t5 h5 m5 f5 r5 o5 l5 x5 hgl5 hsb5 hglB hblB hg1
      have D1 := Lib.hid (show (k + 3) * 48 ≤ 140737488355328 by omega)
      have D2 := Lib.hid (show k + 3 ≤ 9223372036854775807 by omega)
      have D3 := Lib.hid (show base ≤ (w4.alloc (.cells #[.int .i64 (-(mark + 1)), .int .i64 0, .int .i64 0, .int .u8 0, .int .i64 0, .int .i64 0, .int .i64 (-(mark + 1)), .int .i64 0, .int .i64 0, .int .u8 0, .int .i64 0, .int .i64 0, .int .i64 (-(mark + 1)), .int .i64 0, .int .i64 0, .int .u8 0, .int .i64 0, .int .i64 0] 48 (0, 0))).heap.size by rw [World.size_alloc]; omega)
      have D4 := Lib.hid (show (List.replicate k (mkSE mark)).length + 3 = k + 3 by simp)
      have D5 := Lib.hid (show ((ps ++ [(⟨some ⟨gl, 0, none⟩, k, c⟩ : Sv)]).length + 1) * 24 ≤ 140737488355328 by simp; omega)
      have D6 := Lib.hid (show (ps ++ [(⟨some ⟨gl, 0, none⟩, k, c⟩ : Sv)]).length + 1 ≤ 9223372036854775807 by simp; omega)
      have HVAL := Lib.hid hvAlt; have HVBL := Lib.hid hvBlt; clear hvAlt hvBlt
      go_upto_region 10 with (at_builtin; refine wp_appK et_edit (k + 3) rfl _ _ rfl base Edt.cells len_edit one_edit (.slice (some ⟨gl, 0, none⟩) k c) (List.replicate k (mkSE mark)) rfl LB5.out [mkSE mark, mkSE mark, mkSE mark] ⟨w4.heap.size, 0, none⟩ 3 3 rfl rfl (threeE mark w4) D4.out (by omega) D1.out D2.out D3.out ?_; intro g5 cap5 w5 ho5 hr5 hm5 hg5 hl5; have hmm5 := Mod.then_ (Mod.alloc (Value.slice (some ⟨gl, 0, none⟩) k c).ownBlock.toList w4 (.cells #[.int .i64 (-(mark + 1)), .int .i64 0, .int .i64 0, .int .u8 0, .int .i64 0, .int .i64 0, .int .i64 (-(mark + 1)), .int .i64 0, .int .i64 0, .int .u8 0, .int .i64 0, .int .i64 0, .int .i64 (-(mark + 1)), .int .i64 0, .int .i64 0, .int .u8 0, .int .i64 0, .int .i64 0] 48 (0, 0))) hm5 (fun _ h => h); have s6 := hmm5.blk (by simp [Value.ownBlock]; exact Ne.symm HGS.out) T5.out; have C6 := blk_cell s6; have F6 := blk_free s6; have LP6 := blk_lt s6; have S6 := Lib.hid s6; have HO5 := Lib.hid ho5; have HR5 := Lib.hid hr5; have HM5 := Lib.hid hmm5; have HG5 := Lib.hid hg5; have HL5 := Lib.hid hl5; have HA5 := Lib.hid (H5.out.hA.mod hmm5 (fun q hq hq' => HG1.out (by simp [Value.ownBlock] at hq hq'; omega))); have D7 := Lib.hid (Nat.le_trans hbase5 hmm5.size); clear s6 ho5 hr5 hm5 hmm5 hg5 hl5)
      have H6 := Lib.hid (H5.out.mod HM5.out (fun q hq hq' => GL5.out (by simp [Value.ownBlock] at hq'; exact hq' ▸ hq)))
      refine shE_r10 base sb (.slice (some ⟨g1, 0, none⟩) (ps.length + 1) cap1) (.slice (some ⟨g3, 0, none⟩) N3 c3) v2 v3 (mark + 1) _ _ ens L ⟨g5, 0, none⟩ (k + 3) cap5 w5 S6.out H6.out SB5.out D7.out (by simp; omega) _ _ ?_
      intro x64 x65 x66 x67 x68 x69 x70 x71 x72 x73 w7 p7
      obtain ⟨g6, N6, c6, t7, h7, m7, f7⟩ := p7
      have hgx5 : g5 = gl ∨ w4.heap.size ≤ g5 := by
        rcases HG5.out with hg | hg
        · left; simp [Value.ownBlock] at hg; exact hg.symm
        · right; rw [World.size_alloc] at hg; omega
      have hsz6 := HM5.out.size
      have hsz7 := m7.size
      have hA1lt : g1 < w4.heap.size := (H5.out.hA.lt g1 rfl).2
      have hg5A : g5 ∉ sb :: (Value.slice (some ⟨g1, 0, none⟩) (ps.length + 1) cap1).ownBlock.toList := by
        have := blk_lt HP.out
        have h1 := HG1.out
        have h2 := HGS.out
        simp [Value.ownBlock]
        rcases hgx5 with hg | hg <;> omega
      have q7 := (HO5.out.reads len_edit).mod m7 (fun q hq hq' => hg5A (by simp [Value.ownBlock] at hq; exact hq ▸ hq'))
      have hsb7 : sb ∉ hfoot (.slice (some ⟨g6, 0, none⟩) N6 c6) (.slice (some ⟨g3, 0, none⟩) N3 c3) L := fun hq => (f7 sb hq).elim SB5.out (fun h' => by have := blk_lt S6.out; omega)
      have T7 := Lib.hid t7; have H7 := Lib.hid h7; have M7 := Lib.hid m7; have FR7 := Lib.hid f7; have Q7 := Lib.hid q7; have SB7 := Lib.hid hsb7; have G5A := Lib.hid hg5A
      clear t7 h7 m7 f7 q7 hsb7 hg5A C6 F6 LP6
      go_upto_region 11 with fail
      refine last_regionE ?_
      refine shE_r11 base sb (.slice (some ⟨g6, 0, none⟩) N6 c6) (.slice (some ⟨g3, 0, none⟩) N3 c3) v2 v3 (mark + 1) _ _ ens L ⟨g5, 0, none⟩ (k + 3) cap5 (List.replicate k (mkSE mark) ++ [mkSE mark, mkSE mark, mkSE mark]) w7 T7.out H7.out SB7.out (by omega) Q7.out (by simp) (by omega) (by simp; omega) _ _ ?_
      intro x74 x75 x76 x77 x78 x79 x80 x81 x82 x83 x84 x85 w8 p8
      obtain ⟨s4, g8, N8, c8, t9, h9, m9, f9, r9, o9⟩ := p8
      have T9 := Lib.hid t9; have H9 := Lib.hid h9; have M9 := Lib.hid m9; have FR9 := Lib.hid f9; have R9 := Lib.hid r9; have O9 := Lib.hid o9
      clear t9 h9 m9 f9 r9 o9
      refine bodyPost_end (results_none rfl _ _ _) rfl ?_
      have FF1 : ∀ q ∈ hfoot (Value.slice (some ⟨g6, 0, none⟩) N6 c6) (Value.slice (some ⟨g8, 0, none⟩) N8 c8) L, q ∈ hfoot (Value.slice (some ⟨g1, 0, none⟩) (ps.length + 1) cap1) (Value.slice (some ⟨g3, 0, none⟩) N3 c3) L ∨ w5.heap.size ≤ q := fun q hq => (FR9.out q hq).elim (fun h => FR7.out q h) (fun h => Or.inr (by omega))
      have FF0 : ∀ q ∈ hfoot (Value.slice (some ⟨g1, 0, none⟩) (ps.length + 1) cap1) (Value.slice (some ⟨g3, 0, none⟩) N3 c3) L, q ∈ hfoot v0 v1 L ∨ w.heap.size ≤ q := fun q hq => (FR5.out q hq).elim (fun h => (FR4.out q h).imp id (fun h => by omega)) (fun h => Or.inr (by omega))
      have hlt1 := H5.out.flt
      have hsz8 := M9.out.size
      have hsbw := blk_lt HP.out
      have hgsb := HGS.out
      have notin : ∀ q, q ≠ sb → q ∉ hfoot (Value.slice (some ⟨g1, 0, none⟩) (ps.length + 1) cap1) (Value.slice (some ⟨g3, 0, none⟩) N3 c3) L → q ∉ sb :: (Value.slice (some ⟨g1, 0, none⟩) (ps.length + 1) cap1).ownBlock.toList ∧ q ∉ sb :: (Value.slice (some ⟨g3, 0, none⟩) N3 c3).ownBlock.toList := by
        intro q h1 h2
        refine ⟨fun h => ?_, fun h => ?_⟩
        · rcases List.mem_cons.1 h with h | h
          · exact h1 h
          · exact h2 (by simp only [hfoot, List.mem_append]; exact Or.inl (Or.inl h))
        · rcases List.mem_cons.1 h with h | h
          · exact h1 h
          · exact h2 (by simp only [hfoot, List.mem_append]; exact Or.inl (Or.inr h))
      have z5 : g5 ∉ hfoot (Value.slice (some ⟨g1, 0, none⟩) (ps.length + 1) cap1) (Value.slice (some ⟨g3, 0, none⟩) N3 c3) L := fun h1 => by
        rcases hgx5 with e | e
        · exact GL5.out (e ▸ h1)
        · have := hlt1 g5 h1; omega
      have z5s : g5 ≠ sb := by rcases hgx5 with e | e <;> omega
      have n1 : gl ∉ hfoot (Value.slice (some ⟨g6, 0, none⟩) N6 c6) (Value.slice (some ⟨g8, 0, none⟩) N8 c8) L := fun hq => (FF1 gl hq).elim GL5.out (fun h => by omega)
      have n3 : ∀ q, s3.val.ownBlock = some q → q ∉ hfoot (Value.slice (some ⟨g6, 0, none⟩) N6 c6) (Value.slice (some ⟨g8, 0, none⟩) N8 c8) L := fun q hq h => (FF1 q h).elim (O5.out q hq).2.2 (fun h' => by have := (O5.out q hq).2.1; omega)
      have n5 : g5 ∉ hfoot (Value.slice (some ⟨g6, 0, none⟩) N6 c6) (Value.slice (some ⟨g8, 0, none⟩) N8 c8) L := fun h => (FF1 g5 h).elim z5 (fun h' => by have := HL5.out; omega)
      have l8 := (HR5.out.mod M7.out (fun q hq => (notin q (by simp [Value.ownBlock] at hq; omega) (by simp [Value.ownBlock] at hq; subst hq; exact GL5.out)).1)).mod M9.out (fun q hq => (notin q (by simp [Value.ownBlock] at hq; omega) (by simp [Value.ownBlock] at hq; subst hq; exact GL5.out)).2)
      have t8 := ((R5.out.mod HM5.out (fun q hq hq' => by have := (O5.out q hq).1; simp [Value.ownBlock] at hq'; omega)).mod M7.out (fun q hq => (notin q (by have := (O5.out q hq).1; omega) (O5.out q hq).2.2).1)).mod M9.out (fun q hq => (notin q (by have := (O5.out q hq).1; omega) (O5.out q hq).2.2).2)
      have hrep : List.replicate k (mkSE mark) ++ [mkSE mark, mkSE mark, mkSE mark] = List.replicate (k + 3) (mkSE mark) := by rw [List.replicate_succ', List.replicate_succ', List.replicate_succ']; simp
      have x8 := Q7.out.mod M9.out (fun q hq => (notin q (by simp [Value.ownBlock] at hq; omega) (by simp [Value.ownBlock] at hq; subst hq; exact z5)).2)
      have r8 := R9.out
      rw [hrep] at x8 r8
      have nf : ∀ q, q ∉ hfoot (Value.slice (some ⟨g6, 0, none⟩) N6 c6) (Value.slice (some ⟨g8, 0, none⟩) N8 c8) L → (Value.slice (some ⟨g6, 0, none⟩) N6 c6).ownBlock ≠ some q ∧ (Value.slice (some ⟨g8, 0, none⟩) N8 c8).ownBlock ≠ some q := fun q hq => ⟨fun e => hq (by simp only [hfoot, List.mem_append]; exact Or.inl (Or.inl (by simp [e]))), fun e => hq (by simp only [hfoot, List.mem_append]; exact Or.inl (Or.inr (by simp [e])))⟩
      have a1 := H9.out.addE (s := ⟨some ⟨gl, 0, none⟩, k, c⟩) (fun q hq => by simp [Value.ownBlock] at hq; subst hq; exact ⟨(nf _ n1).1, (nf _ n1).2, by omega⟩) l8
      have a2 := a1.addE (s := s3) (fun q hq => ⟨(nf _ (n3 q hq)).1, (nf _ (n3 q hq)).2, by have := (O5.out q hq).2.1; omega⟩) t8
      have a3 := a2.addE (s := ⟨some ⟨g5, 0, none⟩, k + 3, cap5⟩) (fun q hq => by simp [Value.ownBlock] at hq; subst hq; exact ⟨(nf _ n5).1, (nf _ n5).2, by have := HL5.out; omega⟩) x8
      have a4 := a3.addE (s := s4) (fun q hq => ⟨(nf _ (O9.out q hq).2.2).1, (nf _ (O9.out q hq).2.2).2, (O9.out q hq).2.1⟩) r8
      simp only [List.append_assoc, List.cons_append, List.nil_append] at a4
      have hfin : ∀ q ∈ hfoot (Value.slice (some ⟨g6, 0, none⟩) N6 c6) (Value.slice (some ⟨g8, 0, none⟩) N8 c8) (L ++ ((⟨some ⟨gl, 0, none⟩, k, c⟩ : Sv).val.ownBlock.toList ++ (s3.val.ownBlock.toList ++ ((⟨some ⟨g5, 0, none⟩, k + 3, cap5⟩ : Sv).val.ownBlock.toList ++ s4.val.ownBlock.toList)))), q ∈ gl :: hfoot v0 v1 L ∨ w3.heap.size ≤ q ∨ (q ∈ hfoot (Value.slice (some ⟨g6, 0, none⟩) N6 c6) (Value.slice (some ⟨g8, 0, none⟩) N8 c8) L ∧ w.heap.size ≤ q) := by
        intro q hq
        have hq2 : q ∈ hfoot (Value.slice (some ⟨g6, 0, none⟩) N6 c6) (Value.slice (some ⟨g8, 0, none⟩) N8 c8) L ∨ q = gl ∨ s3.val.ownBlock = some q ∨ q = g5 ∨ s4.val.ownBlock = some q := by
          simp only [hfoot, List.mem_append] at hq ⊢
          rcases hq with hq | hq | hq | hq | hq | hq
          · exact Or.inl (Or.inl hq)
          · exact Or.inl (Or.inr hq)
          · exact Or.inr (Or.inl (by simpa [Value.ownBlock] using hq))
          · exact Or.inr (Or.inr (Or.inl (by simpa using hq)))
          · exact Or.inr (Or.inr (Or.inr (Or.inl (by simpa [Value.ownBlock] using hq))))
          · exact Or.inr (Or.inr (Or.inr (Or.inr (by simpa using hq))))
        rcases hq2 with h | h | h | h | h
        · rcases FF1 q h with h' | h'
          · rcases FF0 q h' with h'' | h''
            · exact Or.inl (List.mem_cons_of_mem _ h'')
            · exact Or.inr (Or.inr ⟨h, h''⟩)
          · exact Or.inr (Or.inl (by omega))
        · exact Or.inl (by rw [h]; simp)
        · exact Or.inr (Or.inl (O5.out q h).1)
        · rcases hgx5 with e | e
          · exact Or.inl (by rw [h, e]; simp)
          · exact Or.inr (Or.inl (by omega))
        · exact Or.inr (Or.inl (by have := (O9.out q h).1; omega))
      refine ⟨rfl, _, _, _, _, _, _, _, T9.out, a4, ?_, ?_, ?_⟩
      · have mA : ∀ q ∈ (Value.slice (some ⟨g1, 0, none⟩) (ps.length + 1) cap1).ownBlock.toList, q ∈ hfoot (Value.slice (some ⟨g1, 0, none⟩) (ps.length + 1) cap1) (Value.slice (some ⟨g3, 0, none⟩) N3 c3) L := fun q hq => by simp only [hfoot, List.mem_append]; exact Or.inl (Or.inl hq)
        have mB : ∀ q ∈ (Value.slice (some ⟨g3, 0, none⟩) N3 c3).ownBlock.toList, q ∈ hfoot (Value.slice (some ⟨g1, 0, none⟩) (ps.length + 1) cap1) (Value.slice (some ⟨g3, 0, none⟩) N3 c3) L := fun q hq => by simp only [hfoot, List.mem_append]; exact Or.inl (Or.inr hq)
        have up : ∀ q ∈ hfoot (Value.slice (some ⟨g1, 0, none⟩) (ps.length + 1) cap1) (Value.slice (some ⟨g3, 0, none⟩) N3 c3) L, q ∈ sb :: gl :: hfoot v0 v1 L ∨ w.heap.size ≤ q := fun q hq => (FF0 q hq).imp (fun h => List.mem_cons_of_mem _ (List.mem_cons_of_mem _ h)) id
        have glm : ∀ (n' c' : Nat), ∀ q ∈ (Value.slice (some ⟨gl, 0, none⟩) n' c').ownBlock.toList, q ∈ sb :: gl :: hfoot v0 v1 L ∨ w.heap.size ≤ q := fun n' c' q hq => Or.inl (by simp [Value.ownBlock] at hq; simp [hq])
        have u1 : Mod (sb :: gl :: hfoot v0 v1 L) w wb := MB.out.weaken (fun q hq => Or.inl (by simp at hq; simp [hq]))
        have u2 := u1.trans HM.out (glm _ _)
        have u3 := u2.trans M4.out (fun q hq => Or.inl (by
          rcases List.mem_cons.1 hq with h | h
          · simp [h]
          · exact List.mem_cons_of_mem _ (List.mem_cons_of_mem _ (by simp only [hfoot, List.mem_append]; exact Or.inl (Or.inl h)))))
        have u4 := u3.trans M5.out (fun q hq => Or.inl (by
          rcases List.mem_cons.1 hq with h | h
          · simp [h]
          · exact List.mem_cons_of_mem _ (List.mem_cons_of_mem _ (by simp only [hfoot, List.mem_append]; exact Or.inl (Or.inr h)))))
        have u5 := u4.trans HM5.out (glm _ _)
        have u6 := u5.trans M7.out (fun q hq => by
          rcases List.mem_cons.1 hq with h | h
          · exact Or.inl (by simp [h])
          · exact up q (mA q h))
        exact u6.trans M9.out (fun q hq => by
          rcases List.mem_cons.1 hq with h | h
          · exact Or.inl (by simp [h])
          · exact up q (mB q h))
      · intro hq
        rcases hfin sb hq with h | h | h
        · rcases List.mem_cons.1 h with h | h
          · exact hgsb h.symm
          · exact HSB.out h
        · omega
        · omega
      · intro q hq
        rcases hfin q hq with h | h | h
        · exact Or.inl h
        · exact Or.inr (by omega)
        · exact Or.inr h.2
end Go.Proofs.YtjeidklpomekdaaDoor

/- The law's shelf: (*jotter/jotterlaw12.Shelf).elems: its two drawn regions. -/
namespace Go.Proofs.YtjeidklpomekdaaDoor
open Go.RowKit

noncomputable def shRegD (n : Nat) : Code := ((Tryd.f12.body.bind (findReg n)).getD .skip)

def PushD (base sb : Nat) (w : World) (v0 v1 v2 v3 : Value) (mark : Int) (ps qs : List Sv) (ens : List (Sv × List Elm)) (L : List Nat) (xs : List Elm) (w' : World) : Prop :=
  ∃ (s : Sv) (g N cap : Nat), w'.heap[sb]? = some (shBlk v0 v1 v2 (.slice (some ⟨g, 0, none⟩) N cap) mark) ∧ Half w' base 25 Elm.cells 3 v2 (.slice (some ⟨g, 0, none⟩) N cap) ps (qs ++ [s]) ens L ∧ Mod (sb :: v3.ownBlock.toList) w w' ∧
    (∀ q ∈ hfoot v2 (.slice (some ⟨g, 0, none⟩) N cap) L, q ∈ hfoot v2 v3 L ∨ w.heap.size ≤ q) ∧ SlR w' Elm.cells 3 s.val xs ∧ (∀ q, s.val.ownBlock = some q → w.heap.size ≤ q ∧ q < w'.heap.size ∧ q ∉ hfoot v2 (.slice (some ⟨g, 0, none⟩) N cap) L)
theorem pushD_end {base sb : Nat} {w w1 w2 : World} {v0 v1 v2 v3 : Value} {mark : Int} {ps qs : List Sv} {ens : List (Sv × List Elm)} {L : List Nat} {xs : List Elm} {s : Sv} {g N cap : Nat} (hp : w.heap[sb]? = some (shBlk v0 v1 v2 v3 mark)) (h : Half w base 25 Elm.cells 3 v2 v3 ps qs ens L) (hsb : sb ∉ hfoot v2 v3 L)
    (hb1 : Below w.heap.size w w1) (hs : SlO w1 w.heap.size 50 Elm.cells 3 s.val xs) (hm : Mod v3.ownBlock.toList w1 w2) (ho : SlO w2 base 25 Sv.cells 1 (.slice (some ⟨g, 0, none⟩) N cap) (qs ++ [s])) (hg : v3.ownBlock = some g ∨ w1.heap.size ≤ g) :
    PushD base sb w v0 v1 v2 v3 mark ps qs ens L xs (w2.setCell ⟨sb, 3, none⟩ (.slice (some ⟨g, 0, none⟩) N cap)) := by
  have hsz := hb1.size
  have hlt : sb < w.heap.size := blk_lt hp
  have hsl := fun q (hq : s.val.ownBlock = some q) => hs.lt q hq
  have h2 := (h.below hb1).pushB hm ho hg
  have hsbB : sb ∉ v3.ownBlock.toList := fun hq => hsb (by simp [hfoot]; exact Or.inr (Or.inl (by simpa using hq)))
  have hnew : ∀ q ∈ hfoot v2 (.slice (some ⟨g, 0, none⟩) N cap) L, q ∈ hfoot v2 v3 L ∨ (w.heap.size ≤ q ∧ w1.heap.size ≤ q) := by
    intro q hq
    simp only [hfoot, List.mem_append] at hq ⊢
    rcases hq with (hq | hq) | hq
    · exact Or.inl (Or.inl (Or.inl hq))
    · simp [Value.ownBlock] at hq; subst hq
      rcases hg with hg | hg
      · exact Or.inl (Or.inl (Or.inr (by simp [hg])))
      · exact Or.inr ⟨by omega, hg⟩
    · exact Or.inl (Or.inr hq)
  have hms := Mod.setCell w2 sb 3 (.slice (some ⟨g, 0, none⟩) N cap)
  have hsb' : sb ∉ hfoot v2 (.slice (some ⟨g, 0, none⟩) N cap) L := fun hq => (hnew sb hq).elim hsb (fun h' => by omega)
  refine ⟨s, g, N, cap, blk_set (hm.blk hsbB (hb1.blk hp)) 3 _, h2.mod hms (fun q hq hq' => hsb' (by simp at hq'; exact hq' ▸ hq)), ?_, fun q hq => (hnew q hq).imp id (fun h => h.1), ?_, ?_⟩
  · exact ((Mod.of_below (L := sb :: v3.ownBlock.toList) hb1).then_ (hm.weaken (fun q hq => Or.inl (List.mem_cons_of_mem _ hq))) (fun _ h => h)).then_ (hms.weaken (fun q hq => Or.inl (by simp at hq; simp [hq]))) (fun _ h => h)
  · refine ((hs.reads len_elem).mod hm (fun q hq hq' => ?_)).mod hms (fun q hq hq' => ?_)
    · have h1 := (hsl q hq).1
      have h2 := (h.hB.lt q (by simpa using hq')).2
      omega
    · have h1 := (hsl q hq).1
      simp at hq'; omega
  · intro q hq
    have h1 := hsl q hq
    have h3 := hm.size
    have h4 := hms.size
    refine ⟨h1.1, by omega, fun hq' => (hnew q hq').elim (fun h5 => by have := h.flt q h5; omega) (fun h5 => by omega)⟩

set_option maxRecDepth 100000 in
set_option maxHeartbeats 3200000 in
theorem shD_r8 {u2 u3 u4 u5 u6 u7 u8 u9 u10 u11 u12 u13 u14 u15 u16 u17 u18 u19 u20 u21 u22 u23 u24 u25 u26 u27 u28 u29 u30 u31 u32 u33 u34 u35 u36 u37 u38 u39 u40 u41 u42 u43 u44 u45 u46 u47 u48 u49 u50 u51 u52 u53 u54 u55 u56 u57 u58 u59 u60 u61 u62 u63 u64 u65 u66 u67 u68 u69 u70 u71 u72 u73 u74 u75 u76 u77 u78 u79 u80 u81 u82 u83 u84 u85 : Value} (base sb : Nat) (v0 v1 v2 v3 : Value) (mark : Int) (ps qs : List Sv) (ens : List (Sv × List Elm)) (L : List Nat) (ad : Addr) (n c : Nat) (xs : List Elm) (w : World) (hp : w.heap[sb]? = some (shBlk v0 v1 v2 v3 mark)) (h : Half w base 25 Elm.cells 3 v2 v3 ps qs ens L) (hsb : sb ∉ hfoot v2 v3 L) (hbase : base ≤ w.heap.size) (hs : SlR w Elm.cells 3 (.slice (some ad) n c) xs) (hn : xs.length = n) (hn2 : n ≤ 2932031007335) (hq : qs.length ≤ 1000) (K : Act → World → Prop) (Post : Ending → World → Prop)
    (hK : ∀ (v46 v47 v48 v49 v50 v51 v52 v53 v54 v55 v56 v57 : Value) (w' : World), PushD base sb w v0 v1 v2 v3 mark ps qs ens L xs w' → K ⟨List.toArray (.pointer (some ⟨sb, 0, none⟩) :: .slice (some ad) n c :: u2 :: u3 :: u4 :: u5 :: u6 :: u7 :: u8 :: u9 :: u10 :: u11 :: u12 :: u13 :: u14 :: u15 :: u16 :: u17 :: u18 :: u19 :: u20 :: u21 :: u22 :: u23 :: u24 :: u25 :: u26 :: u27 :: u28 :: u29 :: u30 :: u31 :: u32 :: u33 :: u34 :: u35 :: u36 :: u37 :: u38 :: u39 :: u40 :: u41 :: u42 :: u43 :: u44 :: u45 :: v46 :: v47 :: v48 :: v49 :: v50 :: v51 :: v52 :: v53 :: v54 :: v55 :: v56 :: v57 :: u58 :: u59 :: u60 :: u61 :: u62 :: u63 :: u64 :: u65 :: u66 :: u67 :: u68 :: u69 :: u70 :: u71 :: u72 :: u73 :: u74 :: u75 :: u76 :: u77 :: u78 :: u79 :: u80 :: u81 :: u82 :: u83 :: u84 :: u85 :: []), []⟩ w') :
    Code.wp Tryd.prog (shRegD 8) (Exit.then K (bodyPost Tryd.prog Tryd.f12 Post)) ⟨List.toArray (.pointer (some ⟨sb, 0, none⟩) :: .slice (some ad) n c :: u2 :: u3 :: u4 :: u5 :: u6 :: u7 :: u8 :: u9 :: u10 :: u11 :: u12 :: u13 :: u14 :: u15 :: u16 :: u17 :: u18 :: u19 :: u20 :: u21 :: u22 :: u23 :: u24 :: u25 :: u26 :: u27 :: u28 :: u29 :: u30 :: u31 :: u32 :: u33 :: u34 :: u35 :: u36 :: u37 :: u38 :: u39 :: u40 :: u41 :: u42 :: u43 :: u44 :: u45 :: u46 :: u47 :: u48 :: u49 :: u50 :: u51 :: u52 :: u53 :: u54 :: u55 :: u56 :: u57 :: u58 :: u59 :: u60 :: u61 :: u62 :: u63 :: u64 :: u65 :: u66 :: u67 :: u68 :: u69 :: u70 :: u71 :: u72 :: u73 :: u74 :: u75 :: u76 :: u77 :: u78 :: u79 :: u80 :: u81 :: u82 :: u83 :: u84 :: u85 :: []), []⟩ w := by
  conv => arg 2; whnf

  obtain ⟨aB, cB, hvB, hnB⟩ := h.hB.len
  have C := blk_cell hp; have F := blk_free hp; have LP := blk_lt hp
  rw [hvB] at C
  have HP := Lib.hid hp; have HH := Lib.hid h; have HSB := Lib.hid hsb; have HS := Lib.hid hs; have HN := Lib.hid hn; have HVB := Lib.hid hvB
  have HNR := Lib.hid (show sb ∉ v3.ownBlock.toList from fun hq => hsb (by simp [hfoot]; exact Or.inr (Or.inl (by simpa using hq))))
  have HD := Lib.hid (show SlR w.drew Elm.cells 3 (.slice (some ad) n c) xs from hs.below (Below.refl _ _).drew)
  clear h hsb hs hn hp hvB hnB
  have B1 := Lib.hid (show (qs.length + 1) * 24 ≤ 140737488355328 by omega)
  have B2 := Lib.hid (show qs.length + 1 ≤ 9223372036854775807 by omega)
  have B3 := Lib.hid (show n * 24 ≤ 140737488355328 by omega)
  have B4 := Lib.hid (show n ≤ 9223372036854775807 by omega)
  go_region_law (first
    | (refine step_app_new et_elem (W := w.drew) w.heap.size rfl (.tmp 51) (.tmp 52) rfl Elm.cells len_elem one_elem rfl rfl xs ad n c rfl HN.out HD.out B3.out B4.out ?_; intro ao c1 w1 ho1 hb1; have hbt : Below w.heap.size w w1 := (Below.refl _ _).drew.then_ hb1; have s1 := hbt.blk HP.out; have C1 := blk_cell s1; have F1 := blk_free s1; have LP1 := blk_lt s1; rw [HVB.out] at C1; have HO1 := Lib.hid ho1; have BT := Lib.hid hbt; have S1 := Lib.hid s1; have HB1 := Lib.hid (HH.out.hB.below hbt); have B5 := Lib.hid (Nat.le_trans hbase hbt.size); clear ho1 hb1 hbt s1)
    | (refine step_app1N et_sd (W := w1) (qs.length + 1) rfl (.tmp 50) (.tmp 54) rfl base Sv.cells len_sv one_sv v3 qs (by exact HVB.out.symm) HB1.out (⟨ao, n, c1⟩ : Sv) _ rfl w1.heap.size rfl rfl rfl B1.out B2.out B5.out ?_; intro g cap w2 ho2 hm2 hg2 hlt2; have s2 := hm2.blk HNR.out S1.out; have C2 := blk_cell s2; have F2 := blk_free s2; have LP2 := blk_lt s2; have S2 := Lib.hid s2; have HO2 := Lib.hid ho2; have HM2 := Lib.hid hm2; have HG2 := Lib.hid hg2; clear s2 ho2 hm2 hg2))
  all_goals
    refine hK _ _ _ _ _ _ _ _ _ _ _ _ _ ?_
    exact pushD_end (s := ⟨ao, n, c1⟩) HP.out HH.out HSB.out BT.out HO1.out HM2.out HO2.out HG2.out

set_option maxRecDepth 100000 in
set_option maxHeartbeats 3200000 in
theorem shD_r11 {u1 u2 u3 u4 u5 u7 u8 u9 u10 u11 u12 u13 u14 u15 u16 u17 u18 u19 u20 u21 u22 u23 u24 u25 u26 u27 u28 u29 u30 u31 u32 u33 u34 u35 u36 u37 u38 u39 u40 u41 u42 u43 u44 u45 u46 u47 u48 u49 u50 u51 u52 u53 u54 u55 u56 u57 u58 u59 u60 u61 u62 u63 u64 u65 u66 u67 u68 u69 u70 u71 u72 u73 u74 u75 u76 u77 u78 u79 u80 u81 u82 u83 u84 u85 : Value} (base sb : Nat) (v0 v1 v2 v3 : Value) (mark : Int) (ps qs : List Sv) (ens : List (Sv × List Elm)) (L : List Nat) (ad : Addr) (n c : Nat) (xs : List Elm) (w : World) (hp : w.heap[sb]? = some (shBlk v0 v1 v2 v3 mark)) (h : Half w base 25 Elm.cells 3 v2 v3 ps qs ens L) (hsb : sb ∉ hfoot v2 v3 L) (hbase : base ≤ w.heap.size) (hs : SlR w Elm.cells 3 (.slice (some ad) n c) xs) (hn : xs.length = n) (hn2 : n ≤ 2932031007335) (hq : qs.length ≤ 1000) (K : Act → World → Prop) (Post : Ending → World → Prop)
    (hK : ∀ (v74 v75 v76 v77 v78 v79 v80 v81 v82 v83 v84 v85 : Value) (w' : World), PushD base sb w v0 v1 v2 v3 mark ps qs ens L xs w' → K ⟨List.toArray (.pointer (some ⟨sb, 0, none⟩) :: u1 :: u2 :: u3 :: u4 :: u5 :: .slice (some ad) n c :: u7 :: u8 :: u9 :: u10 :: u11 :: u12 :: u13 :: u14 :: u15 :: u16 :: u17 :: u18 :: u19 :: u20 :: u21 :: u22 :: u23 :: u24 :: u25 :: u26 :: u27 :: u28 :: u29 :: u30 :: u31 :: u32 :: u33 :: u34 :: u35 :: u36 :: u37 :: u38 :: u39 :: u40 :: u41 :: u42 :: u43 :: u44 :: u45 :: u46 :: u47 :: u48 :: u49 :: u50 :: u51 :: u52 :: u53 :: u54 :: u55 :: u56 :: u57 :: u58 :: u59 :: u60 :: u61 :: u62 :: u63 :: u64 :: u65 :: u66 :: u67 :: u68 :: u69 :: u70 :: u71 :: u72 :: u73 :: v74 :: v75 :: v76 :: v77 :: v78 :: v79 :: v80 :: v81 :: v82 :: v83 :: v84 :: v85 :: []), []⟩ w') :
    Code.wp Tryd.prog (shRegD 11) (Exit.then K (bodyPost Tryd.prog Tryd.f12 Post)) ⟨List.toArray (.pointer (some ⟨sb, 0, none⟩) :: u1 :: u2 :: u3 :: u4 :: u5 :: .slice (some ad) n c :: u7 :: u8 :: u9 :: u10 :: u11 :: u12 :: u13 :: u14 :: u15 :: u16 :: u17 :: u18 :: u19 :: u20 :: u21 :: u22 :: u23 :: u24 :: u25 :: u26 :: u27 :: u28 :: u29 :: u30 :: u31 :: u32 :: u33 :: u34 :: u35 :: u36 :: u37 :: u38 :: u39 :: u40 :: u41 :: u42 :: u43 :: u44 :: u45 :: u46 :: u47 :: u48 :: u49 :: u50 :: u51 :: u52 :: u53 :: u54 :: u55 :: u56 :: u57 :: u58 :: u59 :: u60 :: u61 :: u62 :: u63 :: u64 :: u65 :: u66 :: u67 :: u68 :: u69 :: u70 :: u71 :: u72 :: u73 :: u74 :: u75 :: u76 :: u77 :: u78 :: u79 :: u80 :: u81 :: u82 :: u83 :: u84 :: u85 :: []), []⟩ w := by
  conv => arg 2; whnf

  obtain ⟨aB, cB, hvB, hnB⟩ := h.hB.len
  have C := blk_cell hp; have F := blk_free hp; have LP := blk_lt hp
  rw [hvB] at C
  have HP := Lib.hid hp; have HH := Lib.hid h; have HSB := Lib.hid hsb; have HS := Lib.hid hs; have HN := Lib.hid hn; have HVB := Lib.hid hvB
  have HNR := Lib.hid (show sb ∉ v3.ownBlock.toList from fun hq => hsb (by simp [hfoot]; exact Or.inr (Or.inl (by simpa using hq))))
  have HD := Lib.hid (show SlR w.drew Elm.cells 3 (.slice (some ad) n c) xs from hs.below (Below.refl _ _).drew)
  clear h hsb hs hn hp hvB hnB
  have B1 := Lib.hid (show (qs.length + 1) * 24 ≤ 140737488355328 by omega)
  have B2 := Lib.hid (show qs.length + 1 ≤ 9223372036854775807 by omega)
  have B3 := Lib.hid (show n * 24 ≤ 140737488355328 by omega)
  have B4 := Lib.hid (show n ≤ 9223372036854775807 by omega)
  go_region_law (first
    | (refine step_app_new et_elem (W := w.drew) w.heap.size rfl (.tmp 79) (.tmp 80) rfl Elm.cells len_elem one_elem rfl rfl xs ad n c rfl HN.out HD.out B3.out B4.out ?_; intro ao c1 w1 ho1 hb1; have hbt : Below w.heap.size w w1 := (Below.refl _ _).drew.then_ hb1; have s1 := hbt.blk HP.out; have C1 := blk_cell s1; have F1 := blk_free s1; have LP1 := blk_lt s1; rw [HVB.out] at C1; have HO1 := Lib.hid ho1; have BT := Lib.hid hbt; have S1 := Lib.hid s1; have HB1 := Lib.hid (HH.out.hB.below hbt); have B5 := Lib.hid (Nat.le_trans hbase hbt.size); clear ho1 hb1 hbt s1)
    | (refine step_app1N et_sd (W := w1) (qs.length + 1) rfl (.tmp 78) (.tmp 82) rfl base Sv.cells len_sv one_sv v3 qs (by exact HVB.out.symm) HB1.out (⟨ao, n, c1⟩ : Sv) _ rfl w1.heap.size rfl rfl rfl B1.out B2.out B5.out ?_; intro g cap w2 ho2 hm2 hg2 hlt2; have s2 := hm2.blk HNR.out S1.out; have C2 := blk_cell s2; have F2 := blk_free s2; have LP2 := blk_lt s2; have S2 := Lib.hid s2; have HO2 := Lib.hid ho2; have HM2 := Lib.hid hm2; have HG2 := Lib.hid hg2; clear s2 ho2 hm2 hg2))
  all_goals
    refine hK _ _ _ _ _ _ _ _ _ _ _ _ _ ?_
    exact pushD_end (s := ⟨ao, n, c1⟩) HP.out HH.out HSB.out BT.out HO1.out HM2.out HO2.out HG2.out

end Go.Proofs.YtjeidklpomekdaaDoor

/- The law's shelf: (*jotter/jotterlaw12.Shelf).elems. -/
namespace Go.Proofs.YtjeidklpomekdaaDoor
open Go.RowKit


theorem last_regionD {P : Program} {c : Code} {F : Func} {Post : Ending → World → Prop} {a : Act} {w : World} (h : c.wp P (Exit.then (fun a w => bodyPost P F Post .normal a w) (bodyPost P F Post)) a w) : c.wp P (bodyPost P F Post) a w := wp_mono h (by intro e a w h; cases e <;> exact h)
abbrev mkSD (mark : Int) : Elm := (⟨0, -(mark + 1), 0⟩ : Elm)
def FillD (w : World) (base : Nat) (lv : Value) (xs : List Elm) (m : Elm) (k : Nat) (wr : World) : Prop :=
  SlO wr base 50 Elm.cells 3 lv (List.replicate k m ++ xs.drop k) ∧ Mod lv.ownBlock.toList w wr
theorem threeD (mark : Int) (w : World) : ∀ j u, (([mkSD mark, mkSD mark, mkSD mark] : List Elm).flatMap Elm.cells)[j]? = some u → (w.alloc (.cells #[.int .u8 0, .int .i64 (-(mark + 1)), .int .i64 0, .int .u8 0, .int .i64 (-(mark + 1)), .int .i64 0, .int .u8 0, .int .i64 (-(mark + 1)), .int .i64 0] 50 (0, 0))).cell? ((⟨w.heap.size, 0, none⟩ : Addr).add j) = some u := by
  intro j u hu
  rw [addr_add0, blk_cell (blk_new w _), ← hu]
  simp [Elm.cells]

theorem pushAD_end {base sb : Nat} {w w2 : World} {v0 v1 v2 v3 : Value} {mark : Int} {ps qs : List Sv} {ens : List (Sv × List Elm)} {L : List Nat} {s : Sv} {g N cap : Nat} (hp : w.heap[sb]? = some (shBlk v0 v1 v2 v3 (mark))) (h : Half w base 25 Elm.cells 3 v2 v3 ps qs ens L) (hsb : sb ∉ hfoot v2 v3 L)
    (hm : Mod v2.ownBlock.toList w w2) (ho : SlO w2 base 25 Sv.cells 1 (.slice (some ⟨g, 0, none⟩) N cap) (ps ++ [s])) (hg : v2.ownBlock = some g ∨ w.heap.size ≤ g) :
    (w2.setCell ⟨sb, 2, none⟩ (.slice (some ⟨g, 0, none⟩) N cap)).heap[sb]? = some (shBlk v0 v1 (.slice (some ⟨g, 0, none⟩) N cap) v3 (mark)) ∧ Half (w2.setCell ⟨sb, 2, none⟩ (.slice (some ⟨g, 0, none⟩) N cap)) base 25 Elm.cells 3 (.slice (some ⟨g, 0, none⟩) N cap) v3 (ps ++ [s]) qs ens L ∧
      Mod (sb :: v2.ownBlock.toList) w (w2.setCell ⟨sb, 2, none⟩ (.slice (some ⟨g, 0, none⟩) N cap)) ∧ (∀ q ∈ hfoot (.slice (some ⟨g, 0, none⟩) N cap) v3 L, q ∈ hfoot v2 v3 L ∨ w.heap.size ≤ q) := by
  have hlt : sb < w.heap.size := blk_lt hp
  have h2 := h.pushA hm ho hg
  have hsbA : sb ∉ v2.ownBlock.toList := fun hq => hsb (by simp [hfoot]; exact Or.inl (by simpa using hq))
  have hnew : ∀ q ∈ hfoot (.slice (some ⟨g, 0, none⟩) N cap) v3 L, q ∈ hfoot v2 v3 L ∨ w.heap.size ≤ q := by
    intro q hq
    simp only [hfoot, List.mem_append] at hq ⊢
    rcases hq with (hq | hq) | hq
    · simp [Value.ownBlock] at hq; subst hq
      rcases hg with hg | hg
      · exact Or.inl (Or.inl (Or.inl (by simp [hg])))
      · exact Or.inr hg
    · exact Or.inl (Or.inl (Or.inr hq))
    · exact Or.inl (Or.inr hq)
  have hms := Mod.setCell w2 sb 2 (.slice (some ⟨g, 0, none⟩) N cap)
  have hsb' : sb ∉ hfoot (.slice (some ⟨g, 0, none⟩) N cap) v3 L := fun hq => (hnew sb hq).elim hsb (fun h' => by omega)
  refine ⟨blk_set (hm.blk hsbA hp) 2 _, h2.mod hms (fun q hq hq' => hsb' (by simp at hq'; exact hq' ▸ hq)), ?_, hnew⟩
  exact (hm.weaken (fun q hq => Or.inl (List.mem_cons_of_mem _ hq))).then_ (hms.weaken (fun q hq => Or.inl (by simp at hq; simp [hq]))) (fun _ h => h)

def PushAD (base sb : Nat) (w : World) (v0 v1 v2 v3 : Value) (mark : Int) (ps qs : List Sv) (ens : List (Sv × List Elm)) (L : List Nat) (s : Sv) (w' : World) : Prop :=
  ∃ (g N cap : Nat), w'.heap[sb]? = some (shBlk v0 v1 (.slice (some ⟨g, 0, none⟩) N cap) v3 (mark)) ∧ Half w' base 25 Elm.cells 3 (.slice (some ⟨g, 0, none⟩) N cap) v3 (ps ++ [s]) qs ens L ∧ Mod (sb :: v2.ownBlock.toList) w w' ∧ (∀ q ∈ hfoot (.slice (some ⟨g, 0, none⟩) N cap) v3 L, q ∈ hfoot v2 v3 L ∨ w.heap.size ≤ q)

set_option maxRecDepth 100000 in
set_option maxHeartbeats 3200000 in
theorem shD_r10 {u1 u2 u3 u4 u5 u7 u8 u9 u10 u11 u12 u13 u14 u15 u16 u17 u18 u19 u20 u21 u22 u23 u24 u25 u26 u27 u28 u29 u30 u31 u32 u33 u34 u35 u36 u37 u38 u39 u40 u41 u42 u43 u44 u45 u46 u47 u48 u49 u50 u51 u52 u53 u54 u55 u56 u57 u58 u59 u60 u61 u62 u63 u64 u65 u66 u67 u68 u69 u70 u71 u72 u73 u74 u75 u76 u77 u78 u79 u80 u81 u82 u83 u84 u85 : Value} (base sb : Nat) (v0 v1 v2 v3 : Value) (mark : Int) (ps qs : List Sv) (ens : List (Sv × List Elm)) (L : List Nat) (ad : Addr) (n c : Nat) (w : World) (hp : w.heap[sb]? = some (shBlk v0 v1 v2 v3 (mark))) (h : Half w base 25 Elm.cells 3 v2 v3 ps qs ens L) (hsb : sb ∉ hfoot v2 v3 L) (hbase : base ≤ w.heap.size) (hq : ps.length ≤ 1000) (K : Act → World → Prop) (Post : Ending → World → Prop)
    (hK : ∀ (v64 v65 v66 v67 v68 v69 v70 v71 v72 v73 : Value) (w' : World), PushAD base sb w v0 v1 v2 v3 mark ps qs ens L ⟨some ad, n, c⟩ w' → K ⟨List.toArray (.pointer (some ⟨sb, 0, none⟩) :: u1 :: u2 :: u3 :: u4 :: u5 :: .slice (some ad) n c :: u7 :: u8 :: u9 :: u10 :: u11 :: u12 :: u13 :: u14 :: u15 :: u16 :: u17 :: u18 :: u19 :: u20 :: u21 :: u22 :: u23 :: u24 :: u25 :: u26 :: u27 :: u28 :: u29 :: u30 :: u31 :: u32 :: u33 :: u34 :: u35 :: u36 :: u37 :: u38 :: u39 :: u40 :: u41 :: u42 :: u43 :: u44 :: u45 :: u46 :: u47 :: u48 :: u49 :: u50 :: u51 :: u52 :: u53 :: u54 :: u55 :: u56 :: u57 :: u58 :: u59 :: u60 :: u61 :: u62 :: u63 :: v64 :: v65 :: v66 :: v67 :: v68 :: v69 :: v70 :: v71 :: v72 :: v73 :: u74 :: u75 :: u76 :: u77 :: u78 :: u79 :: u80 :: u81 :: u82 :: u83 :: u84 :: u85 :: []), []⟩ w') :
    Code.wp Tryd.prog (shRegD 10) (Exit.then K (bodyPost Tryd.prog Tryd.f12 Post)) ⟨List.toArray (.pointer (some ⟨sb, 0, none⟩) :: u1 :: u2 :: u3 :: u4 :: u5 :: .slice (some ad) n c :: u7 :: u8 :: u9 :: u10 :: u11 :: u12 :: u13 :: u14 :: u15 :: u16 :: u17 :: u18 :: u19 :: u20 :: u21 :: u22 :: u23 :: u24 :: u25 :: u26 :: u27 :: u28 :: u29 :: u30 :: u31 :: u32 :: u33 :: u34 :: u35 :: u36 :: u37 :: u38 :: u39 :: u40 :: u41 :: u42 :: u43 :: u44 :: u45 :: u46 :: u47 :: u48 :: u49 :: u50 :: u51 :: u52 :: u53 :: u54 :: u55 :: u56 :: u57 :: u58 :: u59 :: u60 :: u61 :: u62 :: u63 :: u64 :: u65 :: u66 :: u67 :: u68 :: u69 :: u70 :: u71 :: u72 :: u73 :: u74 :: u75 :: u76 :: u77 :: u78 :: u79 :: u80 :: u81 :: u82 :: u83 :: u84 :: u85 :: []), []⟩ w := by
  conv => arg 2; whnf

  obtain ⟨aA, cA, hvA, hnA⟩ := h.hA.len
  have C := blk_cell hp; have F := blk_free hp; have LP := blk_lt hp
  rw [hvA] at C
  have HP := Lib.hid hp; have HH := Lib.hid h; have HSB := Lib.hid hsb; have HVA := Lib.hid hvA
  have HNR := Lib.hid (show sb ∉ v2.ownBlock.toList from fun hq => hsb (by simp [hfoot]; exact Or.inl (by simpa using hq)))
  clear h hsb hp hvA hnA
  have B1 := Lib.hid (show (ps.length + 1) * 24 ≤ 140737488355328 by omega)
  have B2 := Lib.hid (show ps.length + 1 ≤ 9223372036854775807 by omega)
  go_wp2_with (at_builtin; refine wp_app1 et_sd rfl _ _ rfl base Sv.cells len_sv one_sv v2 ps (by exact HVA.out.symm) HH.out.hA (⟨some ad, n, c⟩ : Sv) _ rfl rfl B1.out B2.out hbase ?_; intro g1 cap1 w2 ho2 hm2 hg2 hl2; have s3 := hm2.blk HNR.out HP.out; have C2 := blk_cell s3; have F2 := blk_free s3; have LP2 := blk_lt s3; have HO2 := Lib.hid ho2; have HM2 := Lib.hid hm2; have HG2 := Lib.hid hg2; clear s3 ho2 hm2 hg2)
  exact ⟨_, _, _, pushAD_end HP.out HH.out HSB.out HM2.out HO2.out HG2.out⟩

set_option maxRecDepth 100000 in
set_option maxHeartbeats 6400000 in
theorem shelfD_any (base sb : Nat) (v0 v1 v2 v3 : Value) (mark : Int) (ps qs : List Sv) (ens : List (Sv × List Elm)) (L : List Nat) (gl n c : Nat) (xs : List Elm) (w : World) (hp : w.heap[sb]? = some (shBlk v0 v1 v2 v3 (mark))) (h : Half w base 25 Elm.cells 3 v2 v3 ps qs ens L) (hsb : sb ∉ hfoot v2 v3 L) (hbase : base ≤ w.heap.size)
    (hl : SlO w base 50 Elm.cells 3 (.slice (some ⟨gl, 0, none⟩) n c) xs) (hgs : gl ≠ sb) (hgl : gl ∉ hfoot v2 v3 L) (hn2 : n ≤ 2932031007330) (hps : ps.length ≤ 30) (hqs : qs.length ≤ 100) (hmk : 0 ≤ mark ∧ mark ≤ 1000) :
    Calls Tryd.prog 12 #[.pointer (some ⟨sb, 0, none⟩), .slice (some ⟨gl, 0, none⟩) n c] w fun e w' => e = .returned (.tuple #[]) ∧ ∃ (a' b' : Value) (x1 x2 x3 x4 : Sv) (L' : List Nat), w'.heap[sb]? = some (shBlk v0 v1 a' b' (mark + 1)) ∧
      Half w' base 25 Elm.cells 3 a' b' (ps ++ [x1, x2]) (qs ++ [x3, x4]) (ens ++ [(x1, List.replicate n (mkSD mark)), (x3, List.replicate n (mkSD mark)), (x2, List.replicate (n + 3) (mkSD mark)), (x4, List.replicate (n + 3) (mkSD mark))]) L' ∧ Mod (sb :: gl :: hfoot v2 v3 L) w w' ∧ sb ∉ hfoot a' b' L' ∧ (∀ q ∈ hfoot a' b' L', q ∈ gl :: hfoot v2 v3 L ∨ w.heap.size ≤ q) := by
  obtain ⟨aA, cA, hvA, _⟩ := h.hA.len
  have hxn : xs.length = n := (hl.row.elim (fun cur h => h.2.2.2.2.2.2)).symm
  have C := blk_cell hp; have F := blk_free hp; have LP := blk_lt hp
  rw [hvA] at C
  have hglt := (hl.lt gl rfl).2
  obtain ⟨hmk0, hmk1⟩ := hmk
  -- the mark, and its box
  have s1 := blk_set hp 4 (.int .i64 (mark + 1))
  have m1 := Mod.setCell w sb 4 (.int .i64 (mark + 1))
  have HP := Lib.hid hp; have HH := Lib.hid h; have HSB := Lib.hid hsb; have HL := Lib.hid hl; have HGL := Lib.hid hgl; have HVA := Lib.hid hvA; have HXN := Lib.hid hxn; have HGS := Lib.hid hgs
  have H1 := Lib.hid (h.mod m1 (fun q hq hq' => hsb (by simp at hq'; exact hq' ▸ hq)))
  have L1 := Lib.hid (hl.mod m1 (fun q hq hq' => hgs (by simp [Value.ownBlock] at hq; simp at hq'; omega)))
  have S1 := Lib.hid s1; have M1 := Lib.hid m1
  have CW := blk_cell s1; have FW := blk_free s1; have LW := blk_lt s1
  rw [hvA] at CW
  clear h hsb hl hgl hvA hxn s1 m1 hp hgs
  go_enter Tryd.func12, Tryd.ntmps12
  go_wp2
  clear C F LP CW FW LW
  have hBL : Below (w.setCell ⟨sb, 4, none⟩ (.int .i64 (mark + 1))).heap.size (w.setCell ⟨sb, 4, none⟩ (.int .i64 (mark + 1))) ((w.setCell ⟨sb, 4, none⟩ (.int .i64 (mark + 1))).alloc (.cells #[.int .u8 0, .int .i64 (-(mark + 1)), .int .i64 0] 50 (0, 0))) := (Below.refl _ _).new _
  have SB := Lib.hid (hBL.blk S1.out)
  have B4 := Lib.hid (blk_at (n := w.heap.size) (w := w.setCell ⟨sb, 4, none⟩ (.int .i64 (mark + 1))) (.cells #[.int .u8 0, .int .i64 (-(mark + 1)), .int .i64 0] 50 (0, 0)) (by simp))
  have HB := Lib.hid (H1.out.below hBL)
  have LB := Lib.hid (L1.out.below hBL)
  have MB := Lib.hid (M1.out.then_ (Mod.of_below (L := [sb]) hBL) (fun _ h => h))
  have hsz := MB.out.size
  have I0 := Lib.hid (show FillD ((w.setCell ⟨sb, 4, none⟩ (.int .i64 (mark + 1))).alloc (.cells #[.int .u8 0, .int .i64 (-(mark + 1)), .int .i64 0] 50 (0, 0))) base (.slice (some ⟨gl, 0, none⟩) n c) xs (mkSD mark) 0 ((w.setCell ⟨sb, 4, none⟩ (.int .i64 (mark + 1))).alloc (.cells #[.int .u8 0, .int .i64 (-(mark + 1)), .int .i64 0] 50 (0, 0))) from ⟨by simpa using LB.out, Mod.refl _ _⟩)
  clear hBL S1 M1 H1 L1 LB HL
  generalize (w.setCell ⟨sb, 4, none⟩ (.int .i64 (mark + 1))).alloc (.cells #[.int .u8 0, .int .i64 (-(mark + 1)), .int .i64 0] 50 (0, 0)) = wb at *
  go_loopw [5] (fun i wr => ∃ k : Nat, k ≤ n ∧ i = .int .i64 k ∧ FillD wb base (.slice (some ⟨gl, 0, none⟩) n c) xs (mkSD mark) k wr) (fun i _ => n - (intOf i).toNat)
  case atStart => exact ⟨0, Nat.zero_le _, rfl, I0.out⟩
  case round =>
    obtain ⟨k, hk, rfl, ho, hm⟩ := hrel
    have hxl : (List.replicate k (mkSD mark) ++ xs.drop k).length = n := by simp [HXN.out]; omega
    by_cases hlt : k < n
    · obtain ⟨cur, hg, hs, r1, r2, r3, r4, r5⟩ := ho.row
      have F4 := blk_free hg; have L4 := blk_lt hg; have C4 := blk_cell hg
      have hle : k * 3 + 3 ≤ cur.size := by rw [hs]; rw [hxl] at r2; omega
      obtain ⟨u0, e0⟩ : ∃ u, cur[k * 3]? = some u := ⟨_, Array.getElem?_eq_getElem (by omega)⟩
      obtain ⟨u1, e1⟩ : ∃ u, cur[k * 3 + 1]? = some u := ⟨_, Array.getElem?_eq_getElem (by omega)⟩
      obtain ⟨u2, e2⟩ : ∃ u, cur[k * 3 + 2]? = some u := ⟨_, Array.getElem?_eq_getElem (by omega)⟩
      have d0 := (C4 (k * 3)).trans e0; have d1 := (C4 (k * 3 + 1)).trans e1; have d2 := (C4 (k * 3 + 2)).trans e2
      have c4 := hm.blk (by simp [Value.ownBlock]; omega) B4.out
      have C0 := blk_cell c4
      have HO := Lib.hid ho; have HM := Lib.hid hm; have HXL := Lib.hid hxl
      clear ho hm hg hs r1 r2 r3 r4 r5 C4 hle c4 e0 e1 e2 hxl
      go_wp2
      refine ⟨⟨k + 1, by omega, by go_num, ?_, ?_⟩, by simp [intOf]; omega⟩
      · have := HO.out.setElm k (by rw [HXL.out]; exact hlt) (mkSD mark)
        rwa [mark_step _ _ (by rw [HXN.out]; exact hlt)] at this
      · exact HM.out.then_ (Mod.set3_at _ _ _ _ _ _) (by simp [Value.ownBlock])
    · obtain rfl : k = n := by omega
      rw [← HXN.out, List.drop_length, List.append_nil, HXN.out] at ho
      have HO := Lib.hid ho; have HM := Lib.hid hm; clear hxl
      have s2 := hm.blk (by simp [Value.ownBlock]; exact Ne.symm HGS.out) SB.out
      have c4 := hm.blk (by simp [Value.ownBlock]; omega) B4.out
      have H2 := Lib.hid (HB.out.mod hm (fun q hq hq' => HGL.out (by simp [Value.ownBlock] at hq'; exact hq' ▸ hq)))
      have C := blk_cell s2; have F := blk_free s2; have LP := blk_lt s2
      rw [HVA.out] at C
      have S2 := Lib.hid s2; have X4 := Lib.hid c4
      clear ho hm s2 c4
      have hsz2 := HM.out.size
      have hbase2 : base ≤ wr.heap.size := by omega
      have B1 := Lib.hid (show (ps.length + 1) * 24 ≤ 140737488355328 by omega)
      have B2 := Lib.hid (show ps.length + 1 ≤ 9223372036854775807 by omega)
      have HNR := Lib.hid (show sb ∉ v2.ownBlock.toList from fun hq => HSB.out (by simp [hfoot]; exact Or.inl (by simpa using hq)))
      go_wp2_with (at_builtin; refine wp_app1 et_sd rfl _ _ rfl base Sv.cells len_sv one_sv v2 ps (by exact HVA.out.symm) H2.out.hA (⟨some ⟨gl, 0, none⟩, k, c⟩ : Sv) _ rfl rfl B1.out B2.out hbase2 ?_; intro g1 cap1 w2 ho2 hm2 hg2 hl2; have s3 := hm2.blk HNR.out S2.out; have C2 := blk_cell s3; have F2 := blk_free s3; have LP2 := blk_lt s3; have S3 := Lib.hid s3; have HO2 := Lib.hid ho2; have HM2 := Lib.hid hm2; have HG2 := Lib.hid hg2; clear s3 ho2 hm2 hg2)
      obtain ⟨t4, h4, m4, f4⟩ := pushAD_end (mark := mark + 1) S2.out H2.out HSB.out HM2.out HO2.out HG2.out
      clear C F LP C2 F2 LP2
      have hvAlt := fun q (hq : v2.ownBlock = some q) => (HH.out.hA.lt q hq).2
      have hgl4 : gl ∉ hfoot (.slice (some ⟨g1, 0, none⟩) (ps.length + 1) cap1) v3 L := fun hq => (f4 gl hq).elim HGL.out (fun h' => by omega)
      have hsb4 : sb ∉ hfoot (.slice (some ⟨g1, 0, none⟩) (ps.length + 1) cap1) v3 L := fun hq => (f4 sb hq).elim HSB.out (fun h' => by have := blk_lt S2.out; omega)
      have hglm : gl ∉ sb :: v2.ownBlock.toList := by
        intro hq
        rcases List.mem_cons.1 hq with hq | hq
        · exact HGS.out hq
        · exact HGL.out (by simp [hfoot]; exact Or.inl (by simpa using hq))
      have hblt : w.heap.size ∉ sb :: v2.ownBlock.toList := by
        intro hq
        rcases List.mem_cons.1 hq with hq | hq
        · have := blk_lt HP.out; omega
        · have := hvAlt w.heap.size (by simpa using hq); omega
      have l4 := HO.out.mod m4 (fun q hq hq' => hglm (by simp [Value.ownBlock] at hq; exact hq ▸ hq'))
      have x4 := m4.blk hblt X4.out
      have T4 := Lib.hid t4; have H4 := Lib.hid h4; have M4 := Lib.hid m4; have FR4 := Lib.hid f4; have L4 := Lib.hid l4; have X5 := Lib.hid x4; have HGL4 := Lib.hid hgl4; have HSB4 := Lib.hid hsb4
      have hsz4 := m4.size
      clear t4 h4 m4 f4 l4 x4 hgl4 hsb4 hglm hblt
      generalize w2.setCell ⟨sb, 2, none⟩ (.slice (some ⟨g1, 0, none⟩) (ps.length + 1) cap1) = w3 at *
      go_upto_region 8 with fail
      refine shD_r8 base sb v0 v1 (.slice (some ⟨g1, 0, none⟩) (ps.length + 1) cap1) v3 (mark + 1) _ qs ens L ⟨gl, 0, none⟩ k c (List.replicate k (mkSD mark)) w3 T4.out H4.out HSB4.out (by omega) (L4.out.reads len_elem) (by simp) (by omega) (by omega) _ _ ?_
      intro x46 x47 x48 x49 x50 x51 x52 x53 x54 x55 x56 x57 w4 p4
      obtain ⟨s3, g3, N3, c3, t5, h5, m5, f5, r5, o5⟩ := p4
      have hvBlt := fun q (hq : v3.ownBlock = some q) => (HH.out.hB.lt q hq).2
      have hsz5 := m5.size
      have hglB : gl ∉ sb :: v3.ownBlock.toList := by
        intro hq
        rcases List.mem_cons.1 hq with hq | hq
        · exact HGS.out hq
        · exact HGL4.out (by simp [hfoot]; exact Or.inr (Or.inl (by simpa using hq)))
      have hblB : w.heap.size ∉ sb :: v3.ownBlock.toList := by
        intro hq
        rcases List.mem_cons.1 hq with hq | hq
        · have := blk_lt HP.out; omega
        · have := hvBlt w.heap.size (by simpa using hq); omega
      have l5 := L4.out.mod m5 (fun q hq hq' => hglB (by simp [Value.ownBlock] at hq; exact hq ▸ hq'))
      have x5 := m5.blk hblB X5.out
      have hgl5 : gl ∉ hfoot (.slice (some ⟨g1, 0, none⟩) (ps.length + 1) cap1) (.slice (some ⟨g3, 0, none⟩) N3 c3) L := fun hq => (f5 gl hq).elim HGL4.out (fun h' => by omega)
      have hsb5 : sb ∉ hfoot (.slice (some ⟨g1, 0, none⟩) (ps.length + 1) cap1) (.slice (some ⟨g3, 0, none⟩) N3 c3) L := fun hq => (f5 sb hq).elim HSB4.out (fun h' => by have := blk_lt T4.out; omega)
      have C5 := blk_cell x5
      have hbase5 : base ≤ w4.heap.size := by omega
      have LB5 := Lib.hid (l5.below ((Below.refl _ _).new (.cells #[.int .u8 0, .int .i64 (-(mark + 1)), .int .i64 0, .int .u8 0, .int .i64 (-(mark + 1)), .int .i64 0, .int .u8 0, .int .i64 (-(mark + 1)), .int .i64 0] 50 (0, 0))))
      have T5 := Lib.hid t5; have H5 := Lib.hid h5; have M5 := Lib.hid m5; have FR5 := Lib.hid f5; have R5 := Lib.hid r5; have O5 := Lib.hid o5; have GL5 := Lib.hid hgl5; have SB5 := Lib.hid hsb5
      have hg1 : g1 ≠ gl := fun e => hgl5 (by simp [hfoot, Value.ownBlock, e])
      have HG1 := Lib.hid hg1
      clear t5 h5 m5 f5 r5 o5 l5 x5 hgl5 hsb5 hglB hblB hg1
      have D1 := Lib.hid (show (k + 3) * 24 ≤ 140737488355328 by omega)
      have D2 := Lib.hid (show k + 3 ≤ 9223372036854775807 by omega)
      have D3 := Lib.hid (show base ≤ (w4.alloc (.cells #[.int .u8 0, .int .i64 (-(mark + 1)), .int .i64 0, .int .u8 0, .int .i64 (-(mark + 1)), .int .i64 0, .int .u8 0, .int .i64 (-(mark + 1)), .int .i64 0] 50 (0, 0))).heap.size by rw [World.size_alloc]; omega)
      have D4 := Lib.hid (show (List.replicate k (mkSD mark)).length + 3 = k + 3 by simp)
      have D5 := Lib.hid (show ((ps ++ [(⟨some ⟨gl, 0, none⟩, k, c⟩ : Sv)]).length + 1) * 24 ≤ 140737488355328 by simp; omega)
      have D6 := Lib.hid (show (ps ++ [(⟨some ⟨gl, 0, none⟩, k, c⟩ : Sv)]).length + 1 ≤ 9223372036854775807 by simp; omega)
      have HVAL := Lib.hid hvAlt; have HVBL := Lib.hid hvBlt; clear hvAlt hvBlt
      go_upto_region 10 with (at_builtin; refine wp_appK et_elem (k + 3) rfl _ _ rfl base Elm.cells len_elem one_elem (.slice (some ⟨gl, 0, none⟩) k c) (List.replicate k (mkSD mark)) rfl LB5.out [mkSD mark, mkSD mark, mkSD mark] ⟨w4.heap.size, 0, none⟩ 3 3 rfl rfl (threeD mark w4) D4.out (by omega) D1.out D2.out D3.out ?_; intro g5 cap5 w5 ho5 hr5 hm5 hg5 hl5; have hmm5 := Mod.then_ (Mod.alloc (Value.slice (some ⟨gl, 0, none⟩) k c).ownBlock.toList w4 (.cells #[.int .u8 0, .int .i64 (-(mark + 1)), .int .i64 0, .int .u8 0, .int .i64 (-(mark + 1)), .int .i64 0, .int .u8 0, .int .i64 (-(mark + 1)), .int .i64 0] 50 (0, 0))) hm5 (fun _ h => h); have s6 := hmm5.blk (by simp [Value.ownBlock]; exact Ne.symm HGS.out) T5.out; have C6 := blk_cell s6; have F6 := blk_free s6; have LP6 := blk_lt s6; have S6 := Lib.hid s6; have HO5 := Lib.hid ho5; have HR5 := Lib.hid hr5; have HM5 := Lib.hid hmm5; have HG5 := Lib.hid hg5; have HL5 := Lib.hid hl5; have HA5 := Lib.hid (H5.out.hA.mod hmm5 (fun q hq hq' => HG1.out (by simp [Value.ownBlock] at hq hq'; omega))); have D7 := Lib.hid (Nat.le_trans hbase5 hmm5.size); clear s6 ho5 hr5 hm5 hmm5 hg5 hl5)
      have H6 := Lib.hid (H5.out.mod HM5.out (fun q hq hq' => GL5.out (by simp [Value.ownBlock] at hq'; exact hq' ▸ hq)))
      refine shD_r10 base sb v0 v1 (.slice (some ⟨g1, 0, none⟩) (ps.length + 1) cap1) (.slice (some ⟨g3, 0, none⟩) N3 c3) (mark + 1) _ _ ens L ⟨g5, 0, none⟩ (k + 3) cap5 w5 S6.out H6.out SB5.out D7.out (by simp; omega) _ _ ?_
      intro x64 x65 x66 x67 x68 x69 x70 x71 x72 x73 w7 p7
      obtain ⟨g6, N6, c6, t7, h7, m7, f7⟩ := p7
      have hgx5 : g5 = gl ∨ w4.heap.size ≤ g5 := by
        rcases HG5.out with hg | hg
        · left; simp [Value.ownBlock] at hg; exact hg.symm
        · right; rw [World.size_alloc] at hg; omega
      have hsz6 := HM5.out.size
      have hsz7 := m7.size
      have hA1lt : g1 < w4.heap.size := (H5.out.hA.lt g1 rfl).2
      have hg5A : g5 ∉ sb :: (Value.slice (some ⟨g1, 0, none⟩) (ps.length + 1) cap1).ownBlock.toList := by
        have := blk_lt HP.out
        have h1 := HG1.out
        have h2 := HGS.out
        simp [Value.ownBlock]
        rcases hgx5 with hg | hg <;> omega
      have q7 := (HO5.out.reads len_elem).mod m7 (fun q hq hq' => hg5A (by simp [Value.ownBlock] at hq; exact hq ▸ hq'))
      have hsb7 : sb ∉ hfoot (.slice (some ⟨g6, 0, none⟩) N6 c6) (.slice (some ⟨g3, 0, none⟩) N3 c3) L := fun hq => (f7 sb hq).elim SB5.out (fun h' => by have := blk_lt S6.out; omega)
      have T7 := Lib.hid t7; have H7 := Lib.hid h7; have M7 := Lib.hid m7; have FR7 := Lib.hid f7; have Q7 := Lib.hid q7; have SB7 := Lib.hid hsb7; have G5A := Lib.hid hg5A
      clear t7 h7 m7 f7 q7 hsb7 hg5A C6 F6 LP6
      go_upto_region 11 with fail
      refine last_regionD ?_
      refine shD_r11 base sb v0 v1 (.slice (some ⟨g6, 0, none⟩) N6 c6) (.slice (some ⟨g3, 0, none⟩) N3 c3) (mark + 1) _ _ ens L ⟨g5, 0, none⟩ (k + 3) cap5 (List.replicate k (mkSD mark) ++ [mkSD mark, mkSD mark, mkSD mark]) w7 T7.out H7.out SB7.out (by omega) Q7.out (by simp) (by omega) (by simp; omega) _ _ ?_
      intro x74 x75 x76 x77 x78 x79 x80 x81 x82 x83 x84 x85 w8 p8
      obtain ⟨s4, g8, N8, c8, t9, h9, m9, f9, r9, o9⟩ := p8
      have T9 := Lib.hid t9; have H9 := Lib.hid h9; have M9 := Lib.hid m9; have FR9 := Lib.hid f9; have R9 := Lib.hid r9; have O9 := Lib.hid o9
      clear t9 h9 m9 f9 r9 o9
      refine bodyPost_end (results_none rfl _ _ _) rfl ?_
      have FF1 : ∀ q ∈ hfoot (Value.slice (some ⟨g6, 0, none⟩) N6 c6) (Value.slice (some ⟨g8, 0, none⟩) N8 c8) L, q ∈ hfoot (Value.slice (some ⟨g1, 0, none⟩) (ps.length + 1) cap1) (Value.slice (some ⟨g3, 0, none⟩) N3 c3) L ∨ w5.heap.size ≤ q := fun q hq => (FR9.out q hq).elim (fun h => FR7.out q h) (fun h => Or.inr (by omega))
      have FF0 : ∀ q ∈ hfoot (Value.slice (some ⟨g1, 0, none⟩) (ps.length + 1) cap1) (Value.slice (some ⟨g3, 0, none⟩) N3 c3) L, q ∈ hfoot v2 v3 L ∨ w.heap.size ≤ q := fun q hq => (FR5.out q hq).elim (fun h => (FR4.out q h).imp id (fun h => by omega)) (fun h => Or.inr (by omega))
      have hlt1 := H5.out.flt
      have hsz8 := M9.out.size
      have hsbw := blk_lt HP.out
      have hgsb := HGS.out
      have notin : ∀ q, q ≠ sb → q ∉ hfoot (Value.slice (some ⟨g1, 0, none⟩) (ps.length + 1) cap1) (Value.slice (some ⟨g3, 0, none⟩) N3 c3) L → q ∉ sb :: (Value.slice (some ⟨g1, 0, none⟩) (ps.length + 1) cap1).ownBlock.toList ∧ q ∉ sb :: (Value.slice (some ⟨g3, 0, none⟩) N3 c3).ownBlock.toList := by
        intro q h1 h2
        refine ⟨fun h => ?_, fun h => ?_⟩
        · rcases List.mem_cons.1 h with h | h
          · exact h1 h
          · exact h2 (by simp only [hfoot, List.mem_append]; exact Or.inl (Or.inl h))
        · rcases List.mem_cons.1 h with h | h
          · exact h1 h
          · exact h2 (by simp only [hfoot, List.mem_append]; exact Or.inl (Or.inr h))
      have z5 : g5 ∉ hfoot (Value.slice (some ⟨g1, 0, none⟩) (ps.length + 1) cap1) (Value.slice (some ⟨g3, 0, none⟩) N3 c3) L := fun h1 => by
        rcases hgx5 with e | e
        · exact GL5.out (e ▸ h1)
        · have := hlt1 g5 h1; omega
      have z5s : g5 ≠ sb := by rcases hgx5 with e | e <;> omega
      have n1 : gl ∉ hfoot (Value.slice (some ⟨g6, 0, none⟩) N6 c6) (Value.slice (some ⟨g8, 0, none⟩) N8 c8) L := fun hq => (FF1 gl hq).elim GL5.out (fun h => by omega)
      have n3 : ∀ q, s3.val.ownBlock = some q → q ∉ hfoot (Value.slice (some ⟨g6, 0, none⟩) N6 c6) (Value.slice (some ⟨g8, 0, none⟩) N8 c8) L := fun q hq h => (FF1 q h).elim (O5.out q hq).2.2 (fun h' => by have := (O5.out q hq).2.1; omega)
      have n5 : g5 ∉ hfoot (Value.slice (some ⟨g6, 0, none⟩) N6 c6) (Value.slice (some ⟨g8, 0, none⟩) N8 c8) L := fun h => (FF1 g5 h).elim z5 (fun h' => by have := HL5.out; omega)
      have l8 := (HR5.out.mod M7.out (fun q hq => (notin q (by simp [Value.ownBlock] at hq; omega) (by simp [Value.ownBlock] at hq; subst hq; exact GL5.out)).1)).mod M9.out (fun q hq => (notin q (by simp [Value.ownBlock] at hq; omega) (by simp [Value.ownBlock] at hq; subst hq; exact GL5.out)).2)
      have t8 := ((R5.out.mod HM5.out (fun q hq hq' => by have := (O5.out q hq).1; simp [Value.ownBlock] at hq'; omega)).mod M7.out (fun q hq => (notin q (by have := (O5.out q hq).1; omega) (O5.out q hq).2.2).1)).mod M9.out (fun q hq => (notin q (by have := (O5.out q hq).1; omega) (O5.out q hq).2.2).2)
      have hrep : List.replicate k (mkSD mark) ++ [mkSD mark, mkSD mark, mkSD mark] = List.replicate (k + 3) (mkSD mark) := by rw [List.replicate_succ', List.replicate_succ', List.replicate_succ']; simp
      have x8 := Q7.out.mod M9.out (fun q hq => (notin q (by simp [Value.ownBlock] at hq; omega) (by simp [Value.ownBlock] at hq; subst hq; exact z5)).2)
      have r8 := R9.out
      rw [hrep] at x8 r8
      have nf : ∀ q, q ∉ hfoot (Value.slice (some ⟨g6, 0, none⟩) N6 c6) (Value.slice (some ⟨g8, 0, none⟩) N8 c8) L → (Value.slice (some ⟨g6, 0, none⟩) N6 c6).ownBlock ≠ some q ∧ (Value.slice (some ⟨g8, 0, none⟩) N8 c8).ownBlock ≠ some q := fun q hq => ⟨fun e => hq (by simp only [hfoot, List.mem_append]; exact Or.inl (Or.inl (by simp [e]))), fun e => hq (by simp only [hfoot, List.mem_append]; exact Or.inl (Or.inr (by simp [e])))⟩
      have a1 := H9.out.addE (s := ⟨some ⟨gl, 0, none⟩, k, c⟩) (fun q hq => by simp [Value.ownBlock] at hq; subst hq; exact ⟨(nf _ n1).1, (nf _ n1).2, by omega⟩) l8
      have a2 := a1.addE (s := s3) (fun q hq => ⟨(nf _ (n3 q hq)).1, (nf _ (n3 q hq)).2, by have := (O5.out q hq).2.1; omega⟩) t8
      have a3 := a2.addE (s := ⟨some ⟨g5, 0, none⟩, k + 3, cap5⟩) (fun q hq => by simp [Value.ownBlock] at hq; subst hq; exact ⟨(nf _ n5).1, (nf _ n5).2, by have := HL5.out; omega⟩) x8
      have a4 := a3.addE (s := s4) (fun q hq => ⟨(nf _ (O9.out q hq).2.2).1, (nf _ (O9.out q hq).2.2).2, (O9.out q hq).2.1⟩) r8
      simp only [List.append_assoc, List.cons_append, List.nil_append] at a4
      have hfin : ∀ q ∈ hfoot (Value.slice (some ⟨g6, 0, none⟩) N6 c6) (Value.slice (some ⟨g8, 0, none⟩) N8 c8) (L ++ ((⟨some ⟨gl, 0, none⟩, k, c⟩ : Sv).val.ownBlock.toList ++ (s3.val.ownBlock.toList ++ ((⟨some ⟨g5, 0, none⟩, k + 3, cap5⟩ : Sv).val.ownBlock.toList ++ s4.val.ownBlock.toList)))), q ∈ gl :: hfoot v2 v3 L ∨ w3.heap.size ≤ q ∨ (q ∈ hfoot (Value.slice (some ⟨g6, 0, none⟩) N6 c6) (Value.slice (some ⟨g8, 0, none⟩) N8 c8) L ∧ w.heap.size ≤ q) := by
        intro q hq
        have hq2 : q ∈ hfoot (Value.slice (some ⟨g6, 0, none⟩) N6 c6) (Value.slice (some ⟨g8, 0, none⟩) N8 c8) L ∨ q = gl ∨ s3.val.ownBlock = some q ∨ q = g5 ∨ s4.val.ownBlock = some q := by
          simp only [hfoot, List.mem_append] at hq ⊢
          rcases hq with hq | hq | hq | hq | hq | hq
          · exact Or.inl (Or.inl hq)
          · exact Or.inl (Or.inr hq)
          · exact Or.inr (Or.inl (by simpa [Value.ownBlock] using hq))
          · exact Or.inr (Or.inr (Or.inl (by simpa using hq)))
          · exact Or.inr (Or.inr (Or.inr (Or.inl (by simpa [Value.ownBlock] using hq))))
          · exact Or.inr (Or.inr (Or.inr (Or.inr (by simpa using hq))))
        rcases hq2 with h | h | h | h | h
        · rcases FF1 q h with h' | h'
          · rcases FF0 q h' with h'' | h''
            · exact Or.inl (List.mem_cons_of_mem _ h'')
            · exact Or.inr (Or.inr ⟨h, h''⟩)
          · exact Or.inr (Or.inl (by omega))
        · exact Or.inl (by rw [h]; simp)
        · exact Or.inr (Or.inl (O5.out q h).1)
        · rcases hgx5 with e | e
          · exact Or.inl (by rw [h, e]; simp)
          · exact Or.inr (Or.inl (by omega))
        · exact Or.inr (Or.inl (by have := (O9.out q h).1; omega))
      refine ⟨rfl, _, _, _, _, _, _, _, T9.out, a4, ?_, ?_, ?_⟩
      · have mA : ∀ q ∈ (Value.slice (some ⟨g1, 0, none⟩) (ps.length + 1) cap1).ownBlock.toList, q ∈ hfoot (Value.slice (some ⟨g1, 0, none⟩) (ps.length + 1) cap1) (Value.slice (some ⟨g3, 0, none⟩) N3 c3) L := fun q hq => by simp only [hfoot, List.mem_append]; exact Or.inl (Or.inl hq)
        have mB : ∀ q ∈ (Value.slice (some ⟨g3, 0, none⟩) N3 c3).ownBlock.toList, q ∈ hfoot (Value.slice (some ⟨g1, 0, none⟩) (ps.length + 1) cap1) (Value.slice (some ⟨g3, 0, none⟩) N3 c3) L := fun q hq => by simp only [hfoot, List.mem_append]; exact Or.inl (Or.inr hq)
        have up : ∀ q ∈ hfoot (Value.slice (some ⟨g1, 0, none⟩) (ps.length + 1) cap1) (Value.slice (some ⟨g3, 0, none⟩) N3 c3) L, q ∈ sb :: gl :: hfoot v2 v3 L ∨ w.heap.size ≤ q := fun q hq => (FF0 q hq).imp (fun h => List.mem_cons_of_mem _ (List.mem_cons_of_mem _ h)) id
        have glm : ∀ (n' c' : Nat), ∀ q ∈ (Value.slice (some ⟨gl, 0, none⟩) n' c').ownBlock.toList, q ∈ sb :: gl :: hfoot v2 v3 L ∨ w.heap.size ≤ q := fun n' c' q hq => Or.inl (by simp [Value.ownBlock] at hq; simp [hq])
        have u1 : Mod (sb :: gl :: hfoot v2 v3 L) w wb := MB.out.weaken (fun q hq => Or.inl (by simp at hq; simp [hq]))
        have u2 := u1.trans HM.out (glm _ _)
        have u3 := u2.trans M4.out (fun q hq => Or.inl (by
          rcases List.mem_cons.1 hq with h | h
          · simp [h]
          · exact List.mem_cons_of_mem _ (List.mem_cons_of_mem _ (by simp only [hfoot, List.mem_append]; exact Or.inl (Or.inl h)))))
        have u4 := u3.trans M5.out (fun q hq => Or.inl (by
          rcases List.mem_cons.1 hq with h | h
          · simp [h]
          · exact List.mem_cons_of_mem _ (List.mem_cons_of_mem _ (by simp only [hfoot, List.mem_append]; exact Or.inl (Or.inr h)))))
        have u5 := u4.trans HM5.out (glm _ _)
        have u6 := u5.trans M7.out (fun q hq => by
          rcases List.mem_cons.1 hq with h | h
          · exact Or.inl (by simp [h])
          · exact up q (mA q h))
        exact u6.trans M9.out (fun q hq => by
          rcases List.mem_cons.1 hq with h | h
          · exact Or.inl (by simp [h])
          · exact up q (mB q h))
      · intro hq
        rcases hfin sb hq with h | h | h
        · rcases List.mem_cons.1 h with h | h
          · exact hgsb h.symm
          · exact HSB.out h
        · omega
        · omega
      · intro q hq
        rcases hfin q hq with h | h | h
        · exact Or.inl h
        · exact Or.inr (by omega)
        · exact Or.inr h.2
end Go.Proofs.YtjeidklpomekdaaDoor

/- Go's '==' and '!=' of the structs api.Op, api.Edit, api.Elem are equality of their readings. -/
namespace Go.Proofs.YtjeidklpomekdaaDoor
open Go.RowKit

theorem equal_op (x y : Opr) (w : World) : (Op.equalIn 10000 46 x.val y.val).run Tryd.prog w = .ok (decide (x = y)) w := by
  simp only [Opr.eq_iff]
  simp [go_sem]
  repeat' split
  all_goals simp_all
theorem eql_op (x y : Opr) (w : World) : (binOp .eql 46 x.val y.val).run Tryd.prog w = .ok (.bool (decide (x = y))) w := by
  rw [run_eql_struct, equal_op]; rfl
theorem neq_op (x y : Opr) (w : World) : (binOp .neq 46 x.val y.val).run Tryd.prog w = .ok (.bool (!decide (x = y))) w := by
  rw [run_neq_struct, equal_op]; rfl
theorem equal_edit (x y : Edt) (w : World) : (Op.equalIn 10000 48 x.val y.val).run Tryd.prog w = .ok (decide (x = y)) w := by
  simp only [Edt.eq_iff]
  simp [go_sem]
  repeat' split
  all_goals simp_all
theorem eql_edit (x y : Edt) (w : World) : (binOp .eql 48 x.val y.val).run Tryd.prog w = .ok (.bool (decide (x = y))) w := by
  rw [run_eql_struct, equal_edit]; rfl
theorem neq_edit (x y : Edt) (w : World) : (binOp .neq 48 x.val y.val).run Tryd.prog w = .ok (.bool (!decide (x = y))) w := by
  rw [run_neq_struct, equal_edit]; rfl
theorem equal_elem (x y : Elm) (w : World) : (Op.equalIn 10000 50 x.val y.val).run Tryd.prog w = .ok (decide (x = y)) w := by
  simp only [Elm.eq_iff]
  simp [go_sem]
  repeat' split
  all_goals simp_all
theorem eql_elem (x y : Elm) (w : World) : (binOp .eql 50 x.val y.val).run Tryd.prog w = .ok (.bool (decide (x = y))) w := by
  rw [run_eql_struct, equal_elem]; rfl
theorem neq_elem (x y : Elm) (w : World) : (binOp .neq 50 x.val y.val).run Tryd.prog w = .ok (.bool (!decide (x = y))) w := by
  rw [run_neq_struct, equal_elem]; rfl
end Go.Proofs.YtjeidklpomekdaaDoor

