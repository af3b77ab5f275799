/- Part 9 of the proof of BookReplays: RTake2. -/
import Derived.Deep.RegionHeld3
import Derived.Test.YtjeidklpomekdaaDoorBr8

set_option linter.unusedVariables false
set_option linter.unusedSimpArgs false
set_option linter.unnecessarySimpa false

/- The reference's take, region 2. -/
namespace Go.Proofs.YtjeidklpomekdaaDoor
open Go.RowKit

set_option maxRecDepth 100000 in
set_option maxHeartbeats 6400000 in
theorem rtake_r2 {u1 u2 u5 u6 u7 u8 u9 u10 u11 u12 u13 u14 u15 u16 u17 u18 u19 u20 u21 u22 u23 u24 u25 u26 u27 u28 u29 u30 u31 u32 u33 u34 u35 u36 u37 u38 u39 u40 u41 u42 u43 u44 u45 u46 u47 u48 u49 u50 u51 u52 u53 u54 u55 u56 u57 u58 u59 u60 u61 u62 u63 : Value} (base rb b3 b4 : Nat) (ρ : RefL) (R : RefS) (e : Edt) (d : Opr) (w : World) (h : RBookAt w base rb ρ R) (hbase : base ≤ w.heap.size) (hx3 : w.heap[b3]? = some (.cells (ecells e) 48 (0, 0))) (hx4 : w.heap[b4]? = some (.cells (ocells d) 46 (0, 0))) (hn : R.E.length ≤ 10000) (hdn : R.D.length ≤ 10000) (hnn : R.N.length = R.E.length + 1) (hkn : R.K.length ≤ 10000) (hO4 : Out b4 rb ρ) (hnb : -10000 ≤ R.n R.E.length ∧ R.n R.E.length ≤ 10000) (K : Act → World → Prop) (Post : Ending → World → Prop)
    (hK : ∀ (v12 v13 v14 v15 v16 v17 v18 v19 v20 v21 v22 v23 v24 v25 v26 v27 v28 v29 v30 v31 v32 v33 v34 : Value) (w' : World), RTStep base rb w ρ { R with N := R.N ++ [R.n R.E.length + grown d] } w' → K ⟨List.toArray (.pointer (some ⟨rb, 0, none⟩) :: u1 :: u2 :: .pointer (some ⟨b3, 0, none⟩) :: .pointer (some ⟨b4, 0, none⟩) :: u5 :: u6 :: u7 :: u8 :: u9 :: u10 :: u11 :: v12 :: v13 :: v14 :: v15 :: v16 :: v17 :: v18 :: v19 :: v20 :: v21 :: v22 :: v23 :: v24 :: v25 :: v26 :: v27 :: v28 :: v29 :: v30 :: v31 :: v32 :: v33 :: v34 :: u35 :: u36 :: u37 :: u38 :: u39 :: u40 :: u41 :: u42 :: u43 :: u44 :: u45 :: u46 :: u47 :: u48 :: u49 :: u50 :: u51 :: u52 :: u53 :: u54 :: u55 :: u56 :: u57 :: u58 :: u59 :: u60 :: u61 :: u62 :: u63 :: []), []⟩ w') :
    Code.wp Tryd.prog (rtakeReg 2) (Exit.then K (bodyPost Tryd.prog Tryd.f19 Post)) ⟨List.toArray (.pointer (some ⟨rb, 0, none⟩) :: u1 :: u2 :: .pointer (some ⟨b3, 0, none⟩) :: .pointer (some ⟨b4, 0, none⟩) :: u5 :: u6 :: u7 :: u8 :: u9 :: u10 :: u11 :: u12 :: u13 :: u14 :: u15 :: u16 :: u17 :: u18 :: u19 :: u20 :: u21 :: u22 :: u23 :: u24 :: u25 :: u26 :: u27 :: u28 :: u29 :: u30 :: u31 :: u32 :: u33 :: u34 :: u35 :: u36 :: u37 :: u38 :: u39 :: u40 :: u41 :: u42 :: u43 :: u44 :: u45 :: u46 :: u47 :: u48 :: u49 :: u50 :: u51 :: u52 :: u53 :: u54 :: u55 :: u56 :: u57 :: u58 :: u59 :: u60 :: u61 :: u62 :: u63 :: []), []⟩ w := by
  conv => arg 2; whnf

  obtain ⟨aE, cE, aD, cD, aN, cN, aK, cK, V⟩ := h.view
  have C := blk_cell V.hp; have F := blk_free V.hp; have LP := blk_lt V.hp
  have C3 := blk_cell hx3; have C4 := blk_cell hx4; have L3 := blk_lt hx3; have L4 := blk_lt hx4
  have HP := Lib.hid V.hp; have HV := Lib.hid V; have H := Lib.hid h; have X4 := Lib.hid hx4
  have hv : ρ.vN = _ := V.eN
  have hkn' : R.E.length < R.N.length := by omega
  obtain ⟨bn, offn, hbn, cn⟩ := V.hN.int R.E.length hkn'
  have hRn : R.N[R.E.length] = R.n R.E.length := by simp [RefS.n, List.getD, hkn']
  rw [hRn] at cn
  have HNR := Lib.hid (show rb ∉ ρ.vN.ownBlock.toList from fun hq => h.nN (by simpa using hq))
  have hgl := grown_le d
  have HN := Lib.hid hRn
  clear hRn
  subst hbn
  generalize R.n R.E.length = nn at *
  obtain ⟨hnb1, hnb2⟩ := hnb
  clear V h hx3 hx4
  have B1 := Lib.hid (show (R.N.length + 1) * 8 ≤ 140737488355328 by omega)
  have B2 := Lib.hid (show R.N.length + 1 ≤ 9223372036854775807 by omega)
  have HW := Lib.hid (show IntKind.i64.wrap (nn + grown d) = nn + grown d from (IntWalk.i64_left _).trans (wrap64_in' _ (by omega)))
  clear hnn
  have KS := Lib.hid (show ∀ W : World, Mod ρ.vN.ownBlock.toList w W → (W.cell? ⟨rb, 1, none⟩ = some (.slice aE R.E.length cE) ∧ W.cell? ⟨b4, 0, none⟩ = some (.int .i64 d.kind) ∧ W.cell? ⟨b4, 1, none⟩ = some (.int .i64 d.pos) ∧ W.cell? ⟨b4, 2, none⟩ = some (.int .u8 d.ch) ∧ W.cell? ⟨b4, 3, none⟩ = some (.int .i64 d.client) ∧ W.cell? ⟨b4, 4, none⟩ = some (.int .i64 d.seq)) from fun W hW => by
    have y1 := hW.blk HNR.out HP.out
    have y4 := hW.blk (fun hq => hO4.2.2.2.1 (by simpa using hq)) X4.out
    exact ⟨blk_cell y1 1, blk_cell y4 0, blk_cell y4 1, blk_cell y4 2, blk_cell y4 3, blk_cell y4 4⟩)
  have KT := Lib.hid (show ∀ (W : World) (v : Value), (W.cell? ⟨rb, 1, none⟩ = some (.slice aE R.E.length cE) ∧ W.cell? ⟨b4, 0, none⟩ = some (.int .i64 d.kind) ∧ W.cell? ⟨b4, 1, none⟩ = some (.int .i64 d.pos) ∧ W.cell? ⟨b4, 2, none⟩ = some (.int .u8 d.ch) ∧ W.cell? ⟨b4, 3, none⟩ = some (.int .i64 d.client) ∧ W.cell? ⟨b4, 4, none⟩ = some (.int .i64 d.seq)) →
      ((W.setCell ⟨rb, 3, none⟩ v).cell? ⟨rb, 1, none⟩ = some (.slice aE R.E.length cE) ∧ (W.setCell ⟨rb, 3, none⟩ v).cell? ⟨b4, 0, none⟩ = some (.int .i64 d.kind) ∧ (W.setCell ⟨rb, 3, none⟩ v).cell? ⟨b4, 1, none⟩ = some (.int .i64 d.pos) ∧ (W.setCell ⟨rb, 3, none⟩ v).cell? ⟨b4, 2, none⟩ = some (.int .u8 d.ch) ∧ (W.setCell ⟨rb, 3, none⟩ v).cell? ⟨b4, 3, none⟩ = some (.int .i64 d.client) ∧ (W.setCell ⟨rb, 3, none⟩ v).cell? ⟨b4, 4, none⟩ = some (.int .i64 d.seq)) from fun W v h => by
    have hne := hO4.1
    obtain ⟨h0, h1, h2, h3, h4, h5⟩ := h
    refine ⟨?_, ?_, ?_, ?_, ?_, ?_⟩ <;> (rw [World.cell?_setCell_other _ _ _ _ (by simp [hne])]; assumption))
  clear C3 C4
  refine wp_region_noPanic ?_
  refine wp_region_held_drew (S := (fun W => W.cell? ⟨rb, 1, none⟩ = some (.slice aE R.E.length cE) ∧ W.cell? ⟨b4, 0, none⟩ = some (.int .i64 d.kind) ∧ W.cell? ⟨b4, 1, none⟩ = some (.int .i64 d.pos) ∧ W.cell? ⟨b4, 2, none⟩ = some (.int .u8 d.ch) ∧ W.cell? ⟨b4, 3, none⟩ = some (.int .i64 d.client) ∧ W.cell? ⟨b4, 4, none⟩ = some (.int .i64 d.seq))) (by kernel_rfl) ?_ (fun hHeld => ?_)
  · (first
      | exact KS.out _ (Mod.refl _ _)
      | exact KS.out _ (Mod.drewN _ w 1)
      | exact KS.out _ (Mod.of_below BT.out)
      | exact KS.out _ ((Mod.of_below BT.out).then_ (Mod.alloc ρ.vN.ownBlock.toList _ _) (fun _ h => h))
      | exact KS.out _ ((Mod.of_below BT.out).then_ HM2.out (fun _ h => h))
      | exact KT.out _ _ (KS.out _ ((Mod.of_below BT.out).then_ HM2.out (fun _ h => h))))
  refine wpAnyH_take (i := 0) (oi := _) (v := ?v1) rfl (by kernel_rfl) (by kernel_rfl) (by kernel_rfl) (fun _ _ _ h => h) (Or.inl ⟨by rfl, ?hy1⟩) (by assumption) ?rest1
  case hy1 => (intro w hSw; (try dsimp only at hSw); go_simp; first | done | with_reducible rfl)
  try simp only [Act.put, List.setIfInBounds_toArray, List.set_cons_zero, List.set_cons_succ]
  refine wpAnyH_take (i := 1) (oi := _) (v := ?v2) rfl (by kernel_rfl) (by kernel_rfl) (by kernel_rfl) (fun _ _ _ h => h) (Or.inl ⟨by rfl, ?hy2⟩) (by assumption) ?rest2
  case hy2 => (intro w hSw; (try dsimp only at hSw); go_simp; first | done | with_reducible rfl)
  try simp only [Act.put, List.setIfInBounds_toArray, List.set_cons_zero, List.set_cons_succ]
  refine wpAnyH_take (i := 2) (oi := _) (v := ?v3) rfl (by kernel_rfl) (by kernel_rfl) (by kernel_rfl) (fun _ _ _ h => h) (Or.inl ⟨by rfl, ?hy3⟩) (by assumption) ?rest3
  case hy3 => (intro w hSw; (try dsimp only at hSw); go_simp; first | done | with_reducible rfl)
  try simp only [Act.put, List.setIfInBounds_toArray, List.set_cons_zero, List.set_cons_succ]
  refine wpAnyH_take (i := 3) (oi := _) (v := ?v4) rfl (by kernel_rfl) (by kernel_rfl) (by kernel_rfl) (fun _ _ _ h => h) (Or.inl ⟨by rfl, ?hy4⟩) (by assumption) ?rest4
  case hy4 => (intro w hSw; (try dsimp only at hSw); go_simp; first | done | with_reducible rfl)
  try simp only [Act.put, List.setIfInBounds_toArray, List.set_cons_zero, List.set_cons_succ]
  refine wpAnyH_take (i := 5) (oi := _) (v := ?v5) rfl (by kernel_rfl) (by kernel_rfl) (by kernel_rfl) (fun _ _ _ h => h) (Or.inl ⟨by rfl, ?hy5⟩) (by assumption) ?rest5
  case hy5 => (intro w hSw; (try dsimp only at hSw); go_simp; first | done | with_reducible rfl)
  try simp only [Act.put, List.setIfInBounds_toArray, List.set_cons_zero, List.set_cons_succ]
  refine wpAnyH_take (i := 6) (oi := _) (v := ?v6) rfl (by kernel_rfl) (by kernel_rfl) (by kernel_rfl) (fun _ _ _ h => h) (Or.inl ⟨by rfl, ?hy6⟩) (by assumption) ?rest6
  case hy6 => (intro w hSw; (try dsimp only at hSw); go_simp; first | done | with_reducible rfl)
  try simp only [Act.put, List.setIfInBounds_toArray, List.set_cons_zero, List.set_cons_succ]
  refine wpAnyH_take (i := 7) (oi := _) (v := ?v7) rfl (by kernel_rfl) (by kernel_rfl) (by kernel_rfl) (fun _ _ _ h => h) (Or.inl ⟨by rfl, ?hy7⟩) (by assumption) ?rest7
  case hy7 => (intro w hSw; (try dsimp only at hSw); go_simp; first | done | with_reducible rfl)
  try simp only [Act.put, List.setIfInBounds_toArray, List.set_cons_zero, List.set_cons_succ]
  refine wpAnyH_take (i := 9) (oi := _) (v := ?v8) rfl (by kernel_rfl) (by kernel_rfl) (by kernel_rfl) (fun _ _ _ h => h) (Or.inl ⟨by rfl, ?hy8⟩) (by assumption) ?rest8
  case hy8 => (intro w hSw; (try dsimp only at hSw); go_simp; first | done | with_reducible rfl)
  try simp only [Act.put, List.setIfInBounds_toArray, List.set_cons_zero, List.set_cons_succ]
  refine wpAnyH_take (i := 10) (oi := _) (v := ?v9) rfl (by kernel_rfl) (by kernel_rfl) (by kernel_rfl) (fun _ _ _ h => h) (Or.inl ⟨by rfl, ?hy9⟩) (by assumption) ?rest9
  case hy9 => (intro w hSw; (try dsimp only at hSw); go_simp; first | done | with_reducible rfl)
  try simp only [Act.put, List.setIfInBounds_toArray, List.set_cons_zero, List.set_cons_succ]
  refine wpAnyH_take (i := 11) (oi := _) (v := ?v10) rfl (by kernel_rfl) (by kernel_rfl) (by kernel_rfl) (fun _ _ _ h => h) (Or.inl ⟨by rfl, ?hy10⟩) (by assumption) ?rest10
  case hy10 => (intro w hSw; (try dsimp only at hSw); go_simp; first | done | with_reducible rfl)
  try simp only [Act.put, List.setIfInBounds_toArray, List.set_cons_zero, List.set_cons_succ]
  refine wpAnyH_take (i := 12) (oi := _) (v := ?v11) rfl (by kernel_rfl) (by kernel_rfl) (by kernel_rfl) (fun _ _ _ h => h) (Or.inl ⟨by rfl, ?hy11⟩) (by assumption) ?rest11
  case hy11 => (intro w hSw; (try dsimp only at hSw); go_simp; first | done | with_reducible rfl)
  try simp only [Act.put, List.setIfInBounds_toArray, List.set_cons_zero, List.set_cons_succ]
  refine wpAnyH_take (i := 13) (oi := _) (v := ?v12) rfl (by kernel_rfl) (by kernel_rfl) (by kernel_rfl) (fun _ _ _ h => h) (Or.inl ⟨by rfl, ?hy12⟩) (by assumption) ?rest12
  case hy12 => (intro w hSw; (try dsimp only at hSw); go_simp; first | done | with_reducible rfl)
  try simp only [Act.put, List.setIfInBounds_toArray, List.set_cons_zero, List.set_cons_succ]
  refine wpAnyH_take (i := 16) (oi := _) (v := ?v13) rfl (by kernel_rfl) (by kernel_rfl) (by kernel_rfl) (fun _ _ _ h => h) (Or.inl ⟨by rfl, ?hy13⟩) (by assumption) ?rest13
  case hy13 => (intro w hSw; (try dsimp only at hSw); go_simp; first | done | with_reducible rfl)
  try simp only [Act.put, List.setIfInBounds_toArray, List.set_cons_zero, List.set_cons_succ]
  refine wpAnyH_ready (rs := [4, 8, 17]) (by kernel_rfl) (by simp) ?_
  refine AllReadyH.cons (o := _) rfl (fun K hK => ?_) ?_
  · skip
    go_simp
    refine hK.out _ _ ?_ (fun hHeld => ?_)
    · (first
      | exact KS.out _ (Mod.refl _ _)
      | exact KS.out _ (Mod.drewN _ w 1)
      | exact KS.out _ (Mod.of_below BT.out)
      | exact KS.out _ ((Mod.of_below BT.out).then_ (Mod.alloc ρ.vN.ownBlock.toList _ _) (fun _ h => h))
      | exact KS.out _ ((Mod.of_below BT.out).then_ HM2.out (fun _ h => h))
      | exact KT.out _ _ (KS.out _ ((Mod.of_below BT.out).then_ HM2.out (fun _ h => h))))
    clear hK K
    try simp only [Act.put, List.setIfInBounds_toArray, List.set_cons_zero, List.set_cons_succ]
    refine wpAnyH_ready (rs := [8, 17]) (by kernel_rfl) (by simp) ?_
    refine AllReadyH.cons (o := _) rfl (fun K hK => ?_) ?_
    · skip
      go_simp
      refine hK.out _ _ ?_ (fun hHeld => ?_)
      · (first
      | exact KS.out _ (Mod.refl _ _)
      | exact KS.out _ (Mod.drewN _ w 1)
      | exact KS.out _ (Mod.of_below BT.out)
      | exact KS.out _ ((Mod.of_below BT.out).then_ (Mod.alloc ρ.vN.ownBlock.toList _ _) (fun _ h => h))
      | exact KS.out _ ((Mod.of_below BT.out).then_ HM2.out (fun _ h => h))
      | exact KT.out _ _ (KS.out _ ((Mod.of_below BT.out).then_ HM2.out (fun _ h => h))))
      clear hK K
      try simp only [Act.put, List.setIfInBounds_toArray, List.set_cons_zero, List.set_cons_succ]
      refine wpAnyH_take (i := 14) (oi := _) (v := ?v14) rfl (by kernel_rfl) (by kernel_rfl) (by kernel_rfl) (fun _ _ _ h => h) (Or.inl ⟨by rfl, ?hy14⟩) (by assumption) ?rest14
      case hy14 => (intro w hSw; (try dsimp only at hSw); go_simp; first | done | with_reducible rfl)
      try simp only [Act.put, List.setIfInBounds_toArray, List.set_cons_zero, List.set_cons_succ]
      refine wpAnyH_ready (rs := [15, 17]) (by kernel_rfl) (by simp) ?_
      refine AllReadyH.cons (o := _) rfl (fun K hK => ?_) ?_
      · skip
        go_simp
        refine hK.out _ _ ?_ (fun hHeld => ?_)
        · (first
      | exact KS.out _ (Mod.refl _ _)
      | exact KS.out _ (Mod.drewN _ w 1)
      | exact KS.out _ (Mod.of_below BT.out)
      | exact KS.out _ ((Mod.of_below BT.out).then_ (Mod.alloc ρ.vN.ownBlock.toList _ _) (fun _ h => h))
      | exact KS.out _ ((Mod.of_below BT.out).then_ HM2.out (fun _ h => h))
      | exact KT.out _ _ (KS.out _ ((Mod.of_below BT.out).then_ HM2.out (fun _ h => h))))
        clear hK K
        try simp only [Act.put, List.setIfInBounds_toArray, List.set_cons_zero, List.set_cons_succ]
        refine wpAnyH_ready (rs := [17]) (by kernel_rfl) (by simp) ?_
        refine AllReadyH.cons (o := _) rfl (fun K hK => ?_) ?_
        · skip
          go_simp
          (first
    | (go_at_call 33; refine (longer_any d _).mono ?_; rintro e1 w1 ⟨rfl, hb1⟩; have hbt : Below w.heap.size w w1 := (Below.refl _ _).drew.then_ hb1; have s1 := hbt.blk HP.out; have CN1 := hbt.cell' cn; have C1 := blk_cell s1; have F1 := blk_free s1; have LP1 := blk_lt s1; have HO1 := Lib.hid (SlO.below H.out.hN hbt); have BT := Lib.hid hbt; have S1 := Lib.hid s1; have B3 := Lib.hid (Nat.le_trans hbase hbt.size); clear hb1 hbt s1)
    | (refine step_app1N et_int (W := w1) (R.N.length + 1) rfl (.tmp 16) (.tmp 31) rfl base icell len_int one_int ρ.vN R.N (by exact hv.symm) HO1.out (IntKind.i64.wrap (nn + grown d)) _ rfl w1.heap.size rfl rfl rfl B1.out B2.out B3.out ?_; intro g cap w2 ho2 hm2 hg2 hlt2; have s2 := hm2.blk HNR.out S1.out; have C2 := blk_cell s2; have F2 := blk_free s2; have S2 := Lib.hid s2; have HO2 := Lib.hid ho2; have HM2 := Lib.hid hm2; have HG2 := Lib.hid hg2; clear s2 ho2 hm2 hg2))
          refine hK.out _ _ ?_ (fun hHeld => ?_)
          · (first
      | exact KS.out _ (Mod.refl _ _)
      | exact KS.out _ (Mod.drewN _ w 1)
      | exact KS.out _ (Mod.of_below BT.out)
      | exact KS.out _ ((Mod.of_below BT.out).then_ (Mod.alloc ρ.vN.ownBlock.toList _ _) (fun _ h => h))
      | exact KS.out _ ((Mod.of_below BT.out).then_ HM2.out (fun _ h => h))
      | exact KT.out _ _ (KS.out _ ((Mod.of_below BT.out).then_ HM2.out (fun _ h => h))))
          clear hK K
          try simp only [Act.put, List.setIfInBounds_toArray, List.set_cons_zero, List.set_cons_succ]
          refine wpAnyH_take (i := 18) (oi := _) (v := ?v15) rfl (by kernel_rfl) (by kernel_rfl) (by kernel_rfl) (fun _ _ _ h => h) (Or.inl ⟨by rfl, ?hy15⟩) (by assumption) ?rest15
          case hy15 => (intro w hSw; (try dsimp only at hSw); go_simp; first | done | with_reducible rfl)
          try simp only [Act.put, List.setIfInBounds_toArray, List.set_cons_zero, List.set_cons_succ]
          refine wpAnyH_ready (rs := [19]) (by kernel_rfl) (by simp) ?_
          refine AllReadyH.cons (o := _) rfl (fun K hK => ?_) ?_
          · skip
            go_simp
            refine hK.out _ _ ?_ (fun hHeld => ?_)
            · (first
      | exact KS.out _ (Mod.refl _ _)
      | exact KS.out _ (Mod.drewN _ w 1)
      | exact KS.out _ (Mod.of_below BT.out)
      | exact KS.out _ ((Mod.of_below BT.out).then_ (Mod.alloc ρ.vN.ownBlock.toList _ _) (fun _ h => h))
      | exact KS.out _ ((Mod.of_below BT.out).then_ HM2.out (fun _ h => h))
      | exact KT.out _ _ (KS.out _ ((Mod.of_below BT.out).then_ HM2.out (fun _ h => h))))
            clear hK K
            try simp only [Act.put, List.setIfInBounds_toArray, List.set_cons_zero, List.set_cons_succ]
            refine wpAnyH_ready (rs := [20]) (by kernel_rfl) (by simp) ?_
            refine AllReadyH.cons (o := _) rfl (fun K hK => ?_) ?_
            · skip
              (first
    | (go_at_call 33; refine (longer_any d _).mono ?_; rintro e1 w1 ⟨rfl, hb1⟩; have hbt : Below w.heap.size w w1 := (Below.refl _ _).drew.then_ hb1; have s1 := hbt.blk HP.out; have CN1 := hbt.cell' cn; have C1 := blk_cell s1; have F1 := blk_free s1; have LP1 := blk_lt s1; have HO1 := Lib.hid (SlO.below H.out.hN hbt); have BT := Lib.hid hbt; have S1 := Lib.hid s1; have B3 := Lib.hid (Nat.le_trans hbase hbt.size); clear hb1 hbt s1)
    | (refine step_app1N et_int (W := w1) (R.N.length + 1) rfl (.tmp 16) (.tmp 31) rfl base icell len_int one_int ρ.vN R.N (by exact hv.symm) HO1.out (IntKind.i64.wrap (nn + grown d)) _ rfl w1.heap.size rfl rfl rfl B1.out B2.out B3.out ?_; intro g cap w2 ho2 hm2 hg2 hlt2; have s2 := hm2.blk HNR.out S1.out; have C2 := blk_cell s2; have F2 := blk_free s2; have S2 := Lib.hid s2; have HO2 := Lib.hid ho2; have HM2 := Lib.hid hm2; have HG2 := Lib.hid hg2; clear s2 ho2 hm2 hg2))
              refine hK.out _ _ ?_ (fun hHeld => ?_)
              · (first
      | exact KS.out _ (Mod.refl _ _)
      | exact KS.out _ (Mod.drewN _ w 1)
      | exact KS.out _ (Mod.of_below BT.out)
      | exact KS.out _ ((Mod.of_below BT.out).then_ (Mod.alloc ρ.vN.ownBlock.toList _ _) (fun _ h => h))
      | exact KS.out _ ((Mod.of_below BT.out).then_ HM2.out (fun _ h => h))
      | exact KT.out _ _ (KS.out _ ((Mod.of_below BT.out).then_ HM2.out (fun _ h => h))))
              clear hK K
              try simp only [Act.put, List.setIfInBounds_toArray, List.set_cons_zero, List.set_cons_succ]
              refine wpAnyH_take (i := 21) (oi := _) (v := ?v16) rfl (by kernel_rfl) (by kernel_rfl) (by kernel_rfl) (fun _ _ _ h => h) (Or.inl ⟨by rfl, ?hy16⟩) (by assumption) ?rest16
              case hy16 => (intro w hSw; (try dsimp only at hSw); go_simp; first | done | with_reducible rfl)
              try simp only [Act.put, List.setIfInBounds_toArray, List.set_cons_zero, List.set_cons_succ]
              refine wpAnyH_take (i := 22) (oi := _) (v := ?v17) rfl (by kernel_rfl) (by kernel_rfl) (by kernel_rfl) (fun _ _ _ h => h) (Or.inl ⟨by rfl, ?hy17⟩) (by assumption) ?rest17
              case hy17 => (intro w hSw; (try dsimp only at hSw); go_simp; first | done | with_reducible rfl)
              try simp only [Act.put, List.setIfInBounds_toArray, List.set_cons_zero, List.set_cons_succ]
              refine wpAnyH_ready (rs := [23]) (by kernel_rfl) (by simp) ?_
              refine AllReadyH.cons (o := _) rfl (fun K hK => ?_) ?_
              · skip
                go_simp
                refine hK.out _ _ ?_ (fun hHeld => ?_)
                · (first
      | exact KS.out _ (Mod.refl _ _)
      | exact KS.out _ (Mod.drewN _ w 1)
      | exact KS.out _ (Mod.of_below BT.out)
      | exact KS.out _ ((Mod.of_below BT.out).then_ (Mod.alloc ρ.vN.ownBlock.toList _ _) (fun _ h => h))
      | exact KS.out _ ((Mod.of_below BT.out).then_ HM2.out (fun _ h => h))
      | exact KT.out _ _ (KS.out _ ((Mod.of_below BT.out).then_ HM2.out (fun _ h => h))))
                clear hK K
                try simp only [Act.put, List.setIfInBounds_toArray, List.set_cons_zero, List.set_cons_succ]
                refine wpAnyH_done (by kernel_rfl) ?_ _
                refine NoPanic.normal ?_
                refine hK _ _ _ _ _ _ _ _ _ _ _ _ _ _ _ _ _ _ _ _ _ _ _ _ ?_
                have ho2 := HO2.out
                rw [HW.out] at ho2
                exact H.out.stepN hbase BT.out HM2.out ho2 HG2.out
              exact AllReadyH.nil
            exact AllReadyH.nil
          exact AllReadyH.nil
        exact AllReadyH.nil
      refine AllReadyH.cons (o := _) rfl (fun K hK => ?_) ?_
      · skip
        go_simp
        (first
    | (go_at_call 33; refine (longer_any d _).mono ?_; rintro e1 w1 ⟨rfl, hb1⟩; have hbt : Below w.heap.size w w1 := (Below.refl _ _).drew.then_ hb1; have s1 := hbt.blk HP.out; have CN1 := hbt.cell' cn; have C1 := blk_cell s1; have F1 := blk_free s1; have LP1 := blk_lt s1; have HO1 := Lib.hid (SlO.below H.out.hN hbt); have BT := Lib.hid hbt; have S1 := Lib.hid s1; have B3 := Lib.hid (Nat.le_trans hbase hbt.size); clear hb1 hbt s1)
    | (refine step_app1N et_int (W := w1) (R.N.length + 1) rfl (.tmp 16) (.tmp 31) rfl base icell len_int one_int ρ.vN R.N (by exact hv.symm) HO1.out (IntKind.i64.wrap (nn + grown d)) _ rfl w1.heap.size rfl rfl rfl B1.out B2.out B3.out ?_; intro g cap w2 ho2 hm2 hg2 hlt2; have s2 := hm2.blk HNR.out S1.out; have C2 := blk_cell s2; have F2 := blk_free s2; have S2 := Lib.hid s2; have HO2 := Lib.hid ho2; have HM2 := Lib.hid hm2; have HG2 := Lib.hid hg2; clear s2 ho2 hm2 hg2))
        refine hK.out _ _ ?_ (fun hHeld => ?_)
        · (first
      | exact KS.out _ (Mod.refl _ _)
      | exact KS.out _ (Mod.drewN _ w 1)
      | exact KS.out _ (Mod.of_below BT.out)
      | exact KS.out _ ((Mod.of_below BT.out).then_ (Mod.alloc ρ.vN.ownBlock.toList _ _) (fun _ h => h))
      | exact KS.out _ ((Mod.of_below BT.out).then_ HM2.out (fun _ h => h))
      | exact KT.out _ _ (KS.out _ ((Mod.of_below BT.out).then_ HM2.out (fun _ h => h))))
        clear hK K
        try simp only [Act.put, List.setIfInBounds_toArray, List.set_cons_zero, List.set_cons_succ]
        refine wpAnyH_ready (rs := [15]) (by kernel_rfl) (by simp) ?_
        refine AllReadyH.cons (o := _) rfl (fun K hK => ?_) ?_
        · skip
          go_simp
          refine hK.out _ _ ?_ (fun hHeld => ?_)
          · (first
      | exact KS.out _ (Mod.refl _ _)
      | exact KS.out _ (Mod.drewN _ w 1)
      | exact KS.out _ (Mod.of_below BT.out)
      | exact KS.out _ ((Mod.of_below BT.out).then_ (Mod.alloc ρ.vN.ownBlock.toList _ _) (fun _ h => h))
      | exact KS.out _ ((Mod.of_below BT.out).then_ HM2.out (fun _ h => h))
      | exact KT.out _ _ (KS.out _ ((Mod.of_below BT.out).then_ HM2.out (fun _ h => h))))
          clear hK K
          try simp only [Act.put, List.setIfInBounds_toArray, List.set_cons_zero, List.set_cons_succ]
          refine wpAnyH_take (i := 18) (oi := _) (v := ?v18) rfl (by kernel_rfl) (by kernel_rfl) (by kernel_rfl) (fun _ _ _ h => h) (Or.inl ⟨by rfl, ?hy18⟩) (by assumption) ?rest18
          case hy18 => (intro w hSw; (try dsimp only at hSw); go_simp; first | done | with_reducible rfl)
          try simp only [Act.put, List.setIfInBounds_toArray, List.set_cons_zero, List.set_cons_succ]
          refine wpAnyH_ready (rs := [19]) (by kernel_rfl) (by simp) ?_
          refine AllReadyH.cons (o := _) rfl (fun K hK => ?_) ?_
          · skip
            go_simp
            refine hK.out _ _ ?_ (fun hHeld => ?_)
            · (first
      | exact KS.out _ (Mod.refl _ _)
      | exact KS.out _ (Mod.drewN _ w 1)
      | exact KS.out _ (Mod.of_below BT.out)
      | exact KS.out _ ((Mod.of_below BT.out).then_ (Mod.alloc ρ.vN.ownBlock.toList _ _) (fun _ h => h))
      | exact KS.out _ ((Mod.of_below BT.out).then_ HM2.out (fun _ h => h))
      | exact KT.out _ _ (KS.out _ ((Mod.of_below BT.out).then_ HM2.out (fun _ h => h))))
            clear hK K
            try simp only [Act.put, List.setIfInBounds_toArray, List.set_cons_zero, List.set_cons_succ]
            refine wpAnyH_ready (rs := [20]) (by kernel_rfl) (by simp) ?_
            refine AllReadyH.cons (o := _) rfl (fun K hK => ?_) ?_
            · skip
              (first
    | (go_at_call 33; refine (longer_any d _).mono ?_; rintro e1 w1 ⟨rfl, hb1⟩; have hbt : Below w.heap.size w w1 := (Below.refl _ _).drew.then_ hb1; have s1 := hbt.blk HP.out; have CN1 := hbt.cell' cn; have C1 := blk_cell s1; have F1 := blk_free s1; have LP1 := blk_lt s1; have HO1 := Lib.hid (SlO.below H.out.hN hbt); have BT := Lib.hid hbt; have S1 := Lib.hid s1; have B3 := Lib.hid (Nat.le_trans hbase hbt.size); clear hb1 hbt s1)
    | (refine step_app1N et_int (W := w1) (R.N.length + 1) rfl (.tmp 16) (.tmp 31) rfl base icell len_int one_int ρ.vN R.N (by exact hv.symm) HO1.out (IntKind.i64.wrap (nn + grown d)) _ rfl w1.heap.size rfl rfl rfl B1.out B2.out B3.out ?_; intro g cap w2 ho2 hm2 hg2 hlt2; have s2 := hm2.blk HNR.out S1.out; have C2 := blk_cell s2; have F2 := blk_free s2; have S2 := Lib.hid s2; have HO2 := Lib.hid ho2; have HM2 := Lib.hid hm2; have HG2 := Lib.hid hg2; clear s2 ho2 hm2 hg2))
              refine hK.out _ _ ?_ (fun hHeld => ?_)
              · (first
      | exact KS.out _ (Mod.refl _ _)
      | exact KS.out _ (Mod.drewN _ w 1)
      | exact KS.out _ (Mod.of_below BT.out)
      | exact KS.out _ ((Mod.of_below BT.out).then_ (Mod.alloc ρ.vN.ownBlock.toList _ _) (fun _ h => h))
      | exact KS.out _ ((Mod.of_below BT.out).then_ HM2.out (fun _ h => h))
      | exact KT.out _ _ (KS.out _ ((Mod.of_below BT.out).then_ HM2.out (fun _ h => h))))
              clear hK K
              try simp only [Act.put, List.setIfInBounds_toArray, List.set_cons_zero, List.set_cons_succ]
              refine wpAnyH_take (i := 21) (oi := _) (v := ?v19) rfl (by kernel_rfl) (by kernel_rfl) (by kernel_rfl) (fun _ _ _ h => h) (Or.inl ⟨by rfl, ?hy19⟩) (by assumption) ?rest19
              case hy19 => (intro w hSw; (try dsimp only at hSw); go_simp; first | done | with_reducible rfl)
              try simp only [Act.put, List.setIfInBounds_toArray, List.set_cons_zero, List.set_cons_succ]
              refine wpAnyH_take (i := 22) (oi := _) (v := ?v20) rfl (by kernel_rfl) (by kernel_rfl) (by kernel_rfl) (fun _ _ _ h => h) (Or.inl ⟨by rfl, ?hy20⟩) (by assumption) ?rest20
              case hy20 => (intro w hSw; (try dsimp only at hSw); go_simp; first | done | with_reducible rfl)
              try simp only [Act.put, List.setIfInBounds_toArray, List.set_cons_zero, List.set_cons_succ]
              refine wpAnyH_ready (rs := [23]) (by kernel_rfl) (by simp) ?_
              refine AllReadyH.cons (o := _) rfl (fun K hK => ?_) ?_
              · skip
                go_simp
                refine hK.out _ _ ?_ (fun hHeld => ?_)
                · (first
      | exact KS.out _ (Mod.refl _ _)
      | exact KS.out _ (Mod.drewN _ w 1)
      | exact KS.out _ (Mod.of_below BT.out)
      | exact KS.out _ ((Mod.of_below BT.out).then_ (Mod.alloc ρ.vN.ownBlock.toList _ _) (fun _ h => h))
      | exact KS.out _ ((Mod.of_below BT.out).then_ HM2.out (fun _ h => h))
      | exact KT.out _ _ (KS.out _ ((Mod.of_below BT.out).then_ HM2.out (fun _ h => h))))
                clear hK K
                try simp only [Act.put, List.setIfInBounds_toArray, List.set_cons_zero, List.set_cons_succ]
                refine wpAnyH_done (by kernel_rfl) ?_ _
                refine NoPanic.normal ?_
                refine hK _ _ _ _ _ _ _ _ _ _ _ _ _ _ _ _ _ _ _ _ _ _ _ _ ?_
                have ho2 := HO2.out
                rw [HW.out] at ho2
                exact H.out.stepN hbase BT.out HM2.out ho2 HG2.out
              exact AllReadyH.nil
            exact AllReadyH.nil
          exact AllReadyH.nil
        exact AllReadyH.nil
      exact AllReadyH.nil
    refine AllReadyH.cons (o := _) rfl (fun K hK => ?_) ?_
    · skip
      go_simp
      (first
    | (go_at_call 33; refine (longer_any d _).mono ?_; rintro e1 w1 ⟨rfl, hb1⟩; have hbt : Below w.heap.size w w1 := (Below.refl _ _).drew.then_ hb1; have s1 := hbt.blk HP.out; have CN1 := hbt.cell' cn; have C1 := blk_cell s1; have F1 := blk_free s1; have LP1 := blk_lt s1; have HO1 := Lib.hid (SlO.below H.out.hN hbt); have BT := Lib.hid hbt; have S1 := Lib.hid s1; have B3 := Lib.hid (Nat.le_trans hbase hbt.size); clear hb1 hbt s1)
    | (refine step_app1N et_int (W := w1) (R.N.length + 1) rfl (.tmp 16) (.tmp 31) rfl base icell len_int one_int ρ.vN R.N (by exact hv.symm) HO1.out (IntKind.i64.wrap (nn + grown d)) _ rfl w1.heap.size rfl rfl rfl B1.out B2.out B3.out ?_; intro g cap w2 ho2 hm2 hg2 hlt2; have s2 := hm2.blk HNR.out S1.out; have C2 := blk_cell s2; have F2 := blk_free s2; have S2 := Lib.hid s2; have HO2 := Lib.hid ho2; have HM2 := Lib.hid hm2; have HG2 := Lib.hid hg2; clear s2 ho2 hm2 hg2))
      refine hK.out _ _ ?_ (fun hHeld => ?_)
      · (first
      | exact KS.out _ (Mod.refl _ _)
      | exact KS.out _ (Mod.drewN _ w 1)
      | exact KS.out _ (Mod.of_below BT.out)
      | exact KS.out _ ((Mod.of_below BT.out).then_ (Mod.alloc ρ.vN.ownBlock.toList _ _) (fun _ h => h))
      | exact KS.out _ ((Mod.of_below BT.out).then_ HM2.out (fun _ h => h))
      | exact KT.out _ _ (KS.out _ ((Mod.of_below BT.out).then_ HM2.out (fun _ h => h))))
      clear hK K
      try simp only [Act.put, List.setIfInBounds_toArray, List.set_cons_zero, List.set_cons_succ]
      refine wpAnyH_ready (rs := [8]) (by kernel_rfl) (by simp) ?_
      refine AllReadyH.cons (o := _) rfl (fun K hK => ?_) ?_
      · skip
        go_simp
        refine hK.out _ _ ?_ (fun hHeld => ?_)
        · (first
      | exact KS.out _ (Mod.refl _ _)
      | exact KS.out _ (Mod.drewN _ w 1)
      | exact KS.out _ (Mod.of_below BT.out)
      | exact KS.out _ ((Mod.of_below BT.out).then_ (Mod.alloc ρ.vN.ownBlock.toList _ _) (fun _ h => h))
      | exact KS.out _ ((Mod.of_below BT.out).then_ HM2.out (fun _ h => h))
      | exact KT.out _ _ (KS.out _ ((Mod.of_below BT.out).then_ HM2.out (fun _ h => h))))
        clear hK K
        try simp only [Act.put, List.setIfInBounds_toArray, List.set_cons_zero, List.set_cons_succ]
        refine wpAnyH_take (i := 14) (oi := _) (v := ?v21) rfl (by kernel_rfl) (by kernel_rfl) (by kernel_rfl) (fun _ _ _ h => h) (Or.inl ⟨by rfl, ?hy21⟩) (by assumption) ?rest21
        case hy21 => (intro w hSw; (try dsimp only at hSw); go_simp; first | done | with_reducible rfl)
        try simp only [Act.put, List.setIfInBounds_toArray, List.set_cons_zero, List.set_cons_succ]
        refine wpAnyH_ready (rs := [15]) (by kernel_rfl) (by simp) ?_
        refine AllReadyH.cons (o := _) rfl (fun K hK => ?_) ?_
        · skip
          go_simp
          refine hK.out _ _ ?_ (fun hHeld => ?_)
          · (first
      | exact KS.out _ (Mod.refl _ _)
      | exact KS.out _ (Mod.drewN _ w 1)
      | exact KS.out _ (Mod.of_below BT.out)
      | exact KS.out _ ((Mod.of_below BT.out).then_ (Mod.alloc ρ.vN.ownBlock.toList _ _) (fun _ h => h))
      | exact KS.out _ ((Mod.of_below BT.out).then_ HM2.out (fun _ h => h))
      | exact KT.out _ _ (KS.out _ ((Mod.of_below BT.out).then_ HM2.out (fun _ h => h))))
          clear hK K
          try simp only [Act.put, List.setIfInBounds_toArray, List.set_cons_zero, List.set_cons_succ]
          refine wpAnyH_take (i := 18) (oi := _) (v := ?v22) rfl (by kernel_rfl) (by kernel_rfl) (by kernel_rfl) (fun _ _ _ h => h) (Or.inl ⟨by rfl, ?hy22⟩) (by assumption) ?rest22
          case hy22 => (intro w hSw; (try dsimp only at hSw); go_simp; first | done | with_reducible rfl)
          try simp only [Act.put, List.setIfInBounds_toArray, List.set_cons_zero, List.set_cons_succ]
          refine wpAnyH_ready (rs := [19]) (by kernel_rfl) (by simp) ?_
          refine AllReadyH.cons (o := _) rfl (fun K hK => ?_) ?_
          · skip
            go_simp
            refine hK.out _ _ ?_ (fun hHeld => ?_)
            · (first
      | exact KS.out _ (Mod.refl _ _)
      | exact KS.out _ (Mod.drewN _ w 1)
      | exact KS.out _ (Mod.of_below BT.out)
      | exact KS.out _ ((Mod.of_below BT.out).then_ (Mod.alloc ρ.vN.ownBlock.toList _ _) (fun _ h => h))
      | exact KS.out _ ((Mod.of_below BT.out).then_ HM2.out (fun _ h => h))
      | exact KT.out _ _ (KS.out _ ((Mod.of_below BT.out).then_ HM2.out (fun _ h => h))))
            clear hK K
            try simp only [Act.put, List.setIfInBounds_toArray, List.set_cons_zero, List.set_cons_succ]
            refine wpAnyH_ready (rs := [20]) (by kernel_rfl) (by simp) ?_
            refine AllReadyH.cons (o := _) rfl (fun K hK => ?_) ?_
            · skip
              (first
    | (go_at_call 33; refine (longer_any d _).mono ?_; rintro e1 w1 ⟨rfl, hb1⟩; have hbt : Below w.heap.size w w1 := (Below.refl _ _).drew.then_ hb1; have s1 := hbt.blk HP.out; have CN1 := hbt.cell' cn; have C1 := blk_cell s1; have F1 := blk_free s1; have LP1 := blk_lt s1; have HO1 := Lib.hid (SlO.below H.out.hN hbt); have BT := Lib.hid hbt; have S1 := Lib.hid s1; have B3 := Lib.hid (Nat.le_trans hbase hbt.size); clear hb1 hbt s1)
    | (refine step_app1N et_int (W := w1) (R.N.length + 1) rfl (.tmp 16) (.tmp 31) rfl base icell len_int one_int ρ.vN R.N (by exact hv.symm) HO1.out (IntKind.i64.wrap (nn + grown d)) _ rfl w1.heap.size rfl rfl rfl B1.out B2.out B3.out ?_; intro g cap w2 ho2 hm2 hg2 hlt2; have s2 := hm2.blk HNR.out S1.out; have C2 := blk_cell s2; have F2 := blk_free s2; have S2 := Lib.hid s2; have HO2 := Lib.hid ho2; have HM2 := Lib.hid hm2; have HG2 := Lib.hid hg2; clear s2 ho2 hm2 hg2))
              refine hK.out _ _ ?_ (fun hHeld => ?_)
              · (first
      | exact KS.out _ (Mod.refl _ _)
      | exact KS.out _ (Mod.drewN _ w 1)
      | exact KS.out _ (Mod.of_below BT.out)
      | exact KS.out _ ((Mod.of_below BT.out).then_ (Mod.alloc ρ.vN.ownBlock.toList _ _) (fun _ h => h))
      | exact KS.out _ ((Mod.of_below BT.out).then_ HM2.out (fun _ h => h))
      | exact KT.out _ _ (KS.out _ ((Mod.of_below BT.out).then_ HM2.out (fun _ h => h))))
              clear hK K
              try simp only [Act.put, List.setIfInBounds_toArray, List.set_cons_zero, List.set_cons_succ]
              refine wpAnyH_take (i := 21) (oi := _) (v := ?v23) rfl (by kernel_rfl) (by kernel_rfl) (by kernel_rfl) (fun _ _ _ h => h) (Or.inl ⟨by rfl, ?hy23⟩) (by assumption) ?rest23
              case hy23 => (intro w hSw; (try dsimp only at hSw); go_simp; first | done | with_reducible rfl)
              try simp only [Act.put, List.setIfInBounds_toArray, List.set_cons_zero, List.set_cons_succ]
              refine wpAnyH_take (i := 22) (oi := _) (v := ?v24) rfl (by kernel_rfl) (by kernel_rfl) (by kernel_rfl) (fun _ _ _ h => h) (Or.inl ⟨by rfl, ?hy24⟩) (by assumption) ?rest24
              case hy24 => (intro w hSw; (try dsimp only at hSw); go_simp; first | done | with_reducible rfl)
              try simp only [Act.put, List.setIfInBounds_toArray, List.set_cons_zero, List.set_cons_succ]
              refine wpAnyH_ready (rs := [23]) (by kernel_rfl) (by simp) ?_
              refine AllReadyH.cons (o := _) rfl (fun K hK => ?_) ?_
              · skip
                go_simp
                refine hK.out _ _ ?_ (fun hHeld => ?_)
                · (first
      | exact KS.out _ (Mod.refl _ _)
      | exact KS.out _ (Mod.drewN _ w 1)
      | exact KS.out _ (Mod.of_below BT.out)
      | exact KS.out _ ((Mod.of_below BT.out).then_ (Mod.alloc ρ.vN.ownBlock.toList _ _) (fun _ h => h))
      | exact KS.out _ ((Mod.of_below BT.out).then_ HM2.out (fun _ h => h))
      | exact KT.out _ _ (KS.out _ ((Mod.of_below BT.out).then_ HM2.out (fun _ h => h))))
                clear hK K
                try simp only [Act.put, List.setIfInBounds_toArray, List.set_cons_zero, List.set_cons_succ]
                refine wpAnyH_done (by kernel_rfl) ?_ _
                refine NoPanic.normal ?_
                refine hK _ _ _ _ _ _ _ _ _ _ _ _ _ _ _ _ _ _ _ _ _ _ _ _ ?_
                have ho2 := HO2.out
                rw [HW.out] at ho2
                exact H.out.stepN hbase BT.out HM2.out ho2 HG2.out
              exact AllReadyH.nil
            exact AllReadyH.nil
          exact AllReadyH.nil
        exact AllReadyH.nil
      exact AllReadyH.nil
    exact AllReadyH.nil
  refine AllReadyH.cons (o := _) rfl (fun K hK => ?_) ?_
  · skip
    go_simp
    refine hK.out _ _ ?_ (fun hHeld => ?_)
    · (first
      | exact KS.out _ (Mod.refl _ _)
      | exact KS.out _ (Mod.drewN _ w 1)
      | exact KS.out _ (Mod.of_below BT.out)
      | exact KS.out _ ((Mod.of_below BT.out).then_ (Mod.alloc ρ.vN.ownBlock.toList _ _) (fun _ h => h))
      | exact KS.out _ ((Mod.of_below BT.out).then_ HM2.out (fun _ h => h))
      | exact KT.out _ _ (KS.out _ ((Mod.of_below BT.out).then_ HM2.out (fun _ h => h))))
    clear hK K
    try simp only [Act.put, List.setIfInBounds_toArray, List.set_cons_zero, List.set_cons_succ]
    refine wpAnyH_take (i := 14) (oi := _) (v := ?v25) rfl (by kernel_rfl) (by kernel_rfl) (by kernel_rfl) (fun _ _ _ h => h) (Or.inl ⟨by rfl, ?hy25⟩) (by assumption) ?rest25
    case hy25 => (intro w hSw; (try dsimp only at hSw); go_simp; first | done | with_reducible rfl)
    try simp only [Act.put, List.setIfInBounds_toArray, List.set_cons_zero, List.set_cons_succ]
    refine wpAnyH_ready (rs := [4, 15, 17]) (by kernel_rfl) (by simp) ?_
    refine AllReadyH.cons (o := _) rfl (fun K hK => ?_) ?_
    · skip
      go_simp
      refine hK.out _ _ ?_ (fun hHeld => ?_)
      · (first
      | exact KS.out _ (Mod.refl _ _)
      | exact KS.out _ (Mod.drewN _ w 1)
      | exact KS.out _ (Mod.of_below BT.out)
      | exact KS.out _ ((Mod.of_below BT.out).then_ (Mod.alloc ρ.vN.ownBlock.toList _ _) (fun _ h => h))
      | exact KS.out _ ((Mod.of_below BT.out).then_ HM2.out (fun _ h => h))
      | exact KT.out _ _ (KS.out _ ((Mod.of_below BT.out).then_ HM2.out (fun _ h => h))))
      clear hK K
      try simp only [Act.put, List.setIfInBounds_toArray, List.set_cons_zero, List.set_cons_succ]
      refine wpAnyH_ready (rs := [15, 17]) (by kernel_rfl) (by simp) ?_
      refine AllReadyH.cons (o := _) rfl (fun K hK => ?_) ?_
      · skip
        go_simp
        refine hK.out _ _ ?_ (fun hHeld => ?_)
        · (first
      | exact KS.out _ (Mod.refl _ _)
      | exact KS.out _ (Mod.drewN _ w 1)
      | exact KS.out _ (Mod.of_below BT.out)
      | exact KS.out _ ((Mod.of_below BT.out).then_ (Mod.alloc ρ.vN.ownBlock.toList _ _) (fun _ h => h))
      | exact KS.out _ ((Mod.of_below BT.out).then_ HM2.out (fun _ h => h))
      | exact KT.out _ _ (KS.out _ ((Mod.of_below BT.out).then_ HM2.out (fun _ h => h))))
        clear hK K
        try simp only [Act.put, List.setIfInBounds_toArray, List.set_cons_zero, List.set_cons_succ]
        refine wpAnyH_ready (rs := [17]) (by kernel_rfl) (by simp) ?_
        refine AllReadyH.cons (o := _) rfl (fun K hK => ?_) ?_
        · skip
          go_simp
          (first
    | (go_at_call 33; refine (longer_any d _).mono ?_; rintro e1 w1 ⟨rfl, hb1⟩; have hbt : Below w.heap.size w w1 := (Below.refl _ _).drew.then_ hb1; have s1 := hbt.blk HP.out; have CN1 := hbt.cell' cn; have C1 := blk_cell s1; have F1 := blk_free s1; have LP1 := blk_lt s1; have HO1 := Lib.hid (SlO.below H.out.hN hbt); have BT := Lib.hid hbt; have S1 := Lib.hid s1; have B3 := Lib.hid (Nat.le_trans hbase hbt.size); clear hb1 hbt s1)
    | (refine step_app1N et_int (W := w1) (R.N.length + 1) rfl (.tmp 16) (.tmp 31) rfl base icell len_int one_int ρ.vN R.N (by exact hv.symm) HO1.out (IntKind.i64.wrap (nn + grown d)) _ rfl w1.heap.size rfl rfl rfl B1.out B2.out B3.out ?_; intro g cap w2 ho2 hm2 hg2 hlt2; have s2 := hm2.blk HNR.out S1.out; have C2 := blk_cell s2; have F2 := blk_free s2; have S2 := Lib.hid s2; have HO2 := Lib.hid ho2; have HM2 := Lib.hid hm2; have HG2 := Lib.hid hg2; clear s2 ho2 hm2 hg2))
          refine hK.out _ _ ?_ (fun hHeld => ?_)
          · (first
      | exact KS.out _ (Mod.refl _ _)
      | exact KS.out _ (Mod.drewN _ w 1)
      | exact KS.out _ (Mod.of_below BT.out)
      | exact KS.out _ ((Mod.of_below BT.out).then_ (Mod.alloc ρ.vN.ownBlock.toList _ _) (fun _ h => h))
      | exact KS.out _ ((Mod.of_below BT.out).then_ HM2.out (fun _ h => h))
      | exact KT.out _ _ (KS.out _ ((Mod.of_below BT.out).then_ HM2.out (fun _ h => h))))
          clear hK K
          try simp only [Act.put, List.setIfInBounds_toArray, List.set_cons_zero, List.set_cons_succ]
          refine wpAnyH_take (i := 18) (oi := _) (v := ?v26) rfl (by kernel_rfl) (by kernel_rfl) (by kernel_rfl) (fun _ _ _ h => h) (Or.inl ⟨by rfl, ?hy26⟩) (by assumption) ?rest26
          case hy26 => (intro w hSw; (try dsimp only at hSw); go_simp; first | done | with_reducible rfl)
          try simp only [Act.put, List.setIfInBounds_toArray, List.set_cons_zero, List.set_cons_succ]
          refine wpAnyH_ready (rs := [19]) (by kernel_rfl) (by simp) ?_
          refine AllReadyH.cons (o := _) rfl (fun K hK => ?_) ?_
          · skip
            go_simp
            refine hK.out _ _ ?_ (fun hHeld => ?_)
            · (first
      | exact KS.out _ (Mod.refl _ _)
      | exact KS.out _ (Mod.drewN _ w 1)
      | exact KS.out _ (Mod.of_below BT.out)
      | exact KS.out _ ((Mod.of_below BT.out).then_ (Mod.alloc ρ.vN.ownBlock.toList _ _) (fun _ h => h))
      | exact KS.out _ ((Mod.of_below BT.out).then_ HM2.out (fun _ h => h))
      | exact KT.out _ _ (KS.out _ ((Mod.of_below BT.out).then_ HM2.out (fun _ h => h))))
            clear hK K
            try simp only [Act.put, List.setIfInBounds_toArray, List.set_cons_zero, List.set_cons_succ]
            refine wpAnyH_ready (rs := [20]) (by kernel_rfl) (by simp) ?_
            refine AllReadyH.cons (o := _) rfl (fun K hK => ?_) ?_
            · skip
              (first
    | (go_at_call 33; refine (longer_any d _).mono ?_; rintro e1 w1 ⟨rfl, hb1⟩; have hbt : Below w.heap.size w w1 := (Below.refl _ _).drew.then_ hb1; have s1 := hbt.blk HP.out; have CN1 := hbt.cell' cn; have C1 := blk_cell s1; have F1 := blk_free s1; have LP1 := blk_lt s1; have HO1 := Lib.hid (SlO.below H.out.hN hbt); have BT := Lib.hid hbt; have S1 := Lib.hid s1; have B3 := Lib.hid (Nat.le_trans hbase hbt.size); clear hb1 hbt s1)
    | (refine step_app1N et_int (W := w1) (R.N.length + 1) rfl (.tmp 16) (.tmp 31) rfl base icell len_int one_int ρ.vN R.N (by exact hv.symm) HO1.out (IntKind.i64.wrap (nn + grown d)) _ rfl w1.heap.size rfl rfl rfl B1.out B2.out B3.out ?_; intro g cap w2 ho2 hm2 hg2 hlt2; have s2 := hm2.blk HNR.out S1.out; have C2 := blk_cell s2; have F2 := blk_free s2; have S2 := Lib.hid s2; have HO2 := Lib.hid ho2; have HM2 := Lib.hid hm2; have HG2 := Lib.hid hg2; clear s2 ho2 hm2 hg2))
              refine hK.out _ _ ?_ (fun hHeld => ?_)
              · (first
      | exact KS.out _ (Mod.refl _ _)
      | exact KS.out _ (Mod.drewN _ w 1)
      | exact KS.out _ (Mod.of_below BT.out)
      | exact KS.out _ ((Mod.of_below BT.out).then_ (Mod.alloc ρ.vN.ownBlock.toList _ _) (fun _ h => h))
      | exact KS.out _ ((Mod.of_below BT.out).then_ HM2.out (fun _ h => h))
      | exact KT.out _ _ (KS.out _ ((Mod.of_below BT.out).then_ HM2.out (fun _ h => h))))
              clear hK K
              try simp only [Act.put, List.setIfInBounds_toArray, List.set_cons_zero, List.set_cons_succ]
              refine wpAnyH_take (i := 21) (oi := _) (v := ?v27) rfl (by kernel_rfl) (by kernel_rfl) (by kernel_rfl) (fun _ _ _ h => h) (Or.inl ⟨by rfl, ?hy27⟩) (by assumption) ?rest27
              case hy27 => (intro w hSw; (try dsimp only at hSw); go_simp; first | done | with_reducible rfl)
              try simp only [Act.put, List.setIfInBounds_toArray, List.set_cons_zero, List.set_cons_succ]
              refine wpAnyH_take (i := 22) (oi := _) (v := ?v28) rfl (by kernel_rfl) (by kernel_rfl) (by kernel_rfl) (fun _ _ _ h => h) (Or.inl ⟨by rfl, ?hy28⟩) (by assumption) ?rest28
              case hy28 => (intro w hSw; (try dsimp only at hSw); go_simp; first | done | with_reducible rfl)
              try simp only [Act.put, List.setIfInBounds_toArray, List.set_cons_zero, List.set_cons_succ]
              refine wpAnyH_ready (rs := [23]) (by kernel_rfl) (by simp) ?_
              refine AllReadyH.cons (o := _) rfl (fun K hK => ?_) ?_
              · skip
                go_simp
                refine hK.out _ _ ?_ (fun hHeld => ?_)
                · (first
      | exact KS.out _ (Mod.refl _ _)
      | exact KS.out _ (Mod.drewN _ w 1)
      | exact KS.out _ (Mod.of_below BT.out)
      | exact KS.out _ ((Mod.of_below BT.out).then_ (Mod.alloc ρ.vN.ownBlock.toList _ _) (fun _ h => h))
      | exact KS.out _ ((Mod.of_below BT.out).then_ HM2.out (fun _ h => h))
      | exact KT.out _ _ (KS.out _ ((Mod.of_below BT.out).then_ HM2.out (fun _ h => h))))
                clear hK K
                try simp only [Act.put, List.setIfInBounds_toArray, List.set_cons_zero, List.set_cons_succ]
                refine wpAnyH_done (by kernel_rfl) ?_ _
                refine NoPanic.normal ?_
                refine hK _ _ _ _ _ _ _ _ _ _ _ _ _ _ _ _ _ _ _ _ _ _ _ _ ?_
                have ho2 := HO2.out
                rw [HW.out] at ho2
                exact H.out.stepN hbase BT.out HM2.out ho2 HG2.out
              exact AllReadyH.nil
            exact AllReadyH.nil
          exact AllReadyH.nil
        exact AllReadyH.nil
      refine AllReadyH.cons (o := _) rfl (fun K hK => ?_) ?_
      · skip
        go_simp
        (first
    | (go_at_call 33; refine (longer_any d _).mono ?_; rintro e1 w1 ⟨rfl, hb1⟩; have hbt : Below w.heap.size w w1 := (Below.refl _ _).drew.then_ hb1; have s1 := hbt.blk HP.out; have CN1 := hbt.cell' cn; have C1 := blk_cell s1; have F1 := blk_free s1; have LP1 := blk_lt s1; have HO1 := Lib.hid (SlO.below H.out.hN hbt); have BT := Lib.hid hbt; have S1 := Lib.hid s1; have B3 := Lib.hid (Nat.le_trans hbase hbt.size); clear hb1 hbt s1)
    | (refine step_app1N et_int (W := w1) (R.N.length + 1) rfl (.tmp 16) (.tmp 31) rfl base icell len_int one_int ρ.vN R.N (by exact hv.symm) HO1.out (IntKind.i64.wrap (nn + grown d)) _ rfl w1.heap.size rfl rfl rfl B1.out B2.out B3.out ?_; intro g cap w2 ho2 hm2 hg2 hlt2; have s2 := hm2.blk HNR.out S1.out; have C2 := blk_cell s2; have F2 := blk_free s2; have S2 := Lib.hid s2; have HO2 := Lib.hid ho2; have HM2 := Lib.hid hm2; have HG2 := Lib.hid hg2; clear s2 ho2 hm2 hg2))
        refine hK.out _ _ ?_ (fun hHeld => ?_)
        · (first
      | exact KS.out _ (Mod.refl _ _)
      | exact KS.out _ (Mod.drewN _ w 1)
      | exact KS.out _ (Mod.of_below BT.out)
      | exact KS.out _ ((Mod.of_below BT.out).then_ (Mod.alloc ρ.vN.ownBlock.toList _ _) (fun _ h => h))
      | exact KS.out _ ((Mod.of_below BT.out).then_ HM2.out (fun _ h => h))
      | exact KT.out _ _ (KS.out _ ((Mod.of_below BT.out).then_ HM2.out (fun _ h => h))))
        clear hK K
        try simp only [Act.put, List.setIfInBounds_toArray, List.set_cons_zero, List.set_cons_succ]
        refine wpAnyH_ready (rs := [15]) (by kernel_rfl) (by simp) ?_
        refine AllReadyH.cons (o := _) rfl (fun K hK => ?_) ?_
        · skip
          go_simp
          refine hK.out _ _ ?_ (fun hHeld => ?_)
          · (first
      | exact KS.out _ (Mod.refl _ _)
      | exact KS.out _ (Mod.drewN _ w 1)
      | exact KS.out _ (Mod.of_below BT.out)
      | exact KS.out _ ((Mod.of_below BT.out).then_ (Mod.alloc ρ.vN.ownBlock.toList _ _) (fun _ h => h))
      | exact KS.out _ ((Mod.of_below BT.out).then_ HM2.out (fun _ h => h))
      | exact KT.out _ _ (KS.out _ ((Mod.of_below BT.out).then_ HM2.out (fun _ h => h))))
          clear hK K
          try simp only [Act.put, List.setIfInBounds_toArray, List.set_cons_zero, List.set_cons_succ]
          refine wpAnyH_take (i := 18) (oi := _) (v := ?v29) rfl (by kernel_rfl) (by kernel_rfl) (by kernel_rfl) (fun _ _ _ h => h) (Or.inl ⟨by rfl, ?hy29⟩) (by assumption) ?rest29
          case hy29 => (intro w hSw; (try dsimp only at hSw); go_simp; first | done | with_reducible rfl)
          try simp only [Act.put, List.setIfInBounds_toArray, List.set_cons_zero, List.set_cons_succ]
          refine wpAnyH_ready (rs := [19]) (by kernel_rfl) (by simp) ?_
          refine AllReadyH.cons (o := _) rfl (fun K hK => ?_) ?_
          · skip
            go_simp
            refine hK.out _ _ ?_ (fun hHeld => ?_)
            · (first
      | exact KS.out _ (Mod.refl _ _)
      | exact KS.out _ (Mod.drewN _ w 1)
      | exact KS.out _ (Mod.of_below BT.out)
      | exact KS.out _ ((Mod.of_below BT.out).then_ (Mod.alloc ρ.vN.ownBlock.toList _ _) (fun _ h => h))
      | exact KS.out _ ((Mod.of_below BT.out).then_ HM2.out (fun _ h => h))
      | exact KT.out _ _ (KS.out _ ((Mod.of_below BT.out).then_ HM2.out (fun _ h => h))))
            clear hK K
            try simp only [Act.put, List.setIfInBounds_toArray, List.set_cons_zero, List.set_cons_succ]
            refine wpAnyH_ready (rs := [20]) (by kernel_rfl) (by simp) ?_
            refine AllReadyH.cons (o := _) rfl (fun K hK => ?_) ?_
            · skip
              (first
    | (go_at_call 33; refine (longer_any d _).mono ?_; rintro e1 w1 ⟨rfl, hb1⟩; have hbt : Below w.heap.size w w1 := (Below.refl _ _).drew.then_ hb1; have s1 := hbt.blk HP.out; have CN1 := hbt.cell' cn; have C1 := blk_cell s1; have F1 := blk_free s1; have LP1 := blk_lt s1; have HO1 := Lib.hid (SlO.below H.out.hN hbt); have BT := Lib.hid hbt; have S1 := Lib.hid s1; have B3 := Lib.hid (Nat.le_trans hbase hbt.size); clear hb1 hbt s1)
    | (refine step_app1N et_int (W := w1) (R.N.length + 1) rfl (.tmp 16) (.tmp 31) rfl base icell len_int one_int ρ.vN R.N (by exact hv.symm) HO1.out (IntKind.i64.wrap (nn + grown d)) _ rfl w1.heap.size rfl rfl rfl B1.out B2.out B3.out ?_; intro g cap w2 ho2 hm2 hg2 hlt2; have s2 := hm2.blk HNR.out S1.out; have C2 := blk_cell s2; have F2 := blk_free s2; have S2 := Lib.hid s2; have HO2 := Lib.hid ho2; have HM2 := Lib.hid hm2; have HG2 := Lib.hid hg2; clear s2 ho2 hm2 hg2))
              refine hK.out _ _ ?_ (fun hHeld => ?_)
              · (first
      | exact KS.out _ (Mod.refl _ _)
      | exact KS.out _ (Mod.drewN _ w 1)
      | exact KS.out _ (Mod.of_below BT.out)
      | exact KS.out _ ((Mod.of_below BT.out).then_ (Mod.alloc ρ.vN.ownBlock.toList _ _) (fun _ h => h))
      | exact KS.out _ ((Mod.of_below BT.out).then_ HM2.out (fun _ h => h))
      | exact KT.out _ _ (KS.out _ ((Mod.of_below BT.out).then_ HM2.out (fun _ h => h))))
              clear hK K
              try simp only [Act.put, List.setIfInBounds_toArray, List.set_cons_zero, List.set_cons_succ]
              refine wpAnyH_take (i := 21) (oi := _) (v := ?v30) rfl (by kernel_rfl) (by kernel_rfl) (by kernel_rfl) (fun _ _ _ h => h) (Or.inl ⟨by rfl, ?hy30⟩) (by assumption) ?rest30
              case hy30 => (intro w hSw; (try dsimp only at hSw); go_simp; first | done | with_reducible rfl)
              try simp only [Act.put, List.setIfInBounds_toArray, List.set_cons_zero, List.set_cons_succ]
              refine wpAnyH_take (i := 22) (oi := _) (v := ?v31) rfl (by kernel_rfl) (by kernel_rfl) (by kernel_rfl) (fun _ _ _ h => h) (Or.inl ⟨by rfl, ?hy31⟩) (by assumption) ?rest31
              case hy31 => (intro w hSw; (try dsimp only at hSw); go_simp; first | done | with_reducible rfl)
              try simp only [Act.put, List.setIfInBounds_toArray, List.set_cons_zero, List.set_cons_succ]
              refine wpAnyH_ready (rs := [23]) (by kernel_rfl) (by simp) ?_
              refine AllReadyH.cons (o := _) rfl (fun K hK => ?_) ?_
              · skip
                go_simp
                refine hK.out _ _ ?_ (fun hHeld => ?_)
                · (first
      | exact KS.out _ (Mod.refl _ _)
      | exact KS.out _ (Mod.drewN _ w 1)
      | exact KS.out _ (Mod.of_below BT.out)
      | exact KS.out _ ((Mod.of_below BT.out).then_ (Mod.alloc ρ.vN.ownBlock.toList _ _) (fun _ h => h))
      | exact KS.out _ ((Mod.of_below BT.out).then_ HM2.out (fun _ h => h))
      | exact KT.out _ _ (KS.out _ ((Mod.of_below BT.out).then_ HM2.out (fun _ h => h))))
                clear hK K
                try simp only [Act.put, List.setIfInBounds_toArray, List.set_cons_zero, List.set_cons_succ]
                refine wpAnyH_done (by kernel_rfl) ?_ _
                refine NoPanic.normal ?_
                refine hK _ _ _ _ _ _ _ _ _ _ _ _ _ _ _ _ _ _ _ _ _ _ _ _ ?_
                have ho2 := HO2.out
                rw [HW.out] at ho2
                exact H.out.stepN hbase BT.out HM2.out ho2 HG2.out
              exact AllReadyH.nil
            exact AllReadyH.nil
          exact AllReadyH.nil
        exact AllReadyH.nil
      exact AllReadyH.nil
    refine AllReadyH.cons (o := _) rfl (fun K hK => ?_) ?_
    · skip
      go_simp
      refine hK.out _ _ ?_ (fun hHeld => ?_)
      · (first
      | exact KS.out _ (Mod.refl _ _)
      | exact KS.out _ (Mod.drewN _ w 1)
      | exact KS.out _ (Mod.of_below BT.out)
      | exact KS.out _ ((Mod.of_below BT.out).then_ (Mod.alloc ρ.vN.ownBlock.toList _ _) (fun _ h => h))
      | exact KS.out _ ((Mod.of_below BT.out).then_ HM2.out (fun _ h => h))
      | exact KT.out _ _ (KS.out _ ((Mod.of_below BT.out).then_ HM2.out (fun _ h => h))))
      clear hK K
      try simp only [Act.put, List.setIfInBounds_toArray, List.set_cons_zero, List.set_cons_succ]
      refine wpAnyH_ready (rs := [4, 17]) (by kernel_rfl) (by simp) ?_
      refine AllReadyH.cons (o := _) rfl (fun K hK => ?_) ?_
      · skip
        go_simp
        refine hK.out _ _ ?_ (fun hHeld => ?_)
        · (first
      | exact KS.out _ (Mod.refl _ _)
      | exact KS.out _ (Mod.drewN _ w 1)
      | exact KS.out _ (Mod.of_below BT.out)
      | exact KS.out _ ((Mod.of_below BT.out).then_ (Mod.alloc ρ.vN.ownBlock.toList _ _) (fun _ h => h))
      | exact KS.out _ ((Mod.of_below BT.out).then_ HM2.out (fun _ h => h))
      | exact KT.out _ _ (KS.out _ ((Mod.of_below BT.out).then_ HM2.out (fun _ h => h))))
        clear hK K
        try simp only [Act.put, List.setIfInBounds_toArray, List.set_cons_zero, List.set_cons_succ]
        refine wpAnyH_ready (rs := [17]) (by kernel_rfl) (by simp) ?_
        refine AllReadyH.cons (o := _) rfl (fun K hK => ?_) ?_
        · skip
          go_simp
          (first
    | (go_at_call 33; refine (longer_any d _).mono ?_; rintro e1 w1 ⟨rfl, hb1⟩; have hbt : Below w.heap.size w w1 := (Below.refl _ _).drew.then_ hb1; have s1 := hbt.blk HP.out; have CN1 := hbt.cell' cn; have C1 := blk_cell s1; have F1 := blk_free s1; have LP1 := blk_lt s1; have HO1 := Lib.hid (SlO.below H.out.hN hbt); have BT := Lib.hid hbt; have S1 := Lib.hid s1; have B3 := Lib.hid (Nat.le_trans hbase hbt.size); clear hb1 hbt s1)
    | (refine step_app1N et_int (W := w1) (R.N.length + 1) rfl (.tmp 16) (.tmp 31) rfl base icell len_int one_int ρ.vN R.N (by exact hv.symm) HO1.out (IntKind.i64.wrap (nn + grown d)) _ rfl w1.heap.size rfl rfl rfl B1.out B2.out B3.out ?_; intro g cap w2 ho2 hm2 hg2 hlt2; have s2 := hm2.blk HNR.out S1.out; have C2 := blk_cell s2; have F2 := blk_free s2; have S2 := Lib.hid s2; have HO2 := Lib.hid ho2; have HM2 := Lib.hid hm2; have HG2 := Lib.hid hg2; clear s2 ho2 hm2 hg2))
          refine hK.out _ _ ?_ (fun hHeld => ?_)
          · (first
      | exact KS.out _ (Mod.refl _ _)
      | exact KS.out _ (Mod.drewN _ w 1)
      | exact KS.out _ (Mod.of_below BT.out)
      | exact KS.out _ ((Mod.of_below BT.out).then_ (Mod.alloc ρ.vN.ownBlock.toList _ _) (fun _ h => h))
      | exact KS.out _ ((Mod.of_below BT.out).then_ HM2.out (fun _ h => h))
      | exact KT.out _ _ (KS.out _ ((Mod.of_below BT.out).then_ HM2.out (fun _ h => h))))
          clear hK K
          try simp only [Act.put, List.setIfInBounds_toArray, List.set_cons_zero, List.set_cons_succ]
          refine wpAnyH_take (i := 18) (oi := _) (v := ?v32) rfl (by kernel_rfl) (by kernel_rfl) (by kernel_rfl) (fun _ _ _ h => h) (Or.inl ⟨by rfl, ?hy32⟩) (by assumption) ?rest32
          case hy32 => (intro w hSw; (try dsimp only at hSw); go_simp; first | done | with_reducible rfl)
          try simp only [Act.put, List.setIfInBounds_toArray, List.set_cons_zero, List.set_cons_succ]
          refine wpAnyH_ready (rs := [19]) (by kernel_rfl) (by simp) ?_
          refine AllReadyH.cons (o := _) rfl (fun K hK => ?_) ?_
          · skip
            go_simp
            refine hK.out _ _ ?_ (fun hHeld => ?_)
            · (first
      | exact KS.out _ (Mod.refl _ _)
      | exact KS.out _ (Mod.drewN _ w 1)
      | exact KS.out _ (Mod.of_below BT.out)
      | exact KS.out _ ((Mod.of_below BT.out).then_ (Mod.alloc ρ.vN.ownBlock.toList _ _) (fun _ h => h))
      | exact KS.out _ ((Mod.of_below BT.out).then_ HM2.out (fun _ h => h))
      | exact KT.out _ _ (KS.out _ ((Mod.of_below BT.out).then_ HM2.out (fun _ h => h))))
            clear hK K
            try simp only [Act.put, List.setIfInBounds_toArray, List.set_cons_zero, List.set_cons_succ]
            refine wpAnyH_ready (rs := [20]) (by kernel_rfl) (by simp) ?_
            refine AllReadyH.cons (o := _) rfl (fun K hK => ?_) ?_
            · skip
              (first
    | (go_at_call 33; refine (longer_any d _).mono ?_; rintro e1 w1 ⟨rfl, hb1⟩; have hbt : Below w.heap.size w w1 := (Below.refl _ _).drew.then_ hb1; have s1 := hbt.blk HP.out; have CN1 := hbt.cell' cn; have C1 := blk_cell s1; have F1 := blk_free s1; have LP1 := blk_lt s1; have HO1 := Lib.hid (SlO.below H.out.hN hbt); have BT := Lib.hid hbt; have S1 := Lib.hid s1; have B3 := Lib.hid (Nat.le_trans hbase hbt.size); clear hb1 hbt s1)
    | (refine step_app1N et_int (W := w1) (R.N.length + 1) rfl (.tmp 16) (.tmp 31) rfl base icell len_int one_int ρ.vN R.N (by exact hv.symm) HO1.out (IntKind.i64.wrap (nn + grown d)) _ rfl w1.heap.size rfl rfl rfl B1.out B2.out B3.out ?_; intro g cap w2 ho2 hm2 hg2 hlt2; have s2 := hm2.blk HNR.out S1.out; have C2 := blk_cell s2; have F2 := blk_free s2; have S2 := Lib.hid s2; have HO2 := Lib.hid ho2; have HM2 := Lib.hid hm2; have HG2 := Lib.hid hg2; clear s2 ho2 hm2 hg2))
              refine hK.out _ _ ?_ (fun hHeld => ?_)
              · (first
      | exact KS.out _ (Mod.refl _ _)
      | exact KS.out _ (Mod.drewN _ w 1)
      | exact KS.out _ (Mod.of_below BT.out)
      | exact KS.out _ ((Mod.of_below BT.out).then_ (Mod.alloc ρ.vN.ownBlock.toList _ _) (fun _ h => h))
      | exact KS.out _ ((Mod.of_below BT.out).then_ HM2.out (fun _ h => h))
      | exact KT.out _ _ (KS.out _ ((Mod.of_below BT.out).then_ HM2.out (fun _ h => h))))
              clear hK K
              try simp only [Act.put, List.setIfInBounds_toArray, List.set_cons_zero, List.set_cons_succ]
              refine wpAnyH_take (i := 21) (oi := _) (v := ?v33) rfl (by kernel_rfl) (by kernel_rfl) (by kernel_rfl) (fun _ _ _ h => h) (Or.inl ⟨by rfl, ?hy33⟩) (by assumption) ?rest33
              case hy33 => (intro w hSw; (try dsimp only at hSw); go_simp; first | done | with_reducible rfl)
              try simp only [Act.put, List.setIfInBounds_toArray, List.set_cons_zero, List.set_cons_succ]
              refine wpAnyH_take (i := 22) (oi := _) (v := ?v34) rfl (by kernel_rfl) (by kernel_rfl) (by kernel_rfl) (fun _ _ _ h => h) (Or.inl ⟨by rfl, ?hy34⟩) (by assumption) ?rest34
              case hy34 => (intro w hSw; (try dsimp only at hSw); go_simp; first | done | with_reducible rfl)
              try simp only [Act.put, List.setIfInBounds_toArray, List.set_cons_zero, List.set_cons_succ]
              refine wpAnyH_ready (rs := [23]) (by kernel_rfl) (by simp) ?_
              refine AllReadyH.cons (o := _) rfl (fun K hK => ?_) ?_
              · skip
                go_simp
                refine hK.out _ _ ?_ (fun hHeld => ?_)
                · (first
      | exact KS.out _ (Mod.refl _ _)
      | exact KS.out _ (Mod.drewN _ w 1)
      | exact KS.out _ (Mod.of_below BT.out)
      | exact KS.out _ ((Mod.of_below BT.out).then_ (Mod.alloc ρ.vN.ownBlock.toList _ _) (fun _ h => h))
      | exact KS.out _ ((Mod.of_below BT.out).then_ HM2.out (fun _ h => h))
      | exact KT.out _ _ (KS.out _ ((Mod.of_below BT.out).then_ HM2.out (fun _ h => h))))
                clear hK K
                try simp only [Act.put, List.setIfInBounds_toArray, List.set_cons_zero, List.set_cons_succ]
                refine wpAnyH_done (by kernel_rfl) ?_ _
                refine NoPanic.normal ?_
                refine hK _ _ _ _ _ _ _ _ _ _ _ _ _ _ _ _ _ _ _ _ _ _ _ _ ?_
                have ho2 := HO2.out
                rw [HW.out] at ho2
                exact H.out.stepN hbase BT.out HM2.out ho2 HG2.out
              exact AllReadyH.nil
            exact AllReadyH.nil
          exact AllReadyH.nil
        exact AllReadyH.nil
      refine AllReadyH.cons (o := _) rfl (fun K hK => ?_) ?_
      · skip
        go_simp
        (first
    | (go_at_call 33; refine (longer_any d _).mono ?_; rintro e1 w1 ⟨rfl, hb1⟩; have hbt : Below w.heap.size w w1 := (Below.refl _ _).drew.then_ hb1; have s1 := hbt.blk HP.out; have CN1 := hbt.cell' cn; have C1 := blk_cell s1; have F1 := blk_free s1; have LP1 := blk_lt s1; have HO1 := Lib.hid (SlO.below H.out.hN hbt); have BT := Lib.hid hbt; have S1 := Lib.hid s1; have B3 := Lib.hid (Nat.le_trans hbase hbt.size); clear hb1 hbt s1)
    | (refine step_app1N et_int (W := w1) (R.N.length + 1) rfl (.tmp 16) (.tmp 31) rfl base icell len_int one_int ρ.vN R.N (by exact hv.symm) HO1.out (IntKind.i64.wrap (nn + grown d)) _ rfl w1.heap.size rfl rfl rfl B1.out B2.out B3.out ?_; intro g cap w2 ho2 hm2 hg2 hlt2; have s2 := hm2.blk HNR.out S1.out; have C2 := blk_cell s2; have F2 := blk_free s2; have S2 := Lib.hid s2; have HO2 := Lib.hid ho2; have HM2 := Lib.hid hm2; have HG2 := Lib.hid hg2; clear s2 ho2 hm2 hg2))
        refine hK.out _ _ ?_ (fun hHeld => ?_)
        · (first
      | exact KS.out _ (Mod.refl _ _)
      | exact KS.out _ (Mod.drewN _ w 1)
      | exact KS.out _ (Mod.of_below BT.out)
      | exact KS.out _ ((Mod.of_below BT.out).then_ (Mod.alloc ρ.vN.ownBlock.toList _ _) (fun _ h => h))
      | exact KS.out _ ((Mod.of_below BT.out).then_ HM2.out (fun _ h => h))
      | exact KT.out _ _ (KS.out _ ((Mod.of_below BT.out).then_ HM2.out (fun _ h => h))))
        clear hK K
        try simp only [Act.put, List.setIfInBounds_toArray, List.set_cons_zero, List.set_cons_succ]
        refine wpAnyH_take (i := 18) (oi := _) (v := ?v35) rfl (by kernel_rfl) (by kernel_rfl) (by kernel_rfl) (fun _ _ _ h => h) (Or.inl ⟨by rfl, ?hy35⟩) (by assumption) ?rest35
        case hy35 => (intro w hSw; (try dsimp only at hSw); go_simp; first | done | with_reducible rfl)
        try simp only [Act.put, List.setIfInBounds_toArray, List.set_cons_zero, List.set_cons_succ]
        refine wpAnyH_ready (rs := [4, 19]) (by kernel_rfl) (by simp) ?_
        refine AllReadyH.cons (o := _) rfl (fun K hK => ?_) ?_
        · skip
          go_simp
          refine hK.out _ _ ?_ (fun hHeld => ?_)
          · (first
      | exact KS.out _ (Mod.refl _ _)
      | exact KS.out _ (Mod.drewN _ w 1)
      | exact KS.out _ (Mod.of_below BT.out)
      | exact KS.out _ ((Mod.of_below BT.out).then_ (Mod.alloc ρ.vN.ownBlock.toList _ _) (fun _ h => h))
      | exact KS.out _ ((Mod.of_below BT.out).then_ HM2.out (fun _ h => h))
      | exact KT.out _ _ (KS.out _ ((Mod.of_below BT.out).then_ HM2.out (fun _ h => h))))
          clear hK K
          try simp only [Act.put, List.setIfInBounds_toArray, List.set_cons_zero, List.set_cons_succ]
          refine wpAnyH_ready (rs := [19]) (by kernel_rfl) (by simp) ?_
          refine AllReadyH.cons (o := _) rfl (fun K hK => ?_) ?_
          · skip
            go_simp
            refine hK.out _ _ ?_ (fun hHeld => ?_)
            · (first
      | exact KS.out _ (Mod.refl _ _)
      | exact KS.out _ (Mod.drewN _ w 1)
      | exact KS.out _ (Mod.of_below BT.out)
      | exact KS.out _ ((Mod.of_below BT.out).then_ (Mod.alloc ρ.vN.ownBlock.toList _ _) (fun _ h => h))
      | exact KS.out _ ((Mod.of_below BT.out).then_ HM2.out (fun _ h => h))
      | exact KT.out _ _ (KS.out _ ((Mod.of_below BT.out).then_ HM2.out (fun _ h => h))))
            clear hK K
            try simp only [Act.put, List.setIfInBounds_toArray, List.set_cons_zero, List.set_cons_succ]
            refine wpAnyH_ready (rs := [20]) (by kernel_rfl) (by simp) ?_
            refine AllReadyH.cons (o := _) rfl (fun K hK => ?_) ?_
            · skip
              (first
    | (go_at_call 33; refine (longer_any d _).mono ?_; rintro e1 w1 ⟨rfl, hb1⟩; have hbt : Below w.heap.size w w1 := (Below.refl _ _).drew.then_ hb1; have s1 := hbt.blk HP.out; have CN1 := hbt.cell' cn; have C1 := blk_cell s1; have F1 := blk_free s1; have LP1 := blk_lt s1; have HO1 := Lib.hid (SlO.below H.out.hN hbt); have BT := Lib.hid hbt; have S1 := Lib.hid s1; have B3 := Lib.hid (Nat.le_trans hbase hbt.size); clear hb1 hbt s1)
    | (refine step_app1N et_int (W := w1) (R.N.length + 1) rfl (.tmp 16) (.tmp 31) rfl base icell len_int one_int ρ.vN R.N (by exact hv.symm) HO1.out (IntKind.i64.wrap (nn + grown d)) _ rfl w1.heap.size rfl rfl rfl B1.out B2.out B3.out ?_; intro g cap w2 ho2 hm2 hg2 hlt2; have s2 := hm2.blk HNR.out S1.out; have C2 := blk_cell s2; have F2 := blk_free s2; have S2 := Lib.hid s2; have HO2 := Lib.hid ho2; have HM2 := Lib.hid hm2; have HG2 := Lib.hid hg2; clear s2 ho2 hm2 hg2))
              refine hK.out _ _ ?_ (fun hHeld => ?_)
              · (first
      | exact KS.out _ (Mod.refl _ _)
      | exact KS.out _ (Mod.drewN _ w 1)
      | exact KS.out _ (Mod.of_below BT.out)
      | exact KS.out _ ((Mod.of_below BT.out).then_ (Mod.alloc ρ.vN.ownBlock.toList _ _) (fun _ h => h))
      | exact KS.out _ ((Mod.of_below BT.out).then_ HM2.out (fun _ h => h))
      | exact KT.out _ _ (KS.out _ ((Mod.of_below BT.out).then_ HM2.out (fun _ h => h))))
              clear hK K
              try simp only [Act.put, List.setIfInBounds_toArray, List.set_cons_zero, List.set_cons_succ]
              refine wpAnyH_take (i := 21) (oi := _) (v := ?v36) rfl (by kernel_rfl) (by kernel_rfl) (by kernel_rfl) (fun _ _ _ h => h) (Or.inl ⟨by rfl, ?hy36⟩) (by assumption) ?rest36
              case hy36 => (intro w hSw; (try dsimp only at hSw); go_simp; first | done | with_reducible rfl)
              try simp only [Act.put, List.setIfInBounds_toArray, List.set_cons_zero, List.set_cons_succ]
              refine wpAnyH_take (i := 22) (oi := _) (v := ?v37) rfl (by kernel_rfl) (by kernel_rfl) (by kernel_rfl) (fun _ _ _ h => h) (Or.inl ⟨by rfl, ?hy37⟩) (by assumption) ?rest37
              case hy37 => (intro w hSw; (try dsimp only at hSw); go_simp; first | done | with_reducible rfl)
              try simp only [Act.put, List.setIfInBounds_toArray, List.set_cons_zero, List.set_cons_succ]
              refine wpAnyH_ready (rs := [23]) (by kernel_rfl) (by simp) ?_
              refine AllReadyH.cons (o := _) rfl (fun K hK => ?_) ?_
              · skip
                go_simp
                refine hK.out _ _ ?_ (fun hHeld => ?_)
                · (first
      | exact KS.out _ (Mod.refl _ _)
      | exact KS.out _ (Mod.drewN _ w 1)
      | exact KS.out _ (Mod.of_below BT.out)
      | exact KS.out _ ((Mod.of_below BT.out).then_ (Mod.alloc ρ.vN.ownBlock.toList _ _) (fun _ h => h))
      | exact KS.out _ ((Mod.of_below BT.out).then_ HM2.out (fun _ h => h))
      | exact KT.out _ _ (KS.out _ ((Mod.of_below BT.out).then_ HM2.out (fun _ h => h))))
                clear hK K
                try simp only [Act.put, List.setIfInBounds_toArray, List.set_cons_zero, List.set_cons_succ]
                refine wpAnyH_done (by kernel_rfl) ?_ _
                refine NoPanic.normal ?_
                refine hK _ _ _ _ _ _ _ _ _ _ _ _ _ _ _ _ _ _ _ _ _ _ _ _ ?_
                have ho2 := HO2.out
                rw [HW.out] at ho2
                exact H.out.stepN hbase BT.out HM2.out ho2 HG2.out
              exact AllReadyH.nil
            exact AllReadyH.nil
          exact AllReadyH.nil
        refine AllReadyH.cons (o := _) rfl (fun K hK => ?_) ?_
        · skip
          go_simp
          refine hK.out _ _ ?_ (fun hHeld => ?_)
          · (first
      | exact KS.out _ (Mod.refl _ _)
      | exact KS.out _ (Mod.drewN _ w 1)
      | exact KS.out _ (Mod.of_below BT.out)
      | exact KS.out _ ((Mod.of_below BT.out).then_ (Mod.alloc ρ.vN.ownBlock.toList _ _) (fun _ h => h))
      | exact KS.out _ ((Mod.of_below BT.out).then_ HM2.out (fun _ h => h))
      | exact KT.out _ _ (KS.out _ ((Mod.of_below BT.out).then_ HM2.out (fun _ h => h))))
          clear hK K
          try simp only [Act.put, List.setIfInBounds_toArray, List.set_cons_zero, List.set_cons_succ]
          refine wpAnyH_ready (rs := [4]) (by kernel_rfl) (by simp) ?_
          refine AllReadyH.cons (o := _) rfl (fun K hK => ?_) ?_
          · skip
            go_simp
            refine hK.out _ _ ?_ (fun hHeld => ?_)
            · (first
      | exact KS.out _ (Mod.refl _ _)
      | exact KS.out _ (Mod.drewN _ w 1)
      | exact KS.out _ (Mod.of_below BT.out)
      | exact KS.out _ ((Mod.of_below BT.out).then_ (Mod.alloc ρ.vN.ownBlock.toList _ _) (fun _ h => h))
      | exact KS.out _ ((Mod.of_below BT.out).then_ HM2.out (fun _ h => h))
      | exact KT.out _ _ (KS.out _ ((Mod.of_below BT.out).then_ HM2.out (fun _ h => h))))
            clear hK K
            try simp only [Act.put, List.setIfInBounds_toArray, List.set_cons_zero, List.set_cons_succ]
            refine wpAnyH_ready (rs := [20]) (by kernel_rfl) (by simp) ?_
            refine AllReadyH.cons (o := _) rfl (fun K hK => ?_) ?_
            · skip
              (first
    | (go_at_call 33; refine (longer_any d _).mono ?_; rintro e1 w1 ⟨rfl, hb1⟩; have hbt : Below w.heap.size w w1 := (Below.refl _ _).drew.then_ hb1; have s1 := hbt.blk HP.out; have CN1 := hbt.cell' cn; have C1 := blk_cell s1; have F1 := blk_free s1; have LP1 := blk_lt s1; have HO1 := Lib.hid (SlO.below H.out.hN hbt); have BT := Lib.hid hbt; have S1 := Lib.hid s1; have B3 := Lib.hid (Nat.le_trans hbase hbt.size); clear hb1 hbt s1)
    | (refine step_app1N et_int (W := w1) (R.N.length + 1) rfl (.tmp 16) (.tmp 31) rfl base icell len_int one_int ρ.vN R.N (by exact hv.symm) HO1.out (IntKind.i64.wrap (nn + grown d)) _ rfl w1.heap.size rfl rfl rfl B1.out B2.out B3.out ?_; intro g cap w2 ho2 hm2 hg2 hlt2; have s2 := hm2.blk HNR.out S1.out; have C2 := blk_cell s2; have F2 := blk_free s2; have S2 := Lib.hid s2; have HO2 := Lib.hid ho2; have HM2 := Lib.hid hm2; have HG2 := Lib.hid hg2; clear s2 ho2 hm2 hg2))
              refine hK.out _ _ ?_ (fun hHeld => ?_)
              · (first
      | exact KS.out _ (Mod.refl _ _)
      | exact KS.out _ (Mod.drewN _ w 1)
      | exact KS.out _ (Mod.of_below BT.out)
      | exact KS.out _ ((Mod.of_below BT.out).then_ (Mod.alloc ρ.vN.ownBlock.toList _ _) (fun _ h => h))
      | exact KS.out _ ((Mod.of_below BT.out).then_ HM2.out (fun _ h => h))
      | exact KT.out _ _ (KS.out _ ((Mod.of_below BT.out).then_ HM2.out (fun _ h => h))))
              clear hK K
              try simp only [Act.put, List.setIfInBounds_toArray, List.set_cons_zero, List.set_cons_succ]
              refine wpAnyH_take (i := 21) (oi := _) (v := ?v38) rfl (by kernel_rfl) (by kernel_rfl) (by kernel_rfl) (fun _ _ _ h => h) (Or.inl ⟨by rfl, ?hy38⟩) (by assumption) ?rest38
              case hy38 => (intro w hSw; (try dsimp only at hSw); go_simp; first | done | with_reducible rfl)
              try simp only [Act.put, List.setIfInBounds_toArray, List.set_cons_zero, List.set_cons_succ]
              refine wpAnyH_take (i := 22) (oi := _) (v := ?v39) rfl (by kernel_rfl) (by kernel_rfl) (by kernel_rfl) (fun _ _ _ h => h) (Or.inl ⟨by rfl, ?hy39⟩) (by assumption) ?rest39
              case hy39 => (intro w hSw; (try dsimp only at hSw); go_simp; first | done | with_reducible rfl)
              try simp only [Act.put, List.setIfInBounds_toArray, List.set_cons_zero, List.set_cons_succ]
              refine wpAnyH_ready (rs := [23]) (by kernel_rfl) (by simp) ?_
              refine AllReadyH.cons (o := _) rfl (fun K hK => ?_) ?_
              · skip
                go_simp
                refine hK.out _ _ ?_ (fun hHeld => ?_)
                · (first
      | exact KS.out _ (Mod.refl _ _)
      | exact KS.out _ (Mod.drewN _ w 1)
      | exact KS.out _ (Mod.of_below BT.out)
      | exact KS.out _ ((Mod.of_below BT.out).then_ (Mod.alloc ρ.vN.ownBlock.toList _ _) (fun _ h => h))
      | exact KS.out _ ((Mod.of_below BT.out).then_ HM2.out (fun _ h => h))
      | exact KT.out _ _ (KS.out _ ((Mod.of_below BT.out).then_ HM2.out (fun _ h => h))))
                clear hK K
                try simp only [Act.put, List.setIfInBounds_toArray, List.set_cons_zero, List.set_cons_succ]
                refine wpAnyH_done (by kernel_rfl) ?_ _
                refine NoPanic.normal ?_
                refine hK _ _ _ _ _ _ _ _ _ _ _ _ _ _ _ _ _ _ _ _ _ _ _ _ ?_
                have ho2 := HO2.out
                rw [HW.out] at ho2
                exact H.out.stepN hbase BT.out HM2.out ho2 HG2.out
              exact AllReadyH.nil
            exact AllReadyH.nil
          exact AllReadyH.nil
        exact AllReadyH.nil
      exact AllReadyH.nil
    refine AllReadyH.cons (o := _) rfl (fun K hK => ?_) ?_
    · skip
      go_simp
      (first
    | (go_at_call 33; refine (longer_any d _).mono ?_; rintro e1 w1 ⟨rfl, hb1⟩; have hbt : Below w.heap.size w w1 := (Below.refl _ _).drew.then_ hb1; have s1 := hbt.blk HP.out; have CN1 := hbt.cell' cn; have C1 := blk_cell s1; have F1 := blk_free s1; have LP1 := blk_lt s1; have HO1 := Lib.hid (SlO.below H.out.hN hbt); have BT := Lib.hid hbt; have S1 := Lib.hid s1; have B3 := Lib.hid (Nat.le_trans hbase hbt.size); clear hb1 hbt s1)
    | (refine step_app1N et_int (W := w1) (R.N.length + 1) rfl (.tmp 16) (.tmp 31) rfl base icell len_int one_int ρ.vN R.N (by exact hv.symm) HO1.out (IntKind.i64.wrap (nn + grown d)) _ rfl w1.heap.size rfl rfl rfl B1.out B2.out B3.out ?_; intro g cap w2 ho2 hm2 hg2 hlt2; have s2 := hm2.blk HNR.out S1.out; have C2 := blk_cell s2; have F2 := blk_free s2; have S2 := Lib.hid s2; have HO2 := Lib.hid ho2; have HM2 := Lib.hid hm2; have HG2 := Lib.hid hg2; clear s2 ho2 hm2 hg2))
      refine hK.out _ _ ?_ (fun hHeld => ?_)
      · (first
      | exact KS.out _ (Mod.refl _ _)
      | exact KS.out _ (Mod.drewN _ w 1)
      | exact KS.out _ (Mod.of_below BT.out)
      | exact KS.out _ ((Mod.of_below BT.out).then_ (Mod.alloc ρ.vN.ownBlock.toList _ _) (fun _ h => h))
      | exact KS.out _ ((Mod.of_below BT.out).then_ HM2.out (fun _ h => h))
      | exact KT.out _ _ (KS.out _ ((Mod.of_below BT.out).then_ HM2.out (fun _ h => h))))
      clear hK K
      try simp only [Act.put, List.setIfInBounds_toArray, List.set_cons_zero, List.set_cons_succ]
      refine wpAnyH_ready (rs := [4, 15]) (by kernel_rfl) (by simp) ?_
      refine AllReadyH.cons (o := _) rfl (fun K hK => ?_) ?_
      · skip
        go_simp
        refine hK.out _ _ ?_ (fun hHeld => ?_)
        · (first
      | exact KS.out _ (Mod.refl _ _)
      | exact KS.out _ (Mod.drewN _ w 1)
      | exact KS.out _ (Mod.of_below BT.out)
      | exact KS.out _ ((Mod.of_below BT.out).then_ (Mod.alloc ρ.vN.ownBlock.toList _ _) (fun _ h => h))
      | exact KS.out _ ((Mod.of_below BT.out).then_ HM2.out (fun _ h => h))
      | exact KT.out _ _ (KS.out _ ((Mod.of_below BT.out).then_ HM2.out (fun _ h => h))))
        clear hK K
        try simp only [Act.put, List.setIfInBounds_toArray, List.set_cons_zero, List.set_cons_succ]
        refine wpAnyH_ready (rs := [15]) (by kernel_rfl) (by simp) ?_
        refine AllReadyH.cons (o := _) rfl (fun K hK => ?_) ?_
        · skip
          go_simp
          refine hK.out _ _ ?_ (fun hHeld => ?_)
          · (first
      | exact KS.out _ (Mod.refl _ _)
      | exact KS.out _ (Mod.drewN _ w 1)
      | exact KS.out _ (Mod.of_below BT.out)
      | exact KS.out _ ((Mod.of_below BT.out).then_ (Mod.alloc ρ.vN.ownBlock.toList _ _) (fun _ h => h))
      | exact KS.out _ ((Mod.of_below BT.out).then_ HM2.out (fun _ h => h))
      | exact KT.out _ _ (KS.out _ ((Mod.of_below BT.out).then_ HM2.out (fun _ h => h))))
          clear hK K
          try simp only [Act.put, List.setIfInBounds_toArray, List.set_cons_zero, List.set_cons_succ]
          refine wpAnyH_take (i := 18) (oi := _) (v := ?v40) rfl (by kernel_rfl) (by kernel_rfl) (by kernel_rfl) (fun _ _ _ h => h) (Or.inl ⟨by rfl, ?hy40⟩) (by assumption) ?rest40
          case hy40 => (intro w hSw; (try dsimp only at hSw); go_simp; first | done | with_reducible rfl)
          try simp only [Act.put, List.setIfInBounds_toArray, List.set_cons_zero, List.set_cons_succ]
          refine wpAnyH_ready (rs := [19]) (by kernel_rfl) (by simp) ?_
          refine AllReadyH.cons (o := _) rfl (fun K hK => ?_) ?_
          · skip
            go_simp
            refine hK.out _ _ ?_ (fun hHeld => ?_)
            · (first
      | exact KS.out _ (Mod.refl _ _)
      | exact KS.out _ (Mod.drewN _ w 1)
      | exact KS.out _ (Mod.of_below BT.out)
      | exact KS.out _ ((Mod.of_below BT.out).then_ (Mod.alloc ρ.vN.ownBlock.toList _ _) (fun _ h => h))
      | exact KS.out _ ((Mod.of_below BT.out).then_ HM2.out (fun _ h => h))
      | exact KT.out _ _ (KS.out _ ((Mod.of_below BT.out).then_ HM2.out (fun _ h => h))))
            clear hK K
            try simp only [Act.put, List.setIfInBounds_toArray, List.set_cons_zero, List.set_cons_succ]
            refine wpAnyH_ready (rs := [20]) (by kernel_rfl) (by simp) ?_
            refine AllReadyH.cons (o := _) rfl (fun K hK => ?_) ?_
            · skip
              (first
    | (go_at_call 33; refine (longer_any d _).mono ?_; rintro e1 w1 ⟨rfl, hb1⟩; have hbt : Below w.heap.size w w1 := (Below.refl _ _).drew.then_ hb1; have s1 := hbt.blk HP.out; have CN1 := hbt.cell' cn; have C1 := blk_cell s1; have F1 := blk_free s1; have LP1 := blk_lt s1; have HO1 := Lib.hid (SlO.below H.out.hN hbt); have BT := Lib.hid hbt; have S1 := Lib.hid s1; have B3 := Lib.hid (Nat.le_trans hbase hbt.size); clear hb1 hbt s1)
    | (refine step_app1N et_int (W := w1) (R.N.length + 1) rfl (.tmp 16) (.tmp 31) rfl base icell len_int one_int ρ.vN R.N (by exact hv.symm) HO1.out (IntKind.i64.wrap (nn + grown d)) _ rfl w1.heap.size rfl rfl rfl B1.out B2.out B3.out ?_; intro g cap w2 ho2 hm2 hg2 hlt2; have s2 := hm2.blk HNR.out S1.out; have C2 := blk_cell s2; have F2 := blk_free s2; have S2 := Lib.hid s2; have HO2 := Lib.hid ho2; have HM2 := Lib.hid hm2; have HG2 := Lib.hid hg2; clear s2 ho2 hm2 hg2))
              refine hK.out _ _ ?_ (fun hHeld => ?_)
              · (first
      | exact KS.out _ (Mod.refl _ _)
      | exact KS.out _ (Mod.drewN _ w 1)
      | exact KS.out _ (Mod.of_below BT.out)
      | exact KS.out _ ((Mod.of_below BT.out).then_ (Mod.alloc ρ.vN.ownBlock.toList _ _) (fun _ h => h))
      | exact KS.out _ ((Mod.of_below BT.out).then_ HM2.out (fun _ h => h))
      | exact KT.out _ _ (KS.out _ ((Mod.of_below BT.out).then_ HM2.out (fun _ h => h))))
              clear hK K
              try simp only [Act.put, List.setIfInBounds_toArray, List.set_cons_zero, List.set_cons_succ]
              refine wpAnyH_take (i := 21) (oi := _) (v := ?v41) rfl (by kernel_rfl) (by kernel_rfl) (by kernel_rfl) (fun _ _ _ h => h) (Or.inl ⟨by rfl, ?hy41⟩) (by assumption) ?rest41
              case hy41 => (intro w hSw; (try dsimp only at hSw); go_simp; first | done | with_reducible rfl)
              try simp only [Act.put, List.setIfInBounds_toArray, List.set_cons_zero, List.set_cons_succ]
              refine wpAnyH_take (i := 22) (oi := _) (v := ?v42) rfl (by kernel_rfl) (by kernel_rfl) (by kernel_rfl) (fun _ _ _ h => h) (Or.inl ⟨by rfl, ?hy42⟩) (by assumption) ?rest42
              case hy42 => (intro w hSw; (try dsimp only at hSw); go_simp; first | done | with_reducible rfl)
              try simp only [Act.put, List.setIfInBounds_toArray, List.set_cons_zero, List.set_cons_succ]
              refine wpAnyH_ready (rs := [23]) (by kernel_rfl) (by simp) ?_
              refine AllReadyH.cons (o := _) rfl (fun K hK => ?_) ?_
              · skip
                go_simp
                refine hK.out _ _ ?_ (fun hHeld => ?_)
                · (first
      | exact KS.out _ (Mod.refl _ _)
      | exact KS.out _ (Mod.drewN _ w 1)
      | exact KS.out _ (Mod.of_below BT.out)
      | exact KS.out _ ((Mod.of_below BT.out).then_ (Mod.alloc ρ.vN.ownBlock.toList _ _) (fun _ h => h))
      | exact KS.out _ ((Mod.of_below BT.out).then_ HM2.out (fun _ h => h))
      | exact KT.out _ _ (KS.out _ ((Mod.of_below BT.out).then_ HM2.out (fun _ h => h))))
                clear hK K
                try simp only [Act.put, List.setIfInBounds_toArray, List.set_cons_zero, List.set_cons_succ]
                refine wpAnyH_done (by kernel_rfl) ?_ _
                refine NoPanic.normal ?_
                refine hK _ _ _ _ _ _ _ _ _ _ _ _ _ _ _ _ _ _ _ _ _ _ _ _ ?_
                have ho2 := HO2.out
                rw [HW.out] at ho2
                exact H.out.stepN hbase BT.out HM2.out ho2 HG2.out
              exact AllReadyH.nil
            exact AllReadyH.nil
          exact AllReadyH.nil
        exact AllReadyH.nil
      refine AllReadyH.cons (o := _) rfl (fun K hK => ?_) ?_
      · skip
        go_simp
        refine hK.out _ _ ?_ (fun hHeld => ?_)
        · (first
      | exact KS.out _ (Mod.refl _ _)
      | exact KS.out _ (Mod.drewN _ w 1)
      | exact KS.out _ (Mod.of_below BT.out)
      | exact KS.out _ ((Mod.of_below BT.out).then_ (Mod.alloc ρ.vN.ownBlock.toList _ _) (fun _ h => h))
      | exact KS.out _ ((Mod.of_below BT.out).then_ HM2.out (fun _ h => h))
      | exact KT.out _ _ (KS.out _ ((Mod.of_below BT.out).then_ HM2.out (fun _ h => h))))
        clear hK K
        try simp only [Act.put, List.setIfInBounds_toArray, List.set_cons_zero, List.set_cons_succ]
        refine wpAnyH_take (i := 18) (oi := _) (v := ?v43) rfl (by kernel_rfl) (by kernel_rfl) (by kernel_rfl) (fun _ _ _ h => h) (Or.inl ⟨by rfl, ?hy43⟩) (by assumption) ?rest43
        case hy43 => (intro w hSw; (try dsimp only at hSw); go_simp; first | done | with_reducible rfl)
        try simp only [Act.put, List.setIfInBounds_toArray, List.set_cons_zero, List.set_cons_succ]
        refine wpAnyH_ready (rs := [4, 19]) (by kernel_rfl) (by simp) ?_
        refine AllReadyH.cons (o := _) rfl (fun K hK => ?_) ?_
        · skip
          go_simp
          refine hK.out _ _ ?_ (fun hHeld => ?_)
          · (first
      | exact KS.out _ (Mod.refl _ _)
      | exact KS.out _ (Mod.drewN _ w 1)
      | exact KS.out _ (Mod.of_below BT.out)
      | exact KS.out _ ((Mod.of_below BT.out).then_ (Mod.alloc ρ.vN.ownBlock.toList _ _) (fun _ h => h))
      | exact KS.out _ ((Mod.of_below BT.out).then_ HM2.out (fun _ h => h))
      | exact KT.out _ _ (KS.out _ ((Mod.of_below BT.out).then_ HM2.out (fun _ h => h))))
          clear hK K
          try simp only [Act.put, List.setIfInBounds_toArray, List.set_cons_zero, List.set_cons_succ]
          refine wpAnyH_ready (rs := [19]) (by kernel_rfl) (by simp) ?_
          refine AllReadyH.cons (o := _) rfl (fun K hK => ?_) ?_
          · skip
            go_simp
            refine hK.out _ _ ?_ (fun hHeld => ?_)
            · (first
      | exact KS.out _ (Mod.refl _ _)
      | exact KS.out _ (Mod.drewN _ w 1)
      | exact KS.out _ (Mod.of_below BT.out)
      | exact KS.out _ ((Mod.of_below BT.out).then_ (Mod.alloc ρ.vN.ownBlock.toList _ _) (fun _ h => h))
      | exact KS.out _ ((Mod.of_below BT.out).then_ HM2.out (fun _ h => h))
      | exact KT.out _ _ (KS.out _ ((Mod.of_below BT.out).then_ HM2.out (fun _ h => h))))
            clear hK K
            try simp only [Act.put, List.setIfInBounds_toArray, List.set_cons_zero, List.set_cons_succ]
            refine wpAnyH_ready (rs := [20]) (by kernel_rfl) (by simp) ?_
            refine AllReadyH.cons (o := _) rfl (fun K hK => ?_) ?_
            · skip
              (first
    | (go_at_call 33; refine (longer_any d _).mono ?_; rintro e1 w1 ⟨rfl, hb1⟩; have hbt : Below w.heap.size w w1 := (Below.refl _ _).drew.then_ hb1; have s1 := hbt.blk HP.out; have CN1 := hbt.cell' cn; have C1 := blk_cell s1; have F1 := blk_free s1; have LP1 := blk_lt s1; have HO1 := Lib.hid (SlO.below H.out.hN hbt); have BT := Lib.hid hbt; have S1 := Lib.hid s1; have B3 := Lib.hid (Nat.le_trans hbase hbt.size); clear hb1 hbt s1)
    | (refine step_app1N et_int (W := w1) (R.N.length + 1) rfl (.tmp 16) (.tmp 31) rfl base icell len_int one_int ρ.vN R.N (by exact hv.symm) HO1.out (IntKind.i64.wrap (nn + grown d)) _ rfl w1.heap.size rfl rfl rfl B1.out B2.out B3.out ?_; intro g cap w2 ho2 hm2 hg2 hlt2; have s2 := hm2.blk HNR.out S1.out; have C2 := blk_cell s2; have F2 := blk_free s2; have S2 := Lib.hid s2; have HO2 := Lib.hid ho2; have HM2 := Lib.hid hm2; have HG2 := Lib.hid hg2; clear s2 ho2 hm2 hg2))
              refine hK.out _ _ ?_ (fun hHeld => ?_)
              · (first
      | exact KS.out _ (Mod.refl _ _)
      | exact KS.out _ (Mod.drewN _ w 1)
      | exact KS.out _ (Mod.of_below BT.out)
      | exact KS.out _ ((Mod.of_below BT.out).then_ (Mod.alloc ρ.vN.ownBlock.toList _ _) (fun _ h => h))
      | exact KS.out _ ((Mod.of_below BT.out).then_ HM2.out (fun _ h => h))
      | exact KT.out _ _ (KS.out _ ((Mod.of_below BT.out).then_ HM2.out (fun _ h => h))))
              clear hK K
              try simp only [Act.put, List.setIfInBounds_toArray, List.set_cons_zero, List.set_cons_succ]
              refine wpAnyH_take (i := 21) (oi := _) (v := ?v44) rfl (by kernel_rfl) (by kernel_rfl) (by kernel_rfl) (fun _ _ _ h => h) (Or.inl ⟨by rfl, ?hy44⟩) (by assumption) ?rest44
              case hy44 => (intro w hSw; (try dsimp only at hSw); go_simp; first | done | with_reducible rfl)
              try simp only [Act.put, List.setIfInBounds_toArray, List.set_cons_zero, List.set_cons_succ]
              refine wpAnyH_take (i := 22) (oi := _) (v := ?v45) rfl (by kernel_rfl) (by kernel_rfl) (by kernel_rfl) (fun _ _ _ h => h) (Or.inl ⟨by rfl, ?hy45⟩) (by assumption) ?rest45
              case hy45 => (intro w hSw; (try dsimp only at hSw); go_simp; first | done | with_reducible rfl)
              try simp only [Act.put, List.setIfInBounds_toArray, List.set_cons_zero, List.set_cons_succ]
              refine wpAnyH_ready (rs := [23]) (by kernel_rfl) (by simp) ?_
              refine AllReadyH.cons (o := _) rfl (fun K hK => ?_) ?_
              · skip
                go_simp
                refine hK.out _ _ ?_ (fun hHeld => ?_)
                · (first
      | exact KS.out _ (Mod.refl _ _)
      | exact KS.out _ (Mod.drewN _ w 1)
      | exact KS.out _ (Mod.of_below BT.out)
      | exact KS.out _ ((Mod.of_below BT.out).then_ (Mod.alloc ρ.vN.ownBlock.toList _ _) (fun _ h => h))
      | exact KS.out _ ((Mod.of_below BT.out).then_ HM2.out (fun _ h => h))
      | exact KT.out _ _ (KS.out _ ((Mod.of_below BT.out).then_ HM2.out (fun _ h => h))))
                clear hK K
                try simp only [Act.put, List.setIfInBounds_toArray, List.set_cons_zero, List.set_cons_succ]
                refine wpAnyH_done (by kernel_rfl) ?_ _
                refine NoPanic.normal ?_
                refine hK _ _ _ _ _ _ _ _ _ _ _ _ _ _ _ _ _ _ _ _ _ _ _ _ ?_
                have ho2 := HO2.out
                rw [HW.out] at ho2
                exact H.out.stepN hbase BT.out HM2.out ho2 HG2.out
              exact AllReadyH.nil
            exact AllReadyH.nil
          exact AllReadyH.nil
        refine AllReadyH.cons (o := _) rfl (fun K hK => ?_) ?_
        · skip
          go_simp
          refine hK.out _ _ ?_ (fun hHeld => ?_)
          · (first
      | exact KS.out _ (Mod.refl _ _)
      | exact KS.out _ (Mod.drewN _ w 1)
      | exact KS.out _ (Mod.of_below BT.out)
      | exact KS.out _ ((Mod.of_below BT.out).then_ (Mod.alloc ρ.vN.ownBlock.toList _ _) (fun _ h => h))
      | exact KS.out _ ((Mod.of_below BT.out).then_ HM2.out (fun _ h => h))
      | exact KT.out _ _ (KS.out _ ((Mod.of_below BT.out).then_ HM2.out (fun _ h => h))))
          clear hK K
          try simp only [Act.put, List.setIfInBounds_toArray, List.set_cons_zero, List.set_cons_succ]
          refine wpAnyH_ready (rs := [4]) (by kernel_rfl) (by simp) ?_
          refine AllReadyH.cons (o := _) rfl (fun K hK => ?_) ?_
          · skip
            go_simp
            refine hK.out _ _ ?_ (fun hHeld => ?_)
            · (first
      | exact KS.out _ (Mod.refl _ _)
      | exact KS.out _ (Mod.drewN _ w 1)
      | exact KS.out _ (Mod.of_below BT.out)
      | exact KS.out _ ((Mod.of_below BT.out).then_ (Mod.alloc ρ.vN.ownBlock.toList _ _) (fun _ h => h))
      | exact KS.out _ ((Mod.of_below BT.out).then_ HM2.out (fun _ h => h))
      | exact KT.out _ _ (KS.out _ ((Mod.of_below BT.out).then_ HM2.out (fun _ h => h))))
            clear hK K
            try simp only [Act.put, List.setIfInBounds_toArray, List.set_cons_zero, List.set_cons_succ]
            refine wpAnyH_ready (rs := [20]) (by kernel_rfl) (by simp) ?_
            refine AllReadyH.cons (o := _) rfl (fun K hK => ?_) ?_
            · skip
              (first
    | (go_at_call 33; refine (longer_any d _).mono ?_; rintro e1 w1 ⟨rfl, hb1⟩; have hbt : Below w.heap.size w w1 := (Below.refl _ _).drew.then_ hb1; have s1 := hbt.blk HP.out; have CN1 := hbt.cell' cn; have C1 := blk_cell s1; have F1 := blk_free s1; have LP1 := blk_lt s1; have HO1 := Lib.hid (SlO.below H.out.hN hbt); have BT := Lib.hid hbt; have S1 := Lib.hid s1; have B3 := Lib.hid (Nat.le_trans hbase hbt.size); clear hb1 hbt s1)
    | (refine step_app1N et_int (W := w1) (R.N.length + 1) rfl (.tmp 16) (.tmp 31) rfl base icell len_int one_int ρ.vN R.N (by exact hv.symm) HO1.out (IntKind.i64.wrap (nn + grown d)) _ rfl w1.heap.size rfl rfl rfl B1.out B2.out B3.out ?_; intro g cap w2 ho2 hm2 hg2 hlt2; have s2 := hm2.blk HNR.out S1.out; have C2 := blk_cell s2; have F2 := blk_free s2; have S2 := Lib.hid s2; have HO2 := Lib.hid ho2; have HM2 := Lib.hid hm2; have HG2 := Lib.hid hg2; clear s2 ho2 hm2 hg2))
              refine hK.out _ _ ?_ (fun hHeld => ?_)
              · (first
      | exact KS.out _ (Mod.refl _ _)
      | exact KS.out _ (Mod.drewN _ w 1)
      | exact KS.out _ (Mod.of_below BT.out)
      | exact KS.out _ ((Mod.of_below BT.out).then_ (Mod.alloc ρ.vN.ownBlock.toList _ _) (fun _ h => h))
      | exact KS.out _ ((Mod.of_below BT.out).then_ HM2.out (fun _ h => h))
      | exact KT.out _ _ (KS.out _ ((Mod.of_below BT.out).then_ HM2.out (fun _ h => h))))
              clear hK K
              try simp only [Act.put, List.setIfInBounds_toArray, List.set_cons_zero, List.set_cons_succ]
              refine wpAnyH_take (i := 21) (oi := _) (v := ?v46) rfl (by kernel_rfl) (by kernel_rfl) (by kernel_rfl) (fun _ _ _ h => h) (Or.inl ⟨by rfl, ?hy46⟩) (by assumption) ?rest46
              case hy46 => (intro w hSw; (try dsimp only at hSw); go_simp; first | done | with_reducible rfl)
              try simp only [Act.put, List.setIfInBounds_toArray, List.set_cons_zero, List.set_cons_succ]
              refine wpAnyH_take (i := 22) (oi := _) (v := ?v47) rfl (by kernel_rfl) (by kernel_rfl) (by kernel_rfl) (fun _ _ _ h => h) (Or.inl ⟨by rfl, ?hy47⟩) (by assumption) ?rest47
              case hy47 => (intro w hSw; (try dsimp only at hSw); go_simp; first | done | with_reducible rfl)
              try simp only [Act.put, List.setIfInBounds_toArray, List.set_cons_zero, List.set_cons_succ]
              refine wpAnyH_ready (rs := [23]) (by kernel_rfl) (by simp) ?_
              refine AllReadyH.cons (o := _) rfl (fun K hK => ?_) ?_
              · skip
                go_simp
                refine hK.out _ _ ?_ (fun hHeld => ?_)
                · (first
      | exact KS.out _ (Mod.refl _ _)
      | exact KS.out _ (Mod.drewN _ w 1)
      | exact KS.out _ (Mod.of_below BT.out)
      | exact KS.out _ ((Mod.of_below BT.out).then_ (Mod.alloc ρ.vN.ownBlock.toList _ _) (fun _ h => h))
      | exact KS.out _ ((Mod.of_below BT.out).then_ HM2.out (fun _ h => h))
      | exact KT.out _ _ (KS.out _ ((Mod.of_below BT.out).then_ HM2.out (fun _ h => h))))
                clear hK K
                try simp only [Act.put, List.setIfInBounds_toArray, List.set_cons_zero, List.set_cons_succ]
                refine wpAnyH_done (by kernel_rfl) ?_ _
                refine NoPanic.normal ?_
                refine hK _ _ _ _ _ _ _ _ _ _ _ _ _ _ _ _ _ _ _ _ _ _ _ _ ?_
                have ho2 := HO2.out
                rw [HW.out] at ho2
                exact H.out.stepN hbase BT.out HM2.out ho2 HG2.out
              exact AllReadyH.nil
            exact AllReadyH.nil
          exact AllReadyH.nil
        exact AllReadyH.nil
      exact AllReadyH.nil
    exact AllReadyH.nil
  refine AllReadyH.cons (o := _) rfl (fun K hK => ?_) ?_
  · skip
    go_simp
    (first
    | (go_at_call 33; refine (longer_any d _).mono ?_; rintro e1 w1 ⟨rfl, hb1⟩; have hbt : Below w.heap.size w w1 := (Below.refl _ _).drew.then_ hb1; have s1 := hbt.blk HP.out; have CN1 := hbt.cell' cn; have C1 := blk_cell s1; have F1 := blk_free s1; have LP1 := blk_lt s1; have HO1 := Lib.hid (SlO.below H.out.hN hbt); have BT := Lib.hid hbt; have S1 := Lib.hid s1; have B3 := Lib.hid (Nat.le_trans hbase hbt.size); clear hb1 hbt s1)
    | (refine step_app1N et_int (W := w1) (R.N.length + 1) rfl (.tmp 16) (.tmp 31) rfl base icell len_int one_int ρ.vN R.N (by exact hv.symm) HO1.out (IntKind.i64.wrap (nn + grown d)) _ rfl w1.heap.size rfl rfl rfl B1.out B2.out B3.out ?_; intro g cap w2 ho2 hm2 hg2 hlt2; have s2 := hm2.blk HNR.out S1.out; have C2 := blk_cell s2; have F2 := blk_free s2; have S2 := Lib.hid s2; have HO2 := Lib.hid ho2; have HM2 := Lib.hid hm2; have HG2 := Lib.hid hg2; clear s2 ho2 hm2 hg2))
    refine hK.out _ _ ?_ (fun hHeld => ?_)
    · (first
      | exact KS.out _ (Mod.refl _ _)
      | exact KS.out _ (Mod.drewN _ w 1)
      | exact KS.out _ (Mod.of_below BT.out)
      | exact KS.out _ ((Mod.of_below BT.out).then_ (Mod.alloc ρ.vN.ownBlock.toList _ _) (fun _ h => h))
      | exact KS.out _ ((Mod.of_below BT.out).then_ HM2.out (fun _ h => h))
      | exact KT.out _ _ (KS.out _ ((Mod.of_below BT.out).then_ HM2.out (fun _ h => h))))
    clear hK K
    try simp only [Act.put, List.setIfInBounds_toArray, List.set_cons_zero, List.set_cons_succ]
    refine wpAnyH_ready (rs := [4, 8]) (by kernel_rfl) (by simp) ?_
    refine AllReadyH.cons (o := _) rfl (fun K hK => ?_) ?_
    · skip
      go_simp
      refine hK.out _ _ ?_ (fun hHeld => ?_)
      · (first
      | exact KS.out _ (Mod.refl _ _)
      | exact KS.out _ (Mod.drewN _ w 1)
      | exact KS.out _ (Mod.of_below BT.out)
      | exact KS.out _ ((Mod.of_below BT.out).then_ (Mod.alloc ρ.vN.ownBlock.toList _ _) (fun _ h => h))
      | exact KS.out _ ((Mod.of_below BT.out).then_ HM2.out (fun _ h => h))
      | exact KT.out _ _ (KS.out _ ((Mod.of_below BT.out).then_ HM2.out (fun _ h => h))))
      clear hK K
      try simp only [Act.put, List.setIfInBounds_toArray, List.set_cons_zero, List.set_cons_succ]
      refine wpAnyH_ready (rs := [8]) (by kernel_rfl) (by simp) ?_
      refine AllReadyH.cons (o := _) rfl (fun K hK => ?_) ?_
      · skip
        go_simp
        refine hK.out _ _ ?_ (fun hHeld => ?_)
        · (first
      | exact KS.out _ (Mod.refl _ _)
      | exact KS.out _ (Mod.drewN _ w 1)
      | exact KS.out _ (Mod.of_below BT.out)
      | exact KS.out _ ((Mod.of_below BT.out).then_ (Mod.alloc ρ.vN.ownBlock.toList _ _) (fun _ h => h))
      | exact KS.out _ ((Mod.of_below BT.out).then_ HM2.out (fun _ h => h))
      | exact KT.out _ _ (KS.out _ ((Mod.of_below BT.out).then_ HM2.out (fun _ h => h))))
        clear hK K
        try simp only [Act.put, List.setIfInBounds_toArray, List.set_cons_zero, List.set_cons_succ]
        refine wpAnyH_take (i := 14) (oi := _) (v := ?v48) rfl (by kernel_rfl) (by kernel_rfl) (by kernel_rfl) (fun _ _ _ h => h) (Or.inl ⟨by rfl, ?hy48⟩) (by assumption) ?rest48
        case hy48 => (intro w hSw; (try dsimp only at hSw); go_simp; first | done | with_reducible rfl)
        try simp only [Act.put, List.setIfInBounds_toArray, List.set_cons_zero, List.set_cons_succ]
        refine wpAnyH_ready (rs := [15]) (by kernel_rfl) (by simp) ?_
        refine AllReadyH.cons (o := _) rfl (fun K hK => ?_) ?_
        · skip
          go_simp
          refine hK.out _ _ ?_ (fun hHeld => ?_)
          · (first
      | exact KS.out _ (Mod.refl _ _)
      | exact KS.out _ (Mod.drewN _ w 1)
      | exact KS.out _ (Mod.of_below BT.out)
      | exact KS.out _ ((Mod.of_below BT.out).then_ (Mod.alloc ρ.vN.ownBlock.toList _ _) (fun _ h => h))
      | exact KS.out _ ((Mod.of_below BT.out).then_ HM2.out (fun _ h => h))
      | exact KT.out _ _ (KS.out _ ((Mod.of_below BT.out).then_ HM2.out (fun _ h => h))))
          clear hK K
          try simp only [Act.put, List.setIfInBounds_toArray, List.set_cons_zero, List.set_cons_succ]
          refine wpAnyH_take (i := 18) (oi := _) (v := ?v49) rfl (by kernel_rfl) (by kernel_rfl) (by kernel_rfl) (fun _ _ _ h => h) (Or.inl ⟨by rfl, ?hy49⟩) (by assumption) ?rest49
          case hy49 => (intro w hSw; (try dsimp only at hSw); go_simp; first | done | with_reducible rfl)
          try simp only [Act.put, List.setIfInBounds_toArray, List.set_cons_zero, List.set_cons_succ]
          refine wpAnyH_ready (rs := [19]) (by kernel_rfl) (by simp) ?_
          refine AllReadyH.cons (o := _) rfl (fun K hK => ?_) ?_
          · skip
            go_simp
            refine hK.out _ _ ?_ (fun hHeld => ?_)
            · (first
      | exact KS.out _ (Mod.refl _ _)
      | exact KS.out _ (Mod.drewN _ w 1)
      | exact KS.out _ (Mod.of_below BT.out)
      | exact KS.out _ ((Mod.of_below BT.out).then_ (Mod.alloc ρ.vN.ownBlock.toList _ _) (fun _ h => h))
      | exact KS.out _ ((Mod.of_below BT.out).then_ HM2.out (fun _ h => h))
      | exact KT.out _ _ (KS.out _ ((Mod.of_below BT.out).then_ HM2.out (fun _ h => h))))
            clear hK K
            try simp only [Act.put, List.setIfInBounds_toArray, List.set_cons_zero, List.set_cons_succ]
            refine wpAnyH_ready (rs := [20]) (by kernel_rfl) (by simp) ?_
            refine AllReadyH.cons (o := _) rfl (fun K hK => ?_) ?_
            · skip
              (first
    | (go_at_call 33; refine (longer_any d _).mono ?_; rintro e1 w1 ⟨rfl, hb1⟩; have hbt : Below w.heap.size w w1 := (Below.refl _ _).drew.then_ hb1; have s1 := hbt.blk HP.out; have CN1 := hbt.cell' cn; have C1 := blk_cell s1; have F1 := blk_free s1; have LP1 := blk_lt s1; have HO1 := Lib.hid (SlO.below H.out.hN hbt); have BT := Lib.hid hbt; have S1 := Lib.hid s1; have B3 := Lib.hid (Nat.le_trans hbase hbt.size); clear hb1 hbt s1)
    | (refine step_app1N et_int (W := w1) (R.N.length + 1) rfl (.tmp 16) (.tmp 31) rfl base icell len_int one_int ρ.vN R.N (by exact hv.symm) HO1.out (IntKind.i64.wrap (nn + grown d)) _ rfl w1.heap.size rfl rfl rfl B1.out B2.out B3.out ?_; intro g cap w2 ho2 hm2 hg2 hlt2; have s2 := hm2.blk HNR.out S1.out; have C2 := blk_cell s2; have F2 := blk_free s2; have S2 := Lib.hid s2; have HO2 := Lib.hid ho2; have HM2 := Lib.hid hm2; have HG2 := Lib.hid hg2; clear s2 ho2 hm2 hg2))
              refine hK.out _ _ ?_ (fun hHeld => ?_)
              · (first
      | exact KS.out _ (Mod.refl _ _)
      | exact KS.out _ (Mod.drewN _ w 1)
      | exact KS.out _ (Mod.of_below BT.out)
      | exact KS.out _ ((Mod.of_below BT.out).then_ (Mod.alloc ρ.vN.ownBlock.toList _ _) (fun _ h => h))
      | exact KS.out _ ((Mod.of_below BT.out).then_ HM2.out (fun _ h => h))
      | exact KT.out _ _ (KS.out _ ((Mod.of_below BT.out).then_ HM2.out (fun _ h => h))))
              clear hK K
              try simp only [Act.put, List.setIfInBounds_toArray, List.set_cons_zero, List.set_cons_succ]
              refine wpAnyH_take (i := 21) (oi := _) (v := ?v50) rfl (by kernel_rfl) (by kernel_rfl) (by kernel_rfl) (fun _ _ _ h => h) (Or.inl ⟨by rfl, ?hy50⟩) (by assumption) ?rest50
              case hy50 => (intro w hSw; (try dsimp only at hSw); go_simp; first | done | with_reducible rfl)
              try simp only [Act.put, List.setIfInBounds_toArray, List.set_cons_zero, List.set_cons_succ]
              refine wpAnyH_take (i := 22) (oi := _) (v := ?v51) rfl (by kernel_rfl) (by kernel_rfl) (by kernel_rfl) (fun _ _ _ h => h) (Or.inl ⟨by rfl, ?hy51⟩) (by assumption) ?rest51
              case hy51 => (intro w hSw; (try dsimp only at hSw); go_simp; first | done | with_reducible rfl)
              try simp only [Act.put, List.setIfInBounds_toArray, List.set_cons_zero, List.set_cons_succ]
              refine wpAnyH_ready (rs := [23]) (by kernel_rfl) (by simp) ?_
              refine AllReadyH.cons (o := _) rfl (fun K hK => ?_) ?_
              · skip
                go_simp
                refine hK.out _ _ ?_ (fun hHeld => ?_)
                · (first
      | exact KS.out _ (Mod.refl _ _)
      | exact KS.out _ (Mod.drewN _ w 1)
      | exact KS.out _ (Mod.of_below BT.out)
      | exact KS.out _ ((Mod.of_below BT.out).then_ (Mod.alloc ρ.vN.ownBlock.toList _ _) (fun _ h => h))
      | exact KS.out _ ((Mod.of_below BT.out).then_ HM2.out (fun _ h => h))
      | exact KT.out _ _ (KS.out _ ((Mod.of_below BT.out).then_ HM2.out (fun _ h => h))))
                clear hK K
                try simp only [Act.put, List.setIfInBounds_toArray, List.set_cons_zero, List.set_cons_succ]
                refine wpAnyH_done (by kernel_rfl) ?_ _
                refine NoPanic.normal ?_
                refine hK _ _ _ _ _ _ _ _ _ _ _ _ _ _ _ _ _ _ _ _ _ _ _ _ ?_
                have ho2 := HO2.out
                rw [HW.out] at ho2
                exact H.out.stepN hbase BT.out HM2.out ho2 HG2.out
              exact AllReadyH.nil
            exact AllReadyH.nil
          exact AllReadyH.nil
        exact AllReadyH.nil
      exact AllReadyH.nil
    refine AllReadyH.cons (o := _) rfl (fun K hK => ?_) ?_
    · skip
      go_simp
      refine hK.out _ _ ?_ (fun hHeld => ?_)
      · (first
      | exact KS.out _ (Mod.refl _ _)
      | exact KS.out _ (Mod.drewN _ w 1)
      | exact KS.out _ (Mod.of_below BT.out)
      | exact KS.out _ ((Mod.of_below BT.out).then_ (Mod.alloc ρ.vN.ownBlock.toList _ _) (fun _ h => h))
      | exact KS.out _ ((Mod.of_below BT.out).then_ HM2.out (fun _ h => h))
      | exact KT.out _ _ (KS.out _ ((Mod.of_below BT.out).then_ HM2.out (fun _ h => h))))
      clear hK K
      try simp only [Act.put, List.setIfInBounds_toArray, List.set_cons_zero, List.set_cons_succ]
      refine wpAnyH_take (i := 14) (oi := _) (v := ?v52) rfl (by kernel_rfl) (by kernel_rfl) (by kernel_rfl) (fun _ _ _ h => h) (Or.inl ⟨by rfl, ?hy52⟩) (by assumption) ?rest52
      case hy52 => (intro w hSw; (try dsimp only at hSw); go_simp; first | done | with_reducible rfl)
      try simp only [Act.put, List.setIfInBounds_toArray, List.set_cons_zero, List.set_cons_succ]
      refine wpAnyH_ready (rs := [4, 15]) (by kernel_rfl) (by simp) ?_
      refine AllReadyH.cons (o := _) rfl (fun K hK => ?_) ?_
      · skip
        go_simp
        refine hK.out _ _ ?_ (fun hHeld => ?_)
        · (first
      | exact KS.out _ (Mod.refl _ _)
      | exact KS.out _ (Mod.drewN _ w 1)
      | exact KS.out _ (Mod.of_below BT.out)
      | exact KS.out _ ((Mod.of_below BT.out).then_ (Mod.alloc ρ.vN.ownBlock.toList _ _) (fun _ h => h))
      | exact KS.out _ ((Mod.of_below BT.out).then_ HM2.out (fun _ h => h))
      | exact KT.out _ _ (KS.out _ ((Mod.of_below BT.out).then_ HM2.out (fun _ h => h))))
        clear hK K
        try simp only [Act.put, List.setIfInBounds_toArray, List.set_cons_zero, List.set_cons_succ]
        refine wpAnyH_ready (rs := [15]) (by kernel_rfl) (by simp) ?_
        refine AllReadyH.cons (o := _) rfl (fun K hK => ?_) ?_
        · skip
          go_simp
          refine hK.out _ _ ?_ (fun hHeld => ?_)
          · (first
      | exact KS.out _ (Mod.refl _ _)
      | exact KS.out _ (Mod.drewN _ w 1)
      | exact KS.out _ (Mod.of_below BT.out)
      | exact KS.out _ ((Mod.of_below BT.out).then_ (Mod.alloc ρ.vN.ownBlock.toList _ _) (fun _ h => h))
      | exact KS.out _ ((Mod.of_below BT.out).then_ HM2.out (fun _ h => h))
      | exact KT.out _ _ (KS.out _ ((Mod.of_below BT.out).then_ HM2.out (fun _ h => h))))
          clear hK K
          try simp only [Act.put, List.setIfInBounds_toArray, List.set_cons_zero, List.set_cons_succ]
          refine wpAnyH_take (i := 18) (oi := _) (v := ?v53) rfl (by kernel_rfl) (by kernel_rfl) (by kernel_rfl) (fun _ _ _ h => h) (Or.inl ⟨by rfl, ?hy53⟩) (by assumption) ?rest53
          case hy53 => (intro w hSw; (try dsimp only at hSw); go_simp; first | done | with_reducible rfl)
          try simp only [Act.put, List.setIfInBounds_toArray, List.set_cons_zero, List.set_cons_succ]
          refine wpAnyH_ready (rs := [19]) (by kernel_rfl) (by simp) ?_
          refine AllReadyH.cons (o := _) rfl (fun K hK => ?_) ?_
          · skip
            go_simp
            refine hK.out _ _ ?_ (fun hHeld => ?_)
            · (first
      | exact KS.out _ (Mod.refl _ _)
      | exact KS.out _ (Mod.drewN _ w 1)
      | exact KS.out _ (Mod.of_below BT.out)
      | exact KS.out _ ((Mod.of_below BT.out).then_ (Mod.alloc ρ.vN.ownBlock.toList _ _) (fun _ h => h))
      | exact KS.out _ ((Mod.of_below BT.out).then_ HM2.out (fun _ h => h))
      | exact KT.out _ _ (KS.out _ ((Mod.of_below BT.out).then_ HM2.out (fun _ h => h))))
            clear hK K
            try simp only [Act.put, List.setIfInBounds_toArray, List.set_cons_zero, List.set_cons_succ]
            refine wpAnyH_ready (rs := [20]) (by kernel_rfl) (by simp) ?_
            refine AllReadyH.cons (o := _) rfl (fun K hK => ?_) ?_
            · skip
              (first
    | (go_at_call 33; refine (longer_any d _).mono ?_; rintro e1 w1 ⟨rfl, hb1⟩; have hbt : Below w.heap.size w w1 := (Below.refl _ _).drew.then_ hb1; have s1 := hbt.blk HP.out; have CN1 := hbt.cell' cn; have C1 := blk_cell s1; have F1 := blk_free s1; have LP1 := blk_lt s1; have HO1 := Lib.hid (SlO.below H.out.hN hbt); have BT := Lib.hid hbt; have S1 := Lib.hid s1; have B3 := Lib.hid (Nat.le_trans hbase hbt.size); clear hb1 hbt s1)
    | (refine step_app1N et_int (W := w1) (R.N.length + 1) rfl (.tmp 16) (.tmp 31) rfl base icell len_int one_int ρ.vN R.N (by exact hv.symm) HO1.out (IntKind.i64.wrap (nn + grown d)) _ rfl w1.heap.size rfl rfl rfl B1.out B2.out B3.out ?_; intro g cap w2 ho2 hm2 hg2 hlt2; have s2 := hm2.blk HNR.out S1.out; have C2 := blk_cell s2; have F2 := blk_free s2; have S2 := Lib.hid s2; have HO2 := Lib.hid ho2; have HM2 := Lib.hid hm2; have HG2 := Lib.hid hg2; clear s2 ho2 hm2 hg2))
              refine hK.out _ _ ?_ (fun hHeld => ?_)
              · (first
      | exact KS.out _ (Mod.refl _ _)
      | exact KS.out _ (Mod.drewN _ w 1)
      | exact KS.out _ (Mod.of_below BT.out)
      | exact KS.out _ ((Mod.of_below BT.out).then_ (Mod.alloc ρ.vN.ownBlock.toList _ _) (fun _ h => h))
      | exact KS.out _ ((Mod.of_below BT.out).then_ HM2.out (fun _ h => h))
      | exact KT.out _ _ (KS.out _ ((Mod.of_below BT.out).then_ HM2.out (fun _ h => h))))
              clear hK K
              try simp only [Act.put, List.setIfInBounds_toArray, List.set_cons_zero, List.set_cons_succ]
              refine wpAnyH_take (i := 21) (oi := _) (v := ?v54) rfl (by kernel_rfl) (by kernel_rfl) (by kernel_rfl) (fun _ _ _ h => h) (Or.inl ⟨by rfl, ?hy54⟩) (by assumption) ?rest54
              case hy54 => (intro w hSw; (try dsimp only at hSw); go_simp; first | done | with_reducible rfl)
              try simp only [Act.put, List.setIfInBounds_toArray, List.set_cons_zero, List.set_cons_succ]
              refine wpAnyH_take (i := 22) (oi := _) (v := ?v55) rfl (by kernel_rfl) (by kernel_rfl) (by kernel_rfl) (fun _ _ _ h => h) (Or.inl ⟨by rfl, ?hy55⟩) (by assumption) ?rest55
              case hy55 => (intro w hSw; (try dsimp only at hSw); go_simp; first | done | with_reducible rfl)
              try simp only [Act.put, List.setIfInBounds_toArray, List.set_cons_zero, List.set_cons_succ]
              refine wpAnyH_ready (rs := [23]) (by kernel_rfl) (by simp) ?_
              refine AllReadyH.cons (o := _) rfl (fun K hK => ?_) ?_
              · skip
                go_simp
                refine hK.out _ _ ?_ (fun hHeld => ?_)
                · (first
      | exact KS.out _ (Mod.refl _ _)
      | exact KS.out _ (Mod.drewN _ w 1)
      | exact KS.out _ (Mod.of_below BT.out)
      | exact KS.out _ ((Mod.of_below BT.out).then_ (Mod.alloc ρ.vN.ownBlock.toList _ _) (fun _ h => h))
      | exact KS.out _ ((Mod.of_below BT.out).then_ HM2.out (fun _ h => h))
      | exact KT.out _ _ (KS.out _ ((Mod.of_below BT.out).then_ HM2.out (fun _ h => h))))
                clear hK K
                try simp only [Act.put, List.setIfInBounds_toArray, List.set_cons_zero, List.set_cons_succ]
                refine wpAnyH_done (by kernel_rfl) ?_ _
                refine NoPanic.normal ?_
                refine hK _ _ _ _ _ _ _ _ _ _ _ _ _ _ _ _ _ _ _ _ _ _ _ _ ?_
                have ho2 := HO2.out
                rw [HW.out] at ho2
                exact H.out.stepN hbase BT.out HM2.out ho2 HG2.out
              exact AllReadyH.nil
            exact AllReadyH.nil
          exact AllReadyH.nil
        exact AllReadyH.nil
      refine AllReadyH.cons (o := _) rfl (fun K hK => ?_) ?_
      · skip
        go_simp
        refine hK.out _ _ ?_ (fun hHeld => ?_)
        · (first
      | exact KS.out _ (Mod.refl _ _)
      | exact KS.out _ (Mod.drewN _ w 1)
      | exact KS.out _ (Mod.of_below BT.out)
      | exact KS.out _ ((Mod.of_below BT.out).then_ (Mod.alloc ρ.vN.ownBlock.toList _ _) (fun _ h => h))
      | exact KS.out _ ((Mod.of_below BT.out).then_ HM2.out (fun _ h => h))
      | exact KT.out _ _ (KS.out _ ((Mod.of_below BT.out).then_ HM2.out (fun _ h => h))))
        clear hK K
        try simp only [Act.put, List.setIfInBounds_toArray, List.set_cons_zero, List.set_cons_succ]
        refine wpAnyH_take (i := 18) (oi := _) (v := ?v56) rfl (by kernel_rfl) (by kernel_rfl) (by kernel_rfl) (fun _ _ _ h => h) (Or.inl ⟨by rfl, ?hy56⟩) (by assumption) ?rest56
        case hy56 => (intro w hSw; (try dsimp only at hSw); go_simp; first | done | with_reducible rfl)
        try simp only [Act.put, List.setIfInBounds_toArray, List.set_cons_zero, List.set_cons_succ]
        refine wpAnyH_ready (rs := [4, 19]) (by kernel_rfl) (by simp) ?_
        refine AllReadyH.cons (o := _) rfl (fun K hK => ?_) ?_
        · skip
          go_simp
          refine hK.out _ _ ?_ (fun hHeld => ?_)
          · (first
      | exact KS.out _ (Mod.refl _ _)
      | exact KS.out _ (Mod.drewN _ w 1)
      | exact KS.out _ (Mod.of_below BT.out)
      | exact KS.out _ ((Mod.of_below BT.out).then_ (Mod.alloc ρ.vN.ownBlock.toList _ _) (fun _ h => h))
      | exact KS.out _ ((Mod.of_below BT.out).then_ HM2.out (fun _ h => h))
      | exact KT.out _ _ (KS.out _ ((Mod.of_below BT.out).then_ HM2.out (fun _ h => h))))
          clear hK K
          try simp only [Act.put, List.setIfInBounds_toArray, List.set_cons_zero, List.set_cons_succ]
          refine wpAnyH_ready (rs := [19]) (by kernel_rfl) (by simp) ?_
          refine AllReadyH.cons (o := _) rfl (fun K hK => ?_) ?_
          · skip
            go_simp
            refine hK.out _ _ ?_ (fun hHeld => ?_)
            · (first
      | exact KS.out _ (Mod.refl _ _)
      | exact KS.out _ (Mod.drewN _ w 1)
      | exact KS.out _ (Mod.of_below BT.out)
      | exact KS.out _ ((Mod.of_below BT.out).then_ (Mod.alloc ρ.vN.ownBlock.toList _ _) (fun _ h => h))
      | exact KS.out _ ((Mod.of_below BT.out).then_ HM2.out (fun _ h => h))
      | exact KT.out _ _ (KS.out _ ((Mod.of_below BT.out).then_ HM2.out (fun _ h => h))))
            clear hK K
            try simp only [Act.put, List.setIfInBounds_toArray, List.set_cons_zero, List.set_cons_succ]
            refine wpAnyH_ready (rs := [20]) (by kernel_rfl) (by simp) ?_
            refine AllReadyH.cons (o := _) rfl (fun K hK => ?_) ?_
            · skip
              (first
    | (go_at_call 33; refine (longer_any d _).mono ?_; rintro e1 w1 ⟨rfl, hb1⟩; have hbt : Below w.heap.size w w1 := (Below.refl _ _).drew.then_ hb1; have s1 := hbt.blk HP.out; have CN1 := hbt.cell' cn; have C1 := blk_cell s1; have F1 := blk_free s1; have LP1 := blk_lt s1; have HO1 := Lib.hid (SlO.below H.out.hN hbt); have BT := Lib.hid hbt; have S1 := Lib.hid s1; have B3 := Lib.hid (Nat.le_trans hbase hbt.size); clear hb1 hbt s1)
    | (refine step_app1N et_int (W := w1) (R.N.length + 1) rfl (.tmp 16) (.tmp 31) rfl base icell len_int one_int ρ.vN R.N (by exact hv.symm) HO1.out (IntKind.i64.wrap (nn + grown d)) _ rfl w1.heap.size rfl rfl rfl B1.out B2.out B3.out ?_; intro g cap w2 ho2 hm2 hg2 hlt2; have s2 := hm2.blk HNR.out S1.out; have C2 := blk_cell s2; have F2 := blk_free s2; have S2 := Lib.hid s2; have HO2 := Lib.hid ho2; have HM2 := Lib.hid hm2; have HG2 := Lib.hid hg2; clear s2 ho2 hm2 hg2))
              refine hK.out _ _ ?_ (fun hHeld => ?_)
              · (first
      | exact KS.out _ (Mod.refl _ _)
      | exact KS.out _ (Mod.drewN _ w 1)
      | exact KS.out _ (Mod.of_below BT.out)
      | exact KS.out _ ((Mod.of_below BT.out).then_ (Mod.alloc ρ.vN.ownBlock.toList _ _) (fun _ h => h))
      | exact KS.out _ ((Mod.of_below BT.out).then_ HM2.out (fun _ h => h))
      | exact KT.out _ _ (KS.out _ ((Mod.of_below BT.out).then_ HM2.out (fun _ h => h))))
              clear hK K
              try simp only [Act.put, List.setIfInBounds_toArray, List.set_cons_zero, List.set_cons_succ]
              refine wpAnyH_take (i := 21) (oi := _) (v := ?v57) rfl (by kernel_rfl) (by kernel_rfl) (by kernel_rfl) (fun _ _ _ h => h) (Or.inl ⟨by rfl, ?hy57⟩) (by assumption) ?rest57
              case hy57 => (intro w hSw; (try dsimp only at hSw); go_simp; first | done | with_reducible rfl)
              try simp only [Act.put, List.setIfInBounds_toArray, List.set_cons_zero, List.set_cons_succ]
              refine wpAnyH_take (i := 22) (oi := _) (v := ?v58) rfl (by kernel_rfl) (by kernel_rfl) (by kernel_rfl) (fun _ _ _ h => h) (Or.inl ⟨by rfl, ?hy58⟩) (by assumption) ?rest58
              case hy58 => (intro w hSw; (try dsimp only at hSw); go_simp; first | done | with_reducible rfl)
              try simp only [Act.put, List.setIfInBounds_toArray, List.set_cons_zero, List.set_cons_succ]
              refine wpAnyH_ready (rs := [23]) (by kernel_rfl) (by simp) ?_
              refine AllReadyH.cons (o := _) rfl (fun K hK => ?_) ?_
              · skip
                go_simp
                refine hK.out _ _ ?_ (fun hHeld => ?_)
                · (first
      | exact KS.out _ (Mod.refl _ _)
      | exact KS.out _ (Mod.drewN _ w 1)
      | exact KS.out _ (Mod.of_below BT.out)
      | exact KS.out _ ((Mod.of_below BT.out).then_ (Mod.alloc ρ.vN.ownBlock.toList _ _) (fun _ h => h))
      | exact KS.out _ ((Mod.of_below BT.out).then_ HM2.out (fun _ h => h))
      | exact KT.out _ _ (KS.out _ ((Mod.of_below BT.out).then_ HM2.out (fun _ h => h))))
                clear hK K
                try simp only [Act.put, List.setIfInBounds_toArray, List.set_cons_zero, List.set_cons_succ]
                refine wpAnyH_done (by kernel_rfl) ?_ _
                refine NoPanic.normal ?_
                refine hK _ _ _ _ _ _ _ _ _ _ _ _ _ _ _ _ _ _ _ _ _ _ _ _ ?_
                have ho2 := HO2.out
                rw [HW.out] at ho2
                exact H.out.stepN hbase BT.out HM2.out ho2 HG2.out
              exact AllReadyH.nil
            exact AllReadyH.nil
          exact AllReadyH.nil
        refine AllReadyH.cons (o := _) rfl (fun K hK => ?_) ?_
        · skip
          go_simp
          refine hK.out _ _ ?_ (fun hHeld => ?_)
          · (first
      | exact KS.out _ (Mod.refl _ _)
      | exact KS.out _ (Mod.drewN _ w 1)
      | exact KS.out _ (Mod.of_below BT.out)
      | exact KS.out _ ((Mod.of_below BT.out).then_ (Mod.alloc ρ.vN.ownBlock.toList _ _) (fun _ h => h))
      | exact KS.out _ ((Mod.of_below BT.out).then_ HM2.out (fun _ h => h))
      | exact KT.out _ _ (KS.out _ ((Mod.of_below BT.out).then_ HM2.out (fun _ h => h))))
          clear hK K
          try simp only [Act.put, List.setIfInBounds_toArray, List.set_cons_zero, List.set_cons_succ]
          refine wpAnyH_ready (rs := [4]) (by kernel_rfl) (by simp) ?_
          refine AllReadyH.cons (o := _) rfl (fun K hK => ?_) ?_
          · skip
            go_simp
            refine hK.out _ _ ?_ (fun hHeld => ?_)
            · (first
      | exact KS.out _ (Mod.refl _ _)
      | exact KS.out _ (Mod.drewN _ w 1)
      | exact KS.out _ (Mod.of_below BT.out)
      | exact KS.out _ ((Mod.of_below BT.out).then_ (Mod.alloc ρ.vN.ownBlock.toList _ _) (fun _ h => h))
      | exact KS.out _ ((Mod.of_below BT.out).then_ HM2.out (fun _ h => h))
      | exact KT.out _ _ (KS.out _ ((Mod.of_below BT.out).then_ HM2.out (fun _ h => h))))
            clear hK K
            try simp only [Act.put, List.setIfInBounds_toArray, List.set_cons_zero, List.set_cons_succ]
            refine wpAnyH_ready (rs := [20]) (by kernel_rfl) (by simp) ?_
            refine AllReadyH.cons (o := _) rfl (fun K hK => ?_) ?_
            · skip
              (first
    | (go_at_call 33; refine (longer_any d _).mono ?_; rintro e1 w1 ⟨rfl, hb1⟩; have hbt : Below w.heap.size w w1 := (Below.refl _ _).drew.then_ hb1; have s1 := hbt.blk HP.out; have CN1 := hbt.cell' cn; have C1 := blk_cell s1; have F1 := blk_free s1; have LP1 := blk_lt s1; have HO1 := Lib.hid (SlO.below H.out.hN hbt); have BT := Lib.hid hbt; have S1 := Lib.hid s1; have B3 := Lib.hid (Nat.le_trans hbase hbt.size); clear hb1 hbt s1)
    | (refine step_app1N et_int (W := w1) (R.N.length + 1) rfl (.tmp 16) (.tmp 31) rfl base icell len_int one_int ρ.vN R.N (by exact hv.symm) HO1.out (IntKind.i64.wrap (nn + grown d)) _ rfl w1.heap.size rfl rfl rfl B1.out B2.out B3.out ?_; intro g cap w2 ho2 hm2 hg2 hlt2; have s2 := hm2.blk HNR.out S1.out; have C2 := blk_cell s2; have F2 := blk_free s2; have S2 := Lib.hid s2; have HO2 := Lib.hid ho2; have HM2 := Lib.hid hm2; have HG2 := Lib.hid hg2; clear s2 ho2 hm2 hg2))
              refine hK.out _ _ ?_ (fun hHeld => ?_)
              · (first
      | exact KS.out _ (Mod.refl _ _)
      | exact KS.out _ (Mod.drewN _ w 1)
      | exact KS.out _ (Mod.of_below BT.out)
      | exact KS.out _ ((Mod.of_below BT.out).then_ (Mod.alloc ρ.vN.ownBlock.toList _ _) (fun _ h => h))
      | exact KS.out _ ((Mod.of_below BT.out).then_ HM2.out (fun _ h => h))
      | exact KT.out _ _ (KS.out _ ((Mod.of_below BT.out).then_ HM2.out (fun _ h => h))))
              clear hK K
              try simp only [Act.put, List.setIfInBounds_toArray, List.set_cons_zero, List.set_cons_succ]
              refine wpAnyH_take (i := 21) (oi := _) (v := ?v59) rfl (by kernel_rfl) (by kernel_rfl) (by kernel_rfl) (fun _ _ _ h => h) (Or.inl ⟨by rfl, ?hy59⟩) (by assumption) ?rest59
              case hy59 => (intro w hSw; (try dsimp only at hSw); go_simp; first | done | with_reducible rfl)
              try simp only [Act.put, List.setIfInBounds_toArray, List.set_cons_zero, List.set_cons_succ]
              refine wpAnyH_take (i := 22) (oi := _) (v := ?v60) rfl (by kernel_rfl) (by kernel_rfl) (by kernel_rfl) (fun _ _ _ h => h) (Or.inl ⟨by rfl, ?hy60⟩) (by assumption) ?rest60
              case hy60 => (intro w hSw; (try dsimp only at hSw); go_simp; first | done | with_reducible rfl)
              try simp only [Act.put, List.setIfInBounds_toArray, List.set_cons_zero, List.set_cons_succ]
              refine wpAnyH_ready (rs := [23]) (by kernel_rfl) (by simp) ?_
              refine AllReadyH.cons (o := _) rfl (fun K hK => ?_) ?_
              · skip
                go_simp
                refine hK.out _ _ ?_ (fun hHeld => ?_)
                · (first
      | exact KS.out _ (Mod.refl _ _)
      | exact KS.out _ (Mod.drewN _ w 1)
      | exact KS.out _ (Mod.of_below BT.out)
      | exact KS.out _ ((Mod.of_below BT.out).then_ (Mod.alloc ρ.vN.ownBlock.toList _ _) (fun _ h => h))
      | exact KS.out _ ((Mod.of_below BT.out).then_ HM2.out (fun _ h => h))
      | exact KT.out _ _ (KS.out _ ((Mod.of_below BT.out).then_ HM2.out (fun _ h => h))))
                clear hK K
                try simp only [Act.put, List.setIfInBounds_toArray, List.set_cons_zero, List.set_cons_succ]
                refine wpAnyH_done (by kernel_rfl) ?_ _
                refine NoPanic.normal ?_
                refine hK _ _ _ _ _ _ _ _ _ _ _ _ _ _ _ _ _ _ _ _ _ _ _ _ ?_
                have ho2 := HO2.out
                rw [HW.out] at ho2
                exact H.out.stepN hbase BT.out HM2.out ho2 HG2.out
              exact AllReadyH.nil
            exact AllReadyH.nil
          exact AllReadyH.nil
        exact AllReadyH.nil
      exact AllReadyH.nil
    exact AllReadyH.nil
  exact AllReadyH.nil

end Go.Proofs.YtjeidklpomekdaaDoor

