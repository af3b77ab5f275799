/- Part 10 of the proof of BookReplays: RTake3, RTake4, RTake, As, As2, As3, Err, RReplay, Sts. -/
import Derived.Deep.RegionHeld3
import Derived.Deep.DeepCutAuto
import Derived.Test.YtjeidklpomekdaaDoorProg
import Derived.WalkKit
import Derived.LaidEql
import Derived.Stop.Asserts
import Derived.RowKitTokens
import Derived.Test.YtjeidklpomekdaaDoorBr9

set_option linter.unusedVariables false
set_option linter.unusedSimpArgs false
set_option linter.unnecessarySimpa false

/- The reference's take, region 3. -/
namespace Go.Proofs.YtjeidklpomekdaaDoor
open Go.RowKit

set_option maxRecDepth 100000 in
set_option maxHeartbeats 3200000 in
theorem rtake_r3 {u1 u2 u5 u6 u7 u8 u9 u10 u11 u12 u13 u14 u15 u16 u17 u18 u19 u20 u21 u22 u23 u24 u25 u26 u27 u28 u29 u30 u31 u32 u33 u34 u35 u36 u37 u38 u39 u40 u41 u42 u43 u44 u45 u46 u47 u48 u49 u50 u51 u52 u53 u54 u55 u56 u57 u58 u59 u60 u61 u62 u63 : Value} (base rb b3 b4 : Nat) (ρ : RefL) (R : RefS) (e : Edt) (d : Opr) (w : World) (h : RBookAt w base rb ρ R) (hbase : base ≤ w.heap.size) (hx3 : w.heap[b3]? = some (.cells (ecells e) 48 (0, 0))) (hx4 : w.heap[b4]? = some (.cells (ocells d) 46 (0, 0))) (hn : R.E.length ≤ 10000) (hdn : R.D.length ≤ 10000) (hkn : R.K.length ≤ 10000) (K : Act → World → Prop) (Post : Ending → World → Prop)
    (hK : ∀ (v35 v36 v37 v38 v39 v40 v41 v42 v43 v44 : Value) (w' : World), RTStep base rb w ρ { R with E := R.E ++ [e] } w' → K ⟨List.toArray (.pointer (some ⟨rb, 0, none⟩) :: u1 :: u2 :: .pointer (some ⟨b3, 0, none⟩) :: .pointer (some ⟨b4, 0, none⟩) :: u5 :: u6 :: u7 :: u8 :: u9 :: u10 :: u11 :: u12 :: u13 :: u14 :: u15 :: u16 :: u17 :: u18 :: u19 :: u20 :: u21 :: u22 :: u23 :: u24 :: u25 :: u26 :: u27 :: u28 :: u29 :: u30 :: u31 :: u32 :: u33 :: u34 :: v35 :: v36 :: v37 :: v38 :: v39 :: v40 :: v41 :: v42 :: v43 :: v44 :: u45 :: u46 :: u47 :: u48 :: u49 :: u50 :: u51 :: u52 :: u53 :: u54 :: u55 :: u56 :: u57 :: u58 :: u59 :: u60 :: u61 :: u62 :: u63 :: []), []⟩ w') :
    Code.wp Tryd.prog (rtakeReg 3) (Exit.then K (bodyPost Tryd.prog Tryd.f19 Post)) ⟨List.toArray (.pointer (some ⟨rb, 0, none⟩) :: u1 :: u2 :: .pointer (some ⟨b3, 0, none⟩) :: .pointer (some ⟨b4, 0, none⟩) :: u5 :: u6 :: u7 :: u8 :: u9 :: u10 :: u11 :: u12 :: u13 :: u14 :: u15 :: u16 :: u17 :: u18 :: u19 :: u20 :: u21 :: u22 :: u23 :: u24 :: u25 :: u26 :: u27 :: u28 :: u29 :: u30 :: u31 :: u32 :: u33 :: u34 :: u35 :: u36 :: u37 :: u38 :: u39 :: u40 :: u41 :: u42 :: u43 :: u44 :: u45 :: u46 :: u47 :: u48 :: u49 :: u50 :: u51 :: u52 :: u53 :: u54 :: u55 :: u56 :: u57 :: u58 :: u59 :: u60 :: u61 :: u62 :: u63 :: []), []⟩ w := by
  conv => arg 2; whnf

  obtain ⟨aE, cE, aD, cD, aN, cN, aK, cK, V⟩ := h.view
  have C := blk_cell V.hp; have F := blk_free V.hp; have LP := blk_lt V.hp
  have C3 := blk_cell hx3; have C4 := blk_cell hx4; have L3 := blk_lt hx3; have L4 := blk_lt hx4
  have HP := Lib.hid V.hp; have HV := Lib.hid V; have H := Lib.hid h; have X4 := Lib.hid hx4
  have hv : ρ.vE = _ := V.eE
  have HO := Lib.hid (SlO.below h.hE (Below.refl _ _).drew)
  have HNR := Lib.hid (show rb ∉ ρ.vE.ownBlock.toList from fun hq => h.nE (by simpa using hq))
  clear V h hx3 hx4
  have B1 := Lib.hid (show (R.E.length + 1) * 48 ≤ 140737488355328 by omega)
  have B2 := Lib.hid (show R.E.length + 1 ≤ 9223372036854775807 by omega)
  have B3 := Lib.hid (show base ≤ w.drew.heap.size from hbase)
  go_region_law (refine step_app1N et_edit (W := w.drew) (R.E.length + 1) rfl (.tmp 39) (.tmp 41) rfl base Edt.cells len_edit one_edit ρ.vE R.E (by exact hv.symm) HO.out (e) _ rfl w.heap.size rfl rfl rfl B1.out B2.out B3.out ?_; intro g cap w2 ho2 hm2 hg2 hlt2; have s2 := hm2.blk HNR.out HP.out; have C2 := blk_cell s2; have F2 := blk_free s2; have S2 := Lib.hid s2; have HO2 := Lib.hid ho2; have HM2 := Lib.hid hm2; have HG2 := Lib.hid hg2; clear s2 ho2 hm2 hg2)
  all_goals
    refine hK _ _ _ _ _ _ _ _ _ _ _ ?_
    exact H.out.stepE hbase (Below.refl _ _).drew HM2.out HO2.out HG2.out

end Go.Proofs.YtjeidklpomekdaaDoor

/- The reference's take, region 4. -/
namespace Go.Proofs.YtjeidklpomekdaaDoor
open Go.RowKit

set_option maxRecDepth 100000 in
set_option maxHeartbeats 3200000 in
theorem rtake_r4 {u1 u2 u5 u6 u7 u8 u9 u10 u11 u12 u13 u14 u15 u16 u17 u18 u19 u20 u21 u22 u23 u24 u25 u26 u27 u28 u29 u30 u31 u32 u33 u34 u35 u36 u37 u38 u39 u40 u41 u42 u43 u44 u45 u46 u47 u48 u49 u50 u51 u52 u53 u54 u55 u56 u57 u58 u59 u60 u61 u62 u63 : Value} (base rb b3 b4 : Nat) (ρ : RefL) (R : RefS) (e : Edt) (d : Opr) (w : World) (h : RBookAt w base rb ρ R) (hbase : base ≤ w.heap.size) (hx3 : w.heap[b3]? = some (.cells (ecells e) 48 (0, 0))) (hx4 : w.heap[b4]? = some (.cells (ocells d) 46 (0, 0))) (hn : R.E.length ≤ 10000) (hdn : R.D.length ≤ 10000) (hkn : R.K.length ≤ 10000) (K : Act → World → Prop) (Post : Ending → World → Prop)
    (hK : ∀ (v45 v46 v47 v48 v49 v50 v51 v52 v53 v54 : Value) (w' : World), RTStep base rb w ρ { R with D := R.D ++ [d] } w' → K ⟨List.toArray (.pointer (some ⟨rb, 0, none⟩) :: u1 :: u2 :: .pointer (some ⟨b3, 0, none⟩) :: .pointer (some ⟨b4, 0, none⟩) :: u5 :: u6 :: u7 :: u8 :: u9 :: u10 :: u11 :: u12 :: u13 :: u14 :: u15 :: u16 :: u17 :: u18 :: u19 :: u20 :: u21 :: u22 :: u23 :: u24 :: u25 :: u26 :: u27 :: u28 :: u29 :: u30 :: u31 :: u32 :: u33 :: u34 :: u35 :: u36 :: u37 :: u38 :: u39 :: u40 :: u41 :: u42 :: u43 :: u44 :: v45 :: v46 :: v47 :: v48 :: v49 :: v50 :: v51 :: v52 :: v53 :: v54 :: u55 :: u56 :: u57 :: u58 :: u59 :: u60 :: u61 :: u62 :: u63 :: []), []⟩ w') :
    Code.wp Tryd.prog (rtakeReg 4) (Exit.then K (bodyPost Tryd.prog Tryd.f19 Post)) ⟨List.toArray (.pointer (some ⟨rb, 0, none⟩) :: u1 :: u2 :: .pointer (some ⟨b3, 0, none⟩) :: .pointer (some ⟨b4, 0, none⟩) :: u5 :: u6 :: u7 :: u8 :: u9 :: u10 :: u11 :: u12 :: u13 :: u14 :: u15 :: u16 :: u17 :: u18 :: u19 :: u20 :: u21 :: u22 :: u23 :: u24 :: u25 :: u26 :: u27 :: u28 :: u29 :: u30 :: u31 :: u32 :: u33 :: u34 :: u35 :: u36 :: u37 :: u38 :: u39 :: u40 :: u41 :: u42 :: u43 :: u44 :: u45 :: u46 :: u47 :: u48 :: u49 :: u50 :: u51 :: u52 :: u53 :: u54 :: u55 :: u56 :: u57 :: u58 :: u59 :: u60 :: u61 :: u62 :: u63 :: []), []⟩ w := by
  conv => arg 2; whnf

  obtain ⟨aE, cE, aD, cD, aN, cN, aK, cK, V⟩ := h.view
  have C := blk_cell V.hp; have F := blk_free V.hp; have LP := blk_lt V.hp
  have C3 := blk_cell hx3; have C4 := blk_cell hx4; have L3 := blk_lt hx3; have L4 := blk_lt hx4
  have HP := Lib.hid V.hp; have HV := Lib.hid V; have H := Lib.hid h; have X4 := Lib.hid hx4
  have hv : ρ.vD = _ := V.eD
  have HO := Lib.hid (SlO.below h.hD (Below.refl _ _).drew)
  have HNR := Lib.hid (show rb ∉ ρ.vD.ownBlock.toList from fun hq => h.nD (by simpa using hq))
  clear V h hx3 hx4
  have B1 := Lib.hid (show (R.D.length + 1) * 40 ≤ 140737488355328 by omega)
  have B2 := Lib.hid (show R.D.length + 1 ≤ 9223372036854775807 by omega)
  have B3 := Lib.hid (show base ≤ w.drew.heap.size from hbase)
  go_region_law (refine step_app1N et_op (W := w.drew) (R.D.length + 1) rfl (.tmp 49) (.tmp 51) rfl base Opr.cells len_op one_op ρ.vD R.D (by exact hv.symm) HO.out (d) _ rfl w.heap.size rfl rfl rfl B1.out B2.out B3.out ?_; intro g cap w2 ho2 hm2 hg2 hlt2; have s2 := hm2.blk HNR.out HP.out; have C2 := blk_cell s2; have F2 := blk_free s2; have S2 := Lib.hid s2; have HO2 := Lib.hid ho2; have HM2 := Lib.hid hm2; have HG2 := Lib.hid hg2; clear s2 ho2 hm2 hg2)
  all_goals
    refine hK _ _ _ _ _ _ _ _ _ _ _ ?_
    exact H.out.stepD hbase (Below.refl _ _).drew HM2.out HO2.out HG2.out

end Go.Proofs.YtjeidklpomekdaaDoor

/- The reference's take. -/
namespace Go.Proofs.YtjeidklpomekdaaDoor
open Go.RowKit

def RefS.done (R : RefS) (e : Edt) : Opr := (lifeEnd R e).1.headD ⟨0, 0, 0, 0, 0⟩
def RefS.take (R : RefS) (e : Edt) : RefS := ⟨R.E ++ [e], R.D ++ [R.done e], R.N ++ [R.n R.E.length + grown (R.done e)], R.K ++ [2], R.T⟩
theorem RTStep.trans {base rb : Nat} {w w1 w2 : World} {ρ ρ1 : RefL} {R2 : RefS} (hb : Below base w w1) (hk : ∀ b o, Out b rb ρ → w.heap[b]? = some o → w1.heap[b]? = some o ∧ Out b rb ρ1) (t : RTStep base rb w1 ρ1 R2 w2) : RTStep base rb w ρ R2 w2 := by
  obtain ⟨ρ2, h1, h2, h3⟩ := t
  exact ⟨ρ2, h1, hb.trans h2, fun b o h0 h4 => by obtain ⟨h5, h6⟩ := hk b o h0 h4; exact h3 b o h6 h5⟩

set_option maxRecDepth 100000 in
set_option maxHeartbeats 3200000 in
theorem rtake_any (base rb : Nat) (ρ : RefL) (R : RefS) (tag : Int) (o : Opr) (w : World) (h : RBookAt w base rb ρ R) (hbase : base ≤ w.heap.size) (ok : LifeOk R ⟨tag, o⟩) (hkn : R.K.length ≤ 10000) :
    Calls Tryd.prog 19 #[.pointer (some ⟨rb, 0, none⟩), Edt.val ⟨tag, o⟩] w fun r w' => r = .returned (.tuple #[]) ∧ RTStep base rb w ρ (R.take ⟨tag, o⟩) w' := by
  have hlen := ok.len; have hdl := ok.dl; have hnl := ok.nl; have hnb := ok.nb R.E.length (Nat.le_refl _)
  have H := Lib.hid h; have OK := Lib.hid ok
  have X0 := Lib.hid (blk_new w (.cells (ecells ⟨tag, o⟩) 48 (0, 0)))
  have HT := Lib.hid (show R.take ⟨tag, o⟩ = ⟨R.E ++ [⟨tag, o⟩], R.D ++ [R.done ⟨tag, o⟩], R.N ++ [R.n R.E.length + grown (R.done ⟨tag, o⟩)], R.K ++ [2], R.T⟩ from rfl)
  have HDN := Lib.hid (show (lifeEnd R ⟨tag, o⟩).1.headD ⟨0, 0, 0, 0, 0⟩ = R.done ⟨tag, o⟩ from rfl)
  have HNN := Lib.hid hnl; have HNB := Lib.hid hnb; have HDL := Lib.hid hdl
  clear h ok hnl hdl hnb
  go_enter Tryd.func19, Tryd.ntmps19
  go_wp2_with fail
  refine (life_any base rb ρ R tag o _ (H.out.below ((Below.refl _ _).new _)) OK.out).mono ?_
  rintro e w1 ⟨rfl, hb1⟩
  rw [HDN.out]
  generalize R.done ⟨tag, o⟩ = d at *
  have hbt : Below w.heap.size w (w1.alloc (.cells (ocells d) 46 (0, 0))) := (((Below.refl _ _).new _).then_ hb1).new _
  have x3 := blk_alloc (.cells (ocells d) 46 (0, 0)) (hb1.blk X0.out)
  have x4 := blk_new w1 (.cells (ocells d) 46 (0, 0))
  have hsz : w.heap.size < w1.heap.size := by have := hb1.size; simp at this; omega
  have BT := Lib.hid hbt; have X3 := Lib.hid x3; have X4 := Lib.hid x4
  have O3 := Lib.hid (out_new (H.out) (Nat.le_refl w.heap.size)); have O4 := Lib.hid (out_new H.out (Nat.le_of_lt hsz))
  have C4 := blk_cell x4
  clear hb1 hbt x3 x4
  go_upto_region 2 with fail
  generalize hW2 : w1.alloc (.cells (ocells d) 46 (0, 0)) = w2 at *
  have hb2 : base ≤ w2.heap.size := Nat.le_trans hbase BT.out.size
  refine rtake_r2 base rb w.heap.size w1.heap.size ρ R ⟨tag, o⟩ d w2 (H.out.below BT.out) hb2 X3.out X4.out (by omega) (by have := HDL.out; omega) HNN.out hkn O4.out HNB.out _ _ ?_
  intro v12 v13 v14 v15 v16 v17 v18 v19 v20 v21 v22 v23 v24 v25 v26 v27 v28 v29 v30 v31 v32 v33 v34 w3 t3
  obtain ⟨ρ3, r3, b3, k3⟩ := t3
  have K3 := Lib.hid k3; have R3 := Lib.hid r3; have B3 := Lib.hid b3
  have Y3 := Lib.hid (k3 _ _ O3.out X3.out); have Y4 := Lib.hid (k3 _ _ O4.out X4.out)
  clear k3 r3 b3 C4 hW2
  go_upto_region 3 with fail
  refine rtake_r3 base rb w.heap.size w1.heap.size ρ3 _ ⟨tag, o⟩ d w3 R3.out (Nat.le_trans hb2 B3.out.size) Y3.out.1 Y4.out.1 (by simp only []; omega) (by simp only []; have := HDL.out; omega) hkn _ _ ?_
  intro v35 v36 v37 v38 v39 v40 v41 v42 v43 v44 w4 t4
  obtain ⟨ρ4, r4, b4, k4⟩ := t4
  have K4 := Lib.hid k4; have R4 := Lib.hid r4; have B4 := Lib.hid b4
  have Z3 := Lib.hid (k4 _ _ Y3.out.2 Y3.out.1); have Z4 := Lib.hid (k4 _ _ Y4.out.2 Y4.out.1)
  clear k4 r4 b4
  go_upto_region 4 with fail
  refine rtake_r4 base rb w.heap.size w1.heap.size ρ4 _ ⟨tag, o⟩ d w4 R4.out (Nat.le_trans (Nat.le_trans hb2 B3.out.size) B4.out.size) Z3.out.1 Z4.out.1 (by simp; omega) (by simp only []; have := HDL.out; omega) hkn _ _ ?_
  intro v45 v46 v47 v48 v49 v50 v51 v52 v53 v54 w5 t5
  obtain ⟨ρ5, r5, b5, k5⟩ := t5
  have K5 := Lib.hid k5; have R5 := Lib.hid r5; have B5 := Lib.hid b5
  clear k5 r5 b5
  have hb5 : base ≤ w5.heap.size := Nat.le_trans (Nat.le_trans (Nat.le_trans hb2 B3.out.size) B4.out.size) B5.out.size
  obtain ⟨aE, cE, aD, cD, aN, cN, aK, cK, V⟩ := R5.out.view
  have C5 := blk_cell V.hp; have F5 := blk_free V.hp; have L5 := blk_lt V.hp
  have hv : ρ5.vK = _ := V.eK
  have HP5 := Lib.hid V.hp
  have HNR := Lib.hid (show rb ∉ ρ5.vK.ownBlock.toList from fun hq => R5.out.nK (by simpa using hq))
  have HO5 := Lib.hid R5.out.hK
  clear V
  have B1 := Lib.hid (show (R.K.length + 1) * 8 ≤ 140737488355328 by omega)
  have B2 := Lib.hid (show R.K.length + 1 ≤ 9223372036854775807 by omega)
  go_wp2_with (at_builtin; refine wp_app1 et_int rfl _ _ rfl base icell len_int one_int ρ5.vK R.K (by exact hv.symm) HO5.out 2 _ rfl rfl B1.out B2.out hb5 ?_; intro g cap w6 ho6 hm6 hg6 hlt6; have s6 := hm6.blk HNR.out HP5.out; have C6 := blk_cell s6; have F6 := blk_free s6; have L6 := blk_lt s6; have HO6 := Lib.hid ho6; have HM6 := Lib.hid hm6; have HG6 := Lib.hid hg6; clear s6 ho6 hm6 hg6)
  refine bodyPost_end (results_none rfl _ _ _) rfl ?_
  refine ⟨rfl, ?_⟩
  rw [HT.out]
  have t6 := R5.out.stepK hb5 (Below.refl _ _) HM6.out HO6.out HG6.out
  refine RTStep.trans (ρ1 := ρ) (BT.out.mono hbase) (fun b x hO hb => ⟨BT.out.blk hb, hO⟩) (RTStep.trans B3.out K3.out (RTStep.trans B4.out K4.out (RTStep.trans B5.out K5.out t6)))
end Go.Proofs.YtjeidklpomekdaaDoor

/- errors.As at the targets *api.Errno and **api.Fault, after the kit's worked example. -/
namespace Go.Proofs.YtjeidklpomekdaaDoor
open Go.RowKit Go.Extern.Stop Go.Stop Go.Extern

theorem as_nil (t : Value) (w : World) : Calls Tryd.prog 38 #[.nilIface, t] w fun e w' => e = .returned (.bool false) ∧ w' = w := by
  go_enter Tryd.func38, Tryd.ntmps38
  go_wp2
  go_ret
  exact ⟨rfl, rfl⟩

theorem rlm (z : Sem Value) (f : TypeId → Addr → Nat → Nat → Sem Value) (v : Value) :
    ReflectliteValue.method z f #[v] = (do match ← ReflectliteValue.parts v with | none => z | some (t, a, fl) => f t a fl (fl % 32)) := rfl
theorem rls (v x : Value) : ReflectliteValue.set #[v, x] = (do
    let (some (dst, a, fl), some (src, b, _)) := (← ReflectliteValue.parts v, ← ReflectliteValue.parts x)
      | unsupported (.noEntry "extern/(internal/reflectlite.Value).Set.zeroValue")
    if fl / ReflectliteValue.flagAddr % 2 == 0 then unsupported (.noEntry "extern/(internal/reflectlite.Value).Set.unaddressable")
    let val ← loadVar src b
    if ← Rtype.directlyAssignable dst src then storeVar dst a val
    else if ← Rtype.implements dst src then
      if (← Rtype.kind src) == 20 then
        match val with
        | .nilIface => unsupported (.noEntry "extern/reflectlite: a nil value of one interface type handed on as a value of another")
        | _ => storeVar dst a val
      else storeVar dst a (.iface src val)
    else panicString ("reflectlite.Set: value of type " ++ (← Rtype.spelt src) ++ " is not assignable to type " ++ (← Rtype.spelt dst))
    pure (.tuple #[])) := rfl

theorem valueOfF (t : Addr) (w : World) : (ReflectliteValue.unpack (.iface 98 (.pointer (some t)))).run Tryd.prog w
    = .ok (.agg #[.pointer (some ⟨2, 98, none⟩), .pointer (some ⟨w.heap.size, 0, none⟩), .int .u64 150]) (w.alloc (.cells #[.pointer (some t)] 98 (0, 0))) := by kernel_rfl
theorem typeF (a : Addr) (w : World) : (ReflectliteValue.methodAny (ReflectliteValue.valueError "reflectlite.Value.Type" 0) (fun t _ _ _ => ReflectliteType.toType t) #[.agg #[.pointer (some ⟨2, 98, none⟩), .pointer (some a), .int .u64 150]]).run Tryd.prog w
    = .ok (.iface 137 (.agg #[.pointer (some ⟨2, 98, none⟩)])) w := by kernel_rfl
theorem kindPF (w : World) : ((ReflectliteType.abiMethod fun t => (fun a : Nat => Value.int IntKind.u8 (a : Int)) <$> Rtype.kind t) #[.pointer (some ⟨2, 98, none⟩)]).run Tryd.prog w = .ok (.int .u8 22) w := by kernel_rfl
theorem kindEF (w : World) : ((ReflectliteType.abiMethod fun t => (fun a : Nat => Value.int IntKind.u8 (a : Int)) <$> Rtype.kind t) #[.pointer (some ⟨2, 66, none⟩)]).run Tryd.prog w = .ok (.int .u8 22) w := by kernel_rfl
theorem partsPF (a : Addr) (w : World) : (ReflectliteValue.parts (.agg #[.pointer (some ⟨2, 98, none⟩), .pointer (some a), .int .u64 150])).run Tryd.prog w = .ok (some (98, a, 150)) w := by kernel_rfl
theorem isNilF (a p : Addr) (W : World) (ha : W.cell? a = some (.pointer (some p))) :
    (ReflectliteValue.method (ReflectliteValue.valueError "reflectlite.Value.IsNil" 0) ReflectliteValue.isNil #[.agg #[.pointer (some ⟨2, 98, none⟩), .pointer (some a), .int .u64 150]]).run Tryd.prog W = .ok (.bool false) W := by
  rw [rlm]
  simp only [Sem.run_bind, partsPF, Result.andThen]
  simp [ReflectliteValue.isNil, loadVar, isAgg, underlying, Tryd.underlying98, ha, Result.andThen]
theorem elemF (w : World) : (ReflectliteType.method ReflectliteType.elem #[.agg #[.pointer (some ⟨2, 98, none⟩)]]).run Tryd.prog w = .ok (.iface 137 (.agg #[.pointer (some ⟨2, 66, none⟩)])) w := by kernel_rfl
theorem implementsF (w : World) : (ReflectliteType.relation "Implements" ReflectliteType.implements_ #[.agg #[.pointer (some ⟨2, 66, none⟩)], .iface 137 (.agg #[.pointer (some ⟨2, 29, none⟩)])]).run Tryd.prog w = .ok (.bool true) w := by kernel_rfl
theorem typeOfF (v : Value) (w : World) : (ReflectliteType.typeOf #[.iface 66 v]).run Tryd.prog w = .ok (.iface 137 (.agg #[.pointer (some ⟨2, 66, none⟩)])) w := by kernel_rfl
theorem assignableF (w : World) : (ReflectliteType.relation "AssignableTo" ReflectliteType.assignableTo #[.agg #[.pointer (some ⟨2, 66, none⟩)], .iface 137 (.agg #[.pointer (some ⟨2, 66, none⟩)])]).run Tryd.prog w = .ok (.bool true) w := by kernel_rfl
theorem valueOfEF (e : Addr) (w : World) : (ReflectliteValue.unpack (.iface 66 (.pointer (some e)))).run Tryd.prog w
    = .ok (.agg #[.pointer (some ⟨2, 66, none⟩), .pointer (some ⟨w.heap.size, 0, none⟩), .int .u64 150]) (w.alloc (.cells #[(.pointer (some e))] 66 (0, 0))) := by kernel_rfl
theorem elemOfF (w : World) : (Rtype.elem? 98).run Tryd.prog w = .ok (some 66) w := by kernel_rfl
theorem mkF (p : Addr) (w : World) : (ReflectliteValue.mk 66 p ReflectliteValue.flagAddr).run Tryd.prog w = .ok (.agg #[.pointer (some ⟨2, 66, none⟩), .pointer (some p), .int .u64 406]) w := by kernel_rfl
theorem elemVF (a p : Addr) (W : World) (ha : W.cell? a = some (.pointer (some p))) :
    (ReflectliteValue.method (ReflectliteValue.valueError "reflectlite.Value.Elem" 0) ReflectliteValue.elem #[.agg #[.pointer (some ⟨2, 98, none⟩), .pointer (some a), .int .u64 150]]).run Tryd.prog W
      = .ok (.agg #[.pointer (some ⟨2, 66, none⟩), .pointer (some p), .int .u64 406]) W := by
  rw [rlm]
  simp only [Sem.run_bind, partsPF, Result.andThen]
  simp [ReflectliteValue.elem, loadVar, isAgg, underlying, Tryd.underlying98, ha, Result.andThen, elemOfF, mkF]
theorem partsAF (a : Addr) (w : World) : (ReflectliteValue.parts (.agg #[.pointer (some ⟨2, 66, none⟩), .pointer (some a), .int .u64 406])).run Tryd.prog w = .ok (some (66, a, 406)) w := by kernel_rfl
theorem partsEF (a : Addr) (w : World) : (ReflectliteValue.parts (.agg #[.pointer (some ⟨2, 66, none⟩), .pointer (some a), .int .u64 150])).run Tryd.prog w = .ok (some (66, a, 150)) w := by kernel_rfl
theorem directF (w : World) : (Rtype.directlyAssignable 66 66).run Tryd.prog w = .ok true w := by kernel_rfl
theorem sizeEF (w : World) : (sizeOf 66).run Tryd.prog w = .ok 1 w := by kernel_rfl
theorem setF (ta b : Addr) (e : Addr) (old : Value) (W : World) (hb : W.cell? b = some (.pointer (some e))) (ht : W.cell? ta = some old) (hf : W.frozen? ta = false) :
    (ReflectliteValue.set #[.agg #[.pointer (some ⟨2, 66, none⟩), .pointer (some ta), .int .u64 406], .agg #[.pointer (some ⟨2, 66, none⟩), .pointer (some b), .int .u64 150]]).run Tryd.prog W
      = .ok (.tuple #[]) (W.setCell ta (.pointer (some e))) := by
  rw [rls]
  simp only [Sem.run_bind, partsAF, partsEF, Result.andThen]
  simp [ReflectliteValue.flagAddr, loadVar, isAgg, underlying, Tryd.underlying66, hb, Result.andThen, directF, storeVar, Value.cells, storeCells, Addr.add]
  rw [run_store Tryd.prog W ta _ _ (by rfl)]
  simp [ht, hf]

theorem valueOfE (t : Addr) (w : World) : (ReflectliteValue.unpack (.iface 97 (.pointer (some t)))).run Tryd.prog w
    = .ok (.agg #[.pointer (some ⟨2, 97, none⟩), .pointer (some ⟨w.heap.size, 0, none⟩), .int .u64 150]) (w.alloc (.cells #[.pointer (some t)] 97 (0, 0))) := by kernel_rfl
theorem typeE (a : Addr) (w : World) : (ReflectliteValue.methodAny (ReflectliteValue.valueError "reflectlite.Value.Type" 0) (fun t _ _ _ => ReflectliteType.toType t) #[.agg #[.pointer (some ⟨2, 97, none⟩), .pointer (some a), .int .u64 150]]).run Tryd.prog w
    = .ok (.iface 137 (.agg #[.pointer (some ⟨2, 97, none⟩)])) w := by kernel_rfl
theorem kindPE (w : World) : ((ReflectliteType.abiMethod fun t => (fun a : Nat => Value.int IntKind.u8 (a : Int)) <$> Rtype.kind t) #[.pointer (some ⟨2, 97, none⟩)]).run Tryd.prog w = .ok (.int .u8 22) w := by kernel_rfl
theorem kindEE (w : World) : ((ReflectliteType.abiMethod fun t => (fun a : Nat => Value.int IntKind.u8 (a : Int)) <$> Rtype.kind t) #[.pointer (some ⟨2, 74, none⟩)]).run Tryd.prog w = .ok (.int .u8 2) w := by kernel_rfl
theorem partsPE (a : Addr) (w : World) : (ReflectliteValue.parts (.agg #[.pointer (some ⟨2, 97, none⟩), .pointer (some a), .int .u64 150])).run Tryd.prog w = .ok (some (97, a, 150)) w := by kernel_rfl
theorem isNilE (a p : Addr) (W : World) (ha : W.cell? a = some (.pointer (some p))) :
    (ReflectliteValue.method (ReflectliteValue.valueError "reflectlite.Value.IsNil" 0) ReflectliteValue.isNil #[.agg #[.pointer (some ⟨2, 97, none⟩), .pointer (some a), .int .u64 150]]).run Tryd.prog W = .ok (.bool false) W := by
  rw [rlm]
  simp only [Sem.run_bind, partsPE, Result.andThen]
  simp [ReflectliteValue.isNil, loadVar, isAgg, underlying, Tryd.underlying97, ha, Result.andThen]
theorem elemE (w : World) : (ReflectliteType.method ReflectliteType.elem #[.agg #[.pointer (some ⟨2, 97, none⟩)]]).run Tryd.prog w = .ok (.iface 137 (.agg #[.pointer (some ⟨2, 74, none⟩)])) w := by kernel_rfl
theorem implementsE (w : World) : (ReflectliteType.relation "Implements" ReflectliteType.implements_ #[.agg #[.pointer (some ⟨2, 74, none⟩)], .iface 137 (.agg #[.pointer (some ⟨2, 29, none⟩)])]).run Tryd.prog w = .ok (.bool true) w := by kernel_rfl
theorem typeOfE (v : Value) (w : World) : (ReflectliteType.typeOf #[.iface 74 v]).run Tryd.prog w = .ok (.iface 137 (.agg #[.pointer (some ⟨2, 74, none⟩)])) w := by kernel_rfl
theorem assignableE (w : World) : (ReflectliteType.relation "AssignableTo" ReflectliteType.assignableTo #[.agg #[.pointer (some ⟨2, 74, none⟩)], .iface 137 (.agg #[.pointer (some ⟨2, 74, none⟩)])]).run Tryd.prog w = .ok (.bool true) w := by kernel_rfl
theorem valueOfEE (c : Int) (w : World) : (ReflectliteValue.unpack (.iface 74 (.int .i64 c))).run Tryd.prog w
    = .ok (.agg #[.pointer (some ⟨2, 74, none⟩), .pointer (some ⟨w.heap.size, 0, none⟩), .int .u64 130]) (w.alloc (.cells #[(.int .i64 c)] 74 (0, 0))) := by kernel_rfl
theorem elemOfE (w : World) : (Rtype.elem? 97).run Tryd.prog w = .ok (some 74) w := by kernel_rfl
theorem mkE (p : Addr) (w : World) : (ReflectliteValue.mk 74 p ReflectliteValue.flagAddr).run Tryd.prog w = .ok (.agg #[.pointer (some ⟨2, 74, none⟩), .pointer (some p), .int .u64 386]) w := by kernel_rfl
theorem elemVE (a p : Addr) (W : World) (ha : W.cell? a = some (.pointer (some p))) :
    (ReflectliteValue.method (ReflectliteValue.valueError "reflectlite.Value.Elem" 0) ReflectliteValue.elem #[.agg #[.pointer (some ⟨2, 97, none⟩), .pointer (some a), .int .u64 150]]).run Tryd.prog W
      = .ok (.agg #[.pointer (some ⟨2, 74, none⟩), .pointer (some p), .int .u64 386]) W := by
  rw [rlm]
  simp only [Sem.run_bind, partsPE, Result.andThen]
  simp [ReflectliteValue.elem, loadVar, isAgg, underlying, Tryd.underlying97, ha, Result.andThen, elemOfE, mkE]
theorem partsAE (a : Addr) (w : World) : (ReflectliteValue.parts (.agg #[.pointer (some ⟨2, 74, none⟩), .pointer (some a), .int .u64 386])).run Tryd.prog w = .ok (some (74, a, 386)) w := by kernel_rfl
theorem partsEE (a : Addr) (w : World) : (ReflectliteValue.parts (.agg #[.pointer (some ⟨2, 74, none⟩), .pointer (some a), .int .u64 130])).run Tryd.prog w = .ok (some (74, a, 130)) w := by kernel_rfl
theorem directE (w : World) : (Rtype.directlyAssignable 74 74).run Tryd.prog w = .ok true w := by kernel_rfl
theorem sizeEE (w : World) : (sizeOf 74).run Tryd.prog w = .ok 1 w := by kernel_rfl
theorem setE (ta b : Addr) (c : Int) (old : Value) (W : World) (hb : W.cell? b = some (.int .i64 c)) (ht : W.cell? ta = some old) (hf : W.frozen? ta = false) :
    (ReflectliteValue.set #[.agg #[.pointer (some ⟨2, 74, none⟩), .pointer (some ta), .int .u64 386], .agg #[.pointer (some ⟨2, 74, none⟩), .pointer (some b), .int .u64 130]]).run Tryd.prog W
      = .ok (.tuple #[]) (W.setCell ta (.int .i64 c)) := by
  rw [rls]
  simp only [Sem.run_bind, partsAE, partsEE, Result.andThen]
  simp [ReflectliteValue.flagAddr, loadVar, isAgg, underlying, Tryd.underlying74, hb, Result.andThen, directE, storeVar, Value.cells, storeCells, Addr.add]
  rw [run_store Tryd.prog W ta _ _ (by rfl)]
  simp [ht, hf]

end Go.Proofs.YtjeidklpomekdaaDoor

/- errors.As: its walks. -/
namespace Go.Proofs.YtjeidklpomekdaaDoor
open Go.RowKit Go.Extern.Stop Go.Stop Go.Extern

theorem methodKind (h : Value) (w : World) : (Go.method 301 137 (.agg #[h]) "Kind").run Tryd.prog w = .ok (82, h) w := by kernel_rfl
theorem methodElem (h : Value) (w : World) : (Go.method 301 137 (.agg #[h]) "Elem").run Tryd.prog w = .ok (98, .agg #[h]) w := by kernel_rfl
theorem methodImplements (h : Value) (w : World) : (Go.method 301 137 (.agg #[h]) "Implements").run Tryd.prog w = .ok (99, .agg #[h]) w := by kernel_rfl
theorem methodAssignableTo (h : Value) (w : World) : (Go.method 301 137 (.agg #[h]) "AssignableTo").run Tryd.prog w = .ok (96, .agg #[h]) w := by kernel_rfl

set_option maxRecDepth 100000 in
set_option maxHeartbeats 8000000 in
theorem as_hit (e t : Addr) (old : Value) (w : World) (hg : w.cell? ⟨0, 0, none⟩ = some (.iface 137 (.agg #[.pointer (some ⟨2, 29, none⟩)]))) (ht0 : w.cell? t = some old) (hf0 : w.frozen? t = false) :
    Calls Tryd.prog 38 #[.iface 66 (.pointer (some e)), .iface 98 (.pointer (some t))] w fun ev w' => ev = .returned (.bool true) ∧ w' = ((((w.alloc (.cells #[.pointer (some t)] 98 (0, 0))).alloc (.cells #[.pointer (some ⟨2, 98, none⟩), .pointer (some ⟨w.heap.size, 0, none⟩), .int .u64 150] 121 (0, 0))).alloc (.cells #[.pointer (some ⟨2, 98, none⟩), .pointer (some ⟨w.heap.size, 0, none⟩), .int .u64 150] 121 (0, 0))).alloc (.cells #[.pointer (some e)] 66 (0, 0))).setCell t (.pointer (some e)) := by
  have h6 := @run_callFunc_extern Tryd.prog 50 _ (fun args => ReflectliteValue.unpack (args.getD 0 (.tuple #[]))) Tryd.func50 (by kernel_rfl) (by kernel_rfl) (by kernel_rfl) (by kernel_rfl)
  have h7 := @run_callFunc_extern Tryd.prog 51 _ (ReflectliteValue.methodAny (ReflectliteValue.valueError "reflectlite.Value.Type" 0) (fun t _ _ _ => ReflectliteType.toType t)) Tryd.func51 (by kernel_rfl) (by kernel_rfl) (by kernel_rfl) (by kernel_rfl)
  have h8 := @run_callFunc_extern Tryd.prog 52 _ (ReflectliteValue.method (ReflectliteValue.valueError "reflectlite.Value.IsNil" 0) ReflectliteValue.isNil) Tryd.func52 (by kernel_rfl) (by kernel_rfl) (by kernel_rfl) (by kernel_rfl)
  have h27 := @run_callFunc_extern Tryd.prog 82 _ (ReflectliteType.abiMethod fun t => do pure (.int .u8 (← Rtype.kind t))) Tryd.func82 (by kernel_rfl) (by kernel_rfl) (by kernel_rfl) (by kernel_rfl)
  have h37 := @run_callFunc_extern Tryd.prog 98 _ (ReflectliteType.method ReflectliteType.elem) Tryd.func98 (by kernel_rfl) (by kernel_rfl) (by kernel_rfl) (by kernel_rfl)
  have h38 := @run_callFunc_extern Tryd.prog 99 _ (ReflectliteType.relation "Implements" ReflectliteType.implements_) Tryd.func99 (by kernel_rfl) (by kernel_rfl) (by kernel_rfl) (by kernel_rfl)
  have h10 := @run_callFunc_extern Tryd.prog 58 _ (ReflectliteType.typeOf) Tryd.func58 (by kernel_rfl) (by kernel_rfl) (by kernel_rfl) (by kernel_rfl)
  have h35 := @run_callFunc_extern Tryd.prog 96 _ (ReflectliteType.relation "AssignableTo" ReflectliteType.assignableTo) Tryd.func96 (by kernel_rfl) (by kernel_rfl) (by kernel_rfl) (by kernel_rfl)
  have h11 := @run_callFunc_extern Tryd.prog 59 _ (ReflectliteValue.method (ReflectliteValue.valueError "reflectlite.Value.Elem" 0) ReflectliteValue.elem) Tryd.func59 (by kernel_rfl) (by kernel_rfl) (by kernel_rfl) (by kernel_rfl)
  have h12 := @run_callFunc_extern Tryd.prog 60 _ (ReflectliteValue.set) Tryd.func60 (by kernel_rfl) (by kernel_rfl) (by kernel_rfl) (by kernel_rfl)
  have tO := typeOfF
  have a25 := assignableF
  have v25 := valueOfEF
  have f6 := valueOfF
  have f7 := typeF
  have mK := methodKind
  have mE := methodElem
  have mI := methodImplements
  have mA := methodAssignableTo
  have k27 := kindPF
  have k25 := kindEF
  have e27 := elemF
  have i25 := implementsF
  have n8 := isNilF ⟨w.heap.size, 0, none⟩ t ((w.alloc (.cells #[.pointer (some t)] 98 (0, 0))).alloc (.cells #[.pointer (some ⟨2, 98, none⟩), .pointer (some ⟨w.heap.size, 0, none⟩), .int .u64 150] 121 (0, 0))) (by simp)
  have hlt : 0 < w.heap.size := by
    by_cases h : 0 < w.heap.size
    · exact h
    · simp [World.cell?, Array.getElem?_eq_none (Nat.le_of_not_lt h)] at hg
  have hg2 : ((w.alloc (.cells #[.pointer (some t)] 98 (0, 0))).alloc (.cells #[.pointer (some ⟨2, 98, none⟩), .pointer (some ⟨w.heap.size, 0, none⟩), .int .u64 150] 121 (0, 0))).cell? ⟨0, 0, none⟩ = some (.iface 137 (.agg #[.pointer (some ⟨2, 29, none⟩)])) := by
    rw [World.cell?_alloc_lt _ _ ⟨0, 0, none⟩ (by simp), World.cell?_alloc_lt _ _ ⟨0, 0, none⟩ hlt]; exact hg
  have htl : t.block < w.heap.size := by
    rcases Nat.lt_or_ge t.block w.heap.size with h | h
    · exact h
    · simp [World.cell?, Array.getElem?_eq_none h] at ht0
  have el := elemVF ⟨w.heap.size, 0, none⟩ t (((w.alloc (.cells #[.pointer (some t)] 98 (0, 0))).alloc (.cells #[.pointer (some ⟨2, 98, none⟩), .pointer (some ⟨w.heap.size, 0, none⟩), .int .u64 150] 121 (0, 0))).alloc (.cells #[.pointer (some ⟨2, 98, none⟩), .pointer (some ⟨w.heap.size, 0, none⟩), .int .u64 150] 121 (0, 0))) (by rw [World.cell?_alloc_lt _ _ ⟨w.heap.size, 0, none⟩ (by simp; omega)]; simp)
  have st := setF t ⟨w.heap.size + 1 + 1 + 1, 0, none⟩ e old ((((w.alloc (.cells #[.pointer (some t)] 98 (0, 0))).alloc (.cells #[.pointer (some ⟨2, 98, none⟩), .pointer (some ⟨w.heap.size, 0, none⟩), .int .u64 150] 121 (0, 0))).alloc (.cells #[.pointer (some ⟨2, 98, none⟩), .pointer (some ⟨w.heap.size, 0, none⟩), .int .u64 150] 121 (0, 0))).alloc (.cells #[.pointer (some e)] 66 (0, 0)))
    (by rw [World.cell?_alloc_at _ _ _ _ (by simp)]; rfl)
    (by rw [World.cell?_alloc_lt _ _ t (by simp; omega), World.cell?_alloc_lt _ _ t (by simp; omega), World.cell?_alloc_lt _ _ t (by simp; omega), World.cell?_alloc_lt _ _ t htl]; exact ht0)
    (by rw [World.frozen?_alloc_old _ _ t (by simp; omega), World.frozen?_alloc_old _ _ t (by simp; omega), World.frozen?_alloc_old _ _ t (by simp; omega), World.frozen?_alloc_old _ _ t (Nat.ne_of_lt htl)]; exact hf0)
  go_enter Tryd.func38, Tryd.ntmps38
  go_wp2
  refine wp_loop_rounds 1 ?_
  rw [rounds_succ]
  go_wp2
  go_ret
  exact ⟨rfl, rfl⟩
end Go.Proofs.YtjeidklpomekdaaDoor

/- errors.As: a Fault over an Errno, asked for an Errno. -/
namespace Go.Proofs.YtjeidklpomekdaaDoor
open Go.RowKit Go.Extern.Stop Go.Stop Go.Extern

theorem assignableNo (w : World) : (ReflectliteType.relation "AssignableTo" ReflectliteType.assignableTo #[.agg #[.pointer (some ⟨2, 66, none⟩)], .iface 137 (.agg #[.pointer (some ⟨2, 74, none⟩)])]).run Tryd.prog w = .ok (.bool false) w := by kernel_rfl
theorem methodUnwrap (h : Value) (w : World) : (Go.method 301 66 h "Unwrap").run Tryd.prog w = .ok (88, h) w := by kernel_rfl
theorem noAs (v : Value) (w : World) : (Instr.typeAssert (.iface 66 v) 29 142 true).run Tryd.prog w = .ok (.tuple #[.nilIface, .bool false]) w := run_typeAssert_lacksB Tryd.underlying142 (by kernel_rfl) (by kernel_rfl) v 29 w
theorem hasUnwrap (v : Value) (w : World) : (Instr.typeAssert (.iface 66 v) 29 145 true).run Tryd.prog w = .ok (.tuple #[.iface 66 v, .bool true]) w := run_typeAssert_hasB Tryd.underlying145 (by kernel_rfl) v 29 w

set_option maxRecDepth 100000 in
set_option maxHeartbeats 8000000 in
theorem as_chain (fb : Nat) (i c : Int) (t : Addr) (old : Value) (w : World) (hg : w.cell? ⟨0, 0, none⟩ = some (.iface 137 (.agg #[.pointer (some ⟨2, 29, none⟩)]))) (hf : w.heap[fb]? = some (.cells #[.int .i64 i, .iface 74 (.int .i64 c)] 68 (0, 0))) (ht0 : w.cell? t = some old) (hf0 : w.frozen? t = false) :
    Calls Tryd.prog 38 #[.iface 66 (.pointer (some ⟨fb, 0, none⟩)), .iface 97 (.pointer (some t))] w fun ev w' => ev = .returned (.bool true) ∧ w' = ((((w.alloc (.cells #[.pointer (some t)] 97 (0, 0))).alloc (.cells #[.pointer (some ⟨2, 97, none⟩), .pointer (some ⟨w.heap.size, 0, none⟩), .int .u64 150] 121 (0, 0))).alloc (.cells #[.pointer (some ⟨2, 97, none⟩), .pointer (some ⟨w.heap.size, 0, none⟩), .int .u64 150] 121 (0, 0))).alloc (.cells #[.int .i64 c] 74 (0, 0))).setCell t (.int .i64 c) := by
  have h6 := @run_callFunc_extern Tryd.prog 50 _ (fun args => ReflectliteValue.unpack (args.getD 0 (.tuple #[]))) Tryd.func50 (by kernel_rfl) (by kernel_rfl) (by kernel_rfl) (by kernel_rfl)
  have h7 := @run_callFunc_extern Tryd.prog 51 _ (ReflectliteValue.methodAny (ReflectliteValue.valueError "reflectlite.Value.Type" 0) (fun t _ _ _ => ReflectliteType.toType t)) Tryd.func51 (by kernel_rfl) (by kernel_rfl) (by kernel_rfl) (by kernel_rfl)
  have h8 := @run_callFunc_extern Tryd.prog 52 _ (ReflectliteValue.method (ReflectliteValue.valueError "reflectlite.Value.IsNil" 0) ReflectliteValue.isNil) Tryd.func52 (by kernel_rfl) (by kernel_rfl) (by kernel_rfl) (by kernel_rfl)
  have h27 := @run_callFunc_extern Tryd.prog 82 _ (ReflectliteType.abiMethod fun t => do pure (.int .u8 (← Rtype.kind t))) Tryd.func82 (by kernel_rfl) (by kernel_rfl) (by kernel_rfl) (by kernel_rfl)
  have h37 := @run_callFunc_extern Tryd.prog 98 _ (ReflectliteType.method ReflectliteType.elem) Tryd.func98 (by kernel_rfl) (by kernel_rfl) (by kernel_rfl) (by kernel_rfl)
  have h38 := @run_callFunc_extern Tryd.prog 99 _ (ReflectliteType.relation "Implements" ReflectliteType.implements_) Tryd.func99 (by kernel_rfl) (by kernel_rfl) (by kernel_rfl) (by kernel_rfl)
  have h10 := @run_callFunc_extern Tryd.prog 58 _ (ReflectliteType.typeOf) Tryd.func58 (by kernel_rfl) (by kernel_rfl) (by kernel_rfl) (by kernel_rfl)
  have h35 := @run_callFunc_extern Tryd.prog 96 _ (ReflectliteType.relation "AssignableTo" ReflectliteType.assignableTo) Tryd.func96 (by kernel_rfl) (by kernel_rfl) (by kernel_rfl) (by kernel_rfl)
  have h11 := @run_callFunc_extern Tryd.prog 59 _ (ReflectliteValue.method (ReflectliteValue.valueError "reflectlite.Value.Elem" 0) ReflectliteValue.elem) Tryd.func59 (by kernel_rfl) (by kernel_rfl) (by kernel_rfl) (by kernel_rfl)
  have h12 := @run_callFunc_extern Tryd.prog 60 _ (ReflectliteValue.set) Tryd.func60 (by kernel_rfl) (by kernel_rfl) (by kernel_rfl) (by kernel_rfl)
  have tO := typeOfF
  have tE := typeOfE
  have aN := assignableNo
  have a25 := assignableE
  have v25 := valueOfEE
  have f6 := valueOfE
  have f7 := typeE
  have mK := methodKind
  have mE := methodElem
  have mI := methodImplements
  have mA := methodAssignableTo
  have mU := methodUnwrap
  have nA := noAs
  have hU := hasUnwrap
  have k27 := kindPE
  have k25 := kindEE
  have e27 := elemE
  have i25 := implementsE
  have n8 := isNilE ⟨w.heap.size, 0, none⟩ t ((w.alloc (.cells #[.pointer (some t)] 97 (0, 0))).alloc (.cells #[.pointer (some ⟨2, 97, none⟩), .pointer (some ⟨w.heap.size, 0, none⟩), .int .u64 150] 121 (0, 0))) (by simp)
  have hlt : 0 < w.heap.size := by
    by_cases h : 0 < w.heap.size
    · exact h
    · simp [World.cell?, Array.getElem?_eq_none (Nat.le_of_not_lt h)] at hg
  have hg2 : ((w.alloc (.cells #[.pointer (some t)] 97 (0, 0))).alloc (.cells #[.pointer (some ⟨2, 97, none⟩), .pointer (some ⟨w.heap.size, 0, none⟩), .int .u64 150] 121 (0, 0))).cell? ⟨0, 0, none⟩ = some (.iface 137 (.agg #[.pointer (some ⟨2, 29, none⟩)])) := by
    rw [World.cell?_alloc_lt _ _ ⟨0, 0, none⟩ (by simp), World.cell?_alloc_lt _ _ ⟨0, 0, none⟩ hlt]; exact hg
  have htl : t.block < w.heap.size := by
    rcases Nat.lt_or_ge t.block w.heap.size with h | h
    · exact h
    · simp [World.cell?, Array.getElem?_eq_none h] at ht0
  have hfl : fb < w.heap.size := blk_lt hf
  have hf3 := blk_alloc (.cells #[.pointer (some ⟨2, 97, none⟩), .pointer (some ⟨w.heap.size, 0, none⟩), .int .u64 150] 121 (0, 0)) (blk_alloc (.cells #[.pointer (some ⟨2, 97, none⟩), .pointer (some ⟨w.heap.size, 0, none⟩), .int .u64 150] 121 (0, 0)) (blk_alloc (.cells #[.pointer (some t)] 97 (0, 0)) hf))
  have CF := blk_cell hf3
  have el := elemVE ⟨w.heap.size, 0, none⟩ t (((w.alloc (.cells #[.pointer (some t)] 97 (0, 0))).alloc (.cells #[.pointer (some ⟨2, 97, none⟩), .pointer (some ⟨w.heap.size, 0, none⟩), .int .u64 150] 121 (0, 0))).alloc (.cells #[.pointer (some ⟨2, 97, none⟩), .pointer (some ⟨w.heap.size, 0, none⟩), .int .u64 150] 121 (0, 0))) (by rw [World.cell?_alloc_lt _ _ ⟨w.heap.size, 0, none⟩ (by simp; omega)]; simp)
  have st := setE t ⟨w.heap.size + 1 + 1 + 1, 0, none⟩ c old ((((w.alloc (.cells #[.pointer (some t)] 97 (0, 0))).alloc (.cells #[.pointer (some ⟨2, 97, none⟩), .pointer (some ⟨w.heap.size, 0, none⟩), .int .u64 150] 121 (0, 0))).alloc (.cells #[.pointer (some ⟨2, 97, none⟩), .pointer (some ⟨w.heap.size, 0, none⟩), .int .u64 150] 121 (0, 0))).alloc (.cells #[.int .i64 c] 74 (0, 0)))
    (by rw [World.cell?_alloc_at _ _ _ _ (by simp)]; rfl)
    (by rw [World.cell?_alloc_lt _ _ t (by simp; omega), World.cell?_alloc_lt _ _ t (by simp; omega), World.cell?_alloc_lt _ _ t (by simp; omega), World.cell?_alloc_lt _ _ t htl]; exact ht0)
    (by rw [World.frozen?_alloc_old _ _ t (by simp; omega), World.frozen?_alloc_old _ _ t (by simp; omega), World.frozen?_alloc_old _ _ t (by simp; omega), World.frozen?_alloc_old _ _ t (Nat.ne_of_lt htl)]; exact hf0)
  clear hf hf3
  go_enter Tryd.func38, Tryd.ntmps38
  go_wp2
  refine wp_loop_rounds 2 ?_
  rw [rounds_succ]
  go_wp2
  rw [rounds_succ]
  go_wp2
  go_ret
  exact ⟨rfl, rfl⟩
end Go.Proofs.YtjeidklpomekdaaDoor

/- api.Code, api.Place, and what the law asks of an error. -/
namespace Go.Proofs.YtjeidklpomekdaaDoor
open Go.RowKit Go.Extern.Stop Go.Stop Go.Extern

/-- errors.errorType is as it was laid. -/
abbrev ErrT (w : World) : Prop := w.cell? ⟨0, 0, none⟩ = some (.iface 137 (.agg #[.pointer (some ⟨2, 29, none⟩)]))
/-- An error value as Replay gives it, read. -/
def ErrR (w : World) (ev : Value) (err : Option (Nat × Int)) : Prop :=
  match err with
  | none => ev = .nilIface
  | some (i, c) => ∃ fb : Nat, ev = .iface 66 (.pointer (some ⟨fb, 0, none⟩)) ∧ w.heap[fb]? = some (.cells #[.int .i64 i, .iface 74 (.int .i64 c)] 68 (0, 0))
def errCode : Option (Nat × Int) → Int
  | none => 0
  | some (_, c) => c
def errAt : Option (Nat × Int) → Int
  | none => -1
  | some (i, _) => i

theorem as_chain' (fb tb : Nat) (i c : Int) (old : Value) (w : World) (hg : ErrT w) (hf : w.heap[fb]? = some (.cells #[.int .i64 i, .iface 74 (.int .i64 c)] 68 (0, 0))) (ht : w.heap[tb]? = some (.cells #[old] 74 (0, 0))) :
    Calls Tryd.prog 38 #[.iface 66 (.pointer (some ⟨fb, 0, none⟩)), .iface 97 (.pointer (some ⟨tb, 0, none⟩))] w fun e w' => e = .returned (.bool true) ∧ w'.heap[tb]? = some (.cells #[.int .i64 c] 74 (0, 0)) ∧ Mod [tb] w w' := by
  refine (as_chain fb i c ⟨tb, 0, none⟩ old w hg hf (by rw [blk_cell ht]; rfl) (blk_free ht 0)).mono ?_
  rintro e w' ⟨rfl, rfl⟩
  refine ⟨rfl, ?_, ?_⟩
  · exact blk_set (blk_alloc _ (blk_alloc _ (blk_alloc _ (blk_alloc _ ht)))) 0 _
  · exact ((((Mod.alloc [tb] _ _).then_ (Mod.alloc [tb] _ _) (fun _ h => h)).then_ (Mod.alloc [tb] _ _) (fun _ h => h)).then_ (Mod.alloc [tb] _ _) (fun _ h => h)).then_ (Mod.setCell _ _ _ _) (fun _ h => h)
theorem as_hit' (fb tb : Nat) (old : Value) (w : World) (hg : ErrT w) (ht : w.heap[tb]? = some (.cells #[old] 66 (0, 0))) :
    Calls Tryd.prog 38 #[.iface 66 (.pointer (some ⟨fb, 0, none⟩)), .iface 98 (.pointer (some ⟨tb, 0, none⟩))] w fun e w' => e = .returned (.bool true) ∧ w'.heap[tb]? = some (.cells #[.pointer (some ⟨fb, 0, none⟩)] 66 (0, 0)) ∧ Mod [tb] w w' := by
  refine (as_hit ⟨fb, 0, none⟩ ⟨tb, 0, none⟩ old w hg (by rw [blk_cell ht]; rfl) (blk_free ht 0)).mono ?_
  rintro e w' ⟨rfl, rfl⟩
  refine ⟨rfl, ?_, ?_⟩
  · exact blk_set (blk_alloc _ (blk_alloc _ (blk_alloc _ (blk_alloc _ ht)))) 0 _
  · exact ((((Mod.alloc [tb] _ _).then_ (Mod.alloc [tb] _ _) (fun _ h => h)).then_ (Mod.alloc [tb] _ _) (fun _ h => h)).then_ (Mod.alloc [tb] _ _) (fun _ h => h)).then_ (Mod.setCell _ _ _ _) (fun _ h => h)
theorem errT_lt {w : World} (hg : ErrT w) : 0 < w.heap.size := by
  by_cases h : 0 < w.heap.size
  · exact h
  · simp [ErrT, World.cell?, Array.getElem?_eq_none (Nat.le_of_not_lt h)] at hg
theorem ErrT.below {w w' : World} (hg : ErrT w) (hb : Below w.heap.size w w') : ErrT w' := hb.cell' hg

set_option maxRecDepth 100000 in
set_option maxHeartbeats 3200000 in
theorem code_any (ev : Value) (err : Option (Nat × Int)) (w : World) (h : ErrR w ev err) (hg : ErrT w) :
    Calls Tryd.prog 26 #[ev] w fun e w' => e = .returned (.int .i64 (errCode err)) ∧ Below w.heap.size w w' := by
  match err, h with
  | none, h =>
    obtain rfl : ev = .nilIface := h
    go_enter Tryd.func26, Tryd.ntmps26
    go_wp2
    go_ret
    exact ⟨rfl, (Below.refl _ _).new _⟩
  | some (i, c), ⟨fb, h1, h2⟩ =>
    subst h1
    have x0 := blk_new w (.cells #[.int .i64 0] 74 (0, 0))
    have AC := Lib.hid (as_chain' fb w.heap.size i c (.int .i64 0) (w.alloc (.cells #[.int .i64 0] 74 (0, 0))) (hg.below ((Below.refl _ _).new _)) (blk_alloc _ h2) x0)
    clear hg h2 x0
    go_enter Tryd.func26, Tryd.ntmps26
    go_wp2_with fail
    refine AC.out.mono ?_
    rintro e w1 ⟨rfl, x1, hm⟩
    have C1 := blk_cell x1
    have HM := Lib.hid hm; have X1 := Lib.hid x1; clear hm x1
    go_wp2_with fail
    go_ret
    exact ⟨rfl, mod_below ((Below.refl _ _).new _) HM.out (by simp)⟩

set_option maxRecDepth 100000 in
set_option maxHeartbeats 3200000 in
theorem place_any (ev : Value) (err : Option (Nat × Int)) (w : World) (h : ErrR w ev err) (hg : ErrT w) :
    Calls Tryd.prog 27 #[ev] w fun e w' => e = .returned (.int .i64 (errAt err)) ∧ Below w.heap.size w w' := by
  match err, h with
  | none, h =>
    obtain rfl : ev = .nilIface := h
    go_enter Tryd.func27, Tryd.ntmps27
    go_wp2_with fail
    refine (as_nil _ _).mono ?_
    rintro e w1 ⟨rfl, rfl⟩
    go_wp2_with fail
    go_ret
    exact ⟨rfl, (Below.refl _ _).new _⟩
  | some (i, c), ⟨fb, h1, h2⟩ =>
    subst h1
    have hfl := blk_lt h2
    have x0 := blk_new w (.cells #[.pointer none] 66 (0, 0))
    have AC := Lib.hid (as_hit' fb w.heap.size (.pointer none) (w.alloc (.cells #[.pointer none] 66 (0, 0))) (hg.below ((Below.refl _ _).new _)) x0)
    have H2 := Lib.hid h2
    clear hg h2 x0
    go_enter Tryd.func27, Tryd.ntmps27
    go_wp2_with fail
    refine AC.out.mono ?_
    rintro e w1 ⟨rfl, x1, hm⟩
    have C1 := blk_cell x1
    have C2 := blk_cell (hm.blk (by simp; omega) (blk_alloc _ H2.out))
    have HM := Lib.hid hm; have X1 := Lib.hid x1; clear hm x1
    go_wp2_with fail
    go_ret
    exact ⟨rfl, mod_below ((Below.refl _ _).new _) HM.out (by simp)⟩

theorem ErrR.below {w w' : World} {ev : Value} {err : Option (Nat × Int)} (h : ErrR w ev err) (hb : Below w.heap.size w w') : ErrR w' ev err := by
  match err, h with
  | none, h => exact h
  | some (i, c), ⟨fb, h1, h2⟩ => exact ⟨fb, h1, hb.blk h2⟩

set_option maxRecDepth 100000 in
set_option maxHeartbeats 3200000 in
theorem is_any (ev : Value) (err : Option (Nat × Int)) (code at_ : Int) (w : World) (h : ErrR w ev err) (hg : ErrT w) :
    Calls Tryd.prog 7 #[ev, .int .i64 code, .int .i64 at_] w fun e w' => e = .returned (.bool (decide (errCode err = code ∧ errAt err = at_))) ∧ Below w.heap.size w w' := by
  have H := Lib.hid h; have HG := Lib.hid hg; clear h hg
  go_enter Tryd.func7, Tryd.ntmps7
  go_wp2_with fail
  refine (code_any ev err _ H.out HG.out).mono ?_
  rintro e w1 ⟨rfl, hb1⟩
  have HB1 := Lib.hid hb1; clear hb1
  by_cases h1 : errCode err = code
  · have e1 : (errCode err == code) = true := by simp [h1]
    go_wp2_with fail
    refine (place_any ev err _ (H.out.below HB1.out) (HG.out.below HB1.out)).mono ?_
    rintro e w2 ⟨rfl, hb2⟩
    have HB2 := Lib.hid hb2; clear hb2
    go_wp2_with fail
    all_goals
      go_ret
      refine ⟨?_, HB1.out.then_ HB2.out⟩
      by_cases h2 : errAt err = at_ <;> simp_all
  · have e1 : (errCode err == code) = false := by simp [h1]
    go_wp2_with fail
    go_ret
    exact ⟨by simp [h1], HB1.out⟩
end Go.Proofs.YtjeidklpomekdaaDoor

/- The reference's Replay. -/
namespace Go.Proofs.YtjeidklpomekdaaDoor
open Go.RowKit

def ref1 : RefS := ⟨[], [], [0], [], 1⟩
def rreplayGo : RefS → Nat → List Edt → RefS × Option (Nat × Int)
  | R, _, [] => (R, none)
  | R, i, e :: l => if R.check e = 0 then rreplayGo (R.take e) (i + 1) l else (R, some (i, R.check e))
theorem rreplayGo_step (R : RefS) (i : Nat) (l : List Edt) (k : Nat) (hk : k < l.length) {R' : RefS} (h : rreplayGo R i (l.take k) = (R', none)) :
    (R'.check l[k] = 0 → rreplayGo R i (l.take (k + 1)) = (R'.take l[k], none)) ∧ (R'.check l[k] ≠ 0 → rreplayGo R i l = (R', some (i + k, R'.check l[k]))) := by
  induction l generalizing R i k with
  | nil => simp at hk
  | cons e l ih =>
    cases k with
    | zero =>
      simp only [List.take_zero, rreplayGo, Prod.mk.injEq, and_true] at h
      subst h
      refine ⟨fun h0 => ?_, fun h0 => ?_⟩
      · simp only [List.getElem_cons_zero] at h0 ⊢
        simp [rreplayGo, h0]
      · simp only [List.getElem_cons_zero] at h0 ⊢
        simp [rreplayGo, h0]
    | succ k =>
      simp only [List.take_succ_cons, rreplayGo] at h
      split at h
      · rename_i h0
        have := ih (R.take e) (i + 1) k (by simpa using hk) h
        simp only [List.getElem_cons_succ, List.take_succ_cons, rreplayGo, h0, if_true]
        refine ⟨this.1, fun h1 => ?_⟩
        rw [this.2 h1]
        simp; omega
      · simp at h

/-- What the plain law must tell of the reference's books that are met. -/
structure GoodR (G : RefS → Prop) : Prop where
  start : G ref1
  step : ∀ R e, G R → R.check e = 0 → 0 ≤ e.op.ch ∧ e.op.ch ≤ 255 → G (R.take e)
  check : ∀ R e, G R → CheckOk R e
  life : ∀ R e, G R → R.check e = 0 → LifeOk R e
  T : ∀ R, G R → ¬ R.T = 0
  len : ∀ R, G R → R.E.length ≤ 4096
  dl : ∀ R, G R → R.D.length = R.E.length
  kl : ∀ R, G R → R.K.length ≤ 10000
  fit : ∀ R, G R → AllFit [] R.D
  ch : ∀ R, G R → ∀ o ∈ R.D, 0 ≤ o.ch ∧ o.ch ≤ 255

theorem RBookAt.setT {w : World} {base rb : Nat} {ρ : RefL} {R : RefS} (h : RBookAt w base rb ρ R) (x : Int) : RBookAt (w.setCell ⟨rb, 5, none⟩ (.int .i64 x)) base rb ρ { R with T := x } :=
  have hm := Mod.setCell w rb 5 (.int .i64 x)
  { h with
    hp := blk_set h.hp 5 _
    hE := h.hE.mod hm (fun g hg hq => h.nE (by rw [hg]; simpa using hq))
    hD := h.hD.mod hm (fun g hg hq => h.nD (by rw [hg]; simpa using hq))
    hN := h.hN.mod hm (fun g hg hq => h.nN (by rw [hg]; simpa using hq))
    hK := h.hK.mod hm (fun g hg hq => h.nK (by rw [hg]; simpa using hq)) }

def RReplayB (w w' : World) (e : Ending) (r : RefS × Option (Nat × Int)) : Prop :=
  ∃ ov dv, e = .returned (.tuple #[ov, dv, .int .i64 (errCode r.2), .int .i64 (errAt r.2)]) ∧ SlO w' w.heap.size 46 Opr.cells 5 ov r.1.D ∧ SlO w' w.heap.size 50 Elm.cells 3 dv (replay [] r.1.D) ∧ Below w.heap.size w w'

def RRel (G : RefS → Prop) (w : World) (rb : Nat) (xs : List Edt) (k : Nat) (wr : World) : Prop := ∃ R ρ, rreplayGo ref1 0 (xs.take k) = (R, none) ∧ RBookAt wr w.heap.size rb ρ R ∧ Below w.heap.size w wr ∧ G R

set_option maxRecDepth 100000 in
set_option maxHeartbeats 3200000 in
theorem rreplay_any (G : RefS → Prop) (hG : GoodR G) (v : Value) (xs : List Edt) (w : World) (h : SlR w Edt.cells 6 v xs) (hch : ∀ e ∈ xs, 0 ≤ e.op.ch ∧ e.op.ch ≤ 255) :
    Calls Tryd.prog 5 #[v] w fun e w' => RReplayB w w' e (rreplayGo ref1 0 xs) := by
  have HX := Lib.hid h; have HCH := Lib.hid hch
  obtain ⟨a, cap, rfl, hl, hnil, hcell⟩ := h
  clear hch hnil hcell
  go_enter Tryd.func5, Tryd.ntmps5
  go_wp2_with fail
  refine (empty_any _).mono ?_
  rintro e w1 ⟨rb, ρ0, rfl, hB, hb1⟩
  have C1 := blk_cell hB.hp; have F1 := blk_free hB.hp; have L1 := blk_lt hB.hp
  have hrb := hB.hb
  have R0 := Lib.hid (show RRel G w rb xs 0 (w1.setCell ⟨rb, 5, none⟩ (.int .i64 1)) from ⟨ref1, ρ0, rfl, hB.setT 1, hb1.mod (Mod.setCell w1 rb 5 _) (by simp; exact hrb), hG.start⟩)
  clear hB hb1
  go_wp2
  go_loopw [7] (fun i wr => ∃ k : Nat, k ≤ xs.length ∧ i = .int .i64 k ∧ RRel G w rb xs k wr) (fun i _ => xs.length - (intOf i).toNat)
  case atStart => exact ⟨0, Nat.zero_le _, rfl, R0.out⟩
  case round =>
    clear C1 F1 L1
    obtain ⟨k, hk, rfl, R, ρ, hrun, hB, hb, g⟩ := hrel
    have hRL := hG.len R g
    have hDL := Lib.hid (hG.dl R g)
    have HBk := Lib.hid hB; have HB := Lib.hid hb; have GG := Lib.hid g
    by_cases hlt : k < xs.length
    · have hx := HX.out.below hb
      obtain ⟨b, off, rfl, c0, c1, c2, c3, c4, c5⟩ := hx.edit k hlt
      have hec := HCH.out _ (List.getElem_mem hlt)
      have HRUN := Lib.hid (rreplayGo_step ref1 0 xs k hlt hrun)
      generalize hxe : xs[k] = e at *
      obtain ⟨tag, o⟩ := e
      have HXE := Lib.hid hxe
      clear hB hb g hrun hx hxe
      go_wp2_with fail
      refine (rcheck_any w.heap.size rb ρ R _ HBk.out tag o (hG.check R _ GG.out) hec (hG.T R GG.out)).mono ?_
      rintro e w2 ⟨rfl, hb2⟩
      have HB2 := Lib.hid hb2; have HBB := Lib.hid (HBk.out.below hb2)
      have hbt := HB.out.then_ hb2
      have HBT := Lib.hid hbt
      have hx2 := HX.out.below hbt
      obtain ⟨b', off', hbb, d0, d1, d2, d3, d4, d5⟩ := hx2.edit k hlt
      obtain ⟨rfl, rfl⟩ : b = b' ∧ off = off' := by simpa using hbb
      rw [HXE.out] at d0 d1 d2 d3 d4 d5
      clear hb2 hbt hx2 hbb c0 c1 c2 c3 c4 c5
      obtain ⟨aE, cE, aD, cD, aN, cN, aK, cK, V⟩ := HBB.out.view
      have C2 := blk_cell V.hp; have L2 := blk_lt V.hp
      have hvD := Lib.hid V.eD
      have hP2 := Lib.hid V.hp
      clear V
      by_cases h0 : (R.check ⟨tag, o⟩ != 0) = true
      · go_wp2_with fail
        refine (rdoc_any w.heap.size rb ρ R _ HBB.out (by omega) hDL.out (hG.fit R GG.out) (hG.ch R GG.out)).mono ?_
        rintro e w3 ⟨dv, rfl, hd, hb3⟩
        have C3 := blk_cell (hb3.blk hP2.out)
        have HD := Lib.hid hd; have HB3 := Lib.hid hb3; clear hd hb3 C2
        go_wp2_with fail
        have hrr := HRUN.out.2 (by simpa using h0)
        refine bodyPost_ret (v := .tuple #[.slice aD R.D.length cD, dv, .int .i64 (R.check ⟨tag, o⟩), .int .i64 k]) (by simp [results, Tryd.results5, go_sem]) rfl ⟨.slice aD R.D.length cD, dv, ?_, ?_, ?_, HBT.out.then_ HB3.out⟩
        · rw [hrr]; simp [errCode, errAt]
        · rw [hrr, ← hvD.out]
          exact (HBB.out.below HB3.out).hD
        · rw [hrr]
          exact HD.out.rebase (fun g hg => by have := (HD.out.lt g hg).1; have := HBT.out.size; omega)
      · have h0' : (R.check ⟨tag, o⟩ != 0) = false := by simpa using h0
        clear h0
        go_wp2_with fail
        refine (rtake_any w.heap.size rb ρ R tag o _ HBB.out HBT.out.size (hG.life R _ GG.out (by simpa using h0')) (hG.kl R GG.out)).mono ?_
        rintro e w3 ⟨rfl, ρ3, r3, b3, k3⟩
        have R3 := Lib.hid r3; have B3 := Lib.hid b3; clear r3 b3 k3
        go_wp2_with fail
        exact ⟨⟨k + 1, by omega, by go_num, _, ρ3, HRUN.out.1 (by simpa using h0'), R3.out, HBT.out.trans B3.out, hG.step R _ GG.out (by simpa using h0') hec⟩, by simp [intOf]; omega⟩
    · obtain rfl : k = xs.length := by omega
      rw [List.take_length] at hrun
      have HRUN := Lib.hid hrun
      obtain ⟨aE, cE, aD, cD, aN, cN, aK, cK, V⟩ := hB.view
      have C2 := blk_cell V.hp; have L2 := blk_lt V.hp
      have hvD := Lib.hid V.eD
      have hP2 := Lib.hid V.hp
      clear V hrun hB hb g
      go_wp2_with fail
      refine (rdoc_any w.heap.size rb ρ R _ HBk.out (by omega) hDL.out (hG.fit R GG.out) (hG.ch R GG.out)).mono ?_
      rintro e w3 ⟨dv, rfl, hd, hb3⟩
      have C3 := blk_cell (hb3.blk hP2.out)
      have HD := Lib.hid hd; have HB3 := Lib.hid hb3; clear hd hb3 C2
      go_wp2_with fail
      refine bodyPost_ret (v := .tuple #[.slice aD R.D.length cD, dv, .int .i64 0, .int .i64 (-1)]) (by simp [results, Tryd.results5, go_sem]) rfl ⟨.slice aD R.D.length cD, dv, ?_, ?_, ?_, HB.out.then_ HB3.out⟩
      · rw [HRUN.out]; rfl
      · rw [HRUN.out, ← hvD.out]
        exact (HBk.out.below HB3.out).hD
      · rw [HRUN.out]
        exact HD.out.rebase (fun g hg => by have := (HD.out.lt g hg).1; have := HB.out.size; omega)
end Go.Proofs.YtjeidklpomekdaaDoor

/- The law's calls, told thing by thing (Keep). -/
namespace Go.Proofs.YtjeidklpomekdaaDoor
open Go.RowKit

variable {w0 w w' : World} {F : Nat → List Nat} {P : Nat → World → Prop}

theorem lt_of_agree {q : Nat} (h : w'.heap[q]? = w.heap[q]?) (hq : q < w.heap.size) : q < w'.heap.size := by
  rw [Array.getElem?_eq_getElem hq] at h
  exact (Array.getElem?_eq_some_iff.1 h).1
theorem Half.agree {α : Type} {base k : Nat} {T : TypeId} {enc : α → List Value} {vA vB : Value} {ps qs : List Sv} {ens : List (Sv × List α)} {L : List Nat} (h : Half w base T enc k vA vB ps qs ens L) (hb : ∀ q ∈ hfoot vA vB L, w'.heap[q]? = w.heap[q]?) : Half w' base T enc k vA vB ps qs ens L where
  hA := h.hA.agree (fun q hq => hb q (by simp only [hfoot, List.mem_append]; exact Or.inl (Or.inl hq)))
  hB := h.hB.agree (fun q hq => hb q (by simp only [hfoot, List.mem_append]; exact Or.inl (Or.inr hq)))
  en := fun x hx => ⟨(h.en x hx).1.agree (fun q hq => hb q (by simp only [hfoot, List.mem_append]; exact Or.inr ((h.en x hx).2 q (by simpa using hq)))), (h.en x hx).2⟩
  AB := h.AB
  AL := h.AL
  lt := fun q hq => lt_of_agree (hb q (by simp only [hfoot, List.mem_append]; exact Or.inr hq)) (h.lt q hq)

/-- Row by row the same list. -/
def Paired {α : Type} (ps qs : List Sv) (ens : List (Sv × List α)) : Prop := ∀ i (h : i < ps.length) (h' : i < qs.length), ∃ X, (ps[i], X) ∈ ens ∧ (qs[i], X) ∈ ens
theorem Paired.add2 {α : Type} {ps qs : List Sv} {ens : List (Sv × List α)} (h : Paired ps qs ens) (hl : qs.length = ps.length) (x1 x2 x3 x4 : Sv) (X Y : List α) : Paired (ps ++ [x1, x2]) (qs ++ [x3, x4]) (ens ++ [(x1, X), (x3, X), (x2, Y), (x4, Y)]) := by
  intro i hi hi'
  by_cases h1 : i < ps.length
  · obtain ⟨Z, a, b⟩ := h i h1 (by omega)
    refine ⟨Z, ?_, ?_⟩
    · rw [List.getElem_append_left h1]; exact List.mem_append_left _ a
    · rw [List.getElem_append_left (by omega)]; exact List.mem_append_left _ b
  · simp at hi
    rw [List.getElem_append_right (by omega), List.getElem_append_right (by omega)]
    by_cases h2 : i = ps.length
    · subst h2
      refine ⟨X, ?_, ?_⟩ <;> simp [hl]
    · obtain rfl : i = ps.length + 1 := by omega
      refine ⟨Y, ?_, ?_⟩ <;> simp [hl]

/-- The law's shelf: how many rows it has, and in which blocks it lies. -/
def ShelfAt (w0 : World) (sb : Nat) (m : Int) (ne nd : Nat) (G : List Nat) (w : World) : Prop :=
  ∃ (v0 v1 v2 v3 : Value) (ps qs ds es : List Sv) (eE : List (Sv × List Edt)) (eD : List (Sv × List Elm)) (LE LD : List Nat), G = sb :: (hfoot v0 v1 LE ++ hfoot v2 v3 LD) ∧ w.heap[sb]? = some (shBlk v0 v1 v2 v3 m) ∧
    Half w w0.heap.size 22 Edt.cells 6 v0 v1 ps qs eE LE ∧ Half w w0.heap.size 25 Elm.cells 3 v2 v3 ds es eD LD ∧ sb ∉ hfoot v0 v1 LE ∧ sb ∉ hfoot v2 v3 LD ∧ (∀ q ∈ hfoot v0 v1 LE, q ∉ hfoot v2 v3 LD) ∧
    (ps.length = ne ∧ qs.length = ne ∧ ds.length = nd ∧ es.length = nd) ∧ Paired ps qs eE ∧ Paired ds es eD
theorem ShelfAt.agree {sb : Nat} {m : Int} {ne nd : Nat} {G : List Nat} (h : ShelfAt w0 sb m ne nd G w) (hb : ∀ q ∈ G, w'.heap[q]? = w.heap[q]?) : ShelfAt w0 sb m ne nd G w' := by
  obtain ⟨v0, v1, v2, v3, ps, qs, ds, es, eE, eD, LE, LD, rfl, h1, h2, h3, h4, h5, h6, h7, h8, h9⟩ := h
  exact ⟨v0, v1, v2, v3, ps, qs, ds, es, eE, eD, LE, LD, rfl, (hb sb (by simp)).trans h1, h2.agree (fun q hq => hb q (by simp [hq])), h3.agree (fun q hq => hb q (by simp [hq])), h4, h5, h6, h7, h8, h9⟩
theorem ShelfAt.lt {sb : Nat} {m : Int} {ne nd : Nat} {G : List Nat} (h : ShelfAt w0 sb m ne nd G w) : ∀ q ∈ G, q < w.heap.size := by
  obtain ⟨v0, v1, v2, v3, ps, qs, ds, es, eE, eD, LE, LD, rfl, h1, h2, h3, h4, h5, h6, h7, h8, h9⟩ := h
  intro q hq
  rcases List.mem_cons.1 hq with rfl | hq
  · exact blk_lt h1
  · rcases List.mem_append.1 hq with hq | hq
    · exact h2.flt q hq
    · exact h3.flt q hq

theorem Half.none {α : Type} (w : World) (base k : Nat) (T : TypeId) (enc : α → List Value) : Half w base T enc k (.slice none 0 0) (.slice none 0 0) [] [] [] [] :=
  ⟨SlO.nil _ _ _ _ _, SlO.nil _ _ _ _ _, fun _ h => by simp at h, fun _ h => by simp [Value.ownBlock] at h, fun _ h => by simp at h, fun _ h => by simp at h⟩
theorem ShelfAt.new (w0 w : World) : ShelfAt w0 w.heap.size 0 0 0 [w.heap.size] (w.alloc (shBlk (.slice none 0 0) (.slice none 0 0) (.slice none 0 0) (.slice none 0 0) 0)) :=
  ⟨_, _, _, _, [], [], [], [], [], [], [], [], rfl, blk_new _ _, Half.none _ _ _ _ _, Half.none _ _ _ _ _, by simp [hfoot, Value.ownBlock], by simp [hfoot, Value.ownBlock], by simp [hfoot, Value.ownBlock], by simp, fun i h => by simp at h, fun i h => by simp at h⟩

theorem shE_sts {sb i j ga n c ne nd : Nat} {m : Int} {xs : List Edt} (S : Sts w0 w F P) (hs : ShelfAt w0 sb m ne nd (F i) w) (ha : SlO w w0.heap.size 48 Edt.cells 6 (.slice (some ⟨ga, 0, none⟩) n c) xs) (hj : F j = [ga]) (hij : j ≠ i)
    (hn : n ≤ 2932031007330) (hne : ne ≤ 30) (hm : 0 ≤ m ∧ m ≤ 1000) :
    Calls Tryd.prog 9 #[.pointer (some ⟨sb, 0, none⟩), .slice (some ⟨ga, 0, none⟩) n c] w fun e w' => e = .returned (.tuple #[]) ∧ ∃ G, Sts w0 w' (updF F i [i, j] G) (updP P i [i, j] (ShelfAt w0 sb (m + 1) (ne + 2) nd G)) := by
  obtain ⟨v0, v1, v2, v3, ps, qs, ds, es, eE, eD, LE, LD, hG, h1, h2, h3, h4, h5, h6, ⟨l1, l2, l3, l4⟩, h8, h9⟩ := hs
  have hga : ga ∉ F i := fun hq => S.apart i j (Ne.symm hij) ga hq (by rw [hj]; simp)
  have hga' := hga
  rw [hG] at hga'
  simp only [List.mem_cons, List.mem_append, not_or] at hga'
  refine (shelfE_any w0.heap.size sb v0 v1 v2 v3 m ps qs eE LE ga n c xs w h1 h2 h4 S.size ha hga'.1 hga'.2.1 hn (by omega) (by omega) hm).mono ?_
  rintro e w' ⟨rfl, a', b', x1, x2, x3, x4, L', p1, p2, p3, p4, p5⟩
  have hd : ∀ q ∈ hfoot v2 v3 LD, q ∉ sb :: ga :: hfoot v0 v1 LE := by
    intro q hq hq'
    rcases List.mem_cons.1 hq' with rfl | hq'
    · exact h5 hq
    · rcases List.mem_cons.1 hq' with rfl | hq'
      · exact hga'.2.2 hq
      · exact h6 q hq' hq
  have h3' := h3.mod p3 hd
  refine ⟨rfl, sb :: (hfoot a' b' L' ++ hfoot v2 v3 LD), ?_⟩
  have hsh : ShelfAt w0 sb (m + 1) (ne + 2) nd (sb :: (hfoot a' b' L' ++ hfoot v2 v3 LD)) w' := by
    refine ⟨a', b', v2, v3, _, _, ds, es, _, eD, L', LD, rfl, p1, p2, h3', p4, h5, ?_, ⟨by simp; omega, by simp; omega, l3, l4⟩, h8.add2 (by omega) _ _ _ _ _ _, h9⟩
    intro q hq hq'
    rcases p5 q hq with hq2 | hq2
    · rcases List.mem_cons.1 hq2 with rfl | hq2
      · exact hga'.2.2 hq'
      · exact h6 q hq2 hq'
    · have := h3.flt q hq'; omega
  refine S.step p3 i [i, j] (by simp) (fun q hq => Or.inl ?_) _ _ (fun q hq => ⟨?_, hsh.lt q hq⟩) (fun w'' hw => hsh.agree hw)
  · rcases List.mem_cons.1 hq with rfl | hq
    · exact ⟨i, by simp, by rw [hG]; simp⟩
    · rcases List.mem_cons.1 hq with rfl | hq
      · exact ⟨j, by simp, by rw [hj]; simp⟩
      · exact ⟨i, by simp, by rw [hG]; simp [hq]⟩
  · rcases List.mem_cons.1 hq with rfl | hq
    · exact Or.inl ⟨i, by simp, by rw [hG]; simp⟩
    · rcases List.mem_append.1 hq with hq | hq
      · rcases p5 q hq with hq2 | hq2
        · rcases List.mem_cons.1 hq2 with rfl | hq2
          · exact Or.inl ⟨j, by simp, by rw [hj]; simp⟩
          · exact Or.inl ⟨i, by simp, by rw [hG]; simp [hq2]⟩
        · exact Or.inr (S.free hq2)
      · exact Or.inl ⟨i, by simp, by rw [hG]; simp [hq]⟩

theorem shD_sts {sb i j ga n c ne nd : Nat} {m : Int} {xs : List Elm} (S : Sts w0 w F P) (hs : ShelfAt w0 sb m ne nd (F i) w) (ha : SlO w w0.heap.size 50 Elm.cells 3 (.slice (some ⟨ga, 0, none⟩) n c) xs) (hj : F j = [ga]) (hij : j ≠ i)
    (hn : n ≤ 2932031007330) (hne : nd ≤ 30) (hm : 0 ≤ m ∧ m ≤ 1000) :
    Calls Tryd.prog 12 #[.pointer (some ⟨sb, 0, none⟩), .slice (some ⟨ga, 0, none⟩) n c] w fun e w' => e = .returned (.tuple #[]) ∧ ∃ G, Sts w0 w' (updF F i [i, j] G) (updP P i [i, j] (ShelfAt w0 sb (m + 1) ne (nd + 2) G)) := by
  obtain ⟨v0, v1, v2, v3, ps, qs, ds, es, eE, eD, LE, LD, hG, h1, h2, h3, h4, h5, h6, ⟨l1, l2, l3, l4⟩, h8, h9⟩ := hs
  have hga : ga ∉ F i := fun hq => S.apart i j (Ne.symm hij) ga hq (by rw [hj]; simp)
  have hga' := hga
  rw [hG] at hga'
  simp only [List.mem_cons, List.mem_append, not_or] at hga'
  refine (shelfD_any w0.heap.size sb v0 v1 v2 v3 m ds es eD LD ga n c xs w h1 h3 h5 S.size ha hga'.1 hga'.2.2 hn (by omega) (by omega) hm).mono ?_
  rintro e w' ⟨rfl, a', b', x1, x2, x3, x4, L', p1, p2, p3, p4, p5⟩
  have hd : ∀ q ∈ hfoot v0 v1 LE, q ∉ sb :: ga :: hfoot v2 v3 LD := by
    intro q hq hq'
    rcases List.mem_cons.1 hq' with rfl | hq'
    · exact h4 hq
    · rcases List.mem_cons.1 hq' with rfl | hq'
      · exact hga'.2.1 hq
      · exact h6 q hq hq'
  have h2' := h2.mod p3 hd
  refine ⟨rfl, sb :: (hfoot v0 v1 LE ++ hfoot a' b' L'), ?_⟩
  have hsh : ShelfAt w0 sb (m + 1) ne (nd + 2) (sb :: (hfoot v0 v1 LE ++ hfoot a' b' L')) w' := by
    refine ⟨v0, v1, a', b', ps, qs, _, _, eE, _, LE, L', rfl, p1, h2', p2, h4, p4, ?_, ⟨l1, l2, by simp; omega, by simp; omega⟩, h8, h9.add2 (by omega) _ _ _ _ _ _⟩
    intro q hq' hq
    rcases p5 q hq with hq2 | hq2
    · rcases List.mem_cons.1 hq2 with rfl | hq2
      · exact hga'.2.1 hq'
      · exact h6 q hq' hq2
    · have := h2.flt q hq'; omega
  refine S.step p3 i [i, j] (by simp) (fun q hq => Or.inl ?_) _ _ (fun q hq => ⟨?_, hsh.lt q hq⟩) (fun w'' hw => hsh.agree hw)
  · rcases List.mem_cons.1 hq with rfl | hq
    · exact ⟨i, by simp, by rw [hG]; simp⟩
    · rcases List.mem_cons.1 hq with rfl | hq
      · exact ⟨j, by simp, by rw [hj]; simp⟩
      · exact ⟨i, by simp, by rw [hG]; simp [hq]⟩
  · rcases List.mem_cons.1 hq with rfl | hq
    · exact Or.inl ⟨i, by simp, by rw [hG]; simp⟩
    · rcases List.mem_append.1 hq with hq | hq
      · exact Or.inl ⟨i, by simp, by rw [hG]; simp [hq]⟩
      · rcases p5 q hq with hq2 | hq2
        · rcases List.mem_cons.1 hq2 with rfl | hq2
          · exact Or.inl ⟨j, by simp, by rw [hj]; simp⟩
          · exact Or.inl ⟨i, by simp, by rw [hG]; simp [hq2]⟩
        · exact Or.inr (S.free hq2)

/-- A list of edits written full with a mark, and the same lengthened. -/
def MarkedAt (w0 : World) (v g : Value) (n : Nat) (mark : Int) (w : World) : Prop := SlR w Opr.cells 5 v (List.replicate n (mk mark)) ∧ SlO w w0.heap.size 46 Opr.cells 5 g (List.replicate (n + 2) (mk mark))
theorem marked_sts {i : Nat} {v : Value} {xs : List Opr} (mark : Int) (S : Sts w0 w F P) (hv : SlO w w0.heap.size 46 Opr.cells 5 v xs) (hi : F i = v.ownBlock.toList) (hn : xs.length ≤ 100000) :
    Calls Tryd.prog 13 #[v, .int .i64 mark] w fun e w' => ∃ g, e = .returned g ∧ Sts w0 w' (updF F i [i] (v.ownBlock.toList ++ g.ownBlock.toList)) (updP P i [i] (MarkedAt w0 v g xs.length mark)) := by
  refine (marked_any v xs mark w0.heap.size w hv S.size hn).mono ?_
  rintro e w' ⟨g, rfl, h1, h2, h3, h4⟩
  refine ⟨g, rfl, S.step h3 i [i] (by simp) (fun q hq => Or.inl ⟨i, by simp, by rw [hi]; exact hq⟩) _ _ (fun q hq => ?_) (fun w'' hw => ⟨h1.agree (fun q hq => hw q (List.mem_append_left _ hq)), h2.agree (fun q hq => hw q (List.mem_append_right _ hq))⟩)⟩
  have hvlt : ∀ q, v.ownBlock = some q → q < w'.heap.size := fun q hq => by have := (hv.lt q hq).2; have := h3.size; omega
  rcases List.mem_append.1 hq with hq | hq
  · exact ⟨Or.inl ⟨i, by simp, by rw [hi]; exact hq⟩, hvlt q (by simpa using hq)⟩
  · have hq' : g.ownBlock = some q := by simpa using hq
    refine ⟨?_, (h2.lt q hq').2⟩
    rcases h4 q hq' with h | h
    · exact Or.inl ⟨i, by simp, by rw [hi]; simp [h]⟩
    · exact Or.inr (S.free h)

theorem untouched_sts {sb ne nd : Nat} {m : Int} {G : List Nat} (hs : ShelfAt w0 sb m ne nd G w) (hne : ne ≤ 1000) (hnd : nd ≤ 1000) :
    Calls Tryd.prog 15 #[.pointer (some ⟨sb, 0, none⟩)] w fun e w' => e = .returned (.bool true) ∧ Below w.heap.size w w' := by
  obtain ⟨v0, v1, v2, v3, ps, qs, ds, es, eE, eD, LE, LD, hG, h1, h2, h3, h4, h5, h6, ⟨l1, l2, l3, l4⟩, h8, h9⟩ := hs
  refine untouched_any sb v0 v1 v2 v3 m ps qs ds es w w0.heap.size h1 h2.hA h2.hB h3.hA h3.hB (by omega) (by omega) (by omega) (by omega) (fun i hi hi' => ?_) (fun i hi hi' => ?_)
  · obtain ⟨X, a, b⟩ := h8 i hi hi'
    exact ⟨X, (h2.en _ a).1, (h2.en _ b).1⟩
  · obtain ⟨X, a, b⟩ := h9 i hi hi'
    exact ⟨X, (h3.en _ a).1, (h3.en _ b).1⟩

/-- An error, as it lies. -/
theorem ErrIs.foot {ev : Value} {err : Option (Nat × Int)} {base : Nat} {L : List Nat} (h : ErrIs w ev err base L) : ∃ G : List Nat, (∀ q ∈ G, base ≤ q ∧ q ∉ L ∧ q < w.heap.size) ∧ ∀ w', (∀ q ∈ G, w'.heap[q]? = w.heap[q]?) → ErrR w' ev err := by
  match err, h with
  | none, h => exact ⟨[], by simp, fun _ _ => h⟩
  | some (i, c), ⟨fb, h1, h2, h3, h4⟩ => exact ⟨[fb], by simp; exact ⟨h1, h2, blk_lt h4⟩, fun w' hw => ⟨fb, h3, (hw fb (by simp)).trans h4⟩⟩

theorem rep_sts {e : Ending} {r : BookS × Option (Nat × Int)} (S : Sts w0 w F P) (h : ReplayB w w' e r) (i j k : Nat) :
    ∃ ov g c ev G, e = .returned (.tuple #[ov, .slice (some ⟨g, 0, none⟩) (replay [] r.1.done).length c, ev]) ∧ Sts w0 w' (updF (updF (updF F i [i] ov.ownBlock.toList) j [j] [g]) k [k] G)
      (updP (updP (updP P i [i] (fun w => SlO w w0.heap.size 46 Opr.cells 5 ov r.1.done)) j [j] (fun w => SlO w w0.heap.size 50 Elm.cells 3 (.slice (some ⟨g, 0, none⟩) (replay [] r.1.done).length c) (replay [] r.1.done))) k [k] (fun w => ErrR w ev r.2)) := by
  obtain ⟨ov, dv, ev, rfl, h1, h2, h3, h4, h5, a, c, rfl⟩ := h
  have hsz := S.size
  rcases h2.form with ⟨e, _⟩ | ⟨g, c', e, hg1, hg2, _⟩
  · cases e
  cases e
  obtain ⟨G, hG, hE⟩ := h4.foot
  have fr : ∀ q, w.heap.size ≤ q → Free w0 F q := fun q hq => S.free hq
  have S1 := (S.below h5).add i ov.ownBlock.toList (fun w => SlO w w0.heap.size 46 Opr.cells 5 ov r.1.done) (fun q hq => ⟨fr q (h1.lt q (by simpa using hq)).1, (h1.lt q (by simpa using hq)).2⟩)
    (fun w'' hw => (h1.rebase (fun q hq => by have := (h1.lt q hq).1; omega)).agree hw)
  have S2 := S1.add j [g] (fun w => SlO w w0.heap.size 50 Elm.cells 3 (.slice (some ⟨g, 0, none⟩) (replay [] r.1.done).length c) (replay [] r.1.done)) (fun q hq => by
      simp at hq; subst hq
      exact ⟨(fr q hg1).add (fun hq => h3 q (by simpa using hq) rfl) _, hg2⟩)
    (fun w'' hw => (h2.rebase (fun q hq => by have := (h2.lt q hq).1; omega)).agree (fun q hq => hw q (by simpa [Value.ownBlock] using hq)))
  have S3 := S2.add k G (fun w => ErrR w ev r.2) (fun q hq => by
      obtain ⟨a1, a2, a3⟩ := hG q hq
      simp [Value.ownBlock] at a2
      exact ⟨((fr q a1).add (by simp; exact a2.1) _).add (by simp; exact a2.2) _, a3⟩) (fun w'' hw => hE w'' hw)
  exact ⟨ov, g, c, ev, G, rfl, S3⟩

theorem rrep_sts {e : Ending} {r : RefS × Option (Nat × Int)} (S : Sts w0 w F P) (h : RReplayB w w' e r) (i : Nat) :
    ∃ ov dv G, e = .returned (.tuple #[ov, dv, .int .i64 (errCode r.2), .int .i64 (errAt r.2)]) ∧ Sts w0 w' (updF F i [i] G) (updP P i [i] (fun w => SlR w Opr.cells 5 ov r.1.D ∧ SlR w Elm.cells 3 dv (replay [] r.1.D))) := by
  obtain ⟨ov, dv, rfl, h1, h2, h5⟩ := h
  refine ⟨ov, dv, ov.ownBlock.toList ++ dv.ownBlock.toList, rfl, (S.below h5).add i _ _ (fun q hq => ?_) (fun w'' hw => ⟨(h1.agree (fun q hq => hw q (List.mem_append_left _ hq))).reads len_op, (h2.agree (fun q hq => hw q (List.mem_append_right _ hq))).reads len_elem⟩)⟩
  rcases List.mem_append.1 hq with hq | hq
  · exact ⟨S.free (h1.lt q (by simpa using hq)).1, (h1.lt q (by simpa using hq)).2⟩
  · exact ⟨S.free (h2.lt q (by simpa using hq)).1, (h2.lt q (by simpa using hq)).2⟩
end Go.Proofs.YtjeidklpomekdaaDoor

