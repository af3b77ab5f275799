/- Part 8 of the proof of BookReplays: RCheck, RTake0, RTakeR. -/
import Derived.Deep.RegionHeld3
import Derived.Test.YtjeidklpomekdaaDoorBr7

set_option linter.unusedVariables false
set_option linter.unusedSimpArgs false
set_option linter.unnecessarySimpa false

/- The reference's Check. -/
namespace Go.Proofs.YtjeidklpomekdaaDoor
open Go.RowKit

def RefS.check (R : RefS) (e : Edt) : Int :=
  if R.T = 0 then 125
  else if valid e.op ≠ 0 then valid e.op
  else if e.op.kind = 0 then 122
  else if e.op.seq ≤ (lastIn e.op.client R.E).1 then 128
  else if (lastIn e.op.client R.E).1 + 1 < e.op.seq then 120
  else if e.tag < (lastIn e.op.client R.E).2 ∨ (R.E.length : Int) < e.tag then 121
  else if fits (lifeEnd R e).2 e.op ≠ 0 then 123
  else 0

/-- Where Check comes to the client's life it never looks where nothing is. -/
structure CheckOk (R : RefS) (e : Edt) : Prop where
  len : R.E.length ≤ 4096
  lo : -10000 ≤ (lastIn e.op.client R.E).1 ∧ (lastIn e.op.client R.E).1 ≤ 10000
  life : valid e.op = 0 → ¬ e.op.kind = 0 → e.op.seq = (lastIn e.op.client R.E).1 + 1 → ¬ (e.tag < (lastIn e.op.client R.E).2 ∨ (R.E.length : Int) < e.tag) → LifeOk R e

set_option maxRecDepth 100000 in
set_option maxHeartbeats 3200000 in
theorem rcheck_main (base rb : Nat) (ρ : RefL) (R : RefS) (w : World) (h : RBookAt w base rb ρ R) (tag : Int) (o : Opr) (ok : CheckOk R ⟨tag, o⟩) (hc : 0 ≤ o.ch ∧ o.ch ≤ 255) (hT : ¬ R.T = 0) (hv : valid o = 0) (hk : ¬ o.kind = 0) :
    Calls Tryd.prog 17 #[.pointer (some ⟨rb, 0, none⟩), Edt.val ⟨tag, o⟩] w fun r w' => r = .returned (.int .i64 (R.check ⟨tag, o⟩)) ∧ Below w.heap.size w w' := by
  have H := Lib.hid h; have OK := Lib.hid ok; have HV := Lib.hid hv; have HKK := Lib.hid hk
  have hT' : (R.T == 0) = false := by simp [hT]
  have hk' : (o.kind == 0) = false := by simp [hk]
  have hv' : (valid o != 0) = false := by simp [hv]
  have HCC := Lib.hid (show R.check ⟨tag, o⟩ = (if o.seq ≤ (lastIn o.client R.E).1 then 128 else if (lastIn o.client R.E).1 + 1 < o.seq then 120 else if tag < (lastIn o.client R.E).2 ∨ (R.E.length : Int) < tag then 121 else if fits (lifeEnd R ⟨tag, o⟩).2 o ≠ 0 then 123 else 0) by
    unfold RefS.check
    rw [if_neg hT, if_neg (fun h => h hv), if_neg hk])
  obtain ⟨lo1, lo2⟩ := ok.lo
  have hlen := ok.len
  have x0 := blk_new w (.cells (ecells ⟨tag, o⟩) 48 (0, 0))
  have X0 := Lib.hid x0
  obtain ⟨aE, cE, aD, cD, aN, cN, aK, cK, V⟩ := h.view
  have hp := V.hp
  have C := blk_cell hp
  have LP := blk_lt hp
  have HP := Lib.hid hp
  clear h ok hT hv hk x0 V hp
  go_enter Tryd.func17, Tryd.ntmps17
  go_wp2_with fail
  refine (rvalid_any o _ hc).mono ?_
  rintro e w1 ⟨rfl, hb1⟩
  have x1 := hb1.blk X0.out
  have C1 := blk_cell x1
  have hbt : Below w.heap.size w w1 := ((Below.refl _ _).new _).then_ hb1
  have X1 := Lib.hid x1; have HB1 := Lib.hid hbt; clear x1 hb1 hbt C
  go_wp2_with fail
  refine (last_any base rb ρ R o.client _ (H.out.below HB1.out) (by omega)).mono ?_
  rintro e w2 ⟨rfl, hb2⟩
  have x2 := hb2.blk X1.out
  have C2 := blk_cell x2
  have hbt := HB1.out.then_ hb2
  have p2 := hbt.blk HP.out
  have CP := blk_cell p2
  have LP2 := blk_lt p2
  have L02 := blk_lt x2
  have X2 := Lib.hid x2; have HB2 := Lib.hid hbt; clear x2 hb2 hbt C1 p2
  generalize hls : (lastIn o.client R.E).1 = ls at *
  generalize hlt : (lastIn o.client R.E).2 = lt at *
  have HLS := Lib.hid hls; have HLT := Lib.hid hlt; clear hls hlt
  by_cases h1 : o.seq ≤ ls
  · have HR := Lib.hid (HCC.out.trans (if_pos h1))
    go_wp2
    go_ret
    exact ⟨ret_int HR.out.symm, HB2.out⟩
  · have HC1 := Lib.hid (HCC.out.trans (if_neg h1))
    by_cases h2 : ls + 1 < o.seq
    · have HR := Lib.hid (HC1.out.trans (if_pos h2))
      go_wp2
      go_ret
      exact ⟨ret_int HR.out.symm, HB2.out⟩
    · have HC2 := Lib.hid (HC1.out.trans (if_neg h2))
      by_cases h3 : tag < lt
      · have HR := Lib.hid (HC2.out.trans (if_pos (Or.inl h3)))
        go_wp2
        go_quiet (fail)
        go_wp2
        go_ret
        exact ⟨ret_int HR.out.symm, HB2.out.drewN nq⟩
      · by_cases h4 : (R.E.length : Int) < tag
        · have HR := Lib.hid (HC2.out.trans (if_pos (Or.inr h4)))
          go_wp2
          go_quiet (fail)
          go_wp2
          go_ret
          exact ⟨ret_int HR.out.symm, HB2.out.drewN nq⟩
        · have HC3 := Lib.hid (HC2.out.trans (if_neg (by omega)))
          have LO := Lib.hid (OK.out.life HV.out HKK.out (by show o.seq = (lastIn o.client R.E).1 + 1; rw [HLS.out]; omega) (by show ¬ (tag < (lastIn o.client R.E).2 ∨ (R.E.length : Int) < tag); rw [HLT.out]; omega))
          go_wp2_with fail
          go_quiet (fail)
          go_wp2_with fail
          refine (life_any base rb ρ R tag o _ (H.out.below (HB2.out.drewN nq)) LO.out).mono ?_
          rintro e w3 ⟨rfl, hb3⟩
          have hb3' : Below w.heap.size w w3 := (HB2.out.drewN nq).then_ hb3
          have x3 := hb3.blk (b := w.heap.size) X2.out
          have C3 := blk_cell x3
          have L3 := blk_lt x3
          have HB3 := Lib.hid hb3'; have X3 := Lib.hid x3; clear x3 hb3 hb3' C2 CP
          generalize hle : (lifeEnd R ⟨tag, o⟩).2 = n at *
          have HLE := Lib.hid hle; clear hle
          generalize (lifeEnd R ⟨tag, o⟩).1.headD ⟨0, 0, 0, 0, 0⟩ = dn
          have y3 := blk_alloc (.cells (ocells dn) 46 (0, 0)) X3.out
          have CY := blk_cell y3
          clear y3
          go_wp2_with fail
          refine (rfits_any n o _ hc).mono ?_
          rintro e w4 ⟨rfl, hb4⟩
          have HB4 := Lib.hid ((HB3.out.new (.cells (ocells dn) 46 (0, 0))).then_ hb4); clear hb4
          have HC4 := Lib.hid (show R.check ⟨tag, o⟩ = if fits n o ≠ 0 then 123 else 0 from HC3.out)
          by_cases h5 : (fits n o != 0) = true
          · have HR := Lib.hid (HC4.out.trans (if_pos (by simpa using h5)))
            go_wp2_with fail
            go_ret
            exact ⟨ret_int HR.out.symm, HB4.out⟩
          · have h5' : (fits n o != 0) = false := by simpa using h5
            have HR := Lib.hid (HC4.out.trans (if_neg (by simpa using h5)))
            clear h5
            go_wp2_with fail
            go_ret
            exact ⟨ret_int HR.out.symm, HB4.out⟩

set_option maxRecDepth 100000 in
set_option maxHeartbeats 3200000 in
theorem rcheck_any (base rb : Nat) (ρ : RefL) (R : RefS) (w : World) (h : RBookAt w base rb ρ R) (tag : Int) (o : Opr) (ok : CheckOk R ⟨tag, o⟩) (hc : 0 ≤ o.ch ∧ o.ch ≤ 255) (hT : ¬ R.T = 0) :
    Calls Tryd.prog 17 #[.pointer (some ⟨rb, 0, none⟩), Edt.val ⟨tag, o⟩] w fun r w' => r = .returned (.int .i64 (R.check ⟨tag, o⟩)) ∧ Below w.heap.size w w' := by
  by_cases hv : valid o = 0
  · by_cases hk : o.kind = 0
    · have HR := Lib.hid (show R.check ⟨tag, o⟩ = 122 by unfold RefS.check; rw [if_neg hT, if_neg (fun h => h hv), if_pos hk])
      have hT' : (R.T == 0) = false := by simp [hT]
      have hk' : (o.kind == 0) = true := by simp [hk]
      have hv' : (valid o != 0) = false := by simp [hv]
      have x0 := blk_new w (.cells (ecells ⟨tag, o⟩) 48 (0, 0))
      have X0 := Lib.hid x0
      obtain ⟨aE, cE, aD, cD, aN, cN, aK, cK, V⟩ := h.view
      have hp := V.hp
      have C := blk_cell hp
      have LP := blk_lt hp
      clear h ok hT hv hk x0 V hp
      go_enter Tryd.func17, Tryd.ntmps17
      go_wp2_with fail
      refine (rvalid_any o _ hc).mono ?_
      rintro e w1 ⟨rfl, hb1⟩
      have x1 := hb1.blk X0.out
      have C1 := blk_cell x1
      have hbt : Below w.heap.size w w1 := ((Below.refl _ _).new _).then_ hb1
      have HB1 := Lib.hid hbt; clear x1 hb1 hbt C
      go_wp2_with fail
      go_ret
      exact ⟨ret_int HR.out.symm, HB1.out⟩
    · exact rcheck_main base rb ρ R w h tag o ok hc hT hv hk
  · have HR := Lib.hid (show R.check ⟨tag, o⟩ = valid o by unfold RefS.check; rw [if_neg hT, if_pos hv])
    have hT' : (R.T == 0) = false := by simp [hT]
    have hv' : (valid o != 0) = true := by simp [hv]
    obtain ⟨aE, cE, aD, cD, aN, cN, aK, cK, V⟩ := h.view
    have hp := V.hp
    have C := blk_cell hp
    have LP := blk_lt hp
    clear h ok hT hv V hp
    go_enter Tryd.func17, Tryd.ntmps17
    go_wp2_with fail
    refine (rvalid_any o _ hc).mono ?_
    rintro e w1 ⟨rfl, hb1⟩
    have hbt : Below w.heap.size w w1 := ((Below.refl _ _).new _).then_ hb1
    have HB1 := Lib.hid hbt; clear hb1 hbt C
    go_wp2_with fail
    go_ret
    exact ⟨ret_int HR.out.symm, HB1.out⟩
end Go.Proofs.YtjeidklpomekdaaDoor

/- The reference's book: a list is lengthened and stored. -/
namespace Go.Proofs.YtjeidklpomekdaaDoor
open Go.RowKit

theorem mod_other {α : Type} {w w3 : World} {base rb : Nat} {E : TypeId} {enc : α → List Value} {k : Nat} {v v' s : Value} {xs : List α} {o : Nat} (h : SlO w base E enc k v xs) (hm : Mod v'.ownBlock.toList w w3) (hd : ∀ g, v.ownBlock = some g → v'.ownBlock ≠ some g) (hr : v.ownBlock ≠ some rb) :
    SlO (w3.setCell ⟨rb, o, none⟩ s) base E enc k v xs :=
  (h.mod hm (fun g hg hq => hd g hg (by simpa using hq))).mod (Mod.setCell w3 rb o s) (fun g hg hq => hr (by rw [hg]; simpa using hq))

theorem RBookAt.appE {w w3 : World} {base rb g N cap : Nat} {ρ : RefL} {R : RefS} {xs : List Edt} (h : RBookAt w base rb ρ R) (hbase : base ≤ w.heap.size) (hm : Mod ρ.vE.ownBlock.toList w w3) (ho : SlO w3 base 48 Edt.cells 6 (.slice (some ⟨g, 0, none⟩) N cap) xs) (hg : ρ.vE.ownBlock = some g ∨ w.heap.size ≤ g) :
    RBookAt (w3.setCell ⟨rb, 1, none⟩ (.slice (some ⟨g, 0, none⟩) N cap)) base rb { ρ with vE := .slice (some ⟨g, 0, none⟩) N cap } { R with E := xs } ∧ Below base w (w3.setCell ⟨rb, 1, none⟩ (.slice (some ⟨g, 0, none⟩) N cap)) := by
  have hrlt := blk_lt h.hp
  have hrn : rb ∉ ρ.vE.ownBlock.toList := fun hq => h.nE (by simpa using hq)
  have hp3 := hm.blk hrn h.hp
  have hgr : g ≠ rb := by
    rcases hg with hg | hg
    · exact fun e => h.nE (by rw [hg, e])
    · omega
  have hgn : ∀ u : Value, (∀ q, u.ownBlock = some q → q < w.heap.size) → (∀ q, u.ownBlock = some q → ρ.vE.ownBlock ≠ some q) → u.ownBlock ≠ some g := by
    intro u h1 h2 hu
    rcases hg with hg | hg
    · exact h2 g hu hg
    · have := h1 g hu; omega
  have gD := hgn ρ.vD (fun q hq => (h.hD.lt q hq).2) (fun g hg hg2 => h.ED g hg2 hg)
  have gN := hgn ρ.vN (fun q hq => (h.hN.lt q hq).2) (fun g hg hg2 => h.EN g hg2 hg)
  have gK := hgn ρ.vK (fun q hq => (h.hK.lt q hq).2) (fun g hg hg2 => h.EK g hg2 hg)
  refine ⟨⟨blk_set hp3 1 _, ho.mod (Mod.setCell w3 rb 1 _) (fun q hq => by simp [Value.ownBlock] at hq; simp; omega), mod_other h.hD hm (fun g hg hg2 => h.ED g hg2 hg) h.nD, mod_other h.hN hm (fun g hg hg2 => h.EN g hg2 hg) h.nN, mod_other h.hK hm (fun g hg hg2 => h.EK g hg2 hg) h.nK, h.hb, by simp [Value.ownBlock]; exact hgr, h.nD, h.nN, h.nK, (fun q hq hq2 => gD (by simp [Value.ownBlock] at hq; rw [hq2, hq])), (fun q hq hq2 => gN (by simp [Value.ownBlock] at hq; rw [hq2, hq])), (fun q hq hq2 => gK (by simp [Value.ownBlock] at hq; rw [hq2, hq])), h.DN, h.DK, h.NK⟩, ?_⟩
  have hmb : Below base w w3 := ⟨hm.os, hm.tape, hm.output, hm.size, fun q hq => hm.block q (by omega) (fun hq' => by have := (h.hE.lt q (by simpa using hq')).1; omega)⟩
  have hms := Mod.setCell w3 rb 1 (.slice (some ⟨g, 0, none⟩) N cap)
  exact hmb.trans ⟨hms.os, hms.tape, hms.output, hms.size, fun q hq => hms.block q (by have := hm.size; omega) (fun hq' => by have := h.hb; simp at hq'; omega)⟩

theorem RBookAt.appD {w w3 : World} {base rb g N cap : Nat} {ρ : RefL} {R : RefS} {xs : List Opr} (h : RBookAt w base rb ρ R) (hbase : base ≤ w.heap.size) (hm : Mod ρ.vD.ownBlock.toList w w3) (ho : SlO w3 base 46 Opr.cells 5 (.slice (some ⟨g, 0, none⟩) N cap) xs) (hg : ρ.vD.ownBlock = some g ∨ w.heap.size ≤ g) :
    RBookAt (w3.setCell ⟨rb, 2, none⟩ (.slice (some ⟨g, 0, none⟩) N cap)) base rb { ρ with vD := .slice (some ⟨g, 0, none⟩) N cap } { R with D := xs } ∧ Below base w (w3.setCell ⟨rb, 2, none⟩ (.slice (some ⟨g, 0, none⟩) N cap)) := by
  have hrlt := blk_lt h.hp
  have hrn : rb ∉ ρ.vD.ownBlock.toList := fun hq => h.nD (by simpa using hq)
  have hp3 := hm.blk hrn h.hp
  have hgr : g ≠ rb := by
    rcases hg with hg | hg
    · exact fun e => h.nD (by rw [hg, e])
    · omega
  have hgn : ∀ u : Value, (∀ q, u.ownBlock = some q → q < w.heap.size) → (∀ q, u.ownBlock = some q → ρ.vD.ownBlock ≠ some q) → u.ownBlock ≠ some g := by
    intro u h1 h2 hu
    rcases hg with hg | hg
    · exact h2 g hu hg
    · have := h1 g hu; omega
  have gE := hgn ρ.vE (fun q hq => (h.hE.lt q hq).2) h.ED
  have gN := hgn ρ.vN (fun q hq => (h.hN.lt q hq).2) (fun g hg hg2 => h.DN g hg2 hg)
  have gK := hgn ρ.vK (fun q hq => (h.hK.lt q hq).2) (fun g hg hg2 => h.DK g hg2 hg)
  refine ⟨⟨blk_set hp3 2 _, mod_other h.hE hm h.ED h.nE, ho.mod (Mod.setCell w3 rb 2 _) (fun q hq => by simp [Value.ownBlock] at hq; simp; omega), mod_other h.hN hm (fun g hg hg2 => h.DN g hg2 hg) h.nN, mod_other h.hK hm (fun g hg hg2 => h.DK g hg2 hg) h.nK, h.hb, h.nE, by simp [Value.ownBlock]; exact hgr, h.nN, h.nK, (fun q hq hq2 => gE (by simp [Value.ownBlock] at hq2; rw [hq, hq2])), h.EN, h.EK, (fun q hq hq2 => gN (by simp [Value.ownBlock] at hq; rw [hq2, hq])), (fun q hq hq2 => gK (by simp [Value.ownBlock] at hq; rw [hq2, hq])), h.NK⟩, ?_⟩
  have hmb : Below base w w3 := ⟨hm.os, hm.tape, hm.output, hm.size, fun q hq => hm.block q (by omega) (fun hq' => by have := (h.hD.lt q (by simpa using hq')).1; omega)⟩
  have hms := Mod.setCell w3 rb 2 (.slice (some ⟨g, 0, none⟩) N cap)
  exact hmb.trans ⟨hms.os, hms.tape, hms.output, hms.size, fun q hq => hms.block q (by have := hm.size; omega) (fun hq' => by have := h.hb; simp at hq'; omega)⟩

theorem RBookAt.appN {w w3 : World} {base rb g N cap : Nat} {ρ : RefL} {R : RefS} {xs : List Int} (h : RBookAt w base rb ρ R) (hbase : base ≤ w.heap.size) (hm : Mod ρ.vN.ownBlock.toList w w3) (ho : SlO w3 base 3 icell 1 (.slice (some ⟨g, 0, none⟩) N cap) xs) (hg : ρ.vN.ownBlock = some g ∨ w.heap.size ≤ g) :
    RBookAt (w3.setCell ⟨rb, 3, none⟩ (.slice (some ⟨g, 0, none⟩) N cap)) base rb { ρ with vN := .slice (some ⟨g, 0, none⟩) N cap } { R with N := xs } ∧ Below base w (w3.setCell ⟨rb, 3, none⟩ (.slice (some ⟨g, 0, none⟩) N cap)) := by
  have hrlt := blk_lt h.hp
  have hrn : rb ∉ ρ.vN.ownBlock.toList := fun hq => h.nN (by simpa using hq)
  have hp3 := hm.blk hrn h.hp
  have hgr : g ≠ rb := by
    rcases hg with hg | hg
    · exact fun e => h.nN (by rw [hg, e])
    · omega
  have hgn : ∀ u : Value, (∀ q, u.ownBlock = some q → q < w.heap.size) → (∀ q, u.ownBlock = some q → ρ.vN.ownBlock ≠ some q) → u.ownBlock ≠ some g := by
    intro u h1 h2 hu
    rcases hg with hg | hg
    · exact h2 g hu hg
    · have := h1 g hu; omega
  have gE := hgn ρ.vE (fun q hq => (h.hE.lt q hq).2) h.EN
  have gD := hgn ρ.vD (fun q hq => (h.hD.lt q hq).2) h.DN
  have gK := hgn ρ.vK (fun q hq => (h.hK.lt q hq).2) (fun g hg hg2 => h.NK g hg2 hg)
  refine ⟨⟨blk_set hp3 3 _, mod_other h.hE hm h.EN h.nE, mod_other h.hD hm h.DN h.nD, ho.mod (Mod.setCell w3 rb 3 _) (fun q hq => by simp [Value.ownBlock] at hq; simp; omega), mod_other h.hK hm (fun g hg hg2 => h.NK g hg2 hg) h.nK, h.hb, h.nE, h.nD, by simp [Value.ownBlock]; exact hgr, h.nK, h.ED, (fun q hq hq2 => gE (by simp [Value.ownBlock] at hq2; rw [hq, hq2])), h.EK, (fun q hq hq2 => gD (by simp [Value.ownBlock] at hq2; rw [hq, hq2])), h.DK, (fun q hq hq2 => gK (by simp [Value.ownBlock] at hq; rw [hq2, hq]))⟩, ?_⟩
  have hmb : Below base w w3 := ⟨hm.os, hm.tape, hm.output, hm.size, fun q hq => hm.block q (by omega) (fun hq' => by have := (h.hN.lt q (by simpa using hq')).1; omega)⟩
  have hms := Mod.setCell w3 rb 3 (.slice (some ⟨g, 0, none⟩) N cap)
  exact hmb.trans ⟨hms.os, hms.tape, hms.output, hms.size, fun q hq => hms.block q (by have := hm.size; omega) (fun hq' => by have := h.hb; simp at hq'; omega)⟩

theorem RBookAt.appK {w w3 : World} {base rb g N cap : Nat} {ρ : RefL} {R : RefS} {xs : List Int} (h : RBookAt w base rb ρ R) (hbase : base ≤ w.heap.size) (hm : Mod ρ.vK.ownBlock.toList w w3) (ho : SlO w3 base 3 icell 1 (.slice (some ⟨g, 0, none⟩) N cap) xs) (hg : ρ.vK.ownBlock = some g ∨ w.heap.size ≤ g) :
    RBookAt (w3.setCell ⟨rb, 4, none⟩ (.slice (some ⟨g, 0, none⟩) N cap)) base rb { ρ with vK := .slice (some ⟨g, 0, none⟩) N cap } { R with K := xs } ∧ Below base w (w3.setCell ⟨rb, 4, none⟩ (.slice (some ⟨g, 0, none⟩) N cap)) := by
  have hrlt := blk_lt h.hp
  have hrn : rb ∉ ρ.vK.ownBlock.toList := fun hq => h.nK (by simpa using hq)
  have hp3 := hm.blk hrn h.hp
  have hgr : g ≠ rb := by
    rcases hg with hg | hg
    · exact fun e => h.nK (by rw [hg, e])
    · omega
  have hgn : ∀ u : Value, (∀ q, u.ownBlock = some q → q < w.heap.size) → (∀ q, u.ownBlock = some q → ρ.vK.ownBlock ≠ some q) → u.ownBlock ≠ some g := by
    intro u h1 h2 hu
    rcases hg with hg | hg
    · exact h2 g hu hg
    · have := h1 g hu; omega
  have gE := hgn ρ.vE (fun q hq => (h.hE.lt q hq).2) h.EK
  have gD := hgn ρ.vD (fun q hq => (h.hD.lt q hq).2) h.DK
  have gN := hgn ρ.vN (fun q hq => (h.hN.lt q hq).2) h.NK
  refine ⟨⟨blk_set hp3 4 _, mod_other h.hE hm h.EK h.nE, mod_other h.hD hm h.DK h.nD, mod_other h.hN hm h.NK h.nN, ho.mod (Mod.setCell w3 rb 4 _) (fun q hq => by simp [Value.ownBlock] at hq; simp; omega), h.hb, h.nE, h.nD, h.nN, by simp [Value.ownBlock]; exact hgr, h.ED, h.EN, (fun q hq hq2 => gE (by simp [Value.ownBlock] at hq2; rw [hq, hq2])), h.DN, (fun q hq hq2 => gD (by simp [Value.ownBlock] at hq2; rw [hq, hq2])), (fun q hq hq2 => gN (by simp [Value.ownBlock] at hq2; rw [hq, hq2]))⟩, ?_⟩
  have hmb : Below base w w3 := ⟨hm.os, hm.tape, hm.output, hm.size, fun q hq => hm.block q (by omega) (fun hq' => by have := (h.hK.lt q (by simpa using hq')).1; omega)⟩
  have hms := Mod.setCell w3 rb 4 (.slice (some ⟨g, 0, none⟩) N cap)
  exact hmb.trans ⟨hms.os, hms.tape, hms.output, hms.size, fun q hq => hms.block q (by have := hm.size; omega) (fun hq' => by have := h.hb; simp at hq'; omega)⟩

/-- A block that is none of the book's. -/
def Out (b rb : Nat) (ρ : RefL) : Prop := b ≠ rb ∧ ρ.vE.ownBlock ≠ some b ∧ ρ.vD.ownBlock ≠ some b ∧ ρ.vN.ownBlock ≠ some b ∧ ρ.vK.ownBlock ≠ some b
def RTStep (base rb : Nat) (w : World) (ρ : RefL) (R' : RefS) (w' : World) : Prop :=
  ∃ ρ', RBookAt w' base rb ρ' R' ∧ Below base w w' ∧ ∀ b o, Out b rb ρ → w.heap[b]? = some o → w'.heap[b]? = some o ∧ Out b rb ρ'
theorem out_new {w : World} {base rb b : Nat} {ρ : RefL} {R : RefS} (h : RBookAt w base rb ρ R) (hb : w.heap.size ≤ b) : Out b rb ρ := by
  have := blk_lt h.hp
  exact ⟨by omega, fun e => by have := (h.hE.lt b e).2; omega, fun e => by have := (h.hD.lt b e).2; omega, fun e => by have := (h.hN.lt b e).2; omega, fun e => by have := (h.hK.lt b e).2; omega⟩

theorem RBookAt.stepE {w wd w3 : World} {base rb g N cap : Nat} {ρ : RefL} {R : RefS} {xs : List Edt} (h : RBookAt w base rb ρ R) (hbase : base ≤ w.heap.size) (hwd : Below w.heap.size w wd) (hm : Mod ρ.vE.ownBlock.toList wd w3) (ho : SlO w3 base 48 Edt.cells 6 (.slice (some ⟨g, 0, none⟩) N cap) xs) (hg : ρ.vE.ownBlock = some g ∨ wd.heap.size ≤ g) :
    RTStep base rb w ρ { R with E := xs } (w3.setCell ⟨rb, 1, none⟩ (.slice (some ⟨g, 0, none⟩) N cap)) := by
  have hsz := hwd.size
  obtain ⟨a1, a2⟩ := (h.below hwd).appE (by omega) hm ho hg
  refine ⟨_, a1, (hwd.mono hbase).trans a2, fun b o hO hb => ?_⟩
  have hlt := blk_lt hb
  refine ⟨(Mod.setCell w3 rb 1 _).blk (by simp; exact hO.1) (hm.blk (fun hq => hO.2.1 (by simpa using hq)) (hwd.blk hb)), hO.1, (fun e => by simp [Value.ownBlock] at e; subst e; rcases hg with hg | hg; exact hO.2.1 hg; omega), hO.2.2.1, hO.2.2.2.1, hO.2.2.2.2⟩

theorem RBookAt.stepD {w wd w3 : World} {base rb g N cap : Nat} {ρ : RefL} {R : RefS} {xs : List Opr} (h : RBookAt w base rb ρ R) (hbase : base ≤ w.heap.size) (hwd : Below w.heap.size w wd) (hm : Mod ρ.vD.ownBlock.toList wd w3) (ho : SlO w3 base 46 Opr.cells 5 (.slice (some ⟨g, 0, none⟩) N cap) xs) (hg : ρ.vD.ownBlock = some g ∨ wd.heap.size ≤ g) :
    RTStep base rb w ρ { R with D := xs } (w3.setCell ⟨rb, 2, none⟩ (.slice (some ⟨g, 0, none⟩) N cap)) := by
  have hsz := hwd.size
  obtain ⟨a1, a2⟩ := (h.below hwd).appD (by omega) hm ho hg
  refine ⟨_, a1, (hwd.mono hbase).trans a2, fun b o hO hb => ?_⟩
  have hlt := blk_lt hb
  refine ⟨(Mod.setCell w3 rb 2 _).blk (by simp; exact hO.1) (hm.blk (fun hq => hO.2.2.1 (by simpa using hq)) (hwd.blk hb)), hO.1, hO.2.1, (fun e => by simp [Value.ownBlock] at e; subst e; rcases hg with hg | hg; exact hO.2.2.1 hg; omega), hO.2.2.2.1, hO.2.2.2.2⟩

theorem RBookAt.stepN {w wd w3 : World} {base rb g N cap : Nat} {ρ : RefL} {R : RefS} {xs : List Int} (h : RBookAt w base rb ρ R) (hbase : base ≤ w.heap.size) (hwd : Below w.heap.size w wd) (hm : Mod ρ.vN.ownBlock.toList wd w3) (ho : SlO w3 base 3 icell 1 (.slice (some ⟨g, 0, none⟩) N cap) xs) (hg : ρ.vN.ownBlock = some g ∨ wd.heap.size ≤ g) :
    RTStep base rb w ρ { R with N := xs } (w3.setCell ⟨rb, 3, none⟩ (.slice (some ⟨g, 0, none⟩) N cap)) := by
  have hsz := hwd.size
  obtain ⟨a1, a2⟩ := (h.below hwd).appN (by omega) hm ho hg
  refine ⟨_, a1, (hwd.mono hbase).trans a2, fun b o hO hb => ?_⟩
  have hlt := blk_lt hb
  refine ⟨(Mod.setCell w3 rb 3 _).blk (by simp; exact hO.1) (hm.blk (fun hq => hO.2.2.2.1 (by simpa using hq)) (hwd.blk hb)), hO.1, hO.2.1, hO.2.2.1, (fun e => by simp [Value.ownBlock] at e; subst e; rcases hg with hg | hg; exact hO.2.2.2.1 hg; omega), hO.2.2.2.2⟩

theorem RBookAt.stepK {w wd w3 : World} {base rb g N cap : Nat} {ρ : RefL} {R : RefS} {xs : List Int} (h : RBookAt w base rb ρ R) (hbase : base ≤ w.heap.size) (hwd : Below w.heap.size w wd) (hm : Mod ρ.vK.ownBlock.toList wd w3) (ho : SlO w3 base 3 icell 1 (.slice (some ⟨g, 0, none⟩) N cap) xs) (hg : ρ.vK.ownBlock = some g ∨ wd.heap.size ≤ g) :
    RTStep base rb w ρ { R with K := xs } (w3.setCell ⟨rb, 4, none⟩ (.slice (some ⟨g, 0, none⟩) N cap)) := by
  have hsz := hwd.size
  obtain ⟨a1, a2⟩ := (h.below hwd).appK (by omega) hm ho hg
  refine ⟨_, a1, (hwd.mono hbase).trans a2, fun b o hO hb => ?_⟩
  have hlt := blk_lt hb
  refine ⟨(Mod.setCell w3 rb 4 _).blk (by simp; exact hO.1) (hm.blk (fun hq => hO.2.2.2.2 (by simpa using hq)) (hwd.blk hb)), hO.1, hO.2.1, hO.2.2.1, hO.2.2.2.1, (fun e => by simp [Value.ownBlock] at e; subst e; rcases hg with hg | hg; exact hO.2.2.2.2 hg; omega)⟩

end Go.Proofs.YtjeidklpomekdaaDoor

/- The reference's take, region s. -/
namespace Go.Proofs.YtjeidklpomekdaaDoor
open Go.RowKit

noncomputable def rtakeReg (n : Nat) : Code := ((Tryd.f19.body.bind (findReg n)).getD .skip)


end Go.Proofs.YtjeidklpomekdaaDoor

