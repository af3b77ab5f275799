/- Part 4 of the proof of BookReplays: Book5, Take0, Take2, Take3, Take4, Take5, Take6, Take7, Take8, Take9, Book6, Book7. -/
import Derived.Deep.RegionWith
import Derived.Deep.DeepCutAuto
import Derived.WalkSmall
import Derived.Test.YtjeidklpomekdaaDoorBr3

set_option linter.unusedVariables false
set_option linter.unusedSimpArgs false
set_option linter.unnecessarySimpa false

/- The book: Check. -/
namespace Go.Proofs.YtjeidklpomekdaaDoor
open Go.RowKit


/-- By how much the records past a tag have made the text longer. -/
def unseen (tag : Int) : List Mrk → Int
  | [] => 0
  | m :: l => (if tag < m.mark then grown m.op else 0) + unseen tag l
theorem wrap64_in' (n : Int) (h : -9223372036854775808 ≤ n ∧ n ≤ 9223372036854775807) : wrap64 n = n := by unfold wrap64; omega
theorem grown_le (o : Opr) : -1 ≤ grown o ∧ grown o ≤ 1 := by unfold grown; split <;> (try split) <;> omega
theorem unseen_app (tag : Int) (l : List Mrk) (m : Mrk) : unseen tag (l ++ [m]) = unseen tag l + (if tag < m.mark then grown m.op else 0) := by
  induction l with
  | nil => simp [unseen]
  | cons x l ih => simp [unseen, ih]; omega
theorem unseen_le (tag : Int) (l : List Mrk) : -(l.length : Int) ≤ unseen tag l ∧ unseen tag l ≤ l.length := by
  induction l with
  | nil => simp [unseen]
  | cons x l ih =>
    have := grown_le x.op
    simp only [unseen, List.length_cons]
    split <;> omega
theorem unseen_take (tag : Int) (l : List Mrk) (k : Nat) (h : k < l.length) : unseen tag (l.take (k + 1)) = unseen tag (l.take k) + (if tag < l[k].mark then grown l[k].op else 0) := by
  rw [List.take_succ_eq_append_getElem h, unseen_app]

def BookS.hand (σ : BookS) (c : Int) : HandS := σ.hands.getD c.toNat hand0
def BookS.check (σ : BookS) (e : Edt) : Int :=
  if σ.epoch = 0 then 125
  else if valid e.op ≠ 0 then valid e.op
  else if e.op.kind = 0 then 122
  else if e.op.seq ≤ (σ.hand e.op.client).seq then 128
  else if e.op.seq ≠ (σ.hand e.op.client).seq + 1 then 120
  else if e.tag < (σ.hand e.op.client).tag ∨ (σ.edits.length : Int) < e.tag then 121
  else if fits (σ.length - unseen e.tag (σ.hand e.op.client).q.list) e.op ≠ 0 then 123
  else 0

/-- What holds of every book that its own methods have made. -/
structure BookOk (σ : BookS) : Prop where
  n65 : σ.hands.length = 65
  keys : ∀ c s : Int, 1 ≤ c → c ≤ 64 → 1 ≤ s → (σ.keys c s ↔ s ≤ (σ.hand c).seq)
  seq : ∀ i (h : i < σ.hands.length), 0 ≤ σ.hands[i].seq ∧ σ.hands[i].seq ≤ 64
  tag : ∀ i (h : i < σ.hands.length), 0 ≤ σ.hands[i].tag ∧ σ.hands[i].tag ≤ 4096
  q : ∀ i (h : i < σ.hands.length), σ.hands[i].q.list.length ≤ 4096
  qch : ∀ i (h : i < σ.hands.length), ∀ m ∈ σ.hands[i].q.list, 0 ≤ m.op.ch ∧ m.op.ch ≤ 255
  edits : σ.edits.length ≤ 4096
  len : -4096 ≤ σ.length ∧ σ.length ≤ 4096
  edited : σ.edited.length ≤ 10000

theorem valid_who {o : Opr} (h : valid o = 0) : 1 ≤ o.client ∧ o.client ≤ 64 ∧ 1 ≤ o.seq ∧ o.seq ≤ 64 := by
  unfold valid at h
  repeat' split at h
  all_goals first | omega | (exfalso; revert h; decide)

set_option maxRecDepth 100000 in
set_option maxHeartbeats 3200000 in
theorem check_main (pb : Nat) (ρ : BookL) (σ : BookS) (w : World) (h : BookAt w pb ρ σ) (ok : BookOk σ) (tag kind pos ch seq : Int) (j : Nat) (hc : 0 ≤ ch ∧ ch ≤ 255) (he : ¬ σ.epoch = 0) (hv : valid ⟨kind, pos, ch, j, seq⟩ = 0) (hk : ¬ kind = 0) (hj : 1 ≤ j ∧ j ≤ 64) (hs : 1 ≤ seq ∧ seq ≤ 64) :
    Calls Tryd.prog 36 #[.pointer (some ⟨pb, 0, none⟩), Edt.val ⟨tag, ⟨kind, pos, ch, j, seq⟩⟩] w fun r w' => r = .returned (.int .i64 (σ.check ⟨tag, ⟨kind, pos, ch, j, seq⟩⟩)) ∧ Below w.heap.size w w' := by
  have hp := h.hp
  have LP := blk_lt hp
  obtain ⟨aE, cE, hvE, _⟩ := h.hE.len
  have hn := h.hn; have n65 := ok.n65
  have hjl : j < ρ.hl.length := by omega
  have hjs : j < σ.hands.length := by omega
  obtain ⟨hx, hsp, _⟩ := h.hh j hjl hjs
  obtain ⟨gH, cH, hvH, hgH, hcell⟩ : ∃ g c, ρ.vH = .slice (some ⟨g, 0, none⟩) 65 c ∧ g < w.heap.size ∧ w.cell? ⟨g, j, none⟩ = some (.pointer (some ⟨ρ.hl[j].hb, 0, none⟩)) := by
    rcases h.hH.form with ⟨e1, e2⟩ | ⟨g, c, e1, _, e2, _, _⟩
    · rw [e2] at hjl; simp at hjl
    · refine ⟨g, c, by rw [e1, hn, n65], e2, ?_⟩
      have := SlO.cell h.hH len_hand (by rw [e1]; rfl) j 0 hjl _ rfl
      simpa using this
  have hq := ok.q j hjs
  have hsq := ok.seq j hjs
  have htg := ok.tag j hjs
  have hee := ok.edits
  have hln := ok.len
  have hkeys := ok.keys j seq (by omega) (by omega) hs.1
  have hhand : σ.hand j = σ.hands[j] := by simp [BookS.hand, hjs]
  rw [BookL.block, hvE, hvH] at hp
  have C := blk_cell hp
  generalize ρ.hl[j] = l at *
  generalize σ.hands[j] = y at *
  have h0 := Lib.hid h; have HP := Lib.hid hp; have HX := Lib.hid hx; have HSP := Lib.hid hsp; have HKY := Lib.hid hkeys; have HHD := Lib.hid hhand; 
  clear h ok hp hvE hvH hn n65 hx hsp hkeys hhand
  have LX := blk_lt HX.out
  have CX := blk_cell HX.out
  have hv' : (valid ⟨kind, pos, ch, j, seq⟩ != 0) = false := by simp [hv]
  have HV := Lib.hid hv; clear hv
  go_enter Tryd.func36, Tryd.ntmps36
  go_wp2_with fail
  refine (valid_any ⟨kind, pos, ch, j, seq⟩ _ hc).mono ?_
  rintro r w1 ⟨rfl, hb⟩
  have x0 := hb.blk (blk_new _ _)
  have C0 := blk_cell x0
  have hbt : Below w.heap.size w w1 := ((Below.refl _ _).new _).then_ hb
  have CP1 := blk_cell (hbt.blk HP.out)
  have CX1 := blk_cell (hbt.blk HX.out)
  have CH1 := hbt.cell' hcell
  obtain ⟨x, b, hb1, hrun⟩ := (h0.out.hm.mod (Mod.of_below (L := []) hbt) (by simp)).look j seq ⟨by omega, by omega⟩ ⟨by omega, by omega⟩
  have hrn : ∀ n, (Instr.lookup 70 (.map (some ρ.mb)) (.agg #[.int .i64 j, .int .i64 seq]) true).run Tryd.prog (w1.drewN n) = .ok (.tuple #[.int .i64 x, .bool b]) (w1.drewN n) := fun n => hrun (w1.drewN n) rfl
  have HBB := Lib.hid hb1; clear hb1 hrun
  have HB := Lib.hid hbt; have X0 := Lib.hid x0; clear hb x0 hbt
  go_wp2
  go_quiet (fail)
  go_wp2
  go_quiet (fail)
  have HC := Lib.hid (show σ.check ⟨tag, ⟨kind, pos, ch, j, seq⟩⟩ = (if seq ≤ y.seq then 128 else if seq ≠ y.seq + 1 then 120 else if tag < y.tag ∨ (σ.edits.length : Int) < tag then 121
      else if fits (σ.length - unseen tag y.q.list) ⟨kind, pos, ch, j, seq⟩ ≠ 0 then 123 else 0) by
    unfold BookS.check
    rw [if_neg he, if_neg (fun h => h HV.out), if_neg hk, HHD.out])
  by_cases h1 : seq ≤ y.seq
  · obtain rfl : b = true := HBB.out.2 (HKY.out.2 (by rw [HHD.out]; exact h1))
    have HR := Lib.hid (HC.out.trans (if_pos h1)); clear h1
    go_wp2
    go_ret
    exact ⟨ret_int HR.out.symm, by ((repeat' (first | with_reducible refine Below.drewN ?_ _ | with_reducible refine Below.drew ?_ | with_reducible refine Below.new ?_ _)) <;> with_reducible exact HB.out)⟩
  · obtain rfl : b = false := by
      cases b
      · rfl
      · exact absurd (HKY.out.1 (HBB.out.1 rfl)) (by rw [HHD.out]; exact h1)
    have HC1 := Lib.hid (HC.out.trans (if_neg h1)); clear h1 HC
    go_wp2
    go_quiet (fail)
    by_cases h2 : seq = y.seq + 1
    · subst h2
      have HC2 := Lib.hid (HC1.out.trans (if_neg (fun h => h rfl))); clear HC1
      go_wp2
      by_cases h3 : tag < y.tag
      · have HR := Lib.hid (HC2.out.trans (if_pos (Or.inl h3))); clear HC2
        go_quiet (fail)
        go_wp2
        go_ret
        exact ⟨ret_int HR.out.symm, by ((repeat' (first | with_reducible refine Below.drewN ?_ _ | with_reducible refine Below.drew ?_ | with_reducible refine Below.new ?_ _)) <;> with_reducible exact HB.out)⟩
      · by_cases h4 : (σ.edits.length : Int) < tag
        · have HR := Lib.hid (HC2.out.trans (if_pos (Or.inr h4))); clear HC2
          go_quiet (fail)
          go_wp2
          go_ret
          exact ⟨ret_int HR.out.symm, by ((repeat' (first | with_reducible refine Below.drewN ?_ _ | with_reducible refine Below.drew ?_ | with_reducible refine Below.new ?_ _)) <;> with_reducible exact HB.out)⟩
        · have HC3 := Lib.hid (HC2.out.trans (if_neg (fun h => h.elim h3 h4))); clear HC2
          go_quiet (fail)
          go_wp2_with fail
          refine (queue_any l.sb y.q l.L _ (HSP.out.mod (Mod.of_below (L := []) (HB.out.drewN _)) (by simp)) (by omega)).mono ?_
          rintro r w2 ⟨v', rfl, hq1, hb2, aQ, cQ, rfl⟩
          have hbt : Below w.heap.size w w2 := (HB.out.drewN _).then_ hb2
          have CP2 := blk_cell (hbt.blk HP.out)
          have x2 := hb2.blk X0.out
          have C2 := blk_cell x2
          have HQ := Lib.hid (SlO.reads hq1 len_mark); have X2 := Lib.hid x2; have HBT := Lib.hid hbt; clear hq1 hb2 x2 hbt
          clear CP1 CX1 CH1 C0 CX C hcell hrn
          go_wp2
          go_loopw [9, 90] (fun nv i wr => ∃ k : Nat, k ≤ y.q.list.length ∧ i = .int .i64 k ∧ nv = .int .i64 (σ.length - unseen tag (y.q.list.take k)) ∧ Below w2.heap.size w2 wr) (fun _ i _ => y.q.list.length - (intOf i).toNat)
          case atStart => exact ⟨0, Nat.zero_le _, rfl, by simp [unseen], Below.refl _ _⟩
          case round =>
            obtain ⟨k, hk', rfl, rfl, hbr⟩ := hrel
            have hu := unseen_le tag (y.q.list.take k)
            have hul : (y.q.list.take k).length = k := by rw [List.length_take]; omega
            rw [hul] at hu
            have XR := hbr.blk X2.out
            have CR := blk_cell XR
            have LB : w.heap.size < wr.heap.size := blk_lt XR
            have HBR := Lib.hid hbr; clear hbr hul XR C2
            by_cases hlt : k < y.q.list.length
            · obtain ⟨a', c', e1, _, _, hcell⟩ := HQ.out
              cases e1
              obtain ⟨bq, off, rfl, hj'⟩ := hcell k hlt
              have c0 : wr.cell? ⟨bq, off + k * 6, none⟩ = some (.int .i64 y.q.list[k].mark) := HBR.out.cell' (hj' 0 _ rfl)
              have c1 : wr.cell? ⟨bq, off + k * 6 + 1, none⟩ = some (.int .i64 y.q.list[k].op.kind) := HBR.out.cell' (hj' 1 _ rfl)
              have c2 : wr.cell? ⟨bq, off + k * 6 + 2, none⟩ = some (.int .i64 y.q.list[k].op.pos) := HBR.out.cell' (hj' 2 _ rfl)
              have c3 : wr.cell? ⟨bq, off + k * 6 + 3, none⟩ = some (.int .u8 y.q.list[k].op.ch) := HBR.out.cell' (hj' 3 _ rfl)
              have c4 : wr.cell? ⟨bq, off + k * 6 + 4, none⟩ = some (.int .i64 y.q.list[k].op.client) := HBR.out.cell' (hj' 4 _ rfl)
              have c5 : wr.cell? ⟨bq, off + k * 6 + 5, none⟩ = some (.int .i64 y.q.list[k].op.seq) := HBR.out.cell' (hj' 5 _ rfl)
              have HST := Lib.hid (unseen_take tag y.q.list k hlt)
              clear hj' hcell
              generalize y.q.list[k] = m at *
              by_cases hm : tag < m.mark
              · go_wp2_with fail
                refine (grown_any m.op _).mono ?_
                rintro r w3 ⟨rfl, hb3⟩
                have hg := grown_le m.op
                have HB3 := Lib.hid hb3; clear hb3
                go_wp2
                go_round
                case rel => exact ⟨k + 1, by omega, by go_num, by rw [HST.out, if_pos hm]; simp only [Int.sub_sub], (HBR.out.new _).then_ HB3.out⟩
                case measure => simp [intOf]; omega
              · go_wp2
                go_round
                case rel => exact ⟨k + 1, by omega, by go_num, by rw [HST.out, if_neg hm]; simp, HBR.out.new _⟩
                case measure => simp [intOf]; omega
            · obtain rfl : k = y.q.list.length := by omega
              rw [List.take_length] at *
              go_wp2_with fail
              refine (fits_any _ ⟨kind, pos, ch, j, y.seq + 1⟩ _ hc).mono ?_
              rintro r w3 ⟨rfl, hb3⟩
              by_cases hf : fits (σ.length - unseen tag y.q.list) ⟨kind, pos, ch, j, y.seq + 1⟩ = 0
              · have hf' : (fits (σ.length - unseen tag y.q.list) ⟨kind, pos, ch, j, y.seq + 1⟩ != 0) = false := by simp [hf]
                have HR := Lib.hid (HC3.out.trans (if_neg (fun h => h hf))); have HB3 := Lib.hid hb3; clear hf hb3
                go_wp2
                go_ret
                exact ⟨ret_int HR.out.symm, (HBT.out.then_ HBR.out).then_ HB3.out⟩
              · have hf' : (fits (σ.length - unseen tag y.q.list) ⟨kind, pos, ch, j, y.seq + 1⟩ != 0) = true := by simp [hf]
                have HR := Lib.hid (HC3.out.trans (if_pos hf)); have HB3 := Lib.hid hb3; clear hf hb3
                go_wp2
                go_ret
                exact ⟨ret_int HR.out.symm, (HBT.out.then_ HBR.out).then_ HB3.out⟩
    · have HR := Lib.hid (HC1.out.trans (if_pos h2)); clear HC1
      go_wp2
      go_ret
      exact ⟨ret_int HR.out.symm, by ((repeat' (first | with_reducible refine Below.drewN ?_ _ | with_reducible refine Below.drew ?_ | with_reducible refine Below.new ?_ _)) <;> with_reducible exact HB.out)⟩

set_option maxRecDepth 100000 in
set_option maxHeartbeats 3200000 in
theorem check_any (pb : Nat) (ρ : BookL) (σ : BookS) (w : World) (h : BookAt w pb ρ σ) (ok : BookOk σ) (e : Edt) (hc : 0 ≤ e.op.ch ∧ e.op.ch ≤ 255) :
    Calls Tryd.prog 36 #[.pointer (some ⟨pb, 0, none⟩), e.val] w fun r w' => r = .returned (.int .i64 (σ.check e)) ∧ Below w.heap.size w w' := by
  have hp := h.hp
  have C := blk_cell hp
  have LP := blk_lt hp
  obtain ⟨aE, cE, hvE, _⟩ := h.hE.len
  rw [hvE] at C
  have H := Lib.hid h; have OK := Lib.hid ok; have HP := Lib.hid hp
  clear h ok hp hvE
  by_cases he : σ.epoch = 0
  · have HEQ := Lib.hid (show σ.check e = 125 by unfold BookS.check; rw [if_pos he])
    go_enter Tryd.func36, Tryd.ntmps36
    go_wp2
    go_ret
    exact ⟨ret_int HEQ.out.symm, (Below.refl _ _).new _⟩
  · by_cases hv : valid e.op = 0
    · by_cases hk : e.op.kind = 0
      · have HEQ := Lib.hid (show σ.check e = 122 by unfold BookS.check; rw [if_neg he, if_neg (fun h => h hv), if_pos hk])
        have hv' : (valid e.op != 0) = false := by simp [hv]
        have HV := Lib.hid hv; have HKK := Lib.hid hk; clear hv hk
        go_enter Tryd.func36, Tryd.ntmps36
        go_wp2_with fail
        refine (valid_any e.op _ hc).mono ?_
        rintro r w1 ⟨rfl, hb⟩
        have hk := HKK.out
        have x0 := hb.blk (blk_new _ _)
        have C0 := blk_cell x0
        have HB := Lib.hid hb; clear hb x0
        go_wp2
        go_ret
        exact ⟨ret_int HEQ.out.symm, ((Below.refl _ _).new _).then_ HB.out⟩
      · obtain ⟨tag, kind, pos, ch, client, seq⟩ := e
        obtain ⟨h1, h2, h3, h4⟩ := valid_who hv
        obtain ⟨j, rfl⟩ : ∃ j : Nat, client = j := ⟨client.toNat, by simp at h1; omega⟩
        exact check_main pb ρ σ w H.out OK.out tag kind pos ch seq j hc he hv hk (by simp at h1 h2; omega) ⟨h3, h4⟩
    · have HEQ := Lib.hid (show σ.check e = valid e.op by unfold BookS.check; rw [if_neg he, if_pos hv])
      have hv' : (valid e.op != 0) = true := by simp [hv]
      have HV := Lib.hid hv; clear hv
      go_enter Tryd.func36, Tryd.ntmps36
      go_wp2_with fail
      refine (valid_any e.op _ hc).mono ?_
      rintro r w1 ⟨rfl, hb⟩
      have HB := Lib.hid hb; clear hb
      go_wp2
      go_ret
      exact ⟨ret_int HEQ.out.symm, ((Below.refl _ _).new _).then_ HB.out⟩
end Go.Proofs.YtjeidklpomekdaaDoor

/- The book: take: its words. -/
namespace Go.Proofs.YtjeidklpomekdaaDoor
open Go.RowKit

def takeQ (h : HandS) (e : Edt) : SpaceS := h.q.dropTo e.tag
def takeDone (h : HandS) (e : Edt) : Opr := (past (takeQ h e).first e.op (ops (takeQ h e).list)).1
/-- The hands below k other than c have kept a record. -/
def keptTo (n : Int) (d : Opr) (c k : Nat) (hs : List HandS) : List HandS := hs.mapIdx fun i y => if i < k ∧ i ≠ c then { y with q := y.q.keep n d } else y
theorem keptTo_len (n : Int) (d : Opr) (c k : Nat) (hs : List HandS) : (keptTo n d c k hs).length = hs.length := by simp [keptTo]
theorem keptTo_get (n : Int) (d : Opr) (c k : Nat) (hs : List HandS) (i : Nat) (h : i < (keptTo n d c k hs).length) : (keptTo n d c k hs)[i] = if i < k ∧ i ≠ c then { hs[i]'(by simpa [keptTo] using h) with q := (hs[i]'(by simpa [keptTo] using h)).q.keep n d } else hs[i]'(by simpa [keptTo] using h) := by simp [keptTo]
theorem keptTo_zero (n : Int) (d : Opr) (c : Nat) (hs : List HandS) : keptTo n d c 0 hs = hs := by
  apply List.ext_getElem (by simp [keptTo]); intro i h1 h2; simp [keptTo]
theorem keptTo_own (n : Int) (d : Opr) (c : Nat) (hs : List HandS) : keptTo n d c (c + 1) hs = keptTo n d c c hs := by
  apply List.ext_getElem (by simp [keptTo]); intro i h1 h2
  rw [keptTo_get, keptTo_get]
  have : (i < c + 1 ∧ i ≠ c) ↔ (i < c ∧ i ≠ c) := by omega
  simp only [this]
theorem keptTo_step (n : Int) (d : Opr) (c k : Nat) (hs : List HandS) (hk : k ≠ c) (hkl : k < (keptTo n d c k hs).length) : (keptTo n d c k hs).set k { (keptTo n d c k hs)[k] with q := (keptTo n d c k hs)[k].q.keep n d } = keptTo n d c (k + 1) hs := by
  apply List.ext_getElem (by simp [keptTo]); intro i h1 h2
  rw [List.getElem_set]
  by_cases e : k = i
  · subst e
    simp [keptTo_get, hk]
  · have : (i < k + 1 ∧ i ≠ c) ↔ (i < k ∧ i ≠ c) := by omega
    simp only [if_neg e, keptTo_get, this]
theorem keptTo_at (n : Int) (d : Opr) (c k : Nat) (hs : List HandS) (hkl : k < (keptTo n d c k hs).length) : (keptTo n d c k hs)[k] = hs[k]'(by simpa [keptTo] using hkl) := by
  rw [keptTo_get]; simp
def BookS.take (σ : BookS) (e : Edt) : BookS :=
  { epoch := σ.epoch
    edited := σ.edited ++ [(σ.edits.length : Int) + 1]
    edits := σ.edits ++ [e]
    done := σ.done ++ [takeDone (σ.hand e.op.client) e]
    length := σ.length + grown (takeDone (σ.hand e.op.client) e)
    hands := keptTo ((σ.edits.length : Int) + 1) (takeDone (σ.hand e.op.client) e) e.op.client.toNat 65 (σ.hands.set e.op.client.toNat ⟨e.op.seq, e.tag, (takeQ (σ.hand e.op.client) e).cross e.op⟩)
    nk := σ.nk + 1
    keys := fun c s => (c = e.op.client ∧ s = e.op.seq) ∨ σ.keys c s }

theorem not_foot {w : World} {pb : Nat} {ρ : BookL} {σ : BookS} (h : BookAt w pb ρ σ) {k : Nat} (hk : w.heap.size ≤ k) : k ∉ ρ.foot pb := fun hf => by
  obtain ⟨l, hl, hkl⟩ := BookL.mem_foot.1 hf
  have := h.lt l hl k hkl; omega

theorem BStep.notin {w w' : World} {pb k : Nat} {ρ ρ' : BookL} (h : BStep w w' pb ρ ρ') (hk : k ∉ ρ.foot pb) (hlt : k < w.heap.size) : k ∉ ρ'.foot pb := fun hf => (h.fresh k hf).elim hk (fun h' => by omega)
/-- .. and the done form lies boxed at s5. -/
def TSt3 (W1 : World) (pb : Nat) (ρ0 : BookL) (j hb : Nat) (σ' : BookS) (d : Opr) (s5 : Value) (wx : World) : Prop :=
  ∃ ρ' b5, s5 = .pointer (some ⟨b5, 0, none⟩) ∧ wx.heap[b5]? = some (.cells #[.int .i64 d.kind, .int .i64 d.pos, .int .u8 d.ch, .int .i64 d.client, .int .i64 d.seq] 46 (0, 0)) ∧ b5 ∉ ρ'.foot pb ∧ BookAt wx pb ρ' σ' ∧ BStep W1 wx pb ρ0 ρ' ∧ ∃ h : j < ρ'.hl.length, ρ'.hl[j].hb = hb
theorem TSt3.fin {W1 w3 wx : World} {pb j hb b5 : Nat} {ρ0 ρ3 : BookL} {σ' : BookS} {d : Opr} (h : BookAt w3 pb ρ3 σ') (hs : BStep W1 w3 pb ρ0 ρ3) (hj : ∃ h : j < ρ3.hl.length, ρ3.hl[j].hb = hb) (hx : wx.heap[b5]? = some (.cells #[.int .i64 d.kind, .int .i64 d.pos, .int .u8 d.ch, .int .i64 d.client, .int .i64 d.seq] 46 (0, 0)))
    (hm : Mod [b5] w3 wx) (hn : b5 ∉ ρ3.foot pb) (hge : W1.heap.size ≤ b5) : TSt3 W1 pb ρ0 j hb σ' d (.pointer (some ⟨b5, 0, none⟩)) wx :=
  ⟨ρ3, b5, rfl, hx, hn, h.mod hm (fun l hl k hk hk' => hn (by rw [List.mem_singleton] at hk'; exact hk' ▸ BookL.mem_foot.2 ⟨l, hl, hk⟩)), ⟨hs.mod.trans hm (fun k hk => Or.inr (by rw [List.mem_singleton] at hk; omega)), hs.fresh⟩, hj⟩
/-- How far take has come: the book is σ' by now; hand j lies where it lay. -/
def TSt (W1 : World) (pb : Nat) (ρ0 : BookL) (j hb : Nat) (σ' : BookS) (wx : World) : Prop := ∃ ρ', BookAt wx pb ρ' σ' ∧ BStep W1 wx pb ρ0 ρ' ∧ ∃ h : j < ρ'.hl.length, ρ'.hl[j].hb = hb

theorem BookAt.toT {W1 w w' : World} {pb j hb : Nat} {ρ0 ρ ρ' : BookL} {σ' : BookS} (h : BookAt w' pb ρ' σ' ∧ BStep w w' pb ρ ρ') (hs : BStep W1 w pb ρ0 ρ) (hj : ∃ h : j < ρ'.hl.length, ρ'.hl[j].hb = hb) : TSt W1 pb ρ0 j hb σ' w' := ⟨ρ', h.1, hs.trans h.2, hj⟩

/-- The boxed edit. -/
abbrev ebox (tag kind pos ch : Int) (j : Nat) (seq : Int) : Obj := .cells #[.int .i64 tag, .int .i64 kind, .int .i64 pos, .int .u8 ch, .int .i64 j, .int .i64 seq] 48 (0, 0)

/-- The boxed operation. -/
abbrev obox (d : Opr) : Obj := .cells #[.int .i64 d.kind, .int .i64 d.pos, .int .u8 d.ch, .int .i64 d.client, .int .i64 d.seq] 46 (0, 0)

/-- The region of a function's body that has this number. -/
def findReg (n : Nat) : Code → Option Code
  | .region m o b => if m = n then some (.region m o b) else none
  | .seq a b => match findReg n a with
    | some c => some c
    | none => findReg n b
  | .block _ c => findReg n c
  | .scope c => findReg n c
  | .loop c => findReg n c
  | .cond _ a b => match findReg n a with
    | some c => some c
    | none => findReg n b
  | _ => none
noncomputable def takeReg (n : Nat) : Code := ((Tryd.f37.body.bind (findReg n)).getD .skip)

theorem take_r3c {w wd w3 : World} {pb hb j : Nat} {ρ : BookL} {σ : BookS} {S : SpaceS} (h : BookAt w pb ρ σ) (hb1 : Below w.heap.size w wd) (hjl : j < ρ.hl.length) (hjs : j < σ.hands.length) (hhb : ρ.hl[j].hb = hb)
    (hs : SpaceAt w3 ρ.hl[j].sb S ρ.hl[j].L) (hm : Mod ρ.hl[j].L wd w3) :
    BookAt w3 pb { ρ with hl := ρ.hl.set j ⟨ρ.hl[j].hb, ρ.hl[j].sb, ρ.hl[j].L⟩ } { σ with hands := σ.hands.set j { σ.hands[j] with q := S } } ∧ BStep w w3 pb ρ { ρ with hl := ρ.hl.set j ⟨ρ.hl[j].hb, ρ.hl[j].sb, ρ.hl[j].L⟩ } ∧ BStep wd w3 pb ρ { ρ with hl := ρ.hl.set j ⟨ρ.hl[j].hb, ρ.hl[j].sb, ρ.hl[j].L⟩ }
      ∧ ∃ h : j < ({ ρ with hl := ρ.hl.set j ⟨ρ.hl[j].hb, ρ.hl[j].sb, ρ.hl[j].L⟩ } : BookL).hl.length, ({ ρ with hl := ρ.hl.set j ⟨ρ.hl[j].hb, ρ.hl[j].sb, ρ.hl[j].L⟩ } : BookL).hl[j].hb = hb := by
  obtain ⟨a, b⟩ := (h.below hb1).setSpace j hjl hjs hs hm (Fresh.refl _ _)
  exact ⟨a, (BStep.below hb1 pb ρ).trans b, b, by simpa using hjl, by simpa using hhb⟩
theorem take_r3a {w w3 : World} {pb hb j : Nat} {ρ : BookL} {σ : BookS} {S : SpaceS} {d : Opr} (h : BookAt w pb ρ σ) (hjl : j < ρ.hl.length) (hjs : j < σ.hands.length) (hhb : ρ.hl[j].hb = hb)
    (hs : SpaceAt w3 ρ.hl[j].sb S ρ.hl[j].L) (hm : Mod ρ.hl[j].L w.drew w3) : TSt3 w pb ρ j hb { σ with hands := σ.hands.set j { σ.hands[j] with q := S } } d (.pointer (some ⟨w3.heap.size, 0, none⟩)) (w3.alloc (obox d)) := by
  obtain ⟨a, b, _, c⟩ := take_r3c h (Below.refl _ _).drew hjl hjs hhb hs hm
  exact TSt3.fin a b c (blk_new _ _) (Mod.alloc _ _ _) (not_foot a (Nat.le_refl _)) b.mod.size
theorem take_r3b {w w3 : World} {pb hb j : Nat} {ρ : BookL} {σ : BookS} {S : SpaceS} {d d0 : Opr} (h : BookAt w pb ρ σ) (hjl : j < ρ.hl.length) (hjs : j < σ.hands.length) (hhb : ρ.hl[j].hb = hb)
    (hs : SpaceAt w3 ρ.hl[j].sb S ρ.hl[j].L) (hm : Mod ρ.hl[j].L (w.drew.alloc (obox d0)) w3) (x5 : w3.heap[w.heap.size]? = some (obox d0)) :
    TSt3 w pb ρ j hb { σ with hands := σ.hands.set j { σ.hands[j] with q := S } } d (.pointer (some ⟨w.heap.size, 0, none⟩)) (((((w3.setCell ⟨w.heap.size, 0, none⟩ (.int .i64 d.kind)).setCell ⟨w.heap.size, 1, none⟩ (.int .i64 d.pos)).setCell ⟨w.heap.size, 2, none⟩ (.int .u8 d.ch)).setCell ⟨w.heap.size, 3, none⟩ (.int .i64 d.client)).setCell ⟨w.heap.size, 4, none⟩ (.int .i64 d.seq)) := by
  obtain ⟨a, b, b2, c⟩ := take_r3c h ((Below.refl _ _).drew.new _) hjl hjs hhb hs hm
  exact TSt3.fin a b c (set5 x5 rfl _ _ _ _ _) (Mod.set5 _ _ _ _ _ _ _) (b2.notin (not_foot h (Nat.le_refl _)) (by simp)) (Nat.le_refl _)
end Go.Proofs.YtjeidklpomekdaaDoor

/- The book: take, region 2. -/
namespace Go.Proofs.YtjeidklpomekdaaDoor
open Go.RowKit

set_option maxRecDepth 100000 in
set_option maxHeartbeats 3200000 in
theorem take_r2 {u1 u2 u5 u6 u7 u8 u9 u10 u11 u12 u13 u14 u15 u16 u17 u18 u19 u20 u21 u22 u23 u24 u25 u26 u27 u28 u29 u30 u31 u32 u33 u34 u35 u36 u37 u38 u39 u40 u41 u42 u43 u44 u45 u46 u47 u48 u49 u50 u51 u52 u53 u54 u55 u56 u57 u58 u59 u60 u61 u62 u63 u64 u65 u66 u67 u68 u69 u70 u71 u72 u73 u74 u75 u76 u77 u78 u79 u80 u81 u82 u83 u84 u85 u86 u87 u88 u89 u90 u91 u92 u93 u94 u95 u96 u97 u98 u99 u100 u101 u102 u103 u104 u105 u106 u107 u108 u109 u110 u111 u112 u113 u114 u115 u116 u117 u118 u119 u120 u121 u122 u123 u124 u125 u126 u127 u128 u129 u130 u131 u132 u133 u134 u135 : Value} (pb b3 hb : Nat) (ρ : BookL) (σ : BookS) (w : World) (h : BookAt w pb ρ σ) (tag kind pos ch seq : Int) (j : Nat) (hx3 : w.heap[b3]? = some (ebox tag kind pos ch j seq)) (hn3 : b3 ∉ ρ.foot pb) (hjl : j < ρ.hl.length) (hjs : j < σ.hands.length) (hhb : ρ.hl[j].hb = hb) (ht : 0 ≤ tag ∧ tag ≤ 4096) (hq : σ.hands[j].q.list.length ≤ 4096) (K : Act → World → Prop) (Post : Ending → World → Prop)
    (hK : ∀ (v18 v19 v20 v21 v22 v23 v24 v25 v26 : Value) (w' : World), TSt w pb ρ j hb ({ σ with hands := σ.hands.set j { σ.hands[j] with q := σ.hands[j].q.dropTo tag } }) w' → K ⟨List.toArray (.pointer (some ⟨pb, 0, none⟩) :: u1 :: u2 :: .pointer (some ⟨b3, 0, none⟩) :: .pointer (some ⟨hb, 0, none⟩) :: u5 :: u6 :: u7 :: u8 :: u9 :: u10 :: u11 :: u12 :: u13 :: u14 :: u15 :: u16 :: u17 :: v18 :: v19 :: v20 :: v21 :: v22 :: v23 :: v24 :: v25 :: v26 :: u27 :: u28 :: u29 :: u30 :: u31 :: u32 :: u33 :: u34 :: u35 :: u36 :: u37 :: u38 :: u39 :: u40 :: u41 :: u42 :: u43 :: u44 :: u45 :: u46 :: u47 :: u48 :: u49 :: u50 :: u51 :: u52 :: u53 :: u54 :: u55 :: u56 :: u57 :: u58 :: u59 :: u60 :: u61 :: u62 :: u63 :: u64 :: u65 :: u66 :: u67 :: u68 :: u69 :: u70 :: u71 :: u72 :: u73 :: u74 :: u75 :: u76 :: u77 :: u78 :: u79 :: u80 :: u81 :: u82 :: u83 :: u84 :: u85 :: u86 :: u87 :: u88 :: u89 :: u90 :: u91 :: u92 :: u93 :: u94 :: u95 :: u96 :: u97 :: u98 :: u99 :: u100 :: u101 :: u102 :: u103 :: u104 :: u105 :: u106 :: u107 :: u108 :: u109 :: u110 :: u111 :: u112 :: u113 :: u114 :: u115 :: u116 :: u117 :: u118 :: u119 :: u120 :: u121 :: u122 :: u123 :: u124 :: u125 :: u126 :: u127 :: u128 :: u129 :: u130 :: u131 :: u132 :: u133 :: u134 :: u135 :: []), []⟩ w') :
    Code.wp Tryd.prog (takeReg 2) (Exit.then K (bodyPost Tryd.prog Tryd.f37 Post)) ⟨List.toArray (.pointer (some ⟨pb, 0, none⟩) :: u1 :: u2 :: .pointer (some ⟨b3, 0, none⟩) :: .pointer (some ⟨hb, 0, none⟩) :: u5 :: u6 :: u7 :: u8 :: u9 :: u10 :: u11 :: u12 :: u13 :: u14 :: u15 :: u16 :: u17 :: u18 :: u19 :: u20 :: u21 :: u22 :: u23 :: u24 :: u25 :: u26 :: u27 :: u28 :: u29 :: u30 :: u31 :: u32 :: u33 :: u34 :: u35 :: u36 :: u37 :: u38 :: u39 :: u40 :: u41 :: u42 :: u43 :: u44 :: u45 :: u46 :: u47 :: u48 :: u49 :: u50 :: u51 :: u52 :: u53 :: u54 :: u55 :: u56 :: u57 :: u58 :: u59 :: u60 :: u61 :: u62 :: u63 :: u64 :: u65 :: u66 :: u67 :: u68 :: u69 :: u70 :: u71 :: u72 :: u73 :: u74 :: u75 :: u76 :: u77 :: u78 :: u79 :: u80 :: u81 :: u82 :: u83 :: u84 :: u85 :: u86 :: u87 :: u88 :: u89 :: u90 :: u91 :: u92 :: u93 :: u94 :: u95 :: u96 :: u97 :: u98 :: u99 :: u100 :: u101 :: u102 :: u103 :: u104 :: u105 :: u106 :: u107 :: u108 :: u109 :: u110 :: u111 :: u112 :: u113 :: u114 :: u115 :: u116 :: u117 :: u118 :: u119 :: u120 :: u121 :: u122 :: u123 :: u124 :: u125 :: u126 :: u127 :: u128 :: u129 :: u130 :: u131 :: u132 :: u133 :: u134 :: u135 :: []), []⟩ w := by
  conv => arg 2; whnf

  obtain ⟨aI, cI, aE, cE, aD, cD, gH, cH, V⟩ := h.view j hjl hjs
  have hx := V.hx
  rw [hhb] at hx
  have C0 := blk_cell hx3; have CX := blk_cell hx
  have LB := blk_lt hx3; have LX := blk_lt hx
  have H := Lib.hid h; have X3 := Lib.hid hx3; have N3 := Lib.hid hn3; have HHB := Lib.hid hhb; have VV := Lib.hid V; have HX := Lib.hid hx
  clear h hx3 hn3 hhb V hx
  go_region_with (go_at_call 47; refine (dropTo_any ρ.hl[j].sb σ.hands[j].q ρ.hl[j].L tag _ (by exact VV.out.hs.mod (Mod.of_below (L := []) (by ((repeat' (first | with_reducible refine Below.drewN ?_ _ | with_reducible refine Below.drew ?_ | with_reducible refine Below.new ?_ _)) <;> with_reducible exact Below.refl _ _))) (by simp)) (by omega)).mono ?_; rintro e w2 ⟨rfl, L2, hs2, hm2, hf2⟩; have HS2 := Lib.hid hs2; have HM2 := Lib.hid hm2; have HF2 := Lib.hid hf2; clear hs2 hm2 hf2)
  all_goals
    refine hK _ _ _ _ _ _ _ _ _ _ ?_
    exact BookAt.toT ((H.out.below (by ((repeat' (first | with_reducible refine Below.drewN ?_ _ | with_reducible refine Below.drew ?_ | with_reducible refine Below.new ?_ _)) <;> with_reducible exact Below.refl _ _))).setSpace j hjl hjs HS2.out HM2.out HF2.out) (BStep.below (by ((repeat' (first | with_reducible refine Below.drewN ?_ _ | with_reducible refine Below.drew ?_ | with_reducible refine Below.new ?_ _)) <;> with_reducible exact Below.refl _ _)) _ _) ⟨by simp; exact hjl, by simp; exact HHB.out⟩

end Go.Proofs.YtjeidklpomekdaaDoor

/- The book: take, region 3. -/
namespace Go.Proofs.YtjeidklpomekdaaDoor
open Go.RowKit

set_option maxRecDepth 100000 in
set_option maxHeartbeats 3200000 in
theorem take_r3 {u1 u2 u5 u6 u7 u8 u9 u10 u11 u12 u13 u14 u15 u16 u17 u18 u19 u20 u21 u22 u23 u24 u25 u26 u27 u28 u29 u30 u31 u32 u33 u34 u35 u36 u37 u38 u39 u40 u41 u42 u43 u44 u45 u46 u47 u48 u49 u50 u51 u52 u53 u54 u55 u56 u57 u58 u59 u60 u61 u62 u63 u64 u65 u66 u67 u68 u69 u70 u71 u72 u73 u74 u75 u76 u77 u78 u79 u80 u81 u82 u83 u84 u85 u86 u87 u88 u89 u90 u91 u92 u93 u94 u95 u96 u97 u98 u99 u100 u101 u102 u103 u104 u105 u106 u107 u108 u109 u110 u111 u112 u113 u114 u115 u116 u117 u118 u119 u120 u121 u122 u123 u124 u125 u126 u127 u128 u129 u130 u131 u132 u133 u134 u135 : Value} (pb b3 hb : Nat) (ρ : BookL) (σ : BookS) (w : World) (h : BookAt w pb ρ σ) (tag kind pos ch seq : Int) (j : Nat) (hx3 : w.heap[b3]? = some (ebox tag kind pos ch j seq)) (hn3 : b3 ∉ ρ.foot pb) (hjl : j < ρ.hl.length) (hjs : j < σ.hands.length) (hhb : ρ.hl[j].hb = hb) (hc : 0 ≤ ch ∧ ch ≤ 255) (hv : valid ⟨kind, pos, ch, j, seq⟩ = 0) (hR : Rules w) (hq : σ.hands[j].q.list.length ≤ 4096) (K : Act → World → Prop) (Post : Ending → World → Prop)
    (hK : ∀ (v5 v6 v27 v28 v29 v30 v31 v32 v33 v34 v35 v36 : Value) (w' : World), TSt3 w pb ρ j hb ({ σ with hands := σ.hands.set j { σ.hands[j] with q := σ.hands[j].q.cross ⟨kind, pos, ch, j, seq⟩ } }) (past σ.hands[j].q.first ⟨kind, pos, ch, j, seq⟩ (ops σ.hands[j].q.list)).1 v5 w' → K ⟨List.toArray (.pointer (some ⟨pb, 0, none⟩) :: u1 :: u2 :: .pointer (some ⟨b3, 0, none⟩) :: .pointer (some ⟨hb, 0, none⟩) :: v5 :: v6 :: u7 :: u8 :: u9 :: u10 :: u11 :: u12 :: u13 :: u14 :: u15 :: u16 :: u17 :: u18 :: u19 :: u20 :: u21 :: u22 :: u23 :: u24 :: u25 :: u26 :: v27 :: v28 :: v29 :: v30 :: v31 :: v32 :: v33 :: v34 :: v35 :: v36 :: u37 :: u38 :: u39 :: u40 :: u41 :: u42 :: u43 :: u44 :: u45 :: u46 :: u47 :: u48 :: u49 :: u50 :: u51 :: u52 :: u53 :: u54 :: u55 :: u56 :: u57 :: u58 :: u59 :: u60 :: u61 :: u62 :: u63 :: u64 :: u65 :: u66 :: u67 :: u68 :: u69 :: u70 :: u71 :: u72 :: u73 :: u74 :: u75 :: u76 :: u77 :: u78 :: u79 :: u80 :: u81 :: u82 :: u83 :: u84 :: u85 :: u86 :: u87 :: u88 :: u89 :: u90 :: u91 :: u92 :: u93 :: u94 :: u95 :: u96 :: u97 :: u98 :: u99 :: u100 :: u101 :: u102 :: u103 :: u104 :: u105 :: u106 :: u107 :: u108 :: u109 :: u110 :: u111 :: u112 :: u113 :: u114 :: u115 :: u116 :: u117 :: u118 :: u119 :: u120 :: u121 :: u122 :: u123 :: u124 :: u125 :: u126 :: u127 :: u128 :: u129 :: u130 :: u131 :: u132 :: u133 :: u134 :: u135 :: []), []⟩ w') :
    Code.wp Tryd.prog (takeReg 3) (Exit.then K (bodyPost Tryd.prog Tryd.f37 Post)) ⟨List.toArray (.pointer (some ⟨pb, 0, none⟩) :: u1 :: u2 :: .pointer (some ⟨b3, 0, none⟩) :: .pointer (some ⟨hb, 0, none⟩) :: u5 :: u6 :: u7 :: u8 :: u9 :: u10 :: u11 :: u12 :: u13 :: u14 :: u15 :: u16 :: u17 :: u18 :: u19 :: u20 :: u21 :: u22 :: u23 :: u24 :: u25 :: u26 :: u27 :: u28 :: u29 :: u30 :: u31 :: u32 :: u33 :: u34 :: u35 :: u36 :: u37 :: u38 :: u39 :: u40 :: u41 :: u42 :: u43 :: u44 :: u45 :: u46 :: u47 :: u48 :: u49 :: u50 :: u51 :: u52 :: u53 :: u54 :: u55 :: u56 :: u57 :: u58 :: u59 :: u60 :: u61 :: u62 :: u63 :: u64 :: u65 :: u66 :: u67 :: u68 :: u69 :: u70 :: u71 :: u72 :: u73 :: u74 :: u75 :: u76 :: u77 :: u78 :: u79 :: u80 :: u81 :: u82 :: u83 :: u84 :: u85 :: u86 :: u87 :: u88 :: u89 :: u90 :: u91 :: u92 :: u93 :: u94 :: u95 :: u96 :: u97 :: u98 :: u99 :: u100 :: u101 :: u102 :: u103 :: u104 :: u105 :: u106 :: u107 :: u108 :: u109 :: u110 :: u111 :: u112 :: u113 :: u114 :: u115 :: u116 :: u117 :: u118 :: u119 :: u120 :: u121 :: u122 :: u123 :: u124 :: u125 :: u126 :: u127 :: u128 :: u129 :: u130 :: u131 :: u132 :: u133 :: u134 :: u135 :: []), []⟩ w := by
  conv => arg 2; whnf

  obtain ⟨aI, cI, aE, cE, aD, cD, gH, cH, V⟩ := h.view j hjl hjs
  have hx := V.hx
  rw [hhb] at hx
  have C0 := blk_cell hx3; have CX := blk_cell hx
  have LB := blk_lt hx3; have LX := blk_lt hx
  have hnb : w.heap.size ∉ ρ.hl[j].L := fun h => by have := V.hs.lt _ h; omega
  have H := Lib.hid h; have X3 := Lib.hid hx3; have N3 := Lib.hid hn3; have HHB := Lib.hid hhb; have SP := Lib.hid V.hs; have HX := Lib.hid hx; have HV := Lib.hid hv; have HR := Lib.hid hR; have NB := Lib.hid hnb
  clear h hx3 hn3 hhb V hx hv hR hnb
  go_region_with (go_at_call 48; refine (cross_any ρ.hl[j].sb σ.hands[j].q ρ.hl[j].L ⟨kind, pos, ch, j, seq⟩ _ (by exact SP.out.mod (Mod.of_below (L := []) (by ((repeat' (first | with_reducible refine Below.drewN ?_ _ | with_reducible refine Below.drew ?_ | with_reducible refine Below.new ?_ _)) <;> with_reducible exact Below.refl _ _))) (by simp)) (by exact HR.out.below (by ((repeat' (first | with_reducible refine Below.drewN ?_ _ | with_reducible refine Below.drew ?_ | with_reducible refine Below.new ?_ _)) <;> with_reducible exact Below.refl _ _))) hc HV.out (by omega)).mono ?_; rintro e w3 ⟨rfl, hs3, hm3⟩; (try (have x5 := hm3.blk (b := w.heap.size) NB.out (blk_new w.drew _); have C5 := blk_cell x5; have F5 := blk_free x5; have X5 := Lib.hid x5; clear x5)); have HS3 := Lib.hid hs3; have HM3 := Lib.hid hm3; clear hs3 hm3)
  all_goals
    refine hK _ _ _ _ _ _ _ _ _ _ _ _ _ ?_
    first
    | exact take_r3b (d0 := ⟨0, 0, 0, 0, 0⟩) H.out hjl hjs HHB.out HS3.out HM3.out X5.out
    | exact take_r3a H.out hjl hjs HHB.out HS3.out HM3.out

end Go.Proofs.YtjeidklpomekdaaDoor

/- The book: take, region 4. -/
namespace Go.Proofs.YtjeidklpomekdaaDoor
open Go.RowKit

set_option maxRecDepth 100000 in
set_option maxHeartbeats 3200000 in
theorem take_r4 {u1 u2 u5 u6 u7 u8 u9 u10 u11 u12 u13 u14 u15 u16 u17 u18 u19 u20 u21 u22 u23 u24 u25 u26 u27 u28 u29 u30 u31 u32 u33 u34 u35 u36 u37 u38 u39 u40 u41 u42 u43 u44 u45 u46 u47 u48 u49 u50 u51 u52 u53 u54 u55 u56 u57 u58 u59 u60 u61 u62 u63 u64 u65 u66 u67 u68 u69 u70 u71 u72 u73 u74 u75 u76 u77 u78 u79 u80 u81 u82 u83 u84 u85 u86 u87 u88 u89 u90 u91 u92 u93 u94 u95 u96 u97 u98 u99 u100 u101 u102 u103 u104 u105 u106 u107 u108 u109 u110 u111 u112 u113 u114 u115 u116 u117 u118 u119 u120 u121 u122 u123 u124 u125 u126 u127 u128 u129 u130 u131 u132 u133 u134 u135 : Value} (pb b3 hb : Nat) (ρ : BookL) (σ : BookS) (w : World) (h : BookAt w pb ρ σ) (tag kind pos ch seq : Int) (j : Nat) (hx3 : w.heap[b3]? = some (ebox tag kind pos ch j seq)) (hn3 : b3 ∉ ρ.foot pb) (hjl : j < ρ.hl.length) (hjs : j < σ.hands.length) (hhb : ρ.hl[j].hb = hb) (K : Act → World → Prop) (Post : Ending → World → Prop)
    (hK : ∀ (v37 v38 v39 v40 v41 v42 v43 v44 v45 v46 v47 : Value) (w' : World), TSt w pb ρ j hb ({ σ with hands := σ.hands.set j ⟨seq, tag, σ.hands[j].q⟩ }) w' → K ⟨List.toArray (.pointer (some ⟨pb, 0, none⟩) :: u1 :: u2 :: .pointer (some ⟨b3, 0, none⟩) :: .pointer (some ⟨hb, 0, none⟩) :: u5 :: u6 :: u7 :: u8 :: u9 :: u10 :: u11 :: u12 :: u13 :: u14 :: u15 :: u16 :: u17 :: u18 :: u19 :: u20 :: u21 :: u22 :: u23 :: u24 :: u25 :: u26 :: u27 :: u28 :: u29 :: u30 :: u31 :: u32 :: u33 :: u34 :: u35 :: u36 :: v37 :: v38 :: v39 :: v40 :: v41 :: v42 :: v43 :: v44 :: v45 :: v46 :: v47 :: u48 :: u49 :: u50 :: u51 :: u52 :: u53 :: u54 :: u55 :: u56 :: u57 :: u58 :: u59 :: u60 :: u61 :: u62 :: u63 :: u64 :: u65 :: u66 :: u67 :: u68 :: u69 :: u70 :: u71 :: u72 :: u73 :: u74 :: u75 :: u76 :: u77 :: u78 :: u79 :: u80 :: u81 :: u82 :: u83 :: u84 :: u85 :: u86 :: u87 :: u88 :: u89 :: u90 :: u91 :: u92 :: u93 :: u94 :: u95 :: u96 :: u97 :: u98 :: u99 :: u100 :: u101 :: u102 :: u103 :: u104 :: u105 :: u106 :: u107 :: u108 :: u109 :: u110 :: u111 :: u112 :: u113 :: u114 :: u115 :: u116 :: u117 :: u118 :: u119 :: u120 :: u121 :: u122 :: u123 :: u124 :: u125 :: u126 :: u127 :: u128 :: u129 :: u130 :: u131 :: u132 :: u133 :: u134 :: u135 :: []), []⟩ w') :
    Code.wp Tryd.prog (takeReg 4) (Exit.then K (bodyPost Tryd.prog Tryd.f37 Post)) ⟨List.toArray (.pointer (some ⟨pb, 0, none⟩) :: u1 :: u2 :: .pointer (some ⟨b3, 0, none⟩) :: .pointer (some ⟨hb, 0, none⟩) :: u5 :: u6 :: u7 :: u8 :: u9 :: u10 :: u11 :: u12 :: u13 :: u14 :: u15 :: u16 :: u17 :: u18 :: u19 :: u20 :: u21 :: u22 :: u23 :: u24 :: u25 :: u26 :: u27 :: u28 :: u29 :: u30 :: u31 :: u32 :: u33 :: u34 :: u35 :: u36 :: u37 :: u38 :: u39 :: u40 :: u41 :: u42 :: u43 :: u44 :: u45 :: u46 :: u47 :: u48 :: u49 :: u50 :: u51 :: u52 :: u53 :: u54 :: u55 :: u56 :: u57 :: u58 :: u59 :: u60 :: u61 :: u62 :: u63 :: u64 :: u65 :: u66 :: u67 :: u68 :: u69 :: u70 :: u71 :: u72 :: u73 :: u74 :: u75 :: u76 :: u77 :: u78 :: u79 :: u80 :: u81 :: u82 :: u83 :: u84 :: u85 :: u86 :: u87 :: u88 :: u89 :: u90 :: u91 :: u92 :: u93 :: u94 :: u95 :: u96 :: u97 :: u98 :: u99 :: u100 :: u101 :: u102 :: u103 :: u104 :: u105 :: u106 :: u107 :: u108 :: u109 :: u110 :: u111 :: u112 :: u113 :: u114 :: u115 :: u116 :: u117 :: u118 :: u119 :: u120 :: u121 :: u122 :: u123 :: u124 :: u125 :: u126 :: u127 :: u128 :: u129 :: u130 :: u131 :: u132 :: u133 :: u134 :: u135 :: []), []⟩ w := by
  conv => arg 2; whnf

  obtain ⟨aI, cI, aE, cE, aD, cD, gH, cH, V⟩ := h.view j hjl hjs
  have hx := V.hx
  rw [hhb] at hx
  have C0 := blk_cell hx3; have CX := blk_cell hx; have FX := blk_free hx
  have LB := blk_lt hx3; have LX := blk_lt hx
  have hne : b3 ≠ hb := fun e => hn3 (by rw [e, ← hhb]; exact foot_part (j + 6) (by rw [parts_len]; omega) _ (by rw [parts_get _ _ _ hjl]; simp))
  have H := Lib.hid h; have X3 := Lib.hid hx3; have N3 := Lib.hid hn3; have HHB := Lib.hid hhb; have HX := Lib.hid hx
  clear h hx3 hn3 V hx
  go_region
  all_goals
    refine hK _ _ _ _ _ _ _ _ _ _ _ _ ?_
    refine BookAt.toT ((H.out.below (Below.refl _ _).drew).setNums j hjl hjs seq tag ?_) (BStep.below (by ((repeat' (first | with_reducible refine Below.drewN ?_ _ | with_reducible refine Below.drew ?_ | with_reducible refine Below.new ?_ _)) <;> with_reducible exact Below.refl _ _)) _ _) ⟨by simp; exact hjl, by simp; exact hhb⟩
    subst hhb
    first | exact Or.inl rfl | exact Or.inr rfl

end Go.Proofs.YtjeidklpomekdaaDoor

/- The book: take, region 5. -/
namespace Go.Proofs.YtjeidklpomekdaaDoor
open Go.RowKit

set_option maxRecDepth 100000 in
set_option maxHeartbeats 3200000 in
theorem take_r5 {u1 u2 u6 u7 u8 u9 u10 u11 u12 u13 u14 u15 u16 u17 u18 u19 u20 u21 u22 u23 u24 u25 u26 u27 u28 u29 u30 u31 u32 u33 u34 u35 u36 u37 u38 u39 u40 u41 u42 u43 u44 u45 u46 u47 u48 u49 u50 u51 u52 u53 u54 u55 u56 u57 u58 u59 u60 u61 u62 u63 u64 u65 u66 u67 u68 u69 u70 u71 u72 u73 u74 u75 u76 u77 u78 u79 u80 u81 u82 u83 u84 u85 u86 u87 u88 u89 u90 u91 u92 u93 u94 u95 u96 u97 u98 u99 u100 u101 u102 u103 u104 u105 u106 u107 u108 u109 u110 u111 u112 u113 u114 u115 u116 u117 u118 u119 u120 u121 u122 u123 u124 u125 u126 u127 u128 u129 u130 u131 u132 u133 u134 u135 : Value} (pb b3 hb : Nat) (ρ : BookL) (σ : BookS) (w : World) (h : BookAt w pb ρ σ) (tag kind pos ch seq : Int) (j : Nat) (hx3 : w.heap[b3]? = some (ebox tag kind pos ch j seq)) (hn3 : b3 ∉ ρ.foot pb) (hjl : j < ρ.hl.length) (hjs : j < σ.hands.length) (hhb : ρ.hl[j].hb = hb) (b5 : Nat) (d : Opr) (hx5 : w.heap[b5]? = some (obox d)) (hn5 : b5 ∉ ρ.foot pb) (hee : σ.edits.length ≤ 10000) (hed : σ.edited.length ≤ 20000) (hdd : σ.done.length ≤ 10000) (K : Act → World → Prop) (Post : Ending → World → Prop)
    (hK : ∀ (v48 v49 v50 v51 v52 v53 v54 v55 v56 v57 : Value) (w' : World), TSt w pb ρ j hb ({ σ with edits := σ.edits ++ [⟨tag, ⟨kind, pos, ch, j, seq⟩⟩] }) w' → K ⟨List.toArray (.pointer (some ⟨pb, 0, none⟩) :: u1 :: u2 :: .pointer (some ⟨b3, 0, none⟩) :: .pointer (some ⟨hb, 0, none⟩) :: .pointer (some ⟨b5, 0, none⟩) :: u6 :: u7 :: u8 :: u9 :: u10 :: u11 :: u12 :: u13 :: u14 :: u15 :: u16 :: u17 :: u18 :: u19 :: u20 :: u21 :: u22 :: u23 :: u24 :: u25 :: u26 :: u27 :: u28 :: u29 :: u30 :: u31 :: u32 :: u33 :: u34 :: u35 :: u36 :: u37 :: u38 :: u39 :: u40 :: u41 :: u42 :: u43 :: u44 :: u45 :: u46 :: u47 :: v48 :: v49 :: v50 :: v51 :: v52 :: v53 :: v54 :: v55 :: v56 :: v57 :: u58 :: u59 :: u60 :: u61 :: u62 :: u63 :: u64 :: u65 :: u66 :: u67 :: u68 :: u69 :: u70 :: u71 :: u72 :: u73 :: u74 :: u75 :: u76 :: u77 :: u78 :: u79 :: u80 :: u81 :: u82 :: u83 :: u84 :: u85 :: u86 :: u87 :: u88 :: u89 :: u90 :: u91 :: u92 :: u93 :: u94 :: u95 :: u96 :: u97 :: u98 :: u99 :: u100 :: u101 :: u102 :: u103 :: u104 :: u105 :: u106 :: u107 :: u108 :: u109 :: u110 :: u111 :: u112 :: u113 :: u114 :: u115 :: u116 :: u117 :: u118 :: u119 :: u120 :: u121 :: u122 :: u123 :: u124 :: u125 :: u126 :: u127 :: u128 :: u129 :: u130 :: u131 :: u132 :: u133 :: u134 :: u135 :: []), []⟩ w') :
    Code.wp Tryd.prog (takeReg 5) (Exit.then K (bodyPost Tryd.prog Tryd.f37 Post)) ⟨List.toArray (.pointer (some ⟨pb, 0, none⟩) :: u1 :: u2 :: .pointer (some ⟨b3, 0, none⟩) :: .pointer (some ⟨hb, 0, none⟩) :: .pointer (some ⟨b5, 0, none⟩) :: u6 :: u7 :: u8 :: u9 :: u10 :: u11 :: u12 :: u13 :: u14 :: u15 :: u16 :: u17 :: u18 :: u19 :: u20 :: u21 :: u22 :: u23 :: u24 :: u25 :: u26 :: u27 :: u28 :: u29 :: u30 :: u31 :: u32 :: u33 :: u34 :: u35 :: u36 :: u37 :: u38 :: u39 :: u40 :: u41 :: u42 :: u43 :: u44 :: u45 :: u46 :: u47 :: u48 :: u49 :: u50 :: u51 :: u52 :: u53 :: u54 :: u55 :: u56 :: u57 :: u58 :: u59 :: u60 :: u61 :: u62 :: u63 :: u64 :: u65 :: u66 :: u67 :: u68 :: u69 :: u70 :: u71 :: u72 :: u73 :: u74 :: u75 :: u76 :: u77 :: u78 :: u79 :: u80 :: u81 :: u82 :: u83 :: u84 :: u85 :: u86 :: u87 :: u88 :: u89 :: u90 :: u91 :: u92 :: u93 :: u94 :: u95 :: u96 :: u97 :: u98 :: u99 :: u100 :: u101 :: u102 :: u103 :: u104 :: u105 :: u106 :: u107 :: u108 :: u109 :: u110 :: u111 :: u112 :: u113 :: u114 :: u115 :: u116 :: u117 :: u118 :: u119 :: u120 :: u121 :: u122 :: u123 :: u124 :: u125 :: u126 :: u127 :: u128 :: u129 :: u130 :: u131 :: u132 :: u133 :: u134 :: u135 :: []), []⟩ w := by
  conv => arg 2; whnf

  obtain ⟨aI, cI, aE, cE, aD, cD, gH, cH, V⟩ := h.view j hjl hjs
  have hp := V.hp
  have C0 := blk_cell hx3; have C5 := blk_cell hx5; have CP := blk_cell hp
  have hpn : pb ∉ ρ.vE.ownBlock.toList := pb_notin h 3 (by simp) (by omega)
  have hv : ρ.vE = _ := V.eE
  have H := Lib.hid h; have X3 := Lib.hid hx3; have N3 := Lib.hid hn3; have HHB := Lib.hid hhb; have HP := Lib.hid hp; have HPN := Lib.hid hpn; have HO := Lib.hid (SlO.below h.hE (Below.refl _ _).drew)
  clear h hx3 hn3 hhb hp hpn V hx5 hn5
  have B1 := Lib.hid (show (σ.edits.length + 1) * 48 ≤ 140737488355328 by omega)
  have B2 := Lib.hid (show σ.edits.length + 1 ≤ 9223372036854775807 by omega)
  have LP := blk_lt HP.out
  go_region_law (refine step_app1N et_edit (W := w.drew) (σ.edits.length + 1) rfl (.tmp 52) (.tmp 54) rfl 0 Edt.cells len_edit one_edit ρ.vE σ.edits (by exact hv.symm) HO.out (⟨tag, ⟨kind, pos, ch, j, seq⟩⟩) _ rfl w.heap.size rfl rfl rfl B1.out B2.out (Nat.zero_le _) ?_; intro g cap w2 ho2 hm2 hg2 hlt2; have s2 := hm2.blk HPN.out HP.out; have C2 := blk_cell s2; have F2 := blk_free s2; have S2 := Lib.hid s2; have HO2 := Lib.hid ho2; have HM2 := Lib.hid hm2; have HG2 := Lib.hid hg2; clear s2 ho2 hm2 hg2)
  all_goals
    refine hK _ _ _ _ _ _ _ _ _ _ _ ?_
    exact BookAt.toT (H.out.appE (Mod.trans (Mod.drewN _ w 1) HM2.out (fun _ h => Or.inl h)) HO2.out HG2.out) (BStep.below (Below.refl _ _) _ _) ⟨hjl, HHB.out⟩

end Go.Proofs.YtjeidklpomekdaaDoor

/- The book: take, region 6. -/
namespace Go.Proofs.YtjeidklpomekdaaDoor
open Go.RowKit

set_option maxRecDepth 100000 in
set_option maxHeartbeats 3200000 in
theorem take_r6 {u1 u2 u6 u7 u8 u9 u10 u11 u12 u13 u14 u15 u16 u17 u18 u19 u20 u21 u22 u23 u24 u25 u26 u27 u28 u29 u30 u31 u32 u33 u34 u35 u36 u37 u38 u39 u40 u41 u42 u43 u44 u45 u46 u47 u48 u49 u50 u51 u52 u53 u54 u55 u56 u57 u58 u59 u60 u61 u62 u63 u64 u65 u66 u67 u68 u69 u70 u71 u72 u73 u74 u75 u76 u77 u78 u79 u80 u81 u82 u83 u84 u85 u86 u87 u88 u89 u90 u91 u92 u93 u94 u95 u96 u97 u98 u99 u100 u101 u102 u103 u104 u105 u106 u107 u108 u109 u110 u111 u112 u113 u114 u115 u116 u117 u118 u119 u120 u121 u122 u123 u124 u125 u126 u127 u128 u129 u130 u131 u132 u133 u134 u135 : Value} (pb b3 hb : Nat) (ρ : BookL) (σ : BookS) (w : World) (h : BookAt w pb ρ σ) (tag kind pos ch seq : Int) (j : Nat) (hx3 : w.heap[b3]? = some (ebox tag kind pos ch j seq)) (hn3 : b3 ∉ ρ.foot pb) (hjl : j < ρ.hl.length) (hjs : j < σ.hands.length) (hhb : ρ.hl[j].hb = hb) (b5 : Nat) (d : Opr) (hx5 : w.heap[b5]? = some (obox d)) (hn5 : b5 ∉ ρ.foot pb) (hee : σ.edits.length ≤ 10000) (hed : σ.edited.length ≤ 20000) (hdd : σ.done.length ≤ 10000) (K : Act → World → Prop) (Post : Ending → World → Prop)
    (hK : ∀ (v58 v59 v60 v61 v62 v63 v64 v65 v66 v67 : Value) (w' : World), TSt w pb ρ j hb ({ σ with done := σ.done ++ [d] }) w' → K ⟨List.toArray (.pointer (some ⟨pb, 0, none⟩) :: u1 :: u2 :: .pointer (some ⟨b3, 0, none⟩) :: .pointer (some ⟨hb, 0, none⟩) :: .pointer (some ⟨b5, 0, none⟩) :: u6 :: u7 :: u8 :: u9 :: u10 :: u11 :: u12 :: u13 :: u14 :: u15 :: u16 :: u17 :: u18 :: u19 :: u20 :: u21 :: u22 :: u23 :: u24 :: u25 :: u26 :: u27 :: u28 :: u29 :: u30 :: u31 :: u32 :: u33 :: u34 :: u35 :: u36 :: u37 :: u38 :: u39 :: u40 :: u41 :: u42 :: u43 :: u44 :: u45 :: u46 :: u47 :: u48 :: u49 :: u50 :: u51 :: u52 :: u53 :: u54 :: u55 :: u56 :: u57 :: v58 :: v59 :: v60 :: v61 :: v62 :: v63 :: v64 :: v65 :: v66 :: v67 :: u68 :: u69 :: u70 :: u71 :: u72 :: u73 :: u74 :: u75 :: u76 :: u77 :: u78 :: u79 :: u80 :: u81 :: u82 :: u83 :: u84 :: u85 :: u86 :: u87 :: u88 :: u89 :: u90 :: u91 :: u92 :: u93 :: u94 :: u95 :: u96 :: u97 :: u98 :: u99 :: u100 :: u101 :: u102 :: u103 :: u104 :: u105 :: u106 :: u107 :: u108 :: u109 :: u110 :: u111 :: u112 :: u113 :: u114 :: u115 :: u116 :: u117 :: u118 :: u119 :: u120 :: u121 :: u122 :: u123 :: u124 :: u125 :: u126 :: u127 :: u128 :: u129 :: u130 :: u131 :: u132 :: u133 :: u134 :: u135 :: []), []⟩ w') :
    Code.wp Tryd.prog (takeReg 6) (Exit.then K (bodyPost Tryd.prog Tryd.f37 Post)) ⟨List.toArray (.pointer (some ⟨pb, 0, none⟩) :: u1 :: u2 :: .pointer (some ⟨b3, 0, none⟩) :: .pointer (some ⟨hb, 0, none⟩) :: .pointer (some ⟨b5, 0, none⟩) :: u6 :: u7 :: u8 :: u9 :: u10 :: u11 :: u12 :: u13 :: u14 :: u15 :: u16 :: u17 :: u18 :: u19 :: u20 :: u21 :: u22 :: u23 :: u24 :: u25 :: u26 :: u27 :: u28 :: u29 :: u30 :: u31 :: u32 :: u33 :: u34 :: u35 :: u36 :: u37 :: u38 :: u39 :: u40 :: u41 :: u42 :: u43 :: u44 :: u45 :: u46 :: u47 :: u48 :: u49 :: u50 :: u51 :: u52 :: u53 :: u54 :: u55 :: u56 :: u57 :: u58 :: u59 :: u60 :: u61 :: u62 :: u63 :: u64 :: u65 :: u66 :: u67 :: u68 :: u69 :: u70 :: u71 :: u72 :: u73 :: u74 :: u75 :: u76 :: u77 :: u78 :: u79 :: u80 :: u81 :: u82 :: u83 :: u84 :: u85 :: u86 :: u87 :: u88 :: u89 :: u90 :: u91 :: u92 :: u93 :: u94 :: u95 :: u96 :: u97 :: u98 :: u99 :: u100 :: u101 :: u102 :: u103 :: u104 :: u105 :: u106 :: u107 :: u108 :: u109 :: u110 :: u111 :: u112 :: u113 :: u114 :: u115 :: u116 :: u117 :: u118 :: u119 :: u120 :: u121 :: u122 :: u123 :: u124 :: u125 :: u126 :: u127 :: u128 :: u129 :: u130 :: u131 :: u132 :: u133 :: u134 :: u135 :: []), []⟩ w := by
  conv => arg 2; whnf

  obtain ⟨aI, cI, aE, cE, aD, cD, gH, cH, V⟩ := h.view j hjl hjs
  have hp := V.hp
  have C0 := blk_cell hx3; have C5 := blk_cell hx5; have CP := blk_cell hp
  have hpn : pb ∉ ρ.vD.ownBlock.toList := pb_notin h 4 (by simp) (by omega)
  have hv : ρ.vD = _ := V.eD
  have H := Lib.hid h; have X3 := Lib.hid hx3; have N3 := Lib.hid hn3; have HHB := Lib.hid hhb; have HP := Lib.hid hp; have HPN := Lib.hid hpn; have HO := Lib.hid (SlO.below h.hD (Below.refl _ _).drew)
  clear h hx3 hn3 hhb hp hpn V hx5 hn5
  have B1 := Lib.hid (show (σ.done.length + 1) * 40 ≤ 140737488355328 by omega)
  have B2 := Lib.hid (show σ.done.length + 1 ≤ 9223372036854775807 by omega)
  have LP := blk_lt HP.out
  go_region_law (refine step_app1N et_op (W := w.drew) (σ.done.length + 1) rfl (.tmp 62) (.tmp 64) rfl 0 Opr.cells len_op one_op ρ.vD σ.done (by exact hv.symm) HO.out (d) _ rfl w.heap.size rfl rfl rfl B1.out B2.out (Nat.zero_le _) ?_; intro g cap w2 ho2 hm2 hg2 hlt2; have s2 := hm2.blk HPN.out HP.out; have C2 := blk_cell s2; have F2 := blk_free s2; have S2 := Lib.hid s2; have HO2 := Lib.hid ho2; have HM2 := Lib.hid hm2; have HG2 := Lib.hid hg2; clear s2 ho2 hm2 hg2)
  all_goals
    refine hK _ _ _ _ _ _ _ _ _ _ _ ?_
    exact BookAt.toT (H.out.appD (Mod.trans (Mod.drewN _ w 1) HM2.out (fun _ h => Or.inl h)) HO2.out HG2.out) (BStep.below (Below.refl _ _) _ _) ⟨hjl, HHB.out⟩

end Go.Proofs.YtjeidklpomekdaaDoor

/- The book: take, region 7. -/
namespace Go.Proofs.YtjeidklpomekdaaDoor
open Go.RowKit

set_option maxRecDepth 100000 in
set_option maxHeartbeats 3200000 in
theorem take_r7 {u1 u2 u6 u7 u8 u9 u10 u11 u12 u13 u14 u15 u16 u17 u18 u19 u20 u21 u22 u23 u24 u25 u26 u27 u28 u29 u30 u31 u32 u33 u34 u35 u36 u37 u38 u39 u40 u41 u42 u43 u44 u45 u46 u47 u48 u49 u50 u51 u52 u53 u54 u55 u56 u57 u58 u59 u60 u61 u62 u63 u64 u65 u66 u67 u68 u69 u70 u71 u72 u73 u74 u75 u76 u77 u78 u79 u80 u81 u82 u83 u84 u85 u86 u87 u88 u89 u90 u91 u92 u93 u94 u95 u96 u97 u98 u99 u100 u101 u102 u103 u104 u105 u106 u107 u108 u109 u110 u111 u112 u113 u114 u115 u116 u117 u118 u119 u120 u121 u122 u123 u124 u125 u126 u127 u128 u129 u130 u131 u132 u133 u134 u135 : Value} (pb b3 hb : Nat) (ρ : BookL) (σ : BookS) (w : World) (h : BookAt w pb ρ σ) (tag kind pos ch seq : Int) (j : Nat) (hx3 : w.heap[b3]? = some (ebox tag kind pos ch j seq)) (hn3 : b3 ∉ ρ.foot pb) (hjl : j < ρ.hl.length) (hjs : j < σ.hands.length) (hhb : ρ.hl[j].hb = hb) (b5 : Nat) (d : Opr) (hx5 : w.heap[b5]? = some (obox d)) (hn5 : b5 ∉ ρ.foot pb) (hee : σ.edits.length ≤ 10000) (hed : σ.edited.length ≤ 20000) (hdd : σ.done.length ≤ 10000) (K : Act → World → Prop) (Post : Ending → World → Prop)
    (hK : ∀ (v68 v69 v70 v71 v72 v73 v74 v75 v76 v77 v78 v79 v80 v81 : Value) (w' : World), TSt w pb ρ j hb ({ σ with edited := σ.edited ++ [(σ.edits.length : Int)] }) w' → K ⟨List.toArray (.pointer (some ⟨pb, 0, none⟩) :: u1 :: u2 :: .pointer (some ⟨b3, 0, none⟩) :: .pointer (some ⟨hb, 0, none⟩) :: .pointer (some ⟨b5, 0, none⟩) :: u6 :: u7 :: u8 :: u9 :: u10 :: u11 :: u12 :: u13 :: u14 :: u15 :: u16 :: u17 :: u18 :: u19 :: u20 :: u21 :: u22 :: u23 :: u24 :: u25 :: u26 :: u27 :: u28 :: u29 :: u30 :: u31 :: u32 :: u33 :: u34 :: u35 :: u36 :: u37 :: u38 :: u39 :: u40 :: u41 :: u42 :: u43 :: u44 :: u45 :: u46 :: u47 :: u48 :: u49 :: u50 :: u51 :: u52 :: u53 :: u54 :: u55 :: u56 :: u57 :: u58 :: u59 :: u60 :: u61 :: u62 :: u63 :: u64 :: u65 :: u66 :: u67 :: v68 :: v69 :: v70 :: v71 :: v72 :: v73 :: v74 :: v75 :: v76 :: v77 :: v78 :: v79 :: v80 :: v81 :: u82 :: u83 :: u84 :: u85 :: u86 :: u87 :: u88 :: u89 :: u90 :: u91 :: u92 :: u93 :: u94 :: u95 :: u96 :: u97 :: u98 :: u99 :: u100 :: u101 :: u102 :: u103 :: u104 :: u105 :: u106 :: u107 :: u108 :: u109 :: u110 :: u111 :: u112 :: u113 :: u114 :: u115 :: u116 :: u117 :: u118 :: u119 :: u120 :: u121 :: u122 :: u123 :: u124 :: u125 :: u126 :: u127 :: u128 :: u129 :: u130 :: u131 :: u132 :: u133 :: u134 :: u135 :: []), []⟩ w') :
    Code.wp Tryd.prog (takeReg 7) (Exit.then K (bodyPost Tryd.prog Tryd.f37 Post)) ⟨List.toArray (.pointer (some ⟨pb, 0, none⟩) :: u1 :: u2 :: .pointer (some ⟨b3, 0, none⟩) :: .pointer (some ⟨hb, 0, none⟩) :: .pointer (some ⟨b5, 0, none⟩) :: u6 :: u7 :: u8 :: u9 :: u10 :: u11 :: u12 :: u13 :: u14 :: u15 :: u16 :: u17 :: u18 :: u19 :: u20 :: u21 :: u22 :: u23 :: u24 :: u25 :: u26 :: u27 :: u28 :: u29 :: u30 :: u31 :: u32 :: u33 :: u34 :: u35 :: u36 :: u37 :: u38 :: u39 :: u40 :: u41 :: u42 :: u43 :: u44 :: u45 :: u46 :: u47 :: u48 :: u49 :: u50 :: u51 :: u52 :: u53 :: u54 :: u55 :: u56 :: u57 :: u58 :: u59 :: u60 :: u61 :: u62 :: u63 :: u64 :: u65 :: u66 :: u67 :: u68 :: u69 :: u70 :: u71 :: u72 :: u73 :: u74 :: u75 :: u76 :: u77 :: u78 :: u79 :: u80 :: u81 :: u82 :: u83 :: u84 :: u85 :: u86 :: u87 :: u88 :: u89 :: u90 :: u91 :: u92 :: u93 :: u94 :: u95 :: u96 :: u97 :: u98 :: u99 :: u100 :: u101 :: u102 :: u103 :: u104 :: u105 :: u106 :: u107 :: u108 :: u109 :: u110 :: u111 :: u112 :: u113 :: u114 :: u115 :: u116 :: u117 :: u118 :: u119 :: u120 :: u121 :: u122 :: u123 :: u124 :: u125 :: u126 :: u127 :: u128 :: u129 :: u130 :: u131 :: u132 :: u133 :: u134 :: u135 :: []), []⟩ w := by
  conv => arg 2; whnf

  obtain ⟨aI, cI, aE, cE, aD, cD, gH, cH, V⟩ := h.view j hjl hjs
  have hp := V.hp
  have C0 := blk_cell hx3; have C5 := blk_cell hx5; have CP := blk_cell hp
  have hpn : pb ∉ ρ.vI.ownBlock.toList := pb_notin h 2 (by simp) (by omega)
  have hv : ρ.vI = _ := V.eI
  have H := Lib.hid h; have X3 := Lib.hid hx3; have N3 := Lib.hid hn3; have HHB := Lib.hid hhb; have HP := Lib.hid hp; have HPN := Lib.hid hpn; have HO := Lib.hid (SlO.below h.hI (Below.refl _ _).drew)
  clear h hx3 hn3 hhb hp hpn V hx5 hn5
  have B1 := Lib.hid (show (σ.edited.length + 1) * 8 ≤ 140737488355328 by omega)
  have B2 := Lib.hid (show σ.edited.length + 1 ≤ 9223372036854775807 by omega)
  have LP := blk_lt HP.out
  go_region_law (refine step_app1N et_int (W := w.drew) (σ.edited.length + 1) rfl (.tmp 72) (.tmp 78) rfl 0 icell len_int one_int ρ.vI σ.edited (by exact hv.symm) HO.out ((σ.edits.length : Int)) _ rfl w.heap.size rfl rfl rfl B1.out B2.out (Nat.zero_le _) ?_; intro g cap w2 ho2 hm2 hg2 hlt2; have s2 := hm2.blk HPN.out HP.out; have C2 := blk_cell s2; have F2 := blk_free s2; have S2 := Lib.hid s2; have HO2 := Lib.hid ho2; have HM2 := Lib.hid hm2; have HG2 := Lib.hid hg2; clear s2 ho2 hm2 hg2)
  all_goals
    refine hK _ _ _ _ _ _ _ _ _ _ _ _ _ _ _ ?_
    exact BookAt.toT (H.out.appI (Mod.trans (Mod.drewN _ w 1) HM2.out (fun _ h => Or.inl h)) HO2.out HG2.out) (BStep.below (Below.refl _ _) _ _) ⟨hjl, HHB.out⟩

end Go.Proofs.YtjeidklpomekdaaDoor

/- The book: take, region 8. -/
namespace Go.Proofs.YtjeidklpomekdaaDoor
open Go.RowKit

set_option maxRecDepth 100000 in
set_option maxHeartbeats 3200000 in
theorem take_r8 {u1 u2 u5 u6 u7 u8 u9 u10 u11 u12 u13 u14 u15 u16 u17 u18 u19 u20 u21 u22 u23 u24 u25 u26 u27 u28 u29 u30 u31 u32 u33 u34 u35 u36 u37 u38 u39 u40 u41 u42 u43 u44 u45 u46 u47 u48 u49 u50 u51 u52 u53 u54 u55 u56 u57 u58 u59 u60 u61 u62 u63 u64 u65 u66 u67 u68 u69 u70 u71 u72 u73 u74 u75 u76 u77 u78 u79 u80 u81 u82 u83 u84 u85 u86 u87 u88 u89 u90 u91 u92 u93 u94 u95 u96 u97 u98 u99 u100 u101 u102 u103 u104 u105 u106 u107 u108 u109 u110 u111 u112 u113 u114 u115 u116 u117 u118 u119 u120 u121 u122 u123 u124 u125 u126 u127 u128 u129 u130 u131 u132 u133 u134 u135 : Value} (pb b3 hb : Nat) (ρ : BookL) (σ : BookS) (w : World) (h : BookAt w pb ρ σ) (tag kind pos ch seq : Int) (j : Nat) (hx3 : w.heap[b3]? = some (ebox tag kind pos ch j seq)) (hn3 : b3 ∉ ρ.foot pb) (hjl : j < ρ.hl.length) (hjs : j < σ.hands.length) (hhb : ρ.hl[j].hb = hb) (hee : σ.edits.length ≤ 10000) (hj : 1 ≤ j ∧ j ≤ 64) (hs : 1 ≤ seq ∧ seq ≤ 64) (hnk : σ.nk ≤ 100000) (K : Act → World → Prop) (Post : Ending → World → Prop)
    (hK : ∀ (v82 v83 v84 v85 v86 v87 v88 v89 v90 v91 v92 v93 v94 v95 v96 v97 : Value) (w' : World), TSt w pb ρ j hb ({ σ with nk := σ.nk + 1, keys := fun c s => (c = j ∧ s = seq) ∨ σ.keys c s }) w' → K ⟨List.toArray (.pointer (some ⟨pb, 0, none⟩) :: u1 :: u2 :: .pointer (some ⟨b3, 0, none⟩) :: .pointer (some ⟨hb, 0, none⟩) :: u5 :: u6 :: u7 :: u8 :: u9 :: u10 :: u11 :: u12 :: u13 :: u14 :: u15 :: u16 :: u17 :: u18 :: u19 :: u20 :: u21 :: u22 :: u23 :: u24 :: u25 :: u26 :: u27 :: u28 :: u29 :: u30 :: u31 :: u32 :: u33 :: u34 :: u35 :: u36 :: u37 :: u38 :: u39 :: u40 :: u41 :: u42 :: u43 :: u44 :: u45 :: u46 :: u47 :: u48 :: u49 :: u50 :: u51 :: u52 :: u53 :: u54 :: u55 :: u56 :: u57 :: u58 :: u59 :: u60 :: u61 :: u62 :: u63 :: u64 :: u65 :: u66 :: u67 :: u68 :: u69 :: u70 :: u71 :: u72 :: u73 :: u74 :: u75 :: u76 :: u77 :: u78 :: u79 :: u80 :: u81 :: v82 :: v83 :: v84 :: v85 :: v86 :: v87 :: v88 :: v89 :: v90 :: v91 :: v92 :: v93 :: v94 :: v95 :: v96 :: v97 :: u98 :: u99 :: u100 :: u101 :: u102 :: u103 :: u104 :: u105 :: u106 :: u107 :: u108 :: u109 :: u110 :: u111 :: u112 :: u113 :: u114 :: u115 :: u116 :: u117 :: u118 :: u119 :: u120 :: u121 :: u122 :: u123 :: u124 :: u125 :: u126 :: u127 :: u128 :: u129 :: u130 :: u131 :: u132 :: u133 :: u134 :: u135 :: []), []⟩ w') :
    Code.wp Tryd.prog (takeReg 8) (Exit.then K (bodyPost Tryd.prog Tryd.f37 Post)) ⟨List.toArray (.pointer (some ⟨pb, 0, none⟩) :: u1 :: u2 :: .pointer (some ⟨b3, 0, none⟩) :: .pointer (some ⟨hb, 0, none⟩) :: u5 :: u6 :: u7 :: u8 :: u9 :: u10 :: u11 :: u12 :: u13 :: u14 :: u15 :: u16 :: u17 :: u18 :: u19 :: u20 :: u21 :: u22 :: u23 :: u24 :: u25 :: u26 :: u27 :: u28 :: u29 :: u30 :: u31 :: u32 :: u33 :: u34 :: u35 :: u36 :: u37 :: u38 :: u39 :: u40 :: u41 :: u42 :: u43 :: u44 :: u45 :: u46 :: u47 :: u48 :: u49 :: u50 :: u51 :: u52 :: u53 :: u54 :: u55 :: u56 :: u57 :: u58 :: u59 :: u60 :: u61 :: u62 :: u63 :: u64 :: u65 :: u66 :: u67 :: u68 :: u69 :: u70 :: u71 :: u72 :: u73 :: u74 :: u75 :: u76 :: u77 :: u78 :: u79 :: u80 :: u81 :: u82 :: u83 :: u84 :: u85 :: u86 :: u87 :: u88 :: u89 :: u90 :: u91 :: u92 :: u93 :: u94 :: u95 :: u96 :: u97 :: u98 :: u99 :: u100 :: u101 :: u102 :: u103 :: u104 :: u105 :: u106 :: u107 :: u108 :: u109 :: u110 :: u111 :: u112 :: u113 :: u114 :: u115 :: u116 :: u117 :: u118 :: u119 :: u120 :: u121 :: u122 :: u123 :: u124 :: u125 :: u126 :: u127 :: u128 :: u129 :: u130 :: u131 :: u132 :: u133 :: u134 :: u135 :: []), []⟩ w := by
  conv => arg 2; whnf

  obtain ⟨aI, cI, aE, cE, aD, cD, gH, cH, V⟩ := h.view j hjl hjs
  have hp := V.hp
  have C0 := blk_cell hx3; have CP := blk_cell hp
  obtain ⟨w4, hrun, hmi, hmm⟩ := h.hm.store (n := σ.nk) (by unfold maxLen; omega) j seq σ.edits.length ⟨by omega, by omega⟩ ⟨by omega, by omega⟩ ⟨by omega, by omega⟩ w.drew rfl
  have hsm := (h.below (Below.refl _ _).drew).setMap hmi hmm
  have hrn : (Instr.mapUpdate 70 (.map (some ρ.mb)) (.agg #[.int .i64 j, .int .i64 seq]) (.int .i64 σ.edits.length)).run Tryd.prog w.drew = .ok () w4 := hrun
  clear hrun
  have H := Lib.hid hsm; have HHB := Lib.hid hhb
  clear h hx3 hn3 hhb hp V hsm hmi hmm
  go_region
  all_goals
    refine hK _ _ _ _ _ _ _ _ _ _ _ _ _ _ _ _ _ ?_
    exact BookAt.toT H.out (BStep.below (by ((repeat' (first | with_reducible refine Below.drewN ?_ _ | with_reducible refine Below.drew ?_ | with_reducible refine Below.new ?_ _)) <;> with_reducible exact Below.refl _ _)) _ _) ⟨hjl, HHB.out⟩

end Go.Proofs.YtjeidklpomekdaaDoor

/- The book: take, region 9. -/
namespace Go.Proofs.YtjeidklpomekdaaDoor
open Go.RowKit

set_option maxRecDepth 100000 in
set_option maxHeartbeats 3200000 in
theorem take_r9 {u1 u2 u6 u7 u8 u9 u10 u11 u12 u13 u14 u15 u16 u17 u18 u19 u20 u21 u22 u23 u24 u25 u26 u27 u28 u29 u30 u31 u32 u33 u34 u35 u36 u37 u38 u39 u40 u41 u42 u43 u44 u45 u46 u47 u48 u49 u50 u51 u52 u53 u54 u55 u56 u57 u58 u59 u60 u61 u62 u63 u64 u65 u66 u67 u68 u69 u70 u71 u72 u73 u74 u75 u76 u77 u78 u79 u80 u81 u82 u83 u84 u85 u86 u87 u88 u89 u90 u91 u92 u93 u94 u95 u96 u97 u98 u99 u100 u101 u102 u103 u104 u105 u106 u107 u108 u109 u110 u111 u112 u113 u114 u115 u116 u117 u118 u119 u120 u121 u122 u123 u124 u125 u126 u127 u128 u129 u130 u131 u132 u133 u134 u135 : Value} (pb b3 hb : Nat) (ρ : BookL) (σ : BookS) (w : World) (h : BookAt w pb ρ σ) (tag kind pos ch seq : Int) (j : Nat) (hx3 : w.heap[b3]? = some (ebox tag kind pos ch j seq)) (hn3 : b3 ∉ ρ.foot pb) (hjl : j < ρ.hl.length) (hjs : j < σ.hands.length) (hhb : ρ.hl[j].hb = hb) (b5 : Nat) (d : Opr) (hx5 : w.heap[b5]? = some (obox d)) (hn5 : b5 ∉ ρ.foot pb) (hln : -5000 ≤ σ.length ∧ σ.length ≤ 5000) (K : Act → World → Prop) (Post : Ending → World → Prop)
    (hK : ∀ (v98 v99 v100 v101 v102 v103 v104 v105 v106 : Value) (w' : World), TSt w pb ρ j hb ({ σ with length := σ.length + grown d }) w' → K ⟨List.toArray (.pointer (some ⟨pb, 0, none⟩) :: u1 :: u2 :: .pointer (some ⟨b3, 0, none⟩) :: .pointer (some ⟨hb, 0, none⟩) :: .pointer (some ⟨b5, 0, none⟩) :: u6 :: u7 :: u8 :: u9 :: u10 :: u11 :: u12 :: u13 :: u14 :: u15 :: u16 :: u17 :: u18 :: u19 :: u20 :: u21 :: u22 :: u23 :: u24 :: u25 :: u26 :: u27 :: u28 :: u29 :: u30 :: u31 :: u32 :: u33 :: u34 :: u35 :: u36 :: u37 :: u38 :: u39 :: u40 :: u41 :: u42 :: u43 :: u44 :: u45 :: u46 :: u47 :: u48 :: u49 :: u50 :: u51 :: u52 :: u53 :: u54 :: u55 :: u56 :: u57 :: u58 :: u59 :: u60 :: u61 :: u62 :: u63 :: u64 :: u65 :: u66 :: u67 :: u68 :: u69 :: u70 :: u71 :: u72 :: u73 :: u74 :: u75 :: u76 :: u77 :: u78 :: u79 :: u80 :: u81 :: u82 :: u83 :: u84 :: u85 :: u86 :: u87 :: u88 :: u89 :: u90 :: u91 :: u92 :: u93 :: u94 :: u95 :: u96 :: u97 :: v98 :: v99 :: v100 :: v101 :: v102 :: v103 :: v104 :: v105 :: v106 :: u107 :: u108 :: u109 :: u110 :: u111 :: u112 :: u113 :: u114 :: u115 :: u116 :: u117 :: u118 :: u119 :: u120 :: u121 :: u122 :: u123 :: u124 :: u125 :: u126 :: u127 :: u128 :: u129 :: u130 :: u131 :: u132 :: u133 :: u134 :: u135 :: []), []⟩ w') :
    Code.wp Tryd.prog (takeReg 9) (Exit.then K (bodyPost Tryd.prog Tryd.f37 Post)) ⟨List.toArray (.pointer (some ⟨pb, 0, none⟩) :: u1 :: u2 :: .pointer (some ⟨b3, 0, none⟩) :: .pointer (some ⟨hb, 0, none⟩) :: .pointer (some ⟨b5, 0, none⟩) :: u6 :: u7 :: u8 :: u9 :: u10 :: u11 :: u12 :: u13 :: u14 :: u15 :: u16 :: u17 :: u18 :: u19 :: u20 :: u21 :: u22 :: u23 :: u24 :: u25 :: u26 :: u27 :: u28 :: u29 :: u30 :: u31 :: u32 :: u33 :: u34 :: u35 :: u36 :: u37 :: u38 :: u39 :: u40 :: u41 :: u42 :: u43 :: u44 :: u45 :: u46 :: u47 :: u48 :: u49 :: u50 :: u51 :: u52 :: u53 :: u54 :: u55 :: u56 :: u57 :: u58 :: u59 :: u60 :: u61 :: u62 :: u63 :: u64 :: u65 :: u66 :: u67 :: u68 :: u69 :: u70 :: u71 :: u72 :: u73 :: u74 :: u75 :: u76 :: u77 :: u78 :: u79 :: u80 :: u81 :: u82 :: u83 :: u84 :: u85 :: u86 :: u87 :: u88 :: u89 :: u90 :: u91 :: u92 :: u93 :: u94 :: u95 :: u96 :: u97 :: u98 :: u99 :: u100 :: u101 :: u102 :: u103 :: u104 :: u105 :: u106 :: u107 :: u108 :: u109 :: u110 :: u111 :: u112 :: u113 :: u114 :: u115 :: u116 :: u117 :: u118 :: u119 :: u120 :: u121 :: u122 :: u123 :: u124 :: u125 :: u126 :: u127 :: u128 :: u129 :: u130 :: u131 :: u132 :: u133 :: u134 :: u135 :: []), []⟩ w := by
  conv => arg 2; whnf

  obtain ⟨aI, cI, aE, cE, aD, cD, gH, cH, V⟩ := h.view j hjl hjs
  have hp := V.hp
  have C5 := blk_cell hx5; have CP := blk_cell hp; have FP := blk_free hp
  have LP := blk_lt hp; have L5 := blk_lt hx5
  have hgl := grown_le d
  have hwr : wrap64 (σ.length + grown d) = σ.length + grown d := wrap64_in' _ (by omega)
  have H := Lib.hid h; have HHB := Lib.hid hhb; have HP := Lib.hid hp
  clear h hx3 hn3 hhb hp V hx5 hn5
  go_region_with (go_at_call 45; refine (grown_any d _).mono ?_; rintro e w2 ⟨rfl, hb2⟩; have hbt : Below w.heap.size w w2 := (Below.refl _ _).drew.then_ hb2; have s2 := hbt.blk HP.out; have C2 := blk_cell s2; have F2 := blk_free s2; have HB2 := Lib.hid hbt; clear s2 hbt hb2)
  all_goals
    refine hK _ _ _ _ _ _ _ _ _ _ ?_
    rw [show IntKind.i64.wrap (σ.length + grown d) = σ.length + grown d from (IntWalk.i64_left _).trans hwr]
    exact BookAt.toT ((H.out.below HB2.out).setLen _) (BStep.below HB2.out _ _) ⟨hjl, HHB.out⟩

end Go.Proofs.YtjeidklpomekdaaDoor

/- The book: take. -/
namespace Go.Proofs.YtjeidklpomekdaaDoor
open Go.RowKit

theorem shift_ch (a b : Opr) (f : Bool) (h : 0 ≤ a.ch ∧ a.ch ≤ 255) : 0 ≤ (shift a b f).ch ∧ (shift a b f).ch ≤ 255 := by
  simp only [shift]
  split
  · exact h
  · simp
theorem past_ch (f : Bool) : ∀ (ls : List Opr) (op : Opr), 0 ≤ op.ch ∧ op.ch ≤ 255 → 0 ≤ (past f op ls).1.ch ∧ (past f op ls).1.ch ≤ 255
  | [], _, h => h
  | l :: ls, op, h => by simp only [past]; exact past_ch f ls _ (shift_ch _ _ _ h)

structure TK (W1 : World) (pb : Nat) (ρ0 : BookL) (b3 hb : Nat) (tag kind pos ch : Int) (j : Nat) (seq : Int) (w : World) (ρ : BookL) (σ : BookS) : Prop where
  h : BookAt w pb ρ σ
  s : BStep W1 w pb ρ0 ρ
  x3 : w.heap[b3]? = some (ebox tag kind pos ch j seq)
  n3 : b3 ∉ ρ.foot pb
  hj : ∃ h : j < ρ.hl.length, ρ.hl[j].hb = hb
theorem TK.next {W1 : World} {pb : Nat} {ρ0 : BookL} {b3 hb : Nat} {tag kind pos ch : Int} {j : Nat} {seq : Int} {w w' : World} {ρ : BookL} {σ σ' : BookS} (k : TK W1 pb ρ0 b3 hb tag kind pos ch j seq w ρ σ) (t : TSt w pb ρ j hb σ' w') :
    ∃ ρ', TK W1 pb ρ0 b3 hb tag kind pos ch j seq w' ρ' σ' ∧ BStep w w' pb ρ ρ' := by
  obtain ⟨ρ', h', s', hj'⟩ := t
  exact ⟨ρ', ⟨h', k.s.trans s', s'.mod.blk k.n3 k.x3, s'.notin k.n3 (blk_lt k.x3), hj'⟩, s'⟩
theorem TK.below {W1 : World} {pb : Nat} {ρ0 : BookL} {b3 hb : Nat} {tag kind pos ch : Int} {j : Nat} {seq : Int} {w w' : World} {ρ : BookL} {σ : BookS} (k : TK W1 pb ρ0 b3 hb tag kind pos ch j seq w ρ σ) (hb1 : Below w.heap.size w w') :
    TK W1 pb ρ0 b3 hb tag kind pos ch j seq w' ρ σ := ⟨k.h.below hb1, k.s.trans (BStep.below hb1 pb ρ), hb1.blk k.x3, k.n3, k.hj⟩
structure H5 (pb b5 : Nat) (d : Opr) (w : World) (ρ : BookL) : Prop where
  x : w.heap[b5]? = some (obox d)
  n : b5 ∉ ρ.foot pb
theorem H5.next {pb b5 : Nat} {d : Opr} {w w' : World} {ρ ρ' : BookL} (k : H5 pb b5 d w ρ) (s : BStep w w' pb ρ ρ') : H5 pb b5 d w' ρ' := ⟨s.mod.blk k.n k.x, s.notin k.n (blk_lt k.x)⟩

theorem TK.keep {W1 : World} {pb : Nat} {ρ0 : BookL} {b3 b5 hb : Nat} {tag kind pos ch : Int} {j : Nat} {seq : Int} {w wd w2 : World} {ρ : BookL} {σ : BookS} {d : Opr} (kk : TK W1 pb ρ0 b3 hb tag kind pos ch j seq w ρ σ) (fk : H5 pb b5 d w ρ) (hb1 : Below w.heap.size w wd)
    (k : Nat) (hk : k < ρ.hl.length) (hk' : k < σ.hands.length) {S : SpaceS} {L : List Nat} (hs : SpaceAt w2 ρ.hl[k].sb S L) (hm : Mod ρ.hl[k].L wd w2) (hf : Fresh wd ρ.hl[k].L L) :
    ∃ ρ', TK W1 pb ρ0 b3 hb tag kind pos ch j seq w2 ρ' { σ with hands := σ.hands.set k { σ.hands[k] with q := S } } ∧ H5 pb b5 d w2 ρ' ∧ ρ'.vH = ρ.vH := by
  obtain ⟨a, b⟩ := (kk.h.below hb1).setSpace k hk hk' hs hm hf
  have s := (BStep.below hb1 pb ρ).trans b
  refine ⟨_, ⟨a, kk.s.trans s, s.mod.blk kk.n3 kk.x3, s.notin kk.n3 (blk_lt kk.x3), ?_⟩, fk.next s, rfl⟩
  obtain ⟨h1, h2⟩ := kk.hj
  refine ⟨by simpa using h1, ?_⟩
  simp only [List.getElem_set]
  split
  · rename_i e; subst e; exact h2
  · exact h2

set_option maxRecDepth 100000 in
set_option maxHeartbeats 3200000 in
theorem take_any (pb : Nat) (ρ : BookL) (σ : BookS) (w : World) (h : BookAt w pb ρ σ) (ok : BookOk σ) (hd : σ.done.length = σ.edits.length) (hnk : σ.nk ≤ 100000) (hR : Rules w) (hRf : 1 ∉ ρ.foot pb) (tag kind pos ch seq : Int) (j : Nat) (hc : 0 ≤ ch ∧ ch ≤ 255)
    (hv : valid ⟨kind, pos, ch, j, seq⟩ = 0) (hj : 1 ≤ j ∧ j ≤ 64) (hs : 1 ≤ seq ∧ seq ≤ 64) (ht : 0 ≤ tag ∧ tag ≤ 4096) :
    Calls Tryd.prog 37 #[.pointer (some ⟨pb, 0, none⟩), Edt.val ⟨tag, ⟨kind, pos, ch, j, seq⟩⟩] w fun r w' => r = .returned (.tuple #[]) ∧ BookPost w w' pb ρ (σ.take ⟨tag, ⟨kind, pos, ch, j, seq⟩⟩) := by
  have hn := h.hn; have n65 := ok.n65
  have hjl : j < ρ.hl.length := by omega
  have hjs : j < σ.hands.length := by omega
  have hq := ok.q j hjs
  have hee := ok.edits
  have hln := ok.len
  have hed := ok.edited
  have hhand : σ.hand j = σ.hands[j] := by simp [BookS.hand, hjs]
  have hqs := ok.q
  have HT := Lib.hid (show σ.take ⟨tag, ⟨kind, pos, ch, j, seq⟩⟩ = { epoch := σ.epoch, edited := σ.edited ++ [(σ.edits.length : Int) + 1], edits := σ.edits ++ [⟨tag, ⟨kind, pos, ch, j, seq⟩⟩], done := σ.done ++ [(past (σ.hands[j].q.dropTo tag).first ⟨kind, pos, ch, j, seq⟩ (ops (σ.hands[j].q.dropTo tag).list)).1], length := σ.length + grown (past (σ.hands[j].q.dropTo tag).first ⟨kind, pos, ch, j, seq⟩ (ops (σ.hands[j].q.dropTo tag).list)).1, hands := keptTo ((σ.edits.length : Int) + 1) (past (σ.hands[j].q.dropTo tag).first ⟨kind, pos, ch, j, seq⟩ (ops (σ.hands[j].q.dropTo tag).list)).1 j 65 (σ.hands.set j ⟨seq, tag, (σ.hands[j].q.dropTo tag).cross ⟨kind, pos, ch, j, seq⟩⟩), nk := σ.nk + 1, keys := fun c s => (c = j ∧ s = seq) ∨ σ.keys c s } by
    simp [BookS.take, hhand, takeDone, takeQ])
  have hb1 : Below w.heap.size w (w.alloc (ebox tag kind pos ch j seq)) := ((Below.refl _ _)).new _
  have h1 := h.below hb1
  have x0 := blk_new w (ebox tag kind pos ch j seq)
  have C0 := blk_cell x0
  obtain ⟨aI, cI, aE, cE, aD, cD, gH, cH, V⟩ := h1.view j hjl hjs
  have C1 := blk_cell V.hp; have CX := blk_cell V.hx; have CH := V.hc
  have nf := not_foot h (Nat.le_refl _)
  have hR1 := hR.below hb1
  have K1 := Lib.hid (show TK (w.alloc (ebox tag kind pos ch j seq)) pb ρ w.heap.size ρ.hl[j].hb tag kind pos ch j seq (w.alloc (ebox tag kind pos ch j seq)) ρ σ from ⟨h1, BStep.below (Below.refl _ _) pb ρ, x0, nf, hjl, rfl⟩)
  have HRF := Lib.hid hRf; have HR := Lib.hid hR1; have HV := Lib.hid hv; have HW1 := Lib.hid (BStep.below hb1 pb ρ)
  have HQ := Lib.hid hqs
  clear h1 x0 h nf ok hRf hR hb1 hhand hv V hR1 hqs
  rw [hn, n65] at C1
  go_enter Tryd.func37, Tryd.ntmps37
  go_wp2
  go_quiet (fail)
  generalize w.alloc (ebox tag kind pos ch j seq) = W1 at *
  have KN := Lib.hid (K1.out.below ((Below.refl _ _).drewN nq))
  have HRN := Lib.hid (HR.out.below ((Below.refl _ _).drewN nq))
  clear C0 C1 CX CH K1 HR
  go_upto_region 2 with fail
  refine take_r2 pb w.heap.size ρ.hl[j].hb ρ σ _ KN.out.h tag kind pos ch seq j KN.out.x3 KN.out.n3 hjl hjs rfl ht hq _ _ ?_
  intro v18 v19 v20 v21 v22 v23 v24 v25 v26 w2 t2
  obtain ⟨ρ2, k2, s2⟩ := KN.out.next t2
  have K2 := Lib.hid k2; have S2 := Lib.hid s2; clear k2 s2 t2 KN
  obtain ⟨hj2, hhb2⟩ := K2.out.hj
  have HHB2 := Lib.hid hhb2; clear hhb2
  have hR2 := Lib.hid (HRN.out.mod S2.out.mod HRF.out)
  go_upto_region 3 with fail
  refine take_r3 pb w.heap.size ρ.hl[j].hb ρ2 _ w2 K2.out.h tag kind pos ch seq j K2.out.x3 K2.out.n3 hj2 (by simpa using hjs) HHB2.out hc HV.out hR2.out (by simp [SpaceS.dropTo]; omega) _ _ ?_
  intro v5 v6 v27 v28 v29 v30 v31 v32 v33 v34 v35 v36 w3 t3
  obtain ⟨ρ3, b5, rfl, x5, n5, h3, s3, hj3⟩ := t3
  obtain ⟨ρ3', k3, s3'⟩ : ∃ ρ', TK W1 pb ρ w.heap.size ρ.hl[j].hb tag kind pos ch j seq w3 ρ' { σ with hands := σ.hands.set j { σ.hands[j] with q := (σ.hands[j].q.dropTo tag).cross ⟨kind, pos, ch, j, seq⟩ } } ∧ H5 pb b5 (past (σ.hands[j].q.dropTo tag).first ⟨kind, pos, ch, j, seq⟩ (ops (σ.hands[j].q.dropTo tag).list)).1 w3 ρ' := by
    refine ⟨ρ3, ⟨by simpa using h3, K2.out.s.trans s3, s3.mod.blk K2.out.n3 K2.out.x3, s3.notin K2.out.n3 (blk_lt K2.out.x3), hj3⟩, ⟨by simpa using x5, n5⟩⟩
  have K3 := Lib.hid k3; have F3 := Lib.hid s3'; clear k3 s3' h3 s3 hj3 x5 n5 K2 S2 hR2 HHB2 hj2 ρ3
  have hdch := past_ch (σ.hands[j].q.dropTo tag).first (ops (σ.hands[j].q.dropTo tag).list) ⟨kind, pos, ch, j, seq⟩ hc
  generalize (past (σ.hands[j].q.dropTo tag).first ⟨kind, pos, ch, j, seq⟩ (ops (σ.hands[j].q.dropTo tag).list)).1 = d at *
  obtain ⟨hj3, hhb3⟩ := K3.out.hj
  have HHB3 := Lib.hid hhb3; clear hhb3
  go_upto_region 4 with fail
  refine take_r4 pb w.heap.size ρ.hl[j].hb ρ3' _ w3 K3.out.h tag kind pos ch seq j K3.out.x3 K3.out.n3 hj3 (by simpa using hjs) HHB3.out _ _ ?_
  intro v37 v38 v39 v40 v41 v42 v43 v44 v45 v46 v47 w4 t4
  obtain ⟨ρ4, k4, s4⟩ := K3.out.next t4
  have K4 := Lib.hid (show TK W1 pb ρ w.heap.size ρ.hl[j].hb tag kind pos ch j seq w4 ρ4 { σ with hands := σ.hands.set j ⟨seq, tag, (σ.hands[j].q.dropTo tag).cross ⟨kind, pos, ch, j, seq⟩⟩ } by simpa using k4)
  have F4 := Lib.hid (F3.out.next s4); clear k4 s4 t4 K3 F3 HHB3 hj3
  generalize hH : σ.hands.set j ⟨seq, tag, (σ.hands[j].q.dropTo tag).cross ⟨kind, pos, ch, j, seq⟩⟩ = H at *
  have hHl : H.length = 65 := by rw [← hH]; simpa using n65
  have HH := Lib.hid hH; clear hH
  have hjH : j < H.length := by omega
  obtain ⟨hj4, hhb4⟩ := K4.out.hj
  have HHB4 := Lib.hid hhb4; clear hhb4
  go_upto_region 5 with fail
  refine take_r5 pb w.heap.size ρ.hl[j].hb ρ4 _ w4 K4.out.h tag kind pos ch seq j K4.out.x3 K4.out.n3 hj4 hjH HHB4.out b5 d F4.out.x F4.out.n (by simp; omega) (by simp; omega) (by simp; omega) _ _ ?_
  intro v48 v49 v50 v51 v52 v53 v54 v55 v56 v57 w5 t5
  obtain ⟨ρ5, k5, s5⟩ := K4.out.next t5
  have K5 := Lib.hid k5; have F5 := Lib.hid (F4.out.next s5); clear k5 s5 t5 K4 F4 HHB4 hj4
  obtain ⟨hj5, hhb5⟩ := K5.out.hj
  have HHB5 := Lib.hid hhb5; clear hhb5
  go_upto_region 6 with fail
  refine take_r6 pb w.heap.size ρ.hl[j].hb ρ5 _ w5 K5.out.h tag kind pos ch seq j K5.out.x3 K5.out.n3 hj5 hjH HHB5.out b5 d F5.out.x F5.out.n (by simp; omega) (by simp; omega) (by simp; omega) _ _ ?_
  intro v58 v59 v60 v61 v62 v63 v64 v65 v66 v67 w6 t6
  obtain ⟨ρ6, k6, s6⟩ := K5.out.next t6
  have K6 := Lib.hid k6; have F6 := Lib.hid (F5.out.next s6); clear k6 s6 t6 K5 F5 HHB5 hj5
  obtain ⟨hj6, hhb6⟩ := K6.out.hj
  have HHB6 := Lib.hid hhb6; clear hhb6
  go_upto_region 7 with fail
  refine take_r7 pb w.heap.size ρ.hl[j].hb ρ6 _ w6 K6.out.h tag kind pos ch seq j K6.out.x3 K6.out.n3 hj6 hjH HHB6.out b5 d F6.out.x F6.out.n (by simp; omega) (by simp; omega) (by simp; omega) _ _ ?_
  intro v68 v69 v70 v71 v72 v73 v74 v75 v76 v77 v78 v79 v80 v81 w7 t7
  obtain ⟨ρ7, k7, s7⟩ := K6.out.next t7
  have K7 := Lib.hid k7; have F7 := Lib.hid (F6.out.next s7); clear k7 s7 t7 K6 F6 HHB6 hj6
  obtain ⟨hj7, hhb7⟩ := K7.out.hj
  have HHB7 := Lib.hid hhb7; clear hhb7
  go_upto_region 8 with fail
  refine take_r8 pb w.heap.size ρ.hl[j].hb ρ7 _ w7 K7.out.h tag kind pos ch seq j K7.out.x3 K7.out.n3 hj7 hjH HHB7.out (by simp; omega) hj hs hnk _ _ ?_
  intro v82 v83 v84 v85 v86 v87 v88 v89 v90 v91 v92 v93 v94 v95 v96 v97 w8 t8
  obtain ⟨ρ8, k8, s8⟩ := K7.out.next t8
  have K8 := Lib.hid k8; have F8 := Lib.hid (F7.out.next s8); clear k8 s8 t8 K7 F7 HHB7 hj7
  obtain ⟨hj8, hhb8⟩ := K8.out.hj
  have HHB8 := Lib.hid hhb8; clear hhb8
  go_upto_region 9 with fail
  refine take_r9 pb w.heap.size ρ.hl[j].hb ρ8 _ w8 K8.out.h tag kind pos ch seq j K8.out.x3 K8.out.n3 hj8 hjH HHB8.out b5 d F8.out.x F8.out.n (by simp only []; omega) _ _ ?_
  intro v98 v99 v100 v101 v102 v103 v104 v105 v106 w9 t9
  obtain ⟨ρ9, k9, s9⟩ := K8.out.next t9
  have K9 := Lib.hid k9; have F9 := Lib.hid (F8.out.next s9); clear k9 s9 t9 K8 F8 HHB8 hj8
  obtain ⟨hj9, hhb9⟩ := K9.out.hj
  have HHB9 := Lib.hid hhb9; clear hhb9
  have hl9 : ρ9.hl.length = 65 := by have := K9.out.h.hn; simpa [hHl] using this
  obtain ⟨aI9, cI9, aE9, cE9, aD9, cD9, gH9, cH9, V9⟩ := K9.out.h.view j hj9 hjH
  have hV0 := Lib.hid (show ρ9.vH = .slice (some ⟨gH9, 0, none⟩) 65 cH9 by rw [V9.eH, hl9])
  have C1 := blk_cell V9.hp
  rw [hl9] at C1
  clear V9
  have HS := Lib.hid hs; have HQQ := Lib.hid hdch; have LQ := HQ
  have hjH9 := hjH
  clear HHB9
  go_wp2_with fail
  clear C1
  go_loopw [112] (fun i wr => ∃ k : Nat, k ≤ 65 ∧ i = .int .i64 k ∧ ∃ ρk, TK W1 pb ρ w.heap.size ρ.hl[j].hb tag kind pos ch j seq wr ρk { epoch := σ.epoch, edited := σ.edited ++ [((σ.edits ++ [(⟨tag, ⟨kind, pos, ch, j, seq⟩⟩ : Edt)]).length : Int)], edits := σ.edits ++ [⟨tag, ⟨kind, pos, ch, j, seq⟩⟩], done := σ.done ++ [d], length := σ.length + grown d, hands := keptTo ((σ.edits.length : Int) + 1) d j k H, nk := σ.nk + 1, keys := fun c s => (c = j ∧ s = seq) ∨ σ.keys c s } ∧ H5 pb b5 d wr ρk ∧ ρk.vH = .slice (some ⟨gH9, 0, none⟩) 65 cH9) (fun i _ => 65 - (intOf i).toNat)
  case atStart => exact ⟨0, by omega, rfl, ρ9, by rw [keptTo_zero]; exact K9.out, F9.out, hV0.out⟩
  case round =>
    obtain ⟨k, hk, rfl, ρk, kk, fk, vk⟩ := hrel
    have hlk : ρk.hl.length = 65 := by have := kk.h.hn; simpa [keptTo, hHl] using this
    by_cases hlt : k < 65
    · have hkr : k < ρk.hl.length := by omega
      have hkh : k < (keptTo ((σ.edits.length : Int) + 1) d j k H).length := by rw [keptTo_len, hHl]; exact hlt
      obtain ⟨aI, cI, aE, cE, aD, cD, gH, cH, V⟩ := kk.h.view k hkr hkh
      have e1 := V.eH.symm.trans vk
      rw [hlk] at e1
      obtain ⟨rfl, rfl⟩ : gH = gH9 ∧ cH = cH9 := by simpa using e1
      have C0 := blk_cell kk.x3; have C1 := blk_cell V.hp; have CX := blk_cell V.hx; have CH := V.hc; have C5 := blk_cell fk.x
      have SP := Lib.hid V.hs
      have KK := Lib.hid kk; have FK := Lib.hid fk; have VK := Lib.hid vk; have HKR := Lib.hid hkr
      clear kk fk vk V e1
      by_cases hkj : k = j
      · subst hkj
        go_wp2_with fail
        refine ⟨⟨k + 1, by omega, by go_num, ρk, ?_, FK.out, VK.out⟩, by simp [intOf]; omega⟩
        rw [keptTo_own]; exact KK.out
      · have hkq : (keptTo ((σ.edits.length : Int) + 1) d j k H)[k].q.list.length ≤ 4096 := by
          rw [keptTo_at]
          have hks : k < σ.hands.length := by omega
          have e2 : H[k]? = σ.hands[k]? := by rw [← HH.out, List.getElem?_set_ne (Ne.symm hkj)]
          rw [List.getElem?_eq_getElem (by omega), List.getElem?_eq_getElem hks] at e2
          rw [Option.some.inj e2]
          exact LQ.out k hks
        have LS := blk_lt FK.out.x
        go_wp2_with fail
        go_region_with (go_at_call 49; refine (keep_any ρk.hl[k].sb (keptTo ((σ.edits.length : Int) + 1) d j k H)[k].q ρk.hl[k].L ((σ.edits.length : Int) + 1) d _ (by exact SP.out.mod (Mod.of_below (L := []) (by ((repeat' (first | with_reducible refine Below.drewN ?_ _ | with_reducible refine Below.drew ?_ | with_reducible refine Below.new ?_ _)) <;> with_reducible exact Below.refl _ _))) (by simp)) HQQ.out (by omega)).mono ?_; rintro e w2 ⟨rfl, L2, hs2, hm2, hf2⟩; have HS2 := Lib.hid hs2; have HM2 := Lib.hid hm2; have HF2 := Lib.hid hf2; clear hs2 hm2 hf2)
        all_goals
          go_wp2_with fail
          obtain ⟨ρ', a1, a2, a3⟩ := KK.out.keep FK.out (by ((repeat' (first | with_reducible refine Below.drewN ?_ _ | with_reducible refine Below.drew ?_ | with_reducible refine Below.new ?_ _)) <;> with_reducible exact Below.refl _ _)) k HKR.out hkh HS2.out HM2.out HF2.out
          exact ⟨⟨k + 1, by omega, by go_num, ρ', by rw [← keptTo_step _ _ _ _ _ hkj hkh]; exact a1, a2, a3.trans VK.out⟩, by simp [intOf]; omega⟩
    · obtain rfl : k = 65 := by omega
      have KK := Lib.hid kk; have FK := Lib.hid fk; clear kk fk vk
      go_wp2_with fail
      refine bodyPost_end (results_none rfl _ _ _) rfl ?_
      rw [HT.out]
      exact ⟨rfl, _, by simpa using KK.out.h, HW1.out.trans KK.out.s⟩
end Go.Proofs.YtjeidklpomekdaaDoor

/- The book: must. -/
namespace Go.Proofs.YtjeidklpomekdaaDoor
open Go.RowKit

/-- What a replay that cannot go on panics with. -/
abbrev unfitV (i code : Int) : Value := .iface 64 (.agg #[.int .i64 i, .iface 74 (.int .i64 code)])

theorem check_tag {σ : BookS} {e : Edt} (ok : BookOk σ) (h0 : σ.check e = 0) : valid e.op = 0 ∧ 0 ≤ e.tag ∧ e.tag ≤ 4096 := by
  unfold BookS.check at h0
  split at h0
  · omega
  split at h0
  · omega
  rename_i hv
  have hv : valid e.op = 0 := by omega
  obtain ⟨h1, h2, h3, h4⟩ := valid_who hv
  split at h0
  · omega
  split at h0
  · omega
  split at h0
  · omega
  split at h0
  · omega
  rename_i ht
  have hl : e.op.client.toNat < σ.hands.length := by rw [ok.n65]; omega
  have hh : σ.hand e.op.client = σ.hands[e.op.client.toNat] := by simp [BookS.hand, hl]
  have := ok.tag _ hl
  have := ok.edits
  rw [hh] at ht
  refine ⟨hv, ?_, ?_⟩ <;> omega

set_option maxRecDepth 100000 in
set_option maxHeartbeats 3200000 in
theorem must_take (pb : Nat) (ρ : BookL) (σ : BookS) (w : World) (h : BookAt w pb ρ σ) (ok : BookOk σ) (hd : σ.done.length = σ.edits.length) (hnk : σ.nk ≤ 100000) (hR : Rules w) (hRf : 1 ∉ ρ.foot pb) (i : Int) (e : Edt) (hc : 0 ≤ e.op.ch ∧ e.op.ch ≤ 255) (h0 : σ.check e = 0) :
    Calls Tryd.prog 25 #[.pointer (some ⟨pb, 0, none⟩), .int .i64 i, e.val] w fun r w' => r = .returned (.tuple #[]) ∧ BookPost w w' pb ρ (σ.take e) := by
  obtain ⟨hv, ht1, ht2⟩ := check_tag ok h0
  obtain ⟨tag, kind, pos, ch, client, seq⟩ := e
  obtain ⟨h1, h2, h3, h4⟩ := valid_who hv
  obtain ⟨j, rfl⟩ : ∃ j : Nat, client = j := ⟨client.toNat, by simp at h1; omega⟩
  have hb1 : Below w.heap.size w (w.alloc (ebox tag kind pos ch j seq)) := ((Below.refl _ _)).new _
  have H := Lib.hid (h.below hb1); have OK := Lib.hid ok; have HD := Lib.hid hd; have HNK := Lib.hid hnk; have HR := Lib.hid (hR.below hb1); have HRF := Lib.hid hRf; have HV := Lib.hid hv
  have HB1 := Lib.hid hb1
  have hne : (σ.check ⟨tag, ⟨kind, pos, ch, j, seq⟩⟩ != 0) = false := by simp [h0]
  have x0 := Lib.hid (blk_new w (ebox tag kind pos ch j seq))
  clear h ok hd hnk hR hRf hv h0 hb1
  go_enter Tryd.func25, Tryd.ntmps25
  go_wp2_with fail
  refine (check_any pb ρ σ _ H.out OK.out ⟨tag, ⟨kind, pos, ch, j, seq⟩⟩ hc).mono ?_
  rintro r w1 ⟨rfl, hb⟩
  have HB := Lib.hid hb; clear hb
  have x1 := HB.out.blk x0.out
  have C0 := blk_cell x1; have X1 := Lib.hid x1; clear x1
  go_wp2_with fail
  refine (take_any pb ρ σ _ (H.out.below HB.out) OK.out HD.out HNK.out (HR.out.below HB.out) HRF.out tag kind pos ch seq j hc HV.out ⟨by have h1' : (1 : Int) ≤ j := h1; omega, by have h2' : (j : Int) ≤ 64 := h2; omega⟩ ⟨h3, h4⟩ ⟨ht1, ht2⟩).mono ?_
  rintro r w2 ⟨rfl, ρ2, hB2, hS2⟩
  have HB2 := Lib.hid hB2; have HS2 := Lib.hid hS2; clear hB2 hS2
  go_wp2_with fail
  refine bodyPost_end (results_none rfl _ _ _) rfl ?_
  exact ⟨rfl, ρ2, HB2.out, (BStep.below (HB1.out.then_ HB.out) pb ρ).trans HS2.out⟩

set_option maxRecDepth 100000 in
set_option maxHeartbeats 3200000 in
theorem must_fail (pb : Nat) (ρ : BookL) (σ : BookS) (w : World) (h : BookAt w pb ρ σ) (ok : BookOk σ) (i : Int) (e : Edt) (hc : 0 ≤ e.op.ch ∧ e.op.ch ≤ 255) (h0 : σ.check e ≠ 0) :
    Calls Tryd.prog 25 #[.pointer (some ⟨pb, 0, none⟩), .int .i64 i, e.val] w fun r w' => r = .panicked [{ v := unfitV i (σ.check e), recovered := false }] ∧ Below w.heap.size w w' := by
  obtain ⟨tag, kind, pos, ch, client, seq⟩ := e
  have hb1 : Below w.heap.size w (w.alloc (.cells #[.int .i64 tag, .int .i64 kind, .int .i64 pos, .int .u8 ch, .int .i64 client, .int .i64 seq] 48 (0, 0))) := ((Below.refl _ _)).new _
  have H := Lib.hid (h.below hb1); have OK := Lib.hid ok
  have HB1 := Lib.hid hb1
  have hne : (σ.check ⟨tag, ⟨kind, pos, ch, client, seq⟩⟩ != 0) = true := by simp [h0]
  clear h ok hb1 h0
  go_enter Tryd.func25, Tryd.ntmps25
  go_wp2_with fail
  refine (check_any pb ρ σ _ H.out OK.out ⟨tag, ⟨kind, pos, ch, client, seq⟩⟩ hc).mono ?_
  rintro r w1 ⟨rfl, hb⟩
  have HB := Lib.hid hb; clear hb
  go_wp2_with fail
  exact ⟨rfl, rfl, HB1.out.then_ HB.out⟩
end Go.Proofs.YtjeidklpomekdaaDoor

