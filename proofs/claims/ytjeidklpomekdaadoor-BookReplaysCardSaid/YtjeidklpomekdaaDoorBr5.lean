/- Part 5 of the proof of BookReplays: Inv, RefApply, Carried, SliceW, AppK, Marked, Half, Keep, StepNew, ShelfE. -/
import Derived.ArgAppend
import Derived.Maps.AppendAt
import Derived.Test.YtjeidklpomekdaaDoorBr4

set_option linter.unusedVariables false
set_option linter.unusedSimpArgs false
set_option linter.unnecessarySimpa false

/- The book: what holds behind every edit that Check lets by. -/
namespace Go.Proofs.YtjeidklpomekdaaDoor
open Go.RowKit

/-- What the book's own methods keep. -/
structure BookInv (σ : BookS) : Prop where
  n65 : σ.hands.length = 65
  keys : ∀ c s : Int, 1 ≤ c → c ≤ 64 → 1 ≤ s → (σ.keys c s ↔ s ≤ (σ.hand c).seq)
  seq : ∀ i (h : i < σ.hands.length), 0 ≤ σ.hands[i].seq ∧ σ.hands[i].seq ≤ 64
  tag : ∀ i (h : i < σ.hands.length), 0 ≤ σ.hands[i].tag ∧ σ.hands[i].tag ≤ σ.edits.length
  q : ∀ i (h : i < σ.hands.length), σ.hands[i].q.list.length ≤ σ.edits.length
  qch : ∀ i (h : i < σ.hands.length), ∀ m ∈ σ.hands[i].q.list, 0 ≤ m.op.ch ∧ m.op.ch ≤ 255
  sum : (σ.hands.map (·.seq)).sum = σ.edits.length
  zero : ∀ h : 0 < σ.hands.length, σ.hands[0].seq = 0
  len : -(σ.edits.length : Int) ≤ σ.length ∧ σ.length ≤ σ.edits.length
  edited : σ.edited.length = σ.edits.length + 1
  done : σ.done.length = σ.edits.length
  nk : σ.nk = σ.edits.length

theorem sum_le (l : List HandS) (h : ∀ x ∈ l, x.seq ≤ 64) : (l.map (·.seq)).sum ≤ 64 * l.length := by
  induction l with
  | nil => simp
  | cons a l ih =>
    have := ih (fun x hx => h x (List.mem_cons_of_mem _ hx))
    have := h a (by simp)
    simp only [List.map_cons, List.sum_cons, List.length_cons]
    omega
theorem sum_set (l : List HandS) (j : Nat) (h : j < l.length) (x : HandS) : ((l.set j x).map (·.seq)).sum = (l.map (·.seq)).sum - l[j].seq + x.seq := by
  induction l generalizing j with
  | nil => simp at h
  | cons a l ih =>
    cases j with
    | zero => simp; omega
    | succ j => simp only [List.set_cons_succ, List.map_cons, List.sum_cons, List.getElem_cons_succ]; rw [ih j (by simpa using h)]; omega

theorem BookInv.size {σ : BookS} (I : BookInv σ) : σ.edits.length ≤ 4096 := by
  have h1 := I.n65
  match hh : σ.hands with
  | [] => rw [hh] at h1; simp at h1
  | a :: l =>
    have hz := I.zero (by omega)
    have hs := I.sum
    have hq := I.seq
    rw [hh] at h1 hs
    simp only [hh, List.getElem_cons_zero] at hz
    have := sum_le l (fun x hx => by
      obtain ⟨i, hi, rfl⟩ := List.getElem_of_mem hx
      have := (hq (i + 1) (by rw [hh]; simp; exact hi)).2
      simpa [hh] using this)
    simp only [List.map_cons, List.sum_cons, List.length_cons] at hs h1
    omega

theorem BookInv.ok {σ : BookS} (I : BookInv σ) : BookOk σ where
  n65 := I.n65
  keys := I.keys
  seq := I.seq
  tag := fun i h => by have := I.tag i h; have := I.size; omega
  q := fun i h => by have := I.q i h; have := I.size; omega
  qch := I.qch
  edits := I.size
  len := by have := I.len; have := I.size; omega
  edited := by have := I.edited; have := I.size; omega

theorem BookS.take_hands (σ : BookS) (e : Edt) (n65 : σ.hands.length = 65) : (σ.take e).hands.length = 65 := by simp [BookS.take, keptTo_len, n65]
theorem BookS.take_hand (σ : BookS) (e : Edt) (n65 : σ.hands.length = 65) (c : Nat) (hc : c < 65) (h' : c < (σ.take e).hands.length) :
    (σ.take e).hands[c] = if c = e.op.client.toNat then ⟨e.op.seq, e.tag, (takeQ (σ.hand e.op.client) e).cross e.op⟩ else { σ.hands[c]'(by omega) with q := (σ.hands[c]'(by omega)).q.keep ((σ.edits.length : Int) + 1) (takeDone (σ.hand e.op.client) e) } := by
  simp only [BookS.take, keptTo_get, List.getElem_set]
  by_cases h : c = e.op.client.toNat
  · simp [h]
  · simp [h, Ne.symm h, hc]

theorem BookS.take_handI (σ : BookS) (e : Edt) (n65 : σ.hands.length = 65) (c : Int) (hc : 0 ≤ c ∧ c ≤ 64) (he : 0 ≤ e.op.client) :
    (σ.take e).hand c = if c = e.op.client then ⟨e.op.seq, e.tag, (takeQ (σ.hand e.op.client) e).cross e.op⟩ else { σ.hand c with q := (σ.hand c).q.keep ((σ.edits.length : Int) + 1) (takeDone (σ.hand e.op.client) e) } := by
  have h1 : c.toNat < (σ.take e).hands.length := by rw [σ.take_hands e n65]; omega
  have h2 : c.toNat < σ.hands.length := by omega
  have e1 : (σ.take e).hand c = (σ.take e).hands[c.toNat] := by simp [BookS.hand, h1]
  have e2 : σ.hand c = σ.hands[c.toNat] := by simp [BookS.hand, h2]
  rw [e1, σ.take_hand e n65 c.toNat (by omega) h1, e2]
  have : (c.toNat = e.op.client.toNat) ↔ (c = e.op.client) := by omega
  simp only [this]

theorem keep_len (S : SpaceS) (n : Int) (d : Opr) : (S.keep n d).list.length ≤ S.list.length + 1 := by unfold SpaceS.keep; split <;> simp
theorem keep_mem {S : SpaceS} {n : Int} {d : Opr} {m : Mrk} (h : m ∈ (S.keep n d).list) : m ∈ S.list ∨ m = ⟨n, d⟩ := by
  unfold SpaceS.keep at h
  split at h
  · simpa using h
  · exact Or.inl h
theorem past_chs (f : Bool) : ∀ (ls : List Opr) (op : Opr), (∀ o ∈ ls, 0 ≤ o.ch ∧ o.ch ≤ 255) → ∀ o ∈ (past f op ls).2, 0 ≤ o.ch ∧ o.ch ≤ 255
  | [], _, _, o, ho => by simp [past] at ho
  | l :: ls, op, h, o, ho => by
    simp only [past, List.mem_cons] at ho
    rcases ho with rfl | ho
    · exact shift_ch _ _ _ (h l (by simp))
    · exact past_chs f ls _ (fun o ho => h o (List.mem_cons_of_mem _ ho)) o ho
theorem remark_mem : ∀ (l : List Mrk) (os : List Opr), os.length = l.length → ∀ m ∈ remark l os, m.op ∈ os
  | [], [], _, m, h => by simp [remark] at h
  | x :: l, o :: os, hl, m, h => by
    simp only [remark, List.mem_cons] at h
    rcases h with rfl | h
    · simp
    · exact List.mem_cons_of_mem _ (remark_mem l os (by simpa using hl) m h)
theorem cross_len (S : SpaceS) (o : Opr) : (S.cross o).list.length = S.list.length := by
  unfold SpaceS.cross; simp [remark_length, past_length, ops]

theorem BookInv.take {σ : BookS} (I : BookInv σ) (e : Edt) (h0 : σ.check e = 0) (hc : 0 ≤ e.op.ch ∧ e.op.ch ≤ 255) : BookInv (σ.take e) := by
  have n65 := I.n65
  have hq1 := h0
  obtain ⟨hv, ht1, ht2⟩ := check_tag I.ok h0
  obtain ⟨h1, h2, h3, h4⟩ := valid_who hv
  have hjl : e.op.client.toNat < σ.hands.length := by omega
  have hh : σ.hand e.op.client = σ.hands[e.op.client.toNat] := by simp [BookS.hand, hjl]
  unfold BookS.check at hq1
  rw [if_neg (fun h => by rw [if_pos h] at hq1; omega)] at hq1
  rw [if_neg (fun h => h hv)] at hq1
  rw [if_neg (fun h => by rw [if_pos h] at hq1; omega)] at hq1
  rw [if_neg (fun h => by rw [if_pos h] at hq1; omega)] at hq1
  have hseq : e.op.seq = (σ.hand e.op.client).seq + 1 := by
    by_cases h : e.op.seq = (σ.hand e.op.client).seq + 1
    · exact h
    · rw [if_pos h] at hq1; omega
  rw [if_neg (fun h => h hseq)] at hq1
  have htag : ¬ (e.tag < (σ.hand e.op.client).tag ∨ (σ.edits.length : Int) < e.tag) := fun h => by rw [if_pos h] at hq1; omega
  clear hq1
  have hsz := I.size
  have hlen' : (σ.take e).edits.length = σ.edits.length + 1 := by simp [BookS.take]
  have hnew := σ.take_hands e n65
  have hto : ∀ i (h : i < (σ.take e).hands.length), _ := fun i h => σ.take_hand e n65 i (by omega) h
  have hqh := I.q _ hjl
  have hdl : ((takeQ (σ.hand e.op.client) e).cross e.op).list.length ≤ σ.edits.length := by
    rw [cross_len, hh]; simp [takeQ, SpaceS.dropTo]; omega
  have hdq : ∀ o ∈ ops (takeQ (σ.hand e.op.client) e).list, 0 ≤ o.ch ∧ o.ch ≤ 255 := by
    intro o ho
    obtain ⟨m, hm, rfl⟩ := List.mem_map.1 ho
    rw [hh] at hm
    exact I.qch _ hjl m (List.mem_of_mem_drop hm)
  have hdone : 0 ≤ (takeDone (σ.hand e.op.client) e).ch ∧ (takeDone (σ.hand e.op.client) e).ch ≤ 255 := past_ch _ _ _ hc
  refine ⟨hnew, ?_, ?_, ?_, ?_, ?_, ?_, ?_, ?_, ?_, ?_, ?_⟩
  · intro c s hc1 hc2 hs1
    rw [σ.take_handI e n65 c ⟨by omega, hc2⟩ (by omega)]
    have := I.keys c s hc1 hc2 hs1
    show (c = e.op.client ∧ s = e.op.seq) ∨ σ.keys c s ↔ _
    rw [this]
    by_cases hce : c = e.op.client
    · subst hce
      simp only [if_true, true_and]
      omega
    · simp [hce]
  · intro i h
    rw [hto i h]
    split
    · exact ⟨by simp; omega, h4⟩
    · exact I.seq i (by omega)
  · intro i h
    rw [hto i h, hlen']
    split
    · simp; omega
    · have := I.tag i (by omega); simp; omega
  · intro i h
    rw [hto i h, hlen']
    split
    · simp only []; omega
    · have := I.q i (by omega)
      have := keep_len (σ.hands[i]'(by omega)).q ((σ.edits.length : Int) + 1) (takeDone (σ.hand e.op.client) e)
      simp only []; omega
  · intro i h m hm
    rw [hto i h] at hm
    split at hm
    · simp only [SpaceS.cross] at hm
      exact past_chs _ _ _ hdq _ (remark_mem _ _ (by simp [past_length, ops]) m hm)
    · rcases keep_mem hm with h' | rfl
      · exact I.qch i (by omega) m h'
      · exact hdone
  · have e1 : ((σ.take e).hands.map (·.seq)) = (σ.hands.set e.op.client.toNat ⟨e.op.seq, e.tag, (takeQ (σ.hand e.op.client) e).cross e.op⟩).map (·.seq) := by
      apply List.ext_getElem (by simp [BookS.take, keptTo_len])
      intro i h1 h2
      simp only [List.getElem_map, BookS.take, keptTo_get]
      split <;> rfl
    rw [e1, sum_set _ _ hjl, I.sum, hlen']
    simp only []
    rw [hseq, hh]; omega
  · intro h
    rw [hto 0 h, if_neg (by omega)]
    exact I.zero (by omega)
  · have := grown_le (takeDone (σ.hand e.op.client) e)
    have := I.len
    rw [hlen']
    show _ ≤ σ.length + _ ∧ σ.length + _ ≤ _
    omega
  · have := I.edited
    rw [hlen']; simp [BookS.take, this]
  · have := I.done
    rw [hlen']; simp [BookS.take, this]
  · have := I.nk
    rw [hlen']; simp [BookS.take, this]
end Go.Proofs.YtjeidklpomekdaaDoor

/- jotterref04's Apply. -/
namespace Go.Proofs.YtjeidklpomekdaaDoor
open Go.RowKit

theorem fits_kind {n : Int} {o : Opr} (h : fits n o = 0) : o.kind = 0 ∨ o.kind = 1 ∨ o.kind = 2 := by
  unfold fits at h
  split at h
  · omega
  rename_i hv
  unfold valid at hv
  split at hv
  · omega
  · omega
theorem apply_length {ds : List Elm} {o : Opr} (h : fits ds.length o = 0) : ((apply ds o).length : Int) = ds.length + grown o := by
  rcases fits_kind h with hk | hk | hk
  · simp [apply, grown, hk]
  · have := fits_insert h hk
    simp [apply, grown, hk]; omega
  · have := fits_delete h hk
    simp [apply, grown, hk]; omega

theorem at_any (v : Value) (ds : List Elm) (o : Opr) (i : Nat) (w : World) (h : SlR w Elm.cells 3 v ds) (hf : fits ds.length o = 0) (hi : i < (apply ds o).length) :
    Calls Tryd.prog 41 #[v, o.val, .int .i64 i] w fun e w' => e = .returned (apply ds o)[i].val ∧ Below w.heap.size w w' := by
  have hlen := apply_length hf
  rcases fits_kind hf with hk | hk | hk
  · have e : apply ds o = ds := by simp [apply, hk]
    simp only [e] at hi ⊢
    exact at_here v ds o i w h hi (Or.inl hk)
  · have hg : grown o = 1 := by simp [grown, hk]
    obtain ⟨h0, h1, h2, h3⟩ := fits_insert hf hk
    have e : apply ds o = ds.take o.pos.toNat ++ [⟨o.ch, o.client, o.seq⟩] ++ ds.drop o.pos.toNat := by simp [apply, hk]
    have hl : (ds.take o.pos.toNat).length = o.pos.toNat := by rw [List.length_take]; omega
    by_cases h4 : (i : Int) < o.pos
    · have e1 : (apply ds o)[i] = ds[i]'(by omega) := by
        simp only [e]
        rw [List.getElem_append_left (by simp; omega), List.getElem_append_left (by omega)]; simp
      rw [e1]
      exact at_here v ds o i w h (by omega) (Or.inr h4)
    · by_cases h5 : (i : Int) = o.pos
      · have e1 : (apply ds o)[i] = ⟨o.ch, o.client, o.seq⟩ := by
          simp only [e]
          rw [List.getElem_append_left (by simp; omega), List.getElem_append_right (by omega)]
          simp
        rw [e1]
        exact at_new v ds o i w h hk h5
      · obtain ⟨j, rfl⟩ : ∃ j, i = j + 1 := ⟨i - 1, by omega⟩
        have e1 : (apply ds o)[j + 1] = ds[j]'(by omega) := by
          simp only [e]
          rw [List.getElem_append_right (by simp; omega)]
          simp only [List.length_append, hl, List.length_singleton, List.getElem_drop]
          congr 1; omega
        rw [e1]
        exact at_prev v ds o j w h (by omega) hk (by omega)
  · have hg : grown o = -1 := by simp [grown, hk]
    obtain ⟨h0, h1, h2⟩ := fits_delete hf hk
    have e : apply ds o = ds.take o.pos.toNat ++ ds.drop (o.pos.toNat + 1) := by simp [apply, hk]
    have hl : (ds.take o.pos.toNat).length = o.pos.toNat := by rw [List.length_take]; omega
    by_cases h4 : (i : Int) < o.pos
    · have e1 : (apply ds o)[i] = ds[i]'(by omega) := by
        simp only [e]
        rw [List.getElem_append_left (by omega)]; simp
      rw [e1]
      exact at_here v ds o i w h (by omega) (Or.inr h4)
    · have e1 : (apply ds o)[i] = ds[i + 1]'(by omega) := by
        simp only [e]
        rw [List.getElem_append_right (by omega)]
        simp only [hl, List.getElem_drop]
        congr 1; omega
      rw [e1]
      exact at_next v ds o i w h (by omega) hk h4

theorem set3_list {α : Type} (l : List α) (o : Nat) (v0 v1 v2 : α) (h : o + 3 ≤ l.length) : ((l.set o v0).set (o + 1) v1).set (o + 2) v2 = l.take o ++ [v0, v1, v2] ++ l.drop (o + 3) := by
  obtain ⟨x, y, rfl, rfl⟩ : ∃ x y, l = x ++ y ∧ x.length = o := ⟨l.take o, l.drop o, (List.take_append_drop o l).symm, by rw [List.length_take]; omega⟩
  match y, h with
  | a :: b :: c :: r, _ =>
    rw [List.take_left, List.drop_length_add_append]
    simp [List.set_append, show ∀ n : Nat, ¬ x.length + n < x.length by omega, Nat.add_sub_cancel_left]
  | [], h => exact absurd h (by simp <;> omega)
  | [_], h => exact absurd h (by simp <;> omega)
  | [_, _], h => exact absurd h (by simp <;> omega)
theorem set3_at {w : World} {b : Nat} {cs : Array Value} {T : TypeId} {fz : Nat × Nat} (h : w.heap[b]? = some (.cells cs T fz)) (o : Nat) (hs : o + 3 ≤ cs.size) (v0 v1 v2 : Value) :
    ∃ cs', (((w.setCell ⟨b, o, none⟩ v0).setCell ⟨b, o + 1, none⟩ v1).setCell ⟨b, o + 2, none⟩ v2).heap[b]? = some (.cells cs' T fz) ∧ cs'.toList = cs.toList.take o ++ [v0, v1, v2] ++ cs.toList.drop (o + 3) := by
  have h0 := blk_set h o v0
  have h1 := blk_set h0 (o + 1) v1
  refine ⟨_, blk_set h1 (o + 2) v2, ?_⟩
  rw [← set3_list _ _ _ _ _ (by simpa using hs)]
  simp
theorem Mod.set3_at (w : World) (b o : Nat) (v0 v1 v2 : Value) : Mod [b] w (((w.setCell ⟨b, o, none⟩ v0).setCell ⟨b, o + 1, none⟩ v1).setCell ⟨b, o + 2, none⟩ v2) :=
  ((Mod.setCell w b o v0).then_ (Mod.setCell _ b (o + 1) v1) (fun _ h => h)).then_ (Mod.setCell _ b (o + 2) v2) (fun _ h => h)
/-- The slice's element i is written over, cell by cell. -/
theorem SlO.setElm {w : World} {base : Nat} {E : TypeId} {g n cap : Nat} {xs : List Elm} (h : SlO w base E Elm.cells 3 (.slice (some ⟨g, 0, none⟩) n cap) xs) (i : Nat) (hi : i < xs.length) (y : Elm) :
    SlO (((w.setCell ⟨g, i * 3, none⟩ (.int .u8 y.ch)).setCell ⟨g, i * 3 + 1, none⟩ (.int .i64 y.client)).setCell ⟨g, i * 3 + 2, none⟩ (.int .i64 y.seq)) base E Elm.cells 3 (.slice (some ⟨g, 0, none⟩) n cap) (xs.set i y) := by
  obtain ⟨cur, hg, hs, _, hl, _, _, rfl⟩ := h.row
  have hik : i * 3 + 3 ≤ cur.size := by rw [hs]; omega
  obtain ⟨cs', h1, h2⟩ := set3_at hg (i * 3) hik (.int .u8 y.ch) (.int .i64 y.client) (.int .i64 y.seq)
  exact h.set len_elem i hi y h1 (fun cur' hc => by rw [hg] at hc; cases hc; exact h2)

def RApp (w : World) (ys : List Elm) (o : Opr) (g n k : Nat) (wr : World) : Prop :=
  SlO wr w.heap.size 50 Elm.cells 3 (.slice (some ⟨g, 0, none⟩) n n) (ys.take k ++ List.replicate (n - k) ⟨0, 0, 0⟩) ∧ Below w.heap.size w wr ∧ w.heap.size < g ∧
    wr.heap[w.heap.size]? = some (.cells #[.int .i64 o.kind, .int .i64 o.pos, .int .u8 o.ch, .int .i64 o.client, .int .i64 o.seq] 46 (0, 0))

theorem fill_step (ys : List Elm) (k : Nat) (hk : k < ys.length) (z : Elm) : (ys.take k ++ List.replicate (ys.length - k) z).set k ys[k] = ys.take (k + 1) ++ List.replicate (ys.length - (k + 1)) z := by
  have h1 : (ys.take k).length = k := by rw [List.length_take]; omega
  rw [List.set_append_right _ _ (by omega), h1, Nat.sub_self, List.take_succ_eq_append_getElem hk]
  obtain ⟨m, hm⟩ : ∃ m, ys.length - k = m + 1 := ⟨ys.length - k - 1, by omega⟩
  rw [hm, List.replicate_succ, List.set_cons_zero, show ys.length - (k + 1) = m by omega]
  simp only [List.append_assoc, List.cons_append, List.nil_append]
theorem rapp_step {w wr w4 : World} {ys : List Elm} {o : Opr} {g k : Nat} {y : Elm} (hk : k < ys.length) (hy : ys[k] = y) (I : RApp w ys o g ys.length k wr) (ho : SlO w4 w.heap.size 50 Elm.cells 3 (.slice (some ⟨g, 0, none⟩) ys.length ys.length) (ys.take k ++ List.replicate (ys.length - k) ⟨0, 0, 0⟩))
    (hb : Below wr.heap.size wr w4) (hx : w4.heap[w.heap.size]? = some (.cells #[.int .i64 o.kind, .int .i64 o.pos, .int .u8 o.ch, .int .i64 o.client, .int .i64 o.seq] 46 (0, 0))) (hkl : k < (ys.take k ++ List.replicate (ys.length - k) (⟨0, 0, 0⟩ : Elm)).length) :
    RApp w ys o g ys.length (k + 1) (((w4.setCell ⟨g, k * 3, none⟩ (.int .u8 y.ch)).setCell ⟨g, k * 3 + 1, none⟩ (.int .i64 y.client)).setCell ⟨g, k * 3 + 2, none⟩ (.int .i64 y.seq)) := by
  obtain ⟨_, hB, hg, _⟩ := I
  have h1 := ho.setElm k hkl y
  rw [← hy, fill_step _ _ hk, hy] at h1
  have hm := Mod.set3_at w4 g (k * 3) (.int .u8 y.ch) (.int .i64 y.client) (.int .i64 y.seq)
  exact ⟨h1, (hB.then_ hb).mod hm (by intro q hq; simp at hq; omega), hg, hm.blk (by simp; omega) hx⟩

set_option maxRecDepth 100000 in
set_option maxHeartbeats 3200000 in
theorem rapply_any (v : Value) (ds : List Elm) (o : Opr) (w : World) (h : SlR w Elm.cells 3 v ds) (hf : fits ds.length o = 0) (hc : 0 ≤ o.ch ∧ o.ch ≤ 255) :
    Calls Tryd.prog 32 #[v, o.val] w fun e w' => ∃ dv, e = .returned (.tuple #[dv, .int .i64 0]) ∧ SlO w' w.heap.size 50 Elm.cells 3 dv (apply ds o) ∧ Below w.heap.size w w' := by
  have hlen := apply_length hf
  have hle := fits_le hf
  have hgr := grown_le o
  have H := Lib.hid h; have HF := Lib.hid hf; have HLEN := Lib.hid hlen
  obtain ⟨a, cap, rfl, hl, _⟩ := h
  have hf' : (fits ds.length o != 0) = false := by simp [hf]
  clear hf hlen
  have X0 := Lib.hid (blk_new w (.cells #[.int .i64 o.kind, .int .i64 o.pos, .int .u8 o.ch, .int .i64 o.client, .int .i64 o.seq] 46 (0, 0)))
  go_enter Tryd.func32, Tryd.ntmps32
  go_wp2_with fail
  refine (rfits_any _ o _ hc).mono ?_
  rintro e w1 ⟨rfl, hb1⟩
  have x1 := hb1.blk X0.out
  have C1 := blk_cell x1
  have HB1 := Lib.hid hb1; have X1 := Lib.hid x1; clear hb1 x1
  go_wp2_with fail
  refine (long_any _ o _ (by omega)).mono ?_
  rintro e w2 ⟨rfl, hb2⟩
  have hbt : Below w.heap.size w w2 := ((Below.refl _ _).new _).then_ HB1.out |>.then_ hb2
  have x2 := hb2.blk X1.out
  have HB2 := Lib.hid hbt; have X2 := Lib.hid x2; clear hb2 hbt x2 C1
  have hN : (ds.length : Int) + grown o = ((apply ds o).length : Nat) := HLEN.out.symm
  rw [hN]
  have hnl : (apply ds o).length ≤ 5000 := by omega
  have HAT := Lib.hid hN; clear hN
  generalize has : apply ds o = ys at *
  have HAS := Lib.hid has; clear has
  go_wp2_with (at_make; refine wp_maken et_elem rfl _ _ rfl Elm.cells len_elem (⟨0, 0, 0⟩ : Elm).val (⟨0, 0, 0⟩ : Elm) (by kernel_rfl) rfl .i64 .i64 _ _ ys.length rfl rfl rfl rfl (by omega) (by omega) ?_; intro w3 ho3 hb3 hlt3; have x3 := hb3.blk X2.out; have HO3 := Lib.hid ho3; have HB3 := Lib.hid (HB2.out.then_ hb3); have X3 := Lib.hid x3; clear ho3 hb3 x3)
  have inv0 : RApp w ys o w2.heap.size ys.length 0 w3 := by
    refine ⟨?_, HB3.out, blk_lt X2.out, X3.out⟩
    rw [List.take_zero, List.nil_append, Nat.sub_zero]
    exact HO3.out.rebase (fun g hg => by have := (HO3.out.lt g hg).1; have := HB2.out.size; omega)
  have I0 := Lib.hid inv0; clear inv0
  go_loopw [9] (fun i wr => ∃ k : Nat, k ≤ ys.length ∧ i = .int .i64 k ∧ RApp w ys o w2.heap.size ys.length k wr) (fun i _ => ys.length - (intOf i).toNat)
  case atStart => exact ⟨0, Nat.zero_le _, rfl, I0.out⟩
  case round =>
    obtain ⟨k, hk, rfl, inv⟩ := hrel
    have INV := Lib.hid inv; clear inv
    by_cases hlt : k < ys.length
    · have C0 := blk_cell INV.out.2.2.2
      have AT := Lib.hid (at_any (.slice a ds.length cap) ds o k wr (H.out.below INV.out.2.1) HF.out (by rw [HAS.out]; exact hlt))
      have hx : (apply ds o)[k]'(by rw [HAS.out]; exact hlt) = ys[k] := by simp only [HAS.out]
      rw [hx] at AT
      have hkl : k < (ys.take k ++ List.replicate (ys.length - k) (⟨0, 0, 0⟩ : Elm)).length := by simp; omega
      have HKL := Lib.hid hkl; clear hkl
      go_wp2_with fail
      refine AT.out.mono ?_
      rintro e w4 ⟨rfl, hb4⟩
      have ho4 := INV.out.1.below hb4
      obtain ⟨cur, hg, hs, r1, r2, r3, r4, r5⟩ := ho4.row
      clear r1 r2 r3 r4 r5
      have F4 := blk_free hg; have L4 := blk_lt hg
      have C4 := blk_cell hg
      have e0 : ∃ u, cur[k * 3]? = some u := ⟨_, Array.getElem?_eq_getElem (by rw [hs]; omega)⟩
      have e1 : ∃ u, cur[k * 3 + 1]? = some u := ⟨_, Array.getElem?_eq_getElem (by rw [hs]; omega)⟩
      have e2 : ∃ u, cur[k * 3 + 2]? = some u := ⟨_, Array.getElem?_eq_getElem (by rw [hs]; omega)⟩
      obtain ⟨u0, e0⟩ := e0; obtain ⟨u1, e1⟩ := e1; obtain ⟨u2, e2⟩ := e2
      have d0 := (C4 (k * 3)).trans e0; have d1 := (C4 (k * 3 + 1)).trans e1; have d2 := (C4 (k * 3 + 2)).trans e2
      have x4 := hb4.blk INV.out.2.2.2
      have HO4 := Lib.hid ho4; have HB4 := Lib.hid hb4; have X4 := Lib.hid x4
      clear ho4 hb4 x4 hg hs C4 e0 e1 e2 C0
      generalize hy : ys[k] = y at *
      have HY := Lib.hid hy; clear hy
      go_wp2_with fail
      exact ⟨⟨k + 1, by omega, by go_num, rapp_step hlt HY.out INV.out HO4.out HB4.out X4.out HKL.out⟩, by simp [intOf]; omega⟩
    · obtain rfl : k = ys.length := by omega
      go_wp2_with fail
      go_ret2
      refine ⟨.slice (some ⟨w2.heap.size, 0, none⟩) ys.length ys.length, rfl, ?_, INV.out.2.1⟩
      have := INV.out.1
      rw [HAS.out]
      rwa [List.take_length, Nat.sub_self, List.replicate_zero, List.append_nil] at this
end Go.Proofs.YtjeidklpomekdaaDoor

/- jotterref12's carried. -/
namespace Go.Proofs.YtjeidklpomekdaaDoor
open Go.RowKit

/-- A client's forms behind a record of another's, and that record behind the forms. -/
def carry (r : Opr) : List Opr → List Opr × Opr
  | [] => ([], r)
  | f :: fs => (shift f r false :: (carry (shift r f true) fs).1, (carry (shift r f true) fs).2)
theorem carry_snoc (r : Opr) (fs : List Opr) (f : Opr) : carry r (fs ++ [f]) = ((carry r fs).1 ++ [shift f (carry r fs).2 false], shift (carry r fs).2 f true) := by
  induction fs generalizing r with
  | nil => rfl
  | cons x fs ih => simp [carry, ih]
theorem carry_length (r : Opr) (fs : List Opr) : (carry r fs).1.length = fs.length := by
  induction fs generalizing r with
  | nil => rfl
  | cons x fs ih => simp [carry, ih]
theorem carry_step (r : Opr) (fs : List Opr) (k : Nat) (hk : k < fs.length) : carry r (fs.take (k + 1)) = ((carry r (fs.take k)).1 ++ [shift fs[k] (carry r (fs.take k)).2 false], shift (carry r (fs.take k)).2 fs[k] true) := by
  rw [List.take_succ_eq_append_getElem hk, carry_snoc]

abbrev ocells (o : Opr) : Array Value := #[.int .i64 o.kind, .int .i64 o.pos, .int .u8 o.ch, .int .i64 o.client, .int .i64 o.seq]
/-- Round k of carried: what is done, and the record so far (boxed at the call's first block). -/
def CarInv (w : World) (r : Opr) (fs : List Opr) (k : Nat) (lv : Value) (wr : World) : Prop :=
  SlO wr (w.heap.size + 1) 46 Opr.cells 5 lv (carry r (fs.take k)).1 ∧ wr.heap[w.heap.size]? = some (.cells (ocells (carry r (fs.take k)).2) 46 (0, 0)) ∧ Below w.heap.size w wr

theorem car_end {w w4 : World} {r : Opr} {fs : List Opr} {k : Nat} {g N cap : Nat} {r' : Opr} (hk : k < fs.length) (ho : SlO w4 (w.heap.size + 1) 46 Opr.cells 5 (.slice (some ⟨g, 0, none⟩) N cap) ((carry r (fs.take k)).1 ++ [shift fs[k] (carry r (fs.take k)).2 false])) (hx : w4.heap[w.heap.size]? = some (.cells (ocells (carry r (fs.take k)).2) 46 (0, 0))) (hb : Below w.heap.size w w4)
    (hr : shift (carry r (fs.take k)).2 fs[k] true = r') :
    CarInv w r fs (k + 1) (.slice (some ⟨g, 0, none⟩) N cap) (((((w4.setCell ⟨w.heap.size, 0, none⟩ (.int .i64 r'.kind)).setCell ⟨w.heap.size, 1, none⟩ (.int .i64 r'.pos)).setCell ⟨w.heap.size, 2, none⟩ (.int .u8 r'.ch)).setCell ⟨w.heap.size, 3, none⟩ (.int .i64 r'.client)).setCell ⟨w.heap.size, 4, none⟩ (.int .i64 r'.seq)) := by
  have hm := Mod.set5 w4 w.heap.size (.int .i64 r'.kind) (.int .i64 r'.pos) (.int .u8 r'.ch) (.int .i64 r'.client) (.int .i64 r'.seq)
  refine ⟨?_, ?_, hb.mod hm (by simp)⟩
  · rw [carry_step r fs k hk]
    exact ho.mod hm (fun q hq => by have := (ho.lt q hq).1; simp; omega)
  · rw [carry_step r fs k hk, hr]
    exact set5 hx rfl _ _ _ _ _

set_option maxRecDepth 100000 in
set_option maxHeartbeats 3200000 in
theorem carried_any (v : Value) (fs : List Opr) (r : Opr) (w : World) (h : SlR w Opr.cells 5 v fs) (hn : fs.length ≤ 100000) :
    Calls Tryd.prog 39 #[v, r.val] w fun e w' => ∃ lv, e = .returned lv ∧ SlO w' w.heap.size 46 Opr.cells 5 lv (carry r fs).1 ∧ Below w.heap.size w w' := by
  have H := Lib.hid h
  obtain ⟨a, cap, rfl, hl, hnil, hcell⟩ := h
  clear hnil hcell
  have I0 := Lib.hid (show CarInv w r fs 0 (.slice none 0 0) (w.alloc (.cells (ocells r) 46 (0, 0))) from ⟨SlO.nil _ _ _ _ _, blk_new _ _, (Below.refl _ _).new _⟩)
  go_enter Tryd.func39, Tryd.ntmps39
  go_wp2
  go_loopw [5, 6] (fun v i wr => ∃ (k : Nat) (lv : Value), k ≤ fs.length ∧ i = .int .i64 k ∧ lv = v ∧ CarInv w r fs k lv wr) (fun _ i _ => fs.length - (intOf i).toNat)
  case atStart => exact ⟨0, _, Nat.zero_le _, rfl, rfl, I0.out⟩
  case round =>
    obtain ⟨k, lv, hk, rfl, rfl, inv⟩ := hrel
    by_cases hlt : k < fs.length
    · obtain ⟨b, off, rfl, c0, c1, c2, c3, c4⟩ := (H.out.below inv.2.2).op k hlt
      have hxl : (carry r (fs.take k)).1.length = k := by rw [carry_length, List.length_take]; omega
      have INV := Lib.hid inv
      obtain ⟨ho, hx, hb⟩ := inv
      have hys : ∀ y, shift fs[k] (carry r (fs.take k)).2 false = y → y = shift fs[k] (carry r (fs.take k)).2 false := fun y h => h.symm
      generalize hr : (carry r (fs.take k)).2 = rk at *
      generalize hxs : (carry r (fs.take k)).1 = xs at *
      generalize hf : fs[k] = f at *
      have C0 := blk_cell hx
      have LX := blk_lt hx
      have HO := Lib.hid ho; have HX := Lib.hid hx; have HB := Lib.hid hb; have HR := Lib.hid hr; have HXS := Lib.hid hxs; have HFE := Lib.hid hf; have HXL := Lib.hid hxl
      clear ho hx hb hr hxs hf hys hxl
      have Y0 := Lib.hid (blk_new wr (.cells (ocells f) 46 (0, 0)))
      have Z0 := Lib.hid (blk_alloc (.cells (ocells f) 46 (0, 0)) HX.out)
      go_wp2_with fail
      refine (rshift_any f rk false _).mono ?_
      rintro e w2 ⟨rfl, hb2⟩
      have ho2 := (HO.out.below ((Below.refl _ _).new _)).below hb2
      have y2 := hb2.blk Y0.out
      have z2 := hb2.blk Z0.out
      have HO2 := Lib.hid ho2; have HB2 := Lib.hid hb2; have Y2 := Lib.hid y2; have Z2 := Lib.hid z2; clear ho2 hb2 y2 z2 c0 c1 c2 c3 c4 C0
      have hbt : Below w.heap.size w w2 := (HB.out.new _).then_ HB2.out
      have hnw : w.heap.size ∉ lv.ownBlock.toList := fun hq => by have := (HO2.out.lt w.heap.size (by simpa using hq)).1; omega
      have hnr : wr.heap.size ∉ lv.ownBlock.toList := fun hq => by have := (HO.out.lt wr.heap.size (by simpa using hq)).2; omega
      have HNW := Lib.hid hnw; have HNR := Lib.hid hnr; have HBT := Lib.hid hbt; clear hnw hnr hbt
      have B1 := Lib.hid (show (xs.length + 1) * 40 ≤ 140737488355328 by have := HXL.out; omega)
      have B2 := Lib.hid (show xs.length + 1 ≤ 9223372036854775807 by have := HXL.out; omega)
      have B3 := Lib.hid (show w.heap.size + 1 ≤ w2.heap.size by have := blk_lt Z2.out; omega)
      go_wp2_with (at_builtin; refine wp_app1 et_op rfl _ _ rfl (w.heap.size + 1) Opr.cells len_op one_op lv xs rfl HO2.out (shift f rk false) _ rfl rfl B1.out B2.out B3.out ?_; intro g' cap' w3 ho3 hm3 hgg3 hg3; have z3 := hm3.blk HNW.out Z2.out; have y3 := hm3.blk HNR.out Y2.out; have C3 := blk_cell z3; have D3 := blk_cell y3; have Z3 := Lib.hid z3; have HO3 := Lib.hid ho3; have HM3 := Lib.hid hm3; clear z3 y3 ho3 hm3 hgg3)
      have hb3 := HBT.out.mod HM3.out (fun q hq => by have := (HO2.out.lt q (by simpa using hq)).1; omega)
      refine (rshift_any rk f true _).mono ?_
      rintro e w4 ⟨rfl, hb4⟩
      have z4 := hb4.blk Z3.out
      have ho4 := HO3.out.below hb4
      have C4 := blk_cell z4; have F4 := blk_free z4; have L4 := blk_lt z4
      have Z4 := Lib.hid z4; have HO4 := Lib.hid ho4; have HB4 := Lib.hid (hb3.then_ hb4); clear z4 ho4 hb3 hb4 C3 D3
      generalize hr4 : shift rk f true = r4
      have HR4 := Lib.hid hr4; clear hr4
      go_wp2_with fail
      refine ⟨⟨k + 1, _, by omega, by go_num, rfl, ?_⟩, by simp [intOf]; omega⟩
      have hk' := hlt
      exact car_end hlt (by rw [HR.out, HXS.out, HFE.out]; exact HO4.out) (by rw [HR.out]; exact Z4.out) HB4.out (by rw [HR.out, HFE.out]; exact HR4.out)
    · obtain rfl : k = fs.length := by omega
      have INV := Lib.hid inv; clear inv
      go_wp2
      go_ret
      refine ⟨_, rfl, ?_, INV.out.2.2⟩
      have := INV.out.1
      rw [List.take_length] at this
      exact this.rebase (fun g hg => by have := (this.lt g hg).1; omega)
end Go.Proofs.YtjeidklpomekdaaDoor

/- A slice of the call's own that may begin within its block. -/
namespace Go.Proofs.YtjeidklpomekdaaDoor
open Go.RowKit

theorem addr_add0 (g j : Nat) : (⟨g, 0, none⟩ : Addr).add j = ⟨g, j, none⟩ := by unfold Addr.add; split <;> simp_all

section
variable {α : Type}
/-- xs lies in a block of the call's own, from some element on; nothing else reads that block. -/
def SlW (w : World) (base : Nat) (E : TypeId) (enc : α → List Value) (k : Nat) (v : Value) (xs : List α) : Prop :=
  (xs = [] ∧ ∃ ao, v = .slice ao 0 0 ∧ (ao = none ∨ ∃ g off, ao = some ⟨g, off, none⟩)) ∨ ∃ (pre : List α) (g cap : Nat), v = .slice (some ⟨g, pre.length * k, none⟩) xs.length cap ∧ SlO w base E enc k (.slice (some ⟨g, 0, none⟩) (pre.length + xs.length) (pre.length + cap)) (pre ++ xs)

variable {w w' : World} {base k : Nat} {E : TypeId} {enc : α → List Value} {v : Value} {xs : List α}
theorem SlW.of (h : SlO w base E enc k v xs) : SlW w base E enc k v xs := by
  rcases h.form with ⟨rfl, rfl⟩ | ⟨g, cap, rfl, _⟩
  · exact Or.inl ⟨rfl, none, rfl, Or.inl rfl⟩
  · refine Or.inr ⟨[], g, cap, by simp, ?_⟩
    simpa using h
theorem SlW.nil (w : World) (base : Nat) (E : TypeId) (enc : α → List Value) (k : Nat) : SlW w base E enc k (.slice none 0 0) ([] : List α) := Or.inl ⟨rfl, none, rfl, Or.inl rfl⟩
theorem SlW.keep (h : SlW w base E enc k v xs) (hb : Below w.heap.size w w') : SlW w' base E enc k v xs := by
  rcases h with h | ⟨pre, g, cap, h1, h2⟩
  · exact Or.inl h
  · exact Or.inr ⟨pre, g, cap, h1, h2.below hb⟩
theorem SlW.reads (h : SlW w base E enc k v xs) (hk : ∀ x, (enc x).length = k) : SlR w enc k v xs := by
  rcases h with ⟨rfl, ao, rfl, h⟩ | ⟨pre, g, cap, rfl, h2⟩
  · rcases h with rfl | ⟨g, off, rfl⟩
    · exact SlR.nil _ _ _
    · exact SlR.empty _ _ _ _ _
  · have h3 := h2.reads hk
    rw [show pre.length + xs.length = (pre ++ xs).length by simp] at h3
    have h4 := h3.drop pre.length (by simp)
    simpa using h4
theorem SlW.tail {x : α} {t : List α} {ao : Option Addr} {n cap : Nat} (h : SlW w base E enc k (.slice ao n cap) (x :: t)) : n = t.length + 1 ∧ ∃ g off, ao = some ⟨g, off, none⟩ ∧ 0 < cap ∧
    SlW w base E enc k (.slice (if cap = 1 then some ⟨g, off, none⟩ else some ⟨g, off + k, none⟩) t.length (cap - 1)) t := by
  rcases h with ⟨h, _⟩ | ⟨pre, g, c, h1, h2⟩
  · cases h
  · cases h1
    refine ⟨by simp, g, _, rfl, ?_, ?_⟩
    · obtain ⟨_, _, _, _, h5, _, _, _⟩ := h2.row
      simp at h5; omega
    · by_cases hc : cap = 1
      · subst hc
        rw [if_pos rfl]
        obtain ⟨_, _, _, _, h5, _, _, _⟩ := h2.row
        have : t = [] := List.eq_nil_of_length_eq_zero (by rw [List.length_append, List.length_cons] at h5; omega)
        subst this
        exact Or.inl ⟨rfl, _, rfl, Or.inr ⟨_, _, rfl⟩⟩
      · rw [if_neg hc]
        obtain ⟨_, _, _, _, h5, _, _, _⟩ := h2.row
        simp at h5
        refine Or.inr ⟨pre ++ [x], g, cap - 1, by simp [Nat.add_mul], ?_⟩
        have e1 : (pre ++ [x]).length + t.length = pre.length + (x :: t).length := by simp; omega
        have e2 : (pre ++ [x]).length + (cap - 1) = pre.length + cap := by simp; omega
        have e3 : (pre ++ [x]) ++ t = pre ++ x :: t := by simp
        rw [e1, e2, e3]; exact h2
theorem SlW.form (h : SlW w base E enc k v xs) : ∃ ao cap, v = .slice ao xs.length cap ∧ xs.length ≤ cap := by
  rcases h with ⟨rfl, ao, rfl, _⟩ | ⟨pre, g, cap, rfl, h2⟩
  · exact ⟨ao, 0, rfl, Nat.le_refl _⟩
  · obtain ⟨_, _, _, _, h5, _, _, _⟩ := h2.row
    exact ⟨_, cap, rfl, by simp at h5; omega⟩
end

section
variable {P : Program} {α : Type}
/-- 'append(s, y)', behind the block that Go makes for the one element. -/
theorem wp_appW {t e : TypeId} {size bytes : Nat} (et : ElemTy P t e size bytes) {W : World} {ops : Array Oper} {rest : List Oper} {o : Oper} {a : Act} {Q : Exit → Act → World → Prop} (hgd : o.guard = none) (s x : Operand)
    (ho : o.op = .call { callee := .builtin .append, args := #[s, x], argTypes := #[t, t] })
    (base : Nat) (enc : α → List Value) (hk : ∀ x, (enc x).length = size) (h1 : ∀ x, ∀ u ∈ enc x, u.oneCell' = true) (v : Value) (xs : List α) (hs : a.eval s = v) (hown : SlW W base e enc size v xs)
    (y : α) (cs : Array Value) (hcs : cs.toList = enc y) (hx : a.eval x = .slice (some ⟨W.heap.size, 0, none⟩) 1 1)
    (hbytes : (xs.length + 1) * bytes ≤ 140737488355328) (h63 : xs.length + 1 ≤ 9223372036854775807) (hbase : base ≤ W.heap.size)
    (h : ∀ v' w', SlW w' base e enc size v' (xs ++ [y]) → Below base W w' → wpList P ops Q rest (a.put o.dst v') w') : wpList P ops Q (o :: rest) a (W.alloc (.cells cs e)) := by
  obtain ⟨i, z, hi, hz, hsz, hby, hzs⟩ := et.hi
  have hW : Below W.heap.size W (W.alloc (.cells cs e)) := (Below.refl _ _).new _
  have hWb : Below base W (W.alloc (.cells cs e)) := hW.mono hbase
  have hn1 : (enc y).length = 1 * size := by rw [hk, Nat.one_mul]
  have hcat : xs.flatMap enc ++ enc y = (xs ++ [y]).flatMap enc := by rw [List.flatMap_append, List.flatMap_singleton]
  have hln : xs.length + 1 = (xs ++ [y]).length := by simp
  have hnew : ∀ j u, (enc y)[j]? = some u → (W.alloc (.cells cs e)).cell? ((⟨W.heap.size, 0, none⟩ : Addr).add j) = some u := by
    intro j u hu
    have hc : (W.alloc (.cells cs e)).cell? ⟨W.heap.size, j, none⟩ = cs[j]? := blk_cell (blk_new W (.cells cs e)) j
    have he : (⟨W.heap.size, 0, none⟩ : Addr).add j = ⟨W.heap.size, j, none⟩ := addr_add0 _ _
    rw [he, hc, ← hu, ← hcs]; simp
  have grown : ∀ v' w', w'.ownsRow (W.alloc (.cells cs e)).heap.size e size v' (xs.length + 1) (xs.flatMap enc ++ enc y) → (W.alloc (.cells cs e)).grownBy w' none → wpList P ops Q rest (a.put o.dst v') w' := by
    intro v' w' hown' hgr
    have h2 : SlO w' (W.alloc (.cells cs e)).heap.size e enc size v' (xs ++ [y]) := by unfold SlO; rw [← hcat, ← hln]; exact hown'
    have h3 := h2.rebase (base' := base) (fun g hg => by have h3 := (h2.lt g hg).1; rw [World.size_alloc] at h3; omega)
    refine h v' w' (SlW.of h3) (hWb.trans ?_)
    exact ⟨hgr.os, hgr.tape, hgr.output, hgr.size, fun k hk => hgr.block k (by simp; omega) (by simp)⟩
  rcases hown with ⟨rfl, ao, rfl, hao⟩ | ⟨pre, g, cap, rfl, hO⟩
  · refine wpList_append_grows _ hgd s x t ho e i z size bytes et.ht hi hz hsz hby hzs et.pos ao 0 0 [] hs (fun _ => ⟨rfl, rfl⟩) (by simp) (fun b _ j u hu => by simp at hu) ⟨W.heap.size, 0, none⟩ 1 1 (enc y) hx hn1 hnew (h1 y) (by omega) (by unfold maxLen; omega) (by simpa using hbytes) ?_
    intro v' w' h1 h2
    exact grown v' w' (by simpa using h1) h2
  · have hO' := hO.below hW
    obtain ⟨cur, hg, hs1, hs2, hs3, hs4, hs5, _⟩ := hO'.row
    have hps : (pre ++ xs).length = pre.length + xs.length := by simp
    rw [hps] at hs3
    have hfl : ((pre ++ xs).flatMap enc).length = (pre.length + xs.length) * size := by rw [flat_length hk, hps]
    refine wpList_append_arg _ hgd s x t ho e i z size bytes et.ht hi hz hsz hby hzs et.pos g (pre.length * size) xs.length cap (xs.flatMap enc) hs (flat_length hk xs) ?_ ⟨W.heap.size, 0, none⟩ 1 1 (enc y) hx hn1 hnew (h1 y) ?_ (by unfold maxLen; omega) hbytes ?_ (fun _ => grown)
    · intro j u hj
      have := World.ownsRow.cells hO' rfl (pre.length * size + j) u (by rw [List.flatMap_append, List.getElem?_append_right (by rw [flat_length hk]; omega), flat_length hk, Nat.add_sub_cancel_left]; exact hj)
      have he : (⟨g, 0, none⟩ : Addr).add (pre.length * size + j) = ⟨g, pre.length * size + j, none⟩ := addr_add0 _ _
      rw [he] at this; exact this
    · intro hr j hj
      have hlt : pre.length * size + xs.length * size + j < cur.size := by
        rw [hs1, ← Nat.add_mul]
        have : (pre.length + xs.length) * size + size ≤ (pre.length + cap) * size := by rw [← Nat.succ_mul]; exact Nat.mul_le_mul_right _ (by omega)
        rw [hk] at hj; omega
      exact ⟨by rw [blk_cell hg, Array.getElem?_eq_getElem hlt]; rfl, blk_free hg _⟩
    · intro hr
      have hown'' : (W.alloc (.cells cs e)).ownsRow base e size (.slice (some ⟨g, 0, none⟩) (pre.length + xs.length) (pre.length + cap)) (pre.length + xs.length) ((pre ++ xs).flatMap enc) := by have h' := hO'; unfold SlO at h'; rwa [hps] at h'
      obtain ⟨w', hrun, r1, r2⟩ := run_append_fits (P := P) _ base t o.type e i size et.ht hi hsz g (pre.length + xs.length) (pre.length + cap) ((pre ++ xs).flatMap enc) hown'' ⟨W.heap.size, 0, none⟩ 1 1 (enc y) hn1 hnew (h1 y) (by omega)
      have hrun2 := run_append_room_cells (P := P) (W.alloc (.cells cs e)) t o.type e i et.ht hi g 0 (pre.length + xs.length) (pre.length + cap) ⟨W.heap.size, 0, none⟩ 1 1 (enc y) (by rw [hsz]; exact hn1) hnew (h1 y) (by omega)
        (fun j hj => by
          have hlt : 0 + (pre.length + xs.length) * i.size + j < cur.size := by
            rw [hs1, hsz, Nat.zero_add]
            have : (pre.length + xs.length) * size + size ≤ (pre.length + cap) * size := by rw [← Nat.succ_mul]; exact Nat.mul_le_mul_right _ (by omega)
            rw [hk] at hj; omega
          rw [blk_cell hg, Array.getElem?_eq_getElem hlt]; rfl) (fun j hj => blk_free hg _)
      rw [hrun] at hrun2
      have hw : w' = (W.alloc (.cells cs e)).setCells g (pre.length * size + xs.length * size) (enc y) := by
        have := (Result.ok.inj hrun2).2
        rw [this, hsz, Nat.zero_add, Nat.add_mul]
      rw [← hw]
      refine h _ w' (Or.inr ⟨pre, g, cap, by simp, ?_⟩) (hWb.trans ⟨r2.os, r2.tape, r2.output, r2.size, fun k hk => r2.block k (by simp; omega) (by simp; omega)⟩)
      unfold SlO
      have e1 : pre.length + (xs ++ [y]).length = pre.length + xs.length + 1 := by simp; omega
      have e2 : (pre ++ (xs ++ [y])).length = pre.length + xs.length + 1 := by simp; omega
      have e3 : (pre ++ (xs ++ [y])).flatMap enc = (pre ++ xs).flatMap enc ++ enc y := by rw [← List.append_assoc, List.flatMap_append, List.flatMap_singleton]
      rw [e1, e2, e3]
      exact r1
end
end Go.Proofs.YtjeidklpomekdaaDoor

/- 'append' that tells too that the old slice reads as it did. -/
namespace Go.Proofs.YtjeidklpomekdaaDoor
open Go.RowKit

section
variable {P : Program} {α : Type}
theorem reads_pre {w w' : World} {base size : Nat} {e : TypeId} {enc : α → List Value} {g n c N cap : Nat} {xs ys : List α} (hk : ∀ x, (enc x).length = size) (h0 : SlR w enc size (.slice (some ⟨g, 0, none⟩) n c) xs) (h : SlO w' base e enc size (.slice (some ⟨g, 0, none⟩) N cap) (xs ++ ys)) : SlR w' enc size (.slice (some ⟨g, 0, none⟩) n c) xs := by
  obtain ⟨a, c', hv, hl, hn, hc⟩ := h0
  cases hv
  refine ⟨_, _, rfl, hl, hn, fun i hi => ⟨g, 0, rfl, fun j u hu => ?_⟩⟩
  have hN : N = (xs ++ ys).length := h.row.elim (fun cur h => h.2.2.2.2.2.2)
  subst hN
  have := h.cell hk rfl i j (by simp; omega) u (by rw [List.getElem_append_left hi]; exact hu)
  rw [Nat.zero_add]; exact this
theorem wp_appK {t e : TypeId} {size bytes : Nat} (et : ElemTy P t e size bytes) {w : World} {ops : Array Oper} {rest : List Oper} {o : Oper} {a : Act} {Q : Exit → Act → World → Prop} (N : Nat) (hgd : o.guard = none) (s x : Operand)
    (ho : o.op = .call { callee := .builtin .append, args := #[s, x], argTypes := #[t, t] })
    (base : Nat) (enc : α → List Value) (hk : ∀ x, (enc x).length = size) (h1 : ∀ x, ∀ u ∈ enc x, u.oneCell' = true) (v : Value) (xs : List α) (hs : a.eval s = v) (hown : SlO w base e enc size v xs)
    (ys : List α) (ad : Addr) (m c : Nat) (hx : a.eval x = .slice (some ad) m c) (hm : ys.length = m) (hy : ∀ j u, (ys.flatMap enc)[j]? = some u → w.cell? (ad.add j) = some u) (hN : xs.length + m = N) (hm0 : 0 < m)
    (hbytes : N * bytes ≤ 140737488355328) (h63 : N ≤ 9223372036854775807) (hbase : base ≤ w.heap.size)
    (h : ∀ g cap w', SlO w' base e enc size (.slice (some ⟨g, 0, none⟩) N cap) (xs ++ ys) → SlR w' enc size v xs → Mod v.ownBlock.toList w w' → (v.ownBlock = some g ∨ w.heap.size ≤ g) → g < w'.heap.size → wpList P ops Q rest (a.put o.dst (.slice (some ⟨g, 0, none⟩) N cap)) w') : wpList P ops Q (o :: rest) a w := by
  subst hN
  obtain ⟨i, z, hi, hz, hsz, hby, hzs⟩ := et.hi
  have hn1 : (ys.flatMap enc).length = m * size := by rw [flat_length hk, hm]
  have h1y : ∀ u ∈ ys.flatMap enc, u.oneCell' = true := by
    intro u hu
    obtain ⟨y, _, hu⟩ := List.mem_flatMap.1 hu
    exact h1 y u hu
  have hcat : xs.flatMap enc ++ ys.flatMap enc = (xs ++ ys).flatMap enc := by rw [List.flatMap_append]
  have hln : xs.length + m = (xs ++ ys).length := by simp [hm]
  have hrd := hown.reads hk
  have grown : ∀ v' w', w'.ownsRow w.heap.size e size v' (xs.length + m) (xs.flatMap enc ++ ys.flatMap enc) → w.grownBy w' none → wpList P ops Q rest (a.put o.dst v') w' := by
    intro v' w' hown' hgr
    have h2 : SlO w' w.heap.size e enc size v' (xs ++ ys) := by unfold SlO; rw [← hcat, ← hln]; exact hown'
    have hbw : Below w.heap.size w w' := ⟨hgr.os, hgr.tape, hgr.output, hgr.size, fun k hk => hgr.block k hk (by simp)⟩
    rcases h2.form with ⟨_, h0⟩ | ⟨g, cap, rfl, h3, h4, _, _⟩
    · exfalso
      have : (xs ++ ys).length = 0 := by rw [h0]; rfl
      omega
    · rw [← hln] at h2 ⊢
      exact h g cap w' (h2.rebase (fun q hq => by have := (h2.lt q hq).1; omega)) (hrd.below hbw) (Mod.of_below hbw) (Or.inr h3) h4
  have hown0 := hown
  rcases hown.form with ⟨rfl, rfl⟩ | ⟨g, cap, rfl, hb, hg, hl, hc⟩
  · exact wpList_append_grows w hgd s x t ho e i z size bytes et.ht hi hz hsz hby hzs et.pos none 0 0 [] hs (fun _ => ⟨rfl, rfl⟩) (by simp) (fun b hb => by cases hb) ad m c _ hx hn1 hy h1y (by omega) (by unfold maxLen; simpa using h63) (by simpa using hbytes) (by simpa using grown)
  · obtain ⟨cur, hgb, hs1, hs2, hs3, hs4, hs5, _⟩ := hown.row
    refine wpList_append_arg w hgd s x t ho e i z size bytes et.ht hi hz hsz hby hzs et.pos g 0 xs.length cap (xs.flatMap enc) hs (flat_length hk xs) ?_ ad m c _ hx hn1 hy h1y ?_ (by unfold maxLen; omega) hbytes ?_ (fun _ => grown)
    · intro j u hj
      have := World.ownsRow.cells hown rfl j u hj
      rw [addr_add0] at this
      rw [Nat.zero_add]; exact this
    · intro hr j hj
      have hlt : 0 + xs.length * size + j < cur.size := by
        rw [hs1, Nat.zero_add]
        have : (xs.length + m) * size ≤ cap * size := Nat.mul_le_mul_right _ hr
        rw [Nat.add_mul] at this
        rw [hn1] at hj; omega
      exact ⟨by rw [blk_cell hgb, Array.getElem?_eq_getElem hlt]; rfl, blk_free hgb _⟩
    · intro hr
      obtain ⟨w', hrun, r1, r2⟩ := run_append_fits (P := P) w base t o.type e i size et.ht hi hsz g xs.length cap (xs.flatMap enc) hown0 ad m c _ hn1 hy h1y hr
      have hrun2 := run_append_room_cells (P := P) w t o.type e i et.ht hi g 0 xs.length cap ad m c (ys.flatMap enc) (by rw [hsz]; exact hn1) hy h1y hr
        (fun j hj => by
          have hlt : 0 + xs.length * i.size + j < cur.size := by
            rw [hs1, hsz, Nat.zero_add]
            have : (xs.length + m) * size ≤ cap * size := Nat.mul_le_mul_right _ hr
            rw [Nat.add_mul] at this
            rw [hn1] at hj; omega
          rw [blk_cell hgb, Array.getElem?_eq_getElem hlt]; rfl) (fun j hj => blk_free hgb _)
      rw [hrun] at hrun2
      have hw : w' = w.setCells g (0 + xs.length * size) (ys.flatMap enc) := by
        have := (Result.ok.inj hrun2).2
        rw [this, hsz]
      rw [← hw]
      have h2 : SlO w' base e enc size (.slice (some ⟨g, 0, none⟩) (xs.length + m) cap) (xs ++ ys) := by unfold SlO; rw [← hcat, ← hln]; exact r1
      exact h g cap w' h2 (reads_pre hk hrd h2) (Mod.of_grown r2) (Or.inl rfl) (Nat.lt_of_lt_of_le hg r2.size)
end
end Go.Proofs.YtjeidklpomekdaaDoor

/- The law's marked and still. -/
namespace Go.Proofs.YtjeidklpomekdaaDoor
open Go.RowKit

set_option maxRecDepth 100000 in
set_option maxHeartbeats 3200000 in
theorem still_any (v : Value) (xs : List Opr) (mark : Int) (w : World) (h : SlR w Opr.cells 5 v xs) (hm : ∀ x ∈ xs, x.pos = mark) :
    Calls Tryd.prog 14 #[v, .int .i64 mark] w fun e w' => e = .returned (.bool true) ∧ Below w.heap.size w w' := by
  have H := Lib.hid h; have HM := Lib.hid hm
  obtain ⟨a, cap, rfl, hl, hnil, hcell⟩ := h
  clear hm hnil hcell
  go_enter Tryd.func14, Tryd.ntmps14
  go_wp2
  go_loopw [5] (fun i wr => ∃ k : Nat, k ≤ xs.length ∧ i = .int .i64 k ∧ ∃ m, wr = w.drewN m) (fun i _ => xs.length - (intOf i).toNat)
  case atStart => exact ⟨0, Nat.zero_le _, rfl, 0, rfl⟩
  case round =>
    obtain ⟨k, hk, rfl, m, rfl⟩ := hrel
    by_cases hlt : k < xs.length
    · obtain ⟨b, off, rfl, c0, c1, c2, c3, c4⟩ := H.out.op k hlt
      have hp := HM.out _ (List.getElem_mem hlt)
      have hp' : (xs[k].pos != mark) = false := by simp [hp]
      clear hp
      go_wp2
      exact ⟨⟨k + 1, by omega, by go_num, m, rfl⟩, by simp [intOf]; omega⟩
    · go_wp2
      go_ret
      exact ⟨rfl, (Below.refl _ _).drewN m⟩

abbrev mk (mark : Int) : Opr := ⟨0, mark, 0, 0, 0⟩
def MarkInv (w : World) (base : Nat) (v : Value) (xs : List Opr) (mark : Int) (k : Nat) (wr : World) : Prop :=
  SlO wr base 46 Opr.cells 5 v (List.replicate k (mk mark) ++ xs.drop k) ∧ Mod v.ownBlock.toList w wr

theorem two_cells (mark : Int) (w : World) : ∀ j u, (([mk mark, mk mark] : List Opr).flatMap Opr.cells)[j]? = some u → (w.alloc (.cells #[.int .i64 0, .int .i64 mark, .int .u8 0, .int .i64 0, .int .i64 0, .int .i64 0, .int .i64 mark, .int .u8 0, .int .i64 0, .int .i64 0] 46 (0, 0))).cell? ((⟨w.heap.size, 0, none⟩ : Addr).add j) = some u := by
  intro j u hu
  rw [addr_add0, blk_cell (blk_new w _), ← hu]
  simp [Opr.cells]
theorem mark_step {α : Type} (xs : List α) (k : Nat) (hk : k < xs.length) (z : α) : (List.replicate k z ++ xs.drop k).set k z = List.replicate (k + 1) z ++ xs.drop (k + 1) := by
  rw [List.set_append_right _ _ (by simp), List.length_replicate, Nat.sub_self, List.drop_eq_getElem_cons hk, List.set_cons_zero, List.replicate_succ']
  simp

set_option maxRecDepth 100000 in
set_option maxHeartbeats 3200000 in
theorem marked_any (v : Value) (xs : List Opr) (mark : Int) (base : Nat) (w : World) (h : SlO w base 46 Opr.cells 5 v xs) (hbase : base ≤ w.heap.size) (hn : xs.length ≤ 100000) :
    Calls Tryd.prog 13 #[v, .int .i64 mark] w fun e w' => ∃ g, e = .returned g ∧ SlR w' Opr.cells 5 v (List.replicate xs.length (mk mark)) ∧ SlO w' base 46 Opr.cells 5 g (List.replicate (xs.length + 2) (mk mark)) ∧ Mod v.ownBlock.toList w w' ∧ (∀ q, g.ownBlock = some q → v.ownBlock = some q ∨ w.heap.size ≤ q) := by
  obtain ⟨a, cap, hv, hnil⟩ := h.len
  have I0 := Lib.hid (show MarkInv w base v xs mark 0 w from ⟨by simpa using h, Mod.refl _ _⟩)
  have H := Lib.hid h
  rcases h.form with ⟨e1, e2⟩ | ⟨g, c, e1, e2, e3, e4, e5⟩
  · subst e1; subst e2
    clear hv hnil h
    have HO1 := Lib.hid ((SlO.nil w base 46 Opr.cells 5 : SlO w base 46 Opr.cells 5 (.slice none 0 0) ([] : List Opr)).below ((Below.refl _ _).new (.cells #[.int .i64 0, .int .i64 mark, .int .u8 0, .int .i64 0, .int .i64 0, .int .i64 0, .int .i64 mark, .int .u8 0, .int .i64 0, .int .i64 0] 46 (0, 0))))
    have B3 := Lib.hid (show base ≤ (w.alloc (.cells #[.int .i64 0, .int .i64 mark, .int .u8 0, .int .i64 0, .int .i64 0, .int .i64 0, .int .i64 mark, .int .u8 0, .int .i64 0, .int .i64 0] 46 (0, 0))).heap.size by simp; omega)
    go_enter Tryd.func13, Tryd.ntmps13
    go_wp2
    refine wp_loop_rounds 1 ?_
    rw [rounds_succ]
    go_wp2_with (at_builtin; refine wp_appK et_op 2 rfl _ _ rfl base Opr.cells len_op one_op (.slice none 0 0) [] rfl HO1.out [mk mark, mk mark] ⟨w.heap.size, 0, none⟩ 2 2 rfl rfl (two_cells mark w) (by simp) (by omega) (by omega) (by omega) B3.out ?_; intro g2 cap2 w2 ho2 hr2 hm2 hg2 hl2; have HO2 := Lib.hid ho2; have HR2 := Lib.hid hr2; have HM2 := Lib.hid hm2; have HG2 := Lib.hid hg2; clear ho2 hr2 hm2 hg2)
    go_ret
    refine ⟨_, rfl, HR2.out, HO2.out, (Mod.alloc _ _ _).then_ HM2.out (fun _ h => h), ?_⟩
    intro q hq
    simp [Value.ownBlock] at hq
    subst hq
    rcases HG2.out with hg | hg
    · simp [Value.ownBlock] at hg
    · right; simp at hg; omega
  · subst e1
    clear hv hnil h e2 e3 e4 e5
    go_enter Tryd.func13, Tryd.ntmps13
    go_wp2
    go_loopw [5] (fun i wr => ∃ k : Nat, k ≤ xs.length ∧ i = .int .i64 k ∧ MarkInv w base (.slice (some ⟨g, 0, none⟩) xs.length c) xs mark k wr) (fun i _ => xs.length - (intOf i).toNat)
    case atStart => exact ⟨0, Nat.zero_le _, rfl, I0.out⟩
    case round =>
      obtain ⟨k, hk, rfl, ho, hm⟩ := hrel
      by_cases hlt : k < xs.length
      · obtain ⟨cur, hg, hs, r1, r2, r3, r4, r5⟩ := ho.row
        have F4 := blk_free hg; have L4 := blk_lt hg; have C4 := blk_cell hg
        have hle : k * 5 + 5 ≤ cur.size := by
          rw [hs]
          have : (List.replicate k (mk mark) ++ xs.drop k).length = xs.length := by simp; omega
          rw [this] at r2; omega
        obtain ⟨u0, e0⟩ : ∃ u, cur[k * 5]? = some u := ⟨_, Array.getElem?_eq_getElem (by omega)⟩
        obtain ⟨u1, e1⟩ : ∃ u, cur[k * 5 + 1]? = some u := ⟨_, Array.getElem?_eq_getElem (by omega)⟩
        obtain ⟨u2, e2⟩ : ∃ u, cur[k * 5 + 2]? = some u := ⟨_, Array.getElem?_eq_getElem (by omega)⟩
        obtain ⟨u3, e3⟩ : ∃ u, cur[k * 5 + 3]? = some u := ⟨_, Array.getElem?_eq_getElem (by omega)⟩
        obtain ⟨u4, e4⟩ : ∃ u, cur[k * 5 + 4]? = some u := ⟨_, Array.getElem?_eq_getElem (by omega)⟩
        have d0 := (C4 (k * 5)).trans e0; have d1 := (C4 (k * 5 + 1)).trans e1; have d2 := (C4 (k * 5 + 2)).trans e2; have d3 := (C4 (k * 5 + 3)).trans e3; have d4 := (C4 (k * 5 + 4)).trans e4
        have HO := Lib.hid ho; have HM := Lib.hid hm
        clear ho hm hg hs r1 r2 r3 r4 r5 C4 hle e0 e1 e2 e3 e4
        go_wp2
        refine ⟨⟨k + 1, by omega, by go_num, ?_, ?_⟩, by simp [intOf]; omega⟩
        · have := HO.out.setOp k (by simp; omega) (mk mark)
          rwa [mark_step _ _ hlt] at this
        · exact HM.out.then_ (Mod.set5_at _ _ _ _ _ _ _ _) (by simp [Value.ownBlock])
      · obtain rfl : k = xs.length := by omega
        rw [List.drop_length, List.append_nil] at ho
        have hsz := hm.size
        have HO1 := Lib.hid (ho.below ((Below.refl _ _).new (.cells #[.int .i64 0, .int .i64 mark, .int .u8 0, .int .i64 0, .int .i64 0, .int .i64 0, .int .i64 mark, .int .u8 0, .int .i64 0, .int .i64 0] 46 (0, 0))))
        have HM := Lib.hid hm; clear ho hm
        have B1 := Lib.hid (show (xs.length + 2) * 40 ≤ 140737488355328 by omega)
        have B2 := Lib.hid (show xs.length + 2 ≤ 9223372036854775807 by omega)
        have B3 := Lib.hid (show base ≤ (wr.alloc (.cells #[.int .i64 0, .int .i64 mark, .int .u8 0, .int .i64 0, .int .i64 0, .int .i64 0, .int .i64 mark, .int .u8 0, .int .i64 0, .int .i64 0] 46 (0, 0))).heap.size by simp; omega)
        go_wp2_with (at_builtin; refine wp_appK et_op (xs.length + 2) rfl _ _ rfl base Opr.cells len_op one_op (.slice (some ⟨g, 0, none⟩) xs.length c) (List.replicate xs.length (mk mark)) rfl HO1.out [mk mark, mk mark] ⟨wr.heap.size, 0, none⟩ 2 2 rfl rfl (two_cells mark wr) (by simp) (by omega) B1.out B2.out B3.out ?_; intro g2 cap2 w2 ho2 hr2 hm2 hg2 hl2; have HO2 := Lib.hid ho2; have HR2 := Lib.hid hr2; have HM2 := Lib.hid hm2; have HG2 := Lib.hid hg2; clear ho2 hr2 hm2 hg2)
        go_ret
        refine ⟨_, rfl, HR2.out, ?_, ?_, ?_⟩
        · have := HO2.out
          rwa [show List.replicate xs.length (mk mark) ++ [mk mark, mk mark] = List.replicate (xs.length + 2) (mk mark) by rw [List.replicate_succ', List.replicate_succ']; simp] at this
        · exact (HM.out.then_ (Mod.alloc _ _ _) (fun _ h => h)).then_ HM2.out (fun _ h => h)
        · intro q hq
          simp [Value.ownBlock] at hq
          subst hq
          rcases HG2.out with hg | hg
          · exact Or.inl hg
          · right; have := HM.out.size; simp at hg; omega
end Go.Proofs.YtjeidklpomekdaaDoor

/- The law's shelf: where it lies. -/
namespace Go.Proofs.YtjeidklpomekdaaDoor
open Go.RowKit

structure Sv where
  a : Option Addr
  n : Nat
  c : Nat
abbrev Sv.val (s : Sv) : Value := .slice s.a s.n s.c
abbrev Sv.cells (s : Sv) : List Value := [s.val]
theorem len_sv (s : Sv) : s.cells.length = 1 := rfl
theorem one_sv (s : Sv) : ∀ u ∈ s.cells, u.oneCell' = true := by intro u hu; simp at hu; subst hu; rfl
theorem et_se : ElemTy Tryd.prog 35 22 1 24 := .of (z := .slice none 0 0) (by kernel_rfl) (by kernel_rfl) rfl (by decide)
theorem et_sd : ElemTy Tryd.prog 36 25 1 24 := .of (z := .slice none 0 0) (by kernel_rfl) (by kernel_rfl) rfl (by decide)

section
variable {α : Type}
/-- Two rows of slices; what slices read as, and the blocks that they lie in (L). -/
structure Half (w : World) (base : Nat) (T : TypeId) (enc : α → List Value) (k : Nat) (vA vB : Value) (ps qs : List Sv) (ens : List (Sv × List α)) (L : List Nat) : Prop where
  hA : SlO w base T Sv.cells 1 vA ps
  hB : SlO w base T Sv.cells 1 vB qs
  en : ∀ x ∈ ens, SlR w enc k x.1.val x.2 ∧ ∀ q, x.1.val.ownBlock = some q → q ∈ L
  AB : ∀ g, vA.ownBlock = some g → vB.ownBlock ≠ some g
  AL : ∀ q ∈ L, vA.ownBlock ≠ some q ∧ vB.ownBlock ≠ some q
  lt : ∀ q ∈ L, q < w.heap.size
def hfoot (vA vB : Value) (L : List Nat) : List Nat := vA.ownBlock.toList ++ vB.ownBlock.toList ++ L
variable {w w3 : World} {base k g N cap : Nat} {T : TypeId} {enc : α → List Value} {vA vB : Value} {ps qs : List Sv} {ens : List (Sv × List α)} {L M : List Nat} {s : Sv} {xs : List α}
theorem Half.mod (h : Half w base T enc k vA vB ps qs ens L) (hm : Mod M w w3) (hd : ∀ q ∈ hfoot vA vB L, q ∉ M) : Half w3 base T enc k vA vB ps qs ens L where
  hA := h.hA.mod hm (fun q hq => hd q (by simp [hfoot, hq]))
  hB := h.hB.mod hm (fun q hq => hd q (by simp [hfoot, hq]))
  en := fun x hx => ⟨(h.en x hx).1.mod hm (fun q hq => hd q (by simp [hfoot, (h.en x hx).2 q hq])), (h.en x hx).2⟩
  AB := h.AB
  AL := h.AL
  lt := fun q hq => Nat.lt_of_lt_of_le (h.lt q hq) hm.size
theorem Half.below (h : Half w base T enc k vA vB ps qs ens L) (hb : Below w.heap.size w w3) : Half w3 base T enc k vA vB ps qs ens L := h.mod (Mod.of_below (L := []) hb) (by simp)
theorem Half.flt (h : Half w base T enc k vA vB ps qs ens L) : ∀ q ∈ hfoot vA vB L, q < w.heap.size := by
  intro q hq
  simp only [hfoot, List.mem_append] at hq
  rcases hq with (hq | hq) | hq
  · exact (h.hA.lt q (by simpa using hq)).2
  · exact (h.hB.lt q (by simpa using hq)).2
  · exact h.lt q hq
theorem Half.addE (h : Half w base T enc k vA vB ps qs ens L) (hM : ∀ q, s.val.ownBlock = some q → vA.ownBlock ≠ some q ∧ vB.ownBlock ≠ some q ∧ q < w.heap.size) (hs : SlR w enc k s.val xs) : Half w base T enc k vA vB ps qs (ens ++ [(s, xs)]) (L ++ s.val.ownBlock.toList) where
  hA := h.hA
  hB := h.hB
  en := fun x hx => by
    rcases List.mem_append.1 hx with hx | hx
    · exact ⟨(h.en x hx).1, fun q hq => List.mem_append.2 (Or.inl ((h.en x hx).2 q hq))⟩
    · simp at hx; subst hx
      exact ⟨hs, fun q hq => List.mem_append.2 (Or.inr (by simpa using hq))⟩
  AB := h.AB
  AL := fun q hq => (List.mem_append.1 hq).elim (h.AL q) (fun h' => ⟨(hM q (by simpa using h')).1, (hM q (by simpa using h')).2.1⟩)
  lt := fun q hq => (List.mem_append.1 hq).elim (h.lt q) (fun h' => (hM q (by simpa using h')).2.2)
theorem Half.pushA (h : Half w base T enc k vA vB ps qs ens L) (hm : Mod vA.ownBlock.toList w w3) (ho : SlO w3 base T Sv.cells 1 (.slice (some ⟨g, 0, none⟩) N cap) (ps ++ [s])) (hg : vA.ownBlock = some g ∨ w.heap.size ≤ g) :
    Half w3 base T enc k (.slice (some ⟨g, 0, none⟩) N cap) vB (ps ++ [s]) qs ens L where
  hA := ho
  hB := h.hB.mod hm (fun q hq hq' => h.AB q (by simpa using hq') hq)
  en := fun x hx => ⟨(h.en x hx).1.mod hm (fun q hq hq' => (h.AL q ((h.en x hx).2 q hq)).1 (by simpa using hq')), (h.en x hx).2⟩
  AB := fun q hq hb => by
    simp [Value.ownBlock] at hq; subst hq
    rcases hg with hg | hg
    · exact h.AB _ hg hb
    · have := (h.hB.lt _ hb).2; omega
  AL := fun q hq => ⟨fun e => by
    simp [Value.ownBlock] at e; subst e
    rcases hg with hg | hg
    · exact (h.AL _ hq).1 hg
    · have := h.lt _ hq; omega, (h.AL q hq).2⟩
  lt := fun q hq => Nat.lt_of_lt_of_le (h.lt q hq) hm.size
theorem Half.pushB (h : Half w base T enc k vA vB ps qs ens L) (hm : Mod vB.ownBlock.toList w w3) (ho : SlO w3 base T Sv.cells 1 (.slice (some ⟨g, 0, none⟩) N cap) (qs ++ [s])) (hg : vB.ownBlock = some g ∨ w.heap.size ≤ g) :
    Half w3 base T enc k vA (.slice (some ⟨g, 0, none⟩) N cap) ps (qs ++ [s]) ens L where
  hB := ho
  hA := h.hA.mod hm (fun q hq hq' => h.AB q hq (by simpa using hq'))
  en := fun x hx => ⟨(h.en x hx).1.mod hm (fun q hq hq' => (h.AL q ((h.en x hx).2 q hq)).2 (by simpa using hq')), (h.en x hx).2⟩
  AB := fun q hq hb => by
    simp [Value.ownBlock] at hb; subst hb
    rcases hg with hg | hg
    · exact h.AB _ hq hg
    · have := (h.hA.lt _ hq).2; omega
  AL := fun q hq => ⟨(h.AL q hq).1, fun e => by
    simp [Value.ownBlock] at e; subst e
    rcases hg with hg | hg
    · exact (h.AL _ hq).2 hg
    · have := h.lt _ hq; omega⟩
  lt := fun q hq => Nat.lt_of_lt_of_le (h.lt q hq) hm.size
end
abbrev shBlk (v0 v1 v2 v3 : Value) (mark : Int) : Obj := .cells #[v0, v1, v2, v3, .int .i64 mark] 38 (0, 0)
end Go.Proofs.YtjeidklpomekdaaDoor

/- What a call keeps, thing by thing: each has its own blocks, and what holds of it hangs on them alone. No Go function stands here. -/
namespace Go.Proofs.YtjeidklpomekdaaDoor
open Go.RowKit

/-- Thing i is x, the other things of I are no more (d). -/
def updF (f : Nat → List Nat) (i : Nat) (I : List Nat) (x : List Nat) : Nat → List Nat := fun j => cond (Nat.beq j i) x (cond (I.any fun k => Nat.beq j k) [] (f j))
def updP (f : Nat → World → Prop) (i : Nat) (I : List Nat) (x : World → Prop) : Nat → World → Prop := fun j => cond (Nat.beq j i) x (cond (I.any fun k => Nat.beq j k) (fun _ => True) (f j))

structure Sts (w0 w : World) (F : Nat → List Nat) (P : Nat → World → Prop) : Prop where
  bel : Below w0.heap.size w0 w
  lt : ∀ i, ∀ q ∈ F i, w0.heap.size ≤ q ∧ q < w.heap.size
  apart : ∀ i j, i ≠ j → ∀ q ∈ F i, q ∉ F j
  own : ∀ i w', (∀ q ∈ F i, w'.heap[q]? = w.heap[q]?) → P i w'

/-- A block that is nobody's. -/
def Free (w0 : World) (F : Nat → List Nat) (q : Nat) : Prop := (∀ j, q ∉ F j) ∧ w0.heap.size ≤ q

variable {w0 w w' : World} {F : Nat → List Nat} {P : Nat → World → Prop}

theorem Sts.get (S : Sts w0 w F P) (i : Nat) : P i w := S.own i w (fun _ _ => rfl)
theorem Sts.none (w : World) : Sts w w (fun _ => []) (fun _ _ => True) := ⟨Below.refl _ _, fun _ _ h => by simp at h, fun _ _ _ _ h => by simp at h, fun _ _ _ => trivial⟩
theorem Sts.free (S : Sts w0 w F P) {q : Nat} (h : w.heap.size ≤ q) : Free w0 F q := ⟨fun j hj => by have := (S.lt j q hj).2; omega, by have := S.bel.size; omega⟩
theorem Sts.size (S : Sts w0 w F P) : w0.heap.size ≤ w.heap.size := S.bel.size
theorem upd_cases (F : Nat → List Nat) (i : Nat) (I : List Nat) (G : List Nat) (j : Nat) : (j = i ∧ updF F i I G j = G) ∨ (j ≠ i ∧ j ∈ I ∧ updF F i I G j = []) ∨ (j ≠ i ∧ j ∉ I ∧ updF F i I G j = F j) := by
  unfold updF
  by_cases h : j = i
  · left; subst h; simp
  · right
    have : Nat.beq j i = false := by rw [← Bool.not_eq_true]; exact fun e => h (Nat.eq_of_beq_eq_true e)
    rw [this]
    by_cases hI : j ∈ I
    · left; refine ⟨h, hI, ?_⟩
      have : (I.any fun k => Nat.beq j k) = true := List.any_eq_true.2 ⟨j, hI, by simp⟩
      rw [this]; rfl
    · right; refine ⟨h, hI, ?_⟩
      have : (I.any fun k => Nat.beq j k) = false := by
        rw [List.any_eq_false]; intro k hk hb; exact hI (by rw [Nat.eq_of_beq_eq_true hb]; exact hk)
      rw [this]; rfl
theorem updP_cases (P : Nat → World → Prop) (i : Nat) (I : List Nat) (p : World → Prop) (j : Nat) : (j = i ∧ updP P i I p j = p) ∨ (j ≠ i ∧ j ∈ I ∧ updP P i I p j = fun _ => True) ∨ (j ≠ i ∧ j ∉ I ∧ updP P i I p j = P j) := by
  unfold updP
  by_cases h : j = i
  · left; subst h; simp
  · right
    have : Nat.beq j i = false := by rw [← Bool.not_eq_true]; exact fun e => h (Nat.eq_of_beq_eq_true e)
    rw [this]
    by_cases hI : j ∈ I
    · left; refine ⟨h, hI, ?_⟩
      have : (I.any fun k => Nat.beq j k) = true := List.any_eq_true.2 ⟨j, hI, by simp⟩
      rw [this]; rfl
    · right; refine ⟨h, hI, ?_⟩
      have : (I.any fun k => Nat.beq j k) = false := by
        rw [List.any_eq_false]; intro k hk hb; exact hI (by rw [Nat.eq_of_beq_eq_true hb]; exact hk)
      rw [this]; rfl

/-- The things of I are turned, and nobody else's blocks; thing i is what it then is. -/
theorem Sts.step (S : Sts w0 w F P) {M : List Nat} (hm : Mod M w w') (i : Nat) (I : List Nat) (hi : i ∈ I) (hM : ∀ q ∈ M, (∃ j ∈ I, q ∈ F j) ∨ Free w0 F q) (G : List Nat) (p : World → Prop)
    (hG : ∀ q ∈ G, ((∃ j ∈ I, q ∈ F j) ∨ Free w0 F q) ∧ q < w'.heap.size) (hp : ∀ w'', (∀ q ∈ G, w''.heap[q]? = w'.heap[q]?) → p w'') : Sts w0 w' (updF F i I G) (updP P i I p) where
  bel := S.bel.of_mod hm S.size (fun k hk => (hM k hk).elim (fun ⟨j, _, h⟩ => (S.lt j k h).1) (fun h => h.2))
  lt := fun j q hq => by
    rcases upd_cases F i I G j with ⟨_, e⟩ | ⟨_, _, e⟩ | ⟨_, _, e⟩ <;> rw [e] at hq
    · exact ⟨(hG q hq).1.elim (fun ⟨j, _, h⟩ => (S.lt j q h).1) (fun h => h.2), (hG q hq).2⟩
    · simp at hq
    · have := S.lt j q hq; have := hm.size; omega
  apart := fun j k hjk q hq hk => by
    have aux : ∀ j, j ∉ I → q ∈ G → q ∉ F j := fun j hj hq h => (hG q hq).1.elim (fun ⟨j', hj', h'⟩ => S.apart j j' (fun e => hj (e ▸ hj')) q h h') (fun hf => hf.1 j h)
    rcases upd_cases F i I G j with ⟨a, e⟩ | ⟨_, _, e⟩ | ⟨a, b, e⟩ <;> rw [e] at hq <;> rcases upd_cases F i I G k with ⟨a', e'⟩ | ⟨_, _, e'⟩ | ⟨a', b', e'⟩ <;> rw [e'] at hk
    · omega
    · simp at hk
    · exact aux k b' hq hk
    · simp at hq
    · simp at hq
    · simp at hq
    · exact aux j b hk hq
    · simp at hk
    · exact S.apart j k hjk q hq hk
  own := fun j w'' hw => by
    rcases upd_cases F i I G j with ⟨a, e⟩ | ⟨a, b, e⟩ | ⟨a, b, e⟩ <;> rw [e] at hw <;> rcases updP_cases P i I p j with ⟨a', e'⟩ | ⟨a', b', e'⟩ | ⟨a', b', e'⟩ <;> rw [e'] <;> first | exact absurd a a' | exact absurd a' a | exact absurd b b' | exact absurd b' b | skip
    · exact hp w'' hw
    · trivial
    · refine S.own j w'' (fun q hq => (hw q hq).trans (hm.block q (S.lt j q hq).2 (fun hqM => ?_)))
      exact (hM q hqM).elim (fun ⟨j', hj', h'⟩ => S.apart j j' (fun e => b (e ▸ hj')) q hq h') (fun hf => hf.1 j hq)

/-- Nothing was turned. -/
theorem Sts.below (S : Sts w0 w F P) (hb : Below w.heap.size w w') : Sts w0 w' F P where
  bel := S.bel.then_ hb
  lt := fun i q hq => by have := S.lt i q hq; have := hb.size; omega
  apart := S.apart
  own := fun i w'' hw => S.own i w'' (fun q hq => (hw q hq).trans (hb.block q (S.lt i q hq).2))
/-- A new thing, in blocks that are nobody's. -/
theorem Sts.add (S : Sts w0 w F P) (i : Nat) (G : List Nat) (p : World → Prop) (hG : ∀ q ∈ G, Free w0 F q ∧ q < w.heap.size) (hp : ∀ w', (∀ q ∈ G, w'.heap[q]? = w.heap[q]?) → p w') : Sts w0 w (updF F i [i] G) (updP P i [i] p) :=
  S.step (Mod.refl [] w) i [i] (by simp) (by simp) G p (fun q hq => ⟨Or.inr (hG q hq).1, (hG q hq).2⟩) hp
theorem Free.add {q i : Nat} {G : List Nat} (h : Free w0 F q) (hq : q ∉ G) (I : List Nat) : Free w0 (updF F i I G) q := by
  refine ⟨fun j hj => ?_, h.2⟩
  rcases upd_cases F i I G j with ⟨_, e⟩ | ⟨_, _, e⟩ | ⟨_, _, e⟩ <;> rw [e] at hj
  · exact hq hj
  · simp at hj
  · exact h.1 j hj

theorem SlR.agree {α : Type} {enc : α → List Value} {k : Nat} {v : Value} {xs : List α} (h : SlR w enc k v xs) (hb : ∀ q ∈ v.ownBlock.toList, w'.heap[q]? = w.heap[q]?) : SlR w' enc k v xs := by
  obtain ⟨a, cap, rfl, hl, hn, hcell⟩ := h
  refine ⟨a, cap, rfl, hl, hn, fun i hi => ?_⟩
  obtain ⟨b, off, rfl, hj⟩ := hcell i hi
  refine ⟨b, off, rfl, fun j u hu => ?_⟩
  have := hb b (by simp [Value.ownBlock])
  have := hj j u hu
  simp only [World.cell?] at this ⊢
  rw [hb b (by simp [Value.ownBlock])]; exact this
theorem SlO.agree {α : Type} {base k : Nat} {E : TypeId} {enc : α → List Value} {v : Value} {xs : List α} (h : SlO w base E enc k v xs) (hb : ∀ q ∈ v.ownBlock.toList, w'.heap[q]? = w.heap[q]?) : SlO w' base E enc k v xs :=
  h.block fun g hg => hb g (by simp [hg])
end Go.Proofs.YtjeidklpomekdaaDoor

/- 'append([]T{}, l...)' at a step of a region that draws its order. -/
namespace Go.Proofs.YtjeidklpomekdaaDoor
open Go.RowKit

section
variable {P : Program} {α : Type}
theorem flat_news {w : World} {enc : α → List Value} {size m c : Nat} {ad : Addr} {ys : List α} (hk : ∀ x, (enc x).length = size) (hp : 0 < size) (hy : SlR w enc size (.slice (some ad) m c) ys) : ∀ j u, (ys.flatMap enc)[j]? = some u → w.cell? (ad.add j) = some u := by
  obtain ⟨ax, cx, hv, hyl, hnil, hyc⟩ := hy
  cases hv
  have hny : (ys.flatMap enc).length = ys.length * size := flat_length hk ys
  intro j u hu
  have hj : j < ys.length * size := by rw [← hny]; exact (List.getElem?_eq_some_iff.1 hu).1
  have hi' : j / size < ys.length := (Nat.div_lt_iff_lt_mul hp).2 hj
  obtain ⟨b, off, hb, hcell⟩ := hyc (j / size) hi'
  cases hb
  have hm : j % size < (enc ys[j / size]).length := by rw [hk]; exact Nat.mod_lt _ hp
  have he : (enc ys[j / size])[j % size]? = some ((enc ys[j / size])[j % size]) := List.getElem?_eq_getElem hm
  have hd : j / size * size + j % size = j := by rw [Nat.mul_comm]; exact Nat.div_add_mod j size
  have hf := flat_get hk ys (j / size) (j % size) hi' _ he
  rw [hd, hu] at hf
  have hc := hcell (j % size) _ he
  rw [Nat.add_assoc, hd] at hc
  rw [hf]
  have : (⟨b, off, none⟩ : Addr).add j = ⟨b, off + j, none⟩ := by unfold Addr.add; split <;> simp_all
  rw [this]; exact hc
theorem step_app_new {t e : TypeId} {size bytes : Nat} (et : ElemTy P t e size bytes) {W : World} {ops : Array Oper} {o : Oper} {a : Act} {K : Act → World → Prop} {Q : Exit → Act → World → Prop} {E : Prop} (B : Nat) (hgd : o.guard = none) (s x : Operand)
    (ho : o.op = .call { callee := .builtin .append, args := #[s, x], argTypes := #[t, t] })
    (enc : α → List Value) (hk : ∀ x, (enc x).length = size) (h1 : ∀ x, ∀ u ∈ enc x, u.oneCell' = true) (hs : a.eval s = .slice (some ⟨B, 0, none⟩) 0 0) (hB : B = W.heap.size)
    (ys : List α) (ad : Addr) (m c : Nat) (hx : a.eval x = .slice (some ad) m c) (hm : ys.length = m) (hy : SlR W enc size (.slice (some ad) m c) ys)
    (hbytes : m * bytes ≤ 140737488355328) (h63 : m ≤ 9223372036854775807)
    (h : ∀ ao cap w', SlO w' W.heap.size e enc size (.slice ao m cap) ys → Below W.heap.size W w' → K (a.put o.dst (.slice ao m cap)) w') :
    if Region.wanted o (yielded ops a.tmps) = true then Oper.wp P o a (W.alloc (.cells #[] e)) K Q else E := by
  subst hB
  obtain ⟨i, z, hi, hz, hsz, hby, hzs⟩ := et.hi
  have hw : Region.wanted o (yielded ops a.tmps) = true := by simp [Region.wanted, hgd]
  rw [if_pos hw]
  have hown : SlO (W.alloc (.cells #[] e)) W.heap.size e enc size (.slice (some ⟨W.heap.size, 0, none⟩) 0 0) ([] : List α) := World.ownsRow_made W #[] 0 (Nat.le_refl _) (Nat.zero_le _) (by simp)
  have hbw : Below W.heap.size W (W.alloc (.cells #[] e)) := (Below.refl _ _).new _
  have hy' := hy.below hbw
  have hnews := flat_news hk et.pos hy'
  obtain ⟨v', w', hrun, h2, h3, h4, h5⟩ := run_append_own_at (P := P) (W.alloc (.cells #[] e)) W.heap.size t o.type e i z size bytes et.ht hi hz hsz hby hzs et.pos _ 0 [] hown ad m c (ys.flatMap enc) (by rw [flat_length hk, hm]) hnews
    (fun u hu => by obtain ⟨y, _, hu⟩ := List.mem_flatMap.1 hu; exact h1 y u hu) (by unfold maxLen; omega) (by simpa using hbytes) (by simp)
  have h6 : SlO w' W.heap.size e enc size v' ys := by unfold SlO; rw [hm]; simpa using h2
  obtain ⟨ao, cap, rfl, _⟩ := h6.len
  rw [hm] at h6 hrun
  unfold Oper.wp
  simp [execOp, ho, resolve, invoke, builtin, hs, hx, hrun, Result.andThen]
  exact h ao cap w' h6 (hbw.trans ⟨h3.os, h3.tape, h3.output, h3.size, fun k hk => h3.block k (by simp; omega) (by simp [Value.ownBlock]; omega)⟩)
end
end Go.Proofs.YtjeidklpomekdaaDoor

/- The law's shelf: (*jotter/jotterlaw12.Shelf).edits: its two drawn regions. -/
namespace Go.Proofs.YtjeidklpomekdaaDoor
open Go.RowKit

noncomputable def shRegE (n : Nat) : Code := ((Tryd.f9.body.bind (findReg n)).getD .skip)

def PushE (base sb : Nat) (w : World) (v0 v1 v2 v3 : Value) (mark : Int) (ps qs : List Sv) (ens : List (Sv × List Edt)) (L : List Nat) (xs : List Edt) (w' : World) : Prop :=
  ∃ (s : Sv) (g N cap : Nat), w'.heap[sb]? = some (shBlk v0 (.slice (some ⟨g, 0, none⟩) N cap) v2 v3 mark) ∧ Half w' base 22 Edt.cells 6 v0 (.slice (some ⟨g, 0, none⟩) N cap) ps (qs ++ [s]) ens L ∧ Mod (sb :: v1.ownBlock.toList) w w' ∧
    (∀ q ∈ hfoot v0 (.slice (some ⟨g, 0, none⟩) N cap) L, q ∈ hfoot v0 v1 L ∨ w.heap.size ≤ q) ∧ SlR w' Edt.cells 6 s.val xs ∧ (∀ q, s.val.ownBlock = some q → w.heap.size ≤ q ∧ q < w'.heap.size ∧ q ∉ hfoot v0 (.slice (some ⟨g, 0, none⟩) N cap) L)
theorem pushE_end {base sb : Nat} {w w1 w2 : World} {v0 v1 v2 v3 : Value} {mark : Int} {ps qs : List Sv} {ens : List (Sv × List Edt)} {L : List Nat} {xs : List Edt} {s : Sv} {g N cap : Nat} (hp : w.heap[sb]? = some (shBlk v0 v1 v2 v3 mark)) (h : Half w base 22 Edt.cells 6 v0 v1 ps qs ens L) (hsb : sb ∉ hfoot v0 v1 L)
    (hb1 : Below w.heap.size w w1) (hs : SlO w1 w.heap.size 48 Edt.cells 6 s.val xs) (hm : Mod v1.ownBlock.toList w1 w2) (ho : SlO w2 base 22 Sv.cells 1 (.slice (some ⟨g, 0, none⟩) N cap) (qs ++ [s])) (hg : v1.ownBlock = some g ∨ w1.heap.size ≤ g) :
    PushE base sb w v0 v1 v2 v3 mark ps qs ens L xs (w2.setCell ⟨sb, 1, none⟩ (.slice (some ⟨g, 0, none⟩) N cap)) := by
  have hsz := hb1.size
  have hlt : sb < w.heap.size := blk_lt hp
  have hsl := fun q (hq : s.val.ownBlock = some q) => hs.lt q hq
  have h2 := (h.below hb1).pushB hm ho hg
  have hsbB : sb ∉ v1.ownBlock.toList := fun hq => hsb (by simp [hfoot]; exact Or.inr (Or.inl (by simpa using hq)))
  have hnew : ∀ q ∈ hfoot v0 (.slice (some ⟨g, 0, none⟩) N cap) L, q ∈ hfoot v0 v1 L ∨ (w.heap.size ≤ q ∧ w1.heap.size ≤ q) := by
    intro q hq
    simp only [hfoot, List.mem_append] at hq ⊢
    rcases hq with (hq | hq) | hq
    · exact Or.inl (Or.inl (Or.inl hq))
    · simp [Value.ownBlock] at hq; subst hq
      rcases hg with hg | hg
      · exact Or.inl (Or.inl (Or.inr (by simp [hg])))
      · exact Or.inr ⟨by omega, hg⟩
    · exact Or.inl (Or.inr hq)
  have hms := Mod.setCell w2 sb 1 (.slice (some ⟨g, 0, none⟩) N cap)
  have hsb' : sb ∉ hfoot v0 (.slice (some ⟨g, 0, none⟩) N cap) L := fun hq => (hnew sb hq).elim hsb (fun h' => by omega)
  refine ⟨s, g, N, cap, blk_set (hm.blk hsbB (hb1.blk hp)) 1 _, h2.mod hms (fun q hq hq' => hsb' (by simp at hq'; exact hq' ▸ hq)), ?_, fun q hq => (hnew q hq).imp id (fun h => h.1), ?_, ?_⟩
  · exact ((Mod.of_below (L := sb :: v1.ownBlock.toList) hb1).then_ (hm.weaken (fun q hq => Or.inl (List.mem_cons_of_mem _ hq))) (fun _ h => h)).then_ (hms.weaken (fun q hq => Or.inl (by simp at hq; simp [hq]))) (fun _ h => h)
  · refine ((hs.reads len_edit).mod hm (fun q hq hq' => ?_)).mod hms (fun q hq hq' => ?_)
    · have h1 := (hsl q hq).1
      have h2 := (h.hB.lt q (by simpa using hq')).2
      omega
    · have h1 := (hsl q hq).1
      simp at hq'; omega
  · intro q hq
    have h1 := hsl q hq
    have h3 := hm.size
    have h4 := hms.size
    refine ⟨h1.1, by omega, fun hq' => (hnew q hq').elim (fun h5 => by have := h.flt q h5; omega) (fun h5 => by omega)⟩

set_option maxRecDepth 100000 in
set_option maxHeartbeats 3200000 in
theorem shE_r8 {u2 u3 u4 u5 u6 u7 u8 u9 u10 u11 u12 u13 u14 u15 u16 u17 u18 u19 u20 u21 u22 u23 u24 u25 u26 u27 u28 u29 u30 u31 u32 u33 u34 u35 u36 u37 u38 u39 u40 u41 u42 u43 u44 u45 u46 u47 u48 u49 u50 u51 u52 u53 u54 u55 u56 u57 u58 u59 u60 u61 u62 u63 u64 u65 u66 u67 u68 u69 u70 u71 u72 u73 u74 u75 u76 u77 u78 u79 u80 u81 u82 u83 u84 u85 : Value} (base sb : Nat) (v0 v1 v2 v3 : Value) (mark : Int) (ps qs : List Sv) (ens : List (Sv × List Edt)) (L : List Nat) (ad : Addr) (n c : Nat) (xs : List Edt) (w : World) (hp : w.heap[sb]? = some (shBlk v0 v1 v2 v3 mark)) (h : Half w base 22 Edt.cells 6 v0 v1 ps qs ens L) (hsb : sb ∉ hfoot v0 v1 L) (hbase : base ≤ w.heap.size) (hs : SlR w Edt.cells 6 (.slice (some ad) n c) xs) (hn : xs.length = n) (hn2 : n ≤ 2932031007335) (hq : qs.length ≤ 1000) (K : Act → World → Prop) (Post : Ending → World → Prop)
    (hK : ∀ (v46 v47 v48 v49 v50 v51 v52 v53 v54 v55 v56 v57 : Value) (w' : World), PushE base sb w v0 v1 v2 v3 mark ps qs ens L xs w' → K ⟨List.toArray (.pointer (some ⟨sb, 0, none⟩) :: .slice (some ad) n c :: u2 :: u3 :: u4 :: u5 :: u6 :: u7 :: u8 :: u9 :: u10 :: u11 :: u12 :: u13 :: u14 :: u15 :: u16 :: u17 :: u18 :: u19 :: u20 :: u21 :: u22 :: u23 :: u24 :: u25 :: u26 :: u27 :: u28 :: u29 :: u30 :: u31 :: u32 :: u33 :: u34 :: u35 :: u36 :: u37 :: u38 :: u39 :: u40 :: u41 :: u42 :: u43 :: u44 :: u45 :: v46 :: v47 :: v48 :: v49 :: v50 :: v51 :: v52 :: v53 :: v54 :: v55 :: v56 :: v57 :: u58 :: u59 :: u60 :: u61 :: u62 :: u63 :: u64 :: u65 :: u66 :: u67 :: u68 :: u69 :: u70 :: u71 :: u72 :: u73 :: u74 :: u75 :: u76 :: u77 :: u78 :: u79 :: u80 :: u81 :: u82 :: u83 :: u84 :: u85 :: []), []⟩ w') :
    Code.wp Tryd.prog (shRegE 8) (Exit.then K (bodyPost Tryd.prog Tryd.f9 Post)) ⟨List.toArray (.pointer (some ⟨sb, 0, none⟩) :: .slice (some ad) n c :: u2 :: u3 :: u4 :: u5 :: u6 :: u7 :: u8 :: u9 :: u10 :: u11 :: u12 :: u13 :: u14 :: u15 :: u16 :: u17 :: u18 :: u19 :: u20 :: u21 :: u22 :: u23 :: u24 :: u25 :: u26 :: u27 :: u28 :: u29 :: u30 :: u31 :: u32 :: u33 :: u34 :: u35 :: u36 :: u37 :: u38 :: u39 :: u40 :: u41 :: u42 :: u43 :: u44 :: u45 :: u46 :: u47 :: u48 :: u49 :: u50 :: u51 :: u52 :: u53 :: u54 :: u55 :: u56 :: u57 :: u58 :: u59 :: u60 :: u61 :: u62 :: u63 :: u64 :: u65 :: u66 :: u67 :: u68 :: u69 :: u70 :: u71 :: u72 :: u73 :: u74 :: u75 :: u76 :: u77 :: u78 :: u79 :: u80 :: u81 :: u82 :: u83 :: u84 :: u85 :: []), []⟩ w := by
  conv => arg 2; whnf

  obtain ⟨aB, cB, hvB, hnB⟩ := h.hB.len
  have C := blk_cell hp; have F := blk_free hp; have LP := blk_lt hp
  rw [hvB] at C
  have HP := Lib.hid hp; have HH := Lib.hid h; have HSB := Lib.hid hsb; have HS := Lib.hid hs; have HN := Lib.hid hn; have HVB := Lib.hid hvB
  have HNR := Lib.hid (show sb ∉ v1.ownBlock.toList from fun hq => hsb (by simp [hfoot]; exact Or.inr (Or.inl (by simpa using hq))))
  have HD := Lib.hid (show SlR w.drew Edt.cells 6 (.slice (some ad) n c) xs from hs.below (Below.refl _ _).drew)
  clear h hsb hs hn hp hvB hnB
  have B1 := Lib.hid (show (qs.length + 1) * 24 ≤ 140737488355328 by omega)
  have B2 := Lib.hid (show qs.length + 1 ≤ 9223372036854775807 by omega)
  have B3 := Lib.hid (show n * 48 ≤ 140737488355328 by omega)
  have B4 := Lib.hid (show n ≤ 9223372036854775807 by omega)
  go_region_law (first
    | (refine step_app_new et_edit (W := w.drew) w.heap.size rfl (.tmp 51) (.tmp 52) rfl Edt.cells len_edit one_edit rfl rfl xs ad n c rfl HN.out HD.out B3.out B4.out ?_; intro ao c1 w1 ho1 hb1; have hbt : Below w.heap.size w w1 := (Below.refl _ _).drew.then_ hb1; have s1 := hbt.blk HP.out; have C1 := blk_cell s1; have F1 := blk_free s1; have LP1 := blk_lt s1; rw [HVB.out] at C1; have HO1 := Lib.hid ho1; have BT := Lib.hid hbt; have S1 := Lib.hid s1; have HB1 := Lib.hid (HH.out.hB.below hbt); have B5 := Lib.hid (Nat.le_trans hbase hbt.size); clear ho1 hb1 hbt s1)
    | (refine step_app1N et_se (W := w1) (qs.length + 1) rfl (.tmp 50) (.tmp 54) rfl base Sv.cells len_sv one_sv v1 qs (by exact HVB.out.symm) HB1.out (⟨ao, n, c1⟩ : Sv) _ rfl w1.heap.size rfl rfl rfl B1.out B2.out B5.out ?_; intro g cap w2 ho2 hm2 hg2 hlt2; have s2 := hm2.blk HNR.out S1.out; have C2 := blk_cell s2; have F2 := blk_free s2; have LP2 := blk_lt s2; have S2 := Lib.hid s2; have HO2 := Lib.hid ho2; have HM2 := Lib.hid hm2; have HG2 := Lib.hid hg2; clear s2 ho2 hm2 hg2))
  all_goals
    refine hK _ _ _ _ _ _ _ _ _ _ _ _ _ ?_
    exact pushE_end (s := ⟨ao, n, c1⟩) HP.out HH.out HSB.out BT.out HO1.out HM2.out HO2.out HG2.out

set_option maxRecDepth 100000 in
set_option maxHeartbeats 3200000 in
theorem shE_r11 {u1 u2 u3 u4 u5 u7 u8 u9 u10 u11 u12 u13 u14 u15 u16 u17 u18 u19 u20 u21 u22 u23 u24 u25 u26 u27 u28 u29 u30 u31 u32 u33 u34 u35 u36 u37 u38 u39 u40 u41 u42 u43 u44 u45 u46 u47 u48 u49 u50 u51 u52 u53 u54 u55 u56 u57 u58 u59 u60 u61 u62 u63 u64 u65 u66 u67 u68 u69 u70 u71 u72 u73 u74 u75 u76 u77 u78 u79 u80 u81 u82 u83 u84 u85 : Value} (base sb : Nat) (v0 v1 v2 v3 : Value) (mark : Int) (ps qs : List Sv) (ens : List (Sv × List Edt)) (L : List Nat) (ad : Addr) (n c : Nat) (xs : List Edt) (w : World) (hp : w.heap[sb]? = some (shBlk v0 v1 v2 v3 mark)) (h : Half w base 22 Edt.cells 6 v0 v1 ps qs ens L) (hsb : sb ∉ hfoot v0 v1 L) (hbase : base ≤ w.heap.size) (hs : SlR w Edt.cells 6 (.slice (some ad) n c) xs) (hn : xs.length = n) (hn2 : n ≤ 2932031007335) (hq : qs.length ≤ 1000) (K : Act → World → Prop) (Post : Ending → World → Prop)
    (hK : ∀ (v74 v75 v76 v77 v78 v79 v80 v81 v82 v83 v84 v85 : Value) (w' : World), PushE base sb w v0 v1 v2 v3 mark ps qs ens L xs w' → K ⟨List.toArray (.pointer (some ⟨sb, 0, none⟩) :: u1 :: u2 :: u3 :: u4 :: u5 :: .slice (some ad) n c :: u7 :: u8 :: u9 :: u10 :: u11 :: u12 :: u13 :: u14 :: u15 :: u16 :: u17 :: u18 :: u19 :: u20 :: u21 :: u22 :: u23 :: u24 :: u25 :: u26 :: u27 :: u28 :: u29 :: u30 :: u31 :: u32 :: u33 :: u34 :: u35 :: u36 :: u37 :: u38 :: u39 :: u40 :: u41 :: u42 :: u43 :: u44 :: u45 :: u46 :: u47 :: u48 :: u49 :: u50 :: u51 :: u52 :: u53 :: u54 :: u55 :: u56 :: u57 :: u58 :: u59 :: u60 :: u61 :: u62 :: u63 :: u64 :: u65 :: u66 :: u67 :: u68 :: u69 :: u70 :: u71 :: u72 :: u73 :: v74 :: v75 :: v76 :: v77 :: v78 :: v79 :: v80 :: v81 :: v82 :: v83 :: v84 :: v85 :: []), []⟩ w') :
    Code.wp Tryd.prog (shRegE 11) (Exit.then K (bodyPost Tryd.prog Tryd.f9 Post)) ⟨List.toArray (.pointer (some ⟨sb, 0, none⟩) :: u1 :: u2 :: u3 :: u4 :: u5 :: .slice (some ad) n c :: u7 :: u8 :: u9 :: u10 :: u11 :: u12 :: u13 :: u14 :: u15 :: u16 :: u17 :: u18 :: u19 :: u20 :: u21 :: u22 :: u23 :: u24 :: u25 :: u26 :: u27 :: u28 :: u29 :: u30 :: u31 :: u32 :: u33 :: u34 :: u35 :: u36 :: u37 :: u38 :: u39 :: u40 :: u41 :: u42 :: u43 :: u44 :: u45 :: u46 :: u47 :: u48 :: u49 :: u50 :: u51 :: u52 :: u53 :: u54 :: u55 :: u56 :: u57 :: u58 :: u59 :: u60 :: u61 :: u62 :: u63 :: u64 :: u65 :: u66 :: u67 :: u68 :: u69 :: u70 :: u71 :: u72 :: u73 :: u74 :: u75 :: u76 :: u77 :: u78 :: u79 :: u80 :: u81 :: u82 :: u83 :: u84 :: u85 :: []), []⟩ w := by
  conv => arg 2; whnf

  obtain ⟨aB, cB, hvB, hnB⟩ := h.hB.len
  have C := blk_cell hp; have F := blk_free hp; have LP := blk_lt hp
  rw [hvB] at C
  have HP := Lib.hid hp; have HH := Lib.hid h; have HSB := Lib.hid hsb; have HS := Lib.hid hs; have HN := Lib.hid hn; have HVB := Lib.hid hvB
  have HNR := Lib.hid (show sb ∉ v1.ownBlock.toList from fun hq => hsb (by simp [hfoot]; exact Or.inr (Or.inl (by simpa using hq))))
  have HD := Lib.hid (show SlR w.drew Edt.cells 6 (.slice (some ad) n c) xs from hs.below (Below.refl _ _).drew)
  clear h hsb hs hn hp hvB hnB
  have B1 := Lib.hid (show (qs.length + 1) * 24 ≤ 140737488355328 by omega)
  have B2 := Lib.hid (show qs.length + 1 ≤ 9223372036854775807 by omega)
  have B3 := Lib.hid (show n * 48 ≤ 140737488355328 by omega)
  have B4 := Lib.hid (show n ≤ 9223372036854775807 by omega)
  go_region_law (first
    | (refine step_app_new et_edit (W := w.drew) w.heap.size rfl (.tmp 79) (.tmp 80) rfl Edt.cells len_edit one_edit rfl rfl xs ad n c rfl HN.out HD.out B3.out B4.out ?_; intro ao c1 w1 ho1 hb1; have hbt : Below w.heap.size w w1 := (Below.refl _ _).drew.then_ hb1; have s1 := hbt.blk HP.out; have C1 := blk_cell s1; have F1 := blk_free s1; have LP1 := blk_lt s1; rw [HVB.out] at C1; have HO1 := Lib.hid ho1; have BT := Lib.hid hbt; have S1 := Lib.hid s1; have HB1 := Lib.hid (HH.out.hB.below hbt); have B5 := Lib.hid (Nat.le_trans hbase hbt.size); clear ho1 hb1 hbt s1)
    | (refine step_app1N et_se (W := w1) (qs.length + 1) rfl (.tmp 78) (.tmp 82) rfl base Sv.cells len_sv one_sv v1 qs (by exact HVB.out.symm) HB1.out (⟨ao, n, c1⟩ : Sv) _ rfl w1.heap.size rfl rfl rfl B1.out B2.out B5.out ?_; intro g cap w2 ho2 hm2 hg2 hlt2; have s2 := hm2.blk HNR.out S1.out; have C2 := blk_cell s2; have F2 := blk_free s2; have LP2 := blk_lt s2; have S2 := Lib.hid s2; have HO2 := Lib.hid ho2; have HM2 := Lib.hid hm2; have HG2 := Lib.hid hg2; clear s2 ho2 hm2 hg2))
  all_goals
    refine hK _ _ _ _ _ _ _ _ _ _ _ _ _ ?_
    exact pushE_end (s := ⟨ao, n, c1⟩) HP.out HH.out HSB.out BT.out HO1.out HM2.out HO2.out HG2.out

end Go.Proofs.YtjeidklpomekdaaDoor

