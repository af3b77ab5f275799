/- Part 11 of the proof of BookReplays: Plain, Plain2, Plain3, Plain4, Plain5, Sts2, Fixed, Main. -/
import Derived.Deep.DeepCutAuto
import Derived.Test.YtjeidklpomekdaaDoorBr10

set_option linter.unusedVariables false
set_option linter.unusedSimpArgs false
set_option linter.unnecessarySimpa false

/- The plain law: a client's forms, column by column; squares; fitting lines. No program. -/
namespace Go.Proofs.YtjeidklpomekdaaDoor
open Go.RowKit

/-- The client's edits that join at column k. -/
def adds (own : List Edt) (k : Nat) : List Opr := (own.filter (fun x => x.tag = (k : Int))).map (·.op)
/-- The forms ahead of the joining at column k. -/
def H (ce : Nat → Int) (d : Nat → Opr) (c : Int) (own : List Edt) : Nat → List Opr
  | 0 => []
  | k + 1 => if ce k = c then (H ce d c own k ++ adds own k).tail else (carry (d k) (H ce d c own k ++ adds own k)).1
def Fm (ce : Nat → Int) (d : Nat → Opr) (c : Int) (own : List Edt) (k : Nat) : List Opr := H ce d c own k ++ adds own k
/-- Another's record of column k behind the client's forms. -/
def rec_ (ce : Nat → Int) (d : Nat → Opr) (c : Int) (own : List Edt) (k : Nat) : Opr := (carry (d k) (Fm ce d c own k)).2
theorem H_succ (ce : Nat → Int) (d : Nat → Opr) (c : Int) (own : List Edt) (k : Nat) : H ce d c own (k + 1) = if ce k = c then (Fm ce d c own k).tail else (carry (d k) (Fm ce d c own k)).1 := rfl
theorem H_congr {ce ce' : Nat → Int} {d d' : Nat → Opr} (c : Int) (own : List Edt) (k : Nat) (h : ∀ j, j < k → ce j = ce' j ∧ d j = d' j) : H ce d c own k = H ce' d' c own k := by
  induction k with
  | zero => rfl
  | succ k ih =>
    have ih := ih (fun j hj => h j (by omega))
    obtain ⟨h1, h2⟩ := h k (by omega)
    simp only [H, ih, h1, h2]
theorem Fm_congr {ce ce' : Nat → Int} {d d' : Nat → Opr} (c : Int) (own : List Edt) (k : Nat) (h : ∀ j, j < k → ce j = ce' j ∧ d j = d' j) : Fm ce d c own k = Fm ce' d' c own k := by
  unfold Fm; rw [H_congr c own k h]

/-- Tags that do not fall. -/
def Sorted : List Edt → Prop
  | [] => True
  | x :: l => (∀ y ∈ l, x.tag ≤ y.tag) ∧ Sorted l
theorem Sorted.snoc {l : List Edt} {e : Edt} (h : Sorted l) (he : ∀ x ∈ l, x.tag ≤ e.tag) : Sorted (l ++ [e]) := by
  induction l with
  | nil => simp [Sorted]
  | cons x l ih =>
    refine ⟨fun y hy => ?_, ih h.2 (fun y hy => he y (List.mem_cons_of_mem _ hy))⟩
    rcases List.mem_append.1 hy with hy | hy
    · exact h.1 y hy
    · simp at hy; subst hy; exact he x (by simp)
theorem Sorted.filter {l : List Edt} (h : Sorted l) (p : Edt → Bool) : Sorted (l.filter p) := by
  induction l with
  | nil => simp [Sorted]
  | cons x l ih =>
    rw [List.filter_cons]
    split
    · exact ⟨fun y hy => h.1 y (List.mem_filter.1 hy).1, ih h.2⟩
    · exact ih h.2

/-- Joining, of a list in order of which nothing comes before. -/
theorem addOwn_sorted (k : Nat) (Nk : Int) : ∀ (r : List Edt) (fs : List Opr) (n : Int), Sorted r → (∀ x ∈ r, (k : Int) ≤ x.tag) →
    (addOwn k Nk r fs n).1 = r.filter (fun x => (k : Int) + 1 ≤ x.tag) ∧ (addOwn k Nk r fs n).2.1 = fs ++ adds r k ∧ (addOwn k Nk r fs n).2.2 = if adds r k = [] then n else Nk + sumG (fs ++ (adds r k).dropLast)
  | [], fs, n, _, _ => by simp [addOwn, adds]
  | x :: l, fs, n, hs, hk => by
    by_cases h : x.tag = (k : Int)
    · obtain ⟨h1, h2, h3⟩ := addOwn_sorted k Nk l (fs ++ [x.op]) (Nk + sumG fs) hs.2 (fun y hy => hk y (List.mem_cons_of_mem _ hy))
      have ha : adds (x :: l) k = x.op :: adds l k := by simp [adds, h]
      simp only [addOwn, if_pos h]
      refine ⟨?_, ?_, ?_⟩
      · rw [h1, List.filter_cons]; simp [h]; omega
      · rw [h2, ha]; simp
      · rw [h3, ha]
        by_cases he : adds l k = []
        · simp [he]
        · simp only [he, if_false]
          rw [List.dropLast_cons_of_ne_nil he]
          simp
    · have hx : (k : Int) < x.tag := by have := hk x (by simp); omega
      have hall : ∀ y ∈ x :: l, (k : Int) < y.tag := by
        intro y hy
        rcases List.mem_cons.1 hy with rfl | hy
        · exact hx
        · have := hs.1 y hy; omega
      have ha : adds (x :: l) k = [] := by
        unfold adds
        rw [List.filter_eq_nil_iff.2 (fun y hy => by have := hall y hy; simp; omega)]; rfl
      have hf : (x :: l).filter (fun x => (k : Int) + 1 ≤ x.tag) = x :: l := List.filter_eq_self.2 (fun y hy => by have := hall y hy; simp; omega)
      simp only [addOwn, if_neg h, hf, ha]
      simp

theorem filter_filter_tag (own : List Edt) (k : Nat) : (own.filter (fun x => (k : Int) ≤ x.tag)).filter (fun x => (k : Int) + 1 ≤ x.tag) = own.filter (fun x => ((k + 1 : Nat) : Int) ≤ x.tag) := by
  rw [List.filter_filter]
  apply List.filter_congr
  intro x _
  simp; omega
theorem adds_filter (own : List Edt) (k : Nat) : adds (own.filter (fun x => (k : Int) ≤ x.tag)) k = adds own k := by
  unfold adds
  rw [List.filter_filter]
  congr 1
  apply List.filter_congr
  intro x _
  simp; omega

/-- What the reference's life has at column k. -/
theorem life_forms (R : RefS) (c : Int) (own : List Edt) (hs : Sorted own) (h0 : ∀ x ∈ own, 0 ≤ x.tag) (k : Nat) (hk : k ≤ R.E.length) :
    (lifeTo R c own k).1 = own.filter (fun x => (k : Int) ≤ x.tag) ∧ (lifeTo R c own k).2.1 = H (fun j => (R.e j).op.client) R.d c own k := by
  induction k with
  | zero =>
    refine ⟨?_, rfl⟩
    show own = _
    rw [List.filter_eq_self.2]
    intro x hx; have := h0 x hx; simpa using this
  | succ k ih =>
    obtain ⟨h1, h2⟩ := ih (by omega)
    obtain ⟨a1, a2, a3⟩ := addOwn_sorted k (R.n k) (own.filter (fun x => (k : Int) ≤ x.tag)) (H (fun j => (R.e j).op.client) R.d c own k) (lifeTo R c own k).2.2 (hs.filter _) (fun x hx => by simpa using (List.mem_filter.1 hx).2)
    simp only [lifeTo, h1, h2]
    refine ⟨by rw [a1, filter_filter_tag], ?_⟩
    rw [a2, adds_filter]
    unfold lifeCol
    rw [if_pos (by omega)]
    rfl
theorem life_joined (R : RefS) (c : Int) (own : List Edt) (hs : Sorted own) (h0 : ∀ x ∈ own, 0 ≤ x.tag) (k : Nat) (hk : k ≤ R.E.length) :
    (addOwn k (R.n k) (lifeTo R c own k).1 (lifeTo R c own k).2.1 (lifeTo R c own k).2.2).2.1 = Fm (fun j => (R.e j).op.client) R.d c own k ∧
    (addOwn k (R.n k) (lifeTo R c own k).1 (lifeTo R c own k).2.1 (lifeTo R c own k).2.2).2.2 = if adds own k = [] then (lifeTo R c own k).2.2 else R.n k + sumG (H (fun j => (R.e j).op.client) R.d c own k ++ (adds own k).dropLast) := by
  obtain ⟨h1, h2⟩ := life_forms R c own hs h0 k hk
  obtain ⟨a1, a2, a3⟩ := addOwn_sorted k (R.n k) (own.filter (fun x => (k : Int) ≤ x.tag)) (H (fun j => (R.e j).op.client) R.d c own k) (lifeTo R c own k).2.2 (hs.filter _) (fun x hx => by simpa using (List.mem_filter.1 hx).2)
  rw [h1, h2]
  exact ⟨by rw [a2, adds_filter]; rfl, by rw [a3, adds_filter]⟩

/-- The form of a new edit that joins at column T behind all others: j columns on. -/
def gof (ce : Nat → Int) (r : Nat → Opr) (c : Int) (T : Nat) (o : Opr) : Nat → Opr
  | 0 => o
  | j + 1 => if ce (T + j) = c then gof ce r c T o j else shift (gof ce r c T o j) (r (T + j)) false
theorem adds_snoc (own : List Edt) (e : Edt) (k : Nat) : adds (own ++ [e]) k = adds own k ++ (if e.tag = (k : Int) then [e.op] else []) := by
  unfold adds
  rw [List.filter_append, List.map_append]
  congr 1
  by_cases h : e.tag = (k : Int) <;> simp [h]
theorem adds_past (own : List Edt) (T k : Nat) (h : ∀ x ∈ own, x.tag ≤ (T : Int)) (hk : T < k) : adds own k = [] := by
  unfold adds
  rw [List.filter_eq_nil_iff.2 (fun y hy => by have := h y hy; simp; omega)]; rfl
theorem H_snoc_low (ce : Nat → Int) (d : Nat → Opr) (c : Int) (own : List Edt) (e : Edt) (T : Nat) (he : e.tag = T) (k : Nat) (hk : k ≤ T) : H ce d c (own ++ [e]) k = H ce d c own k := by
  induction k with
  | zero => rfl
  | succ k ih =>
    have ih := ih (by omega)
    have ha : adds (own ++ [e]) k = adds own k := by rw [adds_snoc, if_neg (by omega), List.append_nil]
    simp only [H, ih, ha]
theorem Fm_snoc_low (ce : Nat → Int) (d : Nat → Opr) (c : Int) (own : List Edt) (e : Edt) (T : Nat) (he : e.tag = T) (k : Nat) (hk : k < T) : Fm ce d c (own ++ [e]) k = Fm ce d c own k := by
  unfold Fm
  rw [H_snoc_low ce d c own e T he k (by omega), adds_snoc, if_neg (by omega), List.append_nil]
/-- .. from its column on it stands last. -/
theorem Fm_snoc (ce : Nat → Int) (d : Nat → Opr) (c : Int) (own : List Edt) (e : Edt) (T : Nat) (he : e.tag = T) (ht : ∀ x ∈ own, x.tag ≤ (T : Int)) (j : Nat) (hp : ∀ i, i < j → ce (T + i) = c → Fm ce d c own (T + i) ≠ []) :
    Fm ce d c (own ++ [e]) (T + j) = Fm ce d c own (T + j) ++ [gof ce (rec_ ce d c own) c T e.op j] := by
  induction j with
  | zero =>
    unfold Fm
    rw [Nat.add_zero, H_snoc_low ce d c own e T he T (Nat.le_refl _), adds_snoc, if_pos he]
    simp [gof]
  | succ j ih =>
    have ih := ih (fun i hi => hp i (by omega))
    have h1 : adds own (T + (j + 1)) = [] := adds_past own T _ ht (by omega)
    have h2 : adds (own ++ [e]) (T + (j + 1)) = [] := by rw [adds_snoc, h1, if_neg (by omega)]; rfl
    have e1 : Fm ce d c (own ++ [e]) (T + (j + 1)) = H ce d c (own ++ [e]) (T + j + 1) := by unfold Fm; rw [h2, List.append_nil]; rfl
    have e2 : Fm ce d c own (T + (j + 1)) = H ce d c own (T + j + 1) := by unfold Fm; rw [h1, List.append_nil]; rfl
    rw [e1, e2, H_succ, H_succ, ih]
    by_cases hc : ce (T + j) = c
    · rw [if_pos hc, if_pos hc]
      have := hp j (by omega) hc
      rw [List.tail_append_of_ne_nil this]
      simp [gof, hc]
    · rw [if_neg hc, if_neg hc, carry_snoc]
      simp [gof, hc, rec_]
theorem rec_snoc_low (ce : Nat → Int) (d : Nat → Opr) (c : Int) (own : List Edt) (e : Edt) (T : Nat) (he : e.tag = T) (k : Nat) (hk : k < T) : rec_ ce d c (own ++ [e]) k = rec_ ce d c own k := by
  unfold rec_; rw [Fm_snoc_low ce d c own e T he k hk]
theorem rec_snoc (ce : Nat → Int) (d : Nat → Opr) (c : Int) (own : List Edt) (e : Edt) (T : Nat) (he : e.tag = T) (ht : ∀ x ∈ own, x.tag ≤ (T : Int)) (j : Nat) (hp : ∀ i, i < j → ce (T + i) = c → Fm ce d c own (T + i) ≠ []) :
    rec_ ce d c (own ++ [e]) (T + j) = shift (rec_ ce d c own (T + j)) (gof ce (rec_ ce d c own) c T e.op j) true := by
  unfold rec_
  rw [Fm_snoc ce d c own e T he ht j hp, carry_snoc]
  rfl

/-! ### The queue -/
/-- The records of others from column a on, m columns. -/
def Qf (ce : Nat → Int) (r : Nat → Opr) (c : Int) (a : Nat) : Nat → List Mrk
  | 0 => []
  | m + 1 => (if ce a = c then [] else [⟨(a : Int) + 1, r a⟩]) ++ Qf ce r c (a + 1) m
theorem Qf_snoc (ce : Nat → Int) (r : Nat → Opr) (c : Int) : ∀ (m a : Nat), Qf ce r c a (m + 1) = Qf ce r c a m ++ (if ce (a + m) = c then [] else [⟨((a + m : Nat) : Int) + 1, r (a + m)⟩])
  | 0, a => by simp [Qf]
  | m + 1, a => by
    rw [Qf, Qf_snoc ce r c m (a + 1), Qf, List.append_assoc]
    simp only [show a + 1 + m = a + (m + 1) by omega]
theorem Qf_congr {ce ce' : Nat → Int} {r r' : Nat → Opr} (c : Int) : ∀ (m a : Nat), (∀ j, j < m → ce (a + j) = ce' (a + j) ∧ (ce (a + j) ≠ c → r (a + j) = r' (a + j))) → Qf ce r c a m = Qf ce' r' c a m
  | 0, _, _ => rfl
  | m + 1, a, h => by
    have h0 := h 0 (by omega)
    rw [Nat.add_zero] at h0
    rw [Qf, Qf, Qf_congr c m (a + 1) (fun j hj => by have := h (j + 1) (by omega); rwa [show a + (j + 1) = a + 1 + j by omega] at this), h0.1]
    by_cases hc : ce' a = c
    · simp [hc]
    · rw [if_neg hc, if_neg hc, h0.2 (by rw [h0.1]; exact hc)]
theorem Qf_mark (ce : Nat → Int) (r : Nat → Opr) (c : Int) : ∀ (m a : Nat), ∀ x ∈ Qf ce r c a m, (a : Int) + 1 ≤ x.mark
  | 0, _, x, h => by simp [Qf] at h
  | m + 1, a, x, h => by
    rw [Qf] at h
    rcases List.mem_append.1 h with h | h
    · by_cases hc : ce a = c
      · simp [hc] at h
      · simp [hc] at h; subst h; simp
    · have := Qf_mark ce r c m (a + 1) x h; omega
theorem upto_zero (T : Int) (l : List Mrk) (h : ∀ x ∈ l, T < x.mark) : upto T l = 0 := by
  cases l with
  | nil => rfl
  | cons x l => unfold upto; rw [if_neg]; have := h x (by simp); omega
theorem Qf_drop (ce : Nat → Int) (r : Nat → Opr) (c : Int) : ∀ (i a m : Nat), (Qf ce r c a (i + m)).drop (upto ((a + i : Nat) : Int) (Qf ce r c a (i + m))) = Qf ce r c (a + i) m
  | 0, a, m => by
    rw [Nat.zero_add, upto_zero]
    · rfl
    · intro x hx; have := Qf_mark ce r c m a x hx; simp; omega
  | i + 1, a, m => by
    rw [show i + 1 + m = (i + m) + 1 by omega, Qf]
    have ih := Qf_drop ce r c i (a + 1) m
    rw [show a + 1 + i = a + (i + 1) by omega] at ih
    by_cases hc : ce a = c
    · rw [if_pos hc, List.nil_append]; exact ih
    · rw [if_neg hc]
      simp only [List.singleton_append]
      rw [show upto ((a + (i + 1) : Nat) : Int) (⟨(a : Int) + 1, r a⟩ :: Qf ce r c (a + 1) (i + m)) = upto ((a + (i + 1) : Nat) : Int) (Qf ce r c (a + 1) (i + m)) + 1 by
        rw [upto, if_pos (by simp only []; omega)]]
      rw [List.drop_succ_cons]; exact ih
/-- The new edit past the queue. -/
theorem past_Qf (ce : Nat → Int) (r : Nat → Opr) (c : Int) (T : Nat) (o : Opr) : ∀ (m i : Nat), past true (gof ce r c T o i) (ops (Qf ce r c (T + i) m)) = (gof ce r c T o (i + m), ops (Qf ce (fun k => shift (r k) (gof ce r c T o (k - T)) true) c (T + i) m))
  | 0, i => rfl
  | m + 1, i => by
    have ih := past_Qf ce r c T o m (i + 1)
    rw [Qf, Qf]
    by_cases hc : ce (T + i) = c
    · have hg : gof ce r c T o (i + 1) = gof ce r c T o i := by simp [gof, hc]
      rw [hg] at ih
      simp only [hc, if_true, List.nil_append]
      rw [show T + i + 1 = T + (i + 1) by omega, ih, show i + 1 + m = i + (m + 1) by omega]
    · have hg : gof ce r c T o (i + 1) = shift (gof ce r c T o i) (r (T + i)) false := by simp [gof, hc]
      rw [hg] at ih
      simp only [hc, if_false, List.singleton_append, ops, List.map_cons, past]
      rw [show T + i + 1 = T + (i + 1) by omega]
      unfold ops at ih
      rw [show (!true) = false from rfl, ih, show i + 1 + m = i + (m + 1) by omega, show T + i - T = i by omega]
theorem remark_Qf (ce : Nat → Int) (r r' : Nat → Opr) (c : Int) : ∀ (m a : Nat), remark (Qf ce r c a m) (ops (Qf ce r' c a m)) = Qf ce r' c a m
  | 0, _ => rfl
  | m + 1, a => by
    have ih := remark_Qf ce r r' c m (a + 1)
    rw [Qf, Qf]
    by_cases hc : ce a = c
    · simp only [hc, if_true, List.nil_append]; exact ih
    · simp only [hc, if_false, List.singleton_append, ops, List.map_cons, remark]
      unfold ops at ih
      rw [ih]
theorem unseen_zero (T : Int) (l : List Mrk) (h : ∀ x ∈ l, T < x.mark) : unseen T l = sumG (ops l) := by
  induction l with
  | nil => rfl
  | cons x l ih =>
    simp only [unseen, ops, List.map_cons, sumG]
    rw [if_pos (h x (by simp)), ih (fun y hy => h y (List.mem_cons_of_mem _ hy))]; rfl
theorem unseen_Qf (ce : Nat → Int) (r : Nat → Opr) (c : Int) : ∀ (i a m : Nat), unseen ((a + i : Nat) : Int) (Qf ce r c a (i + m)) = sumG (ops (Qf ce r c (a + i) m))
  | 0, a, m => by
    rw [Nat.zero_add]
    exact unseen_zero _ _ (fun x hx => by have := Qf_mark ce r c m a x hx; simp; omega)
  | i + 1, a, m => by
    have ih := unseen_Qf ce r c i (a + 1) m
    rw [show a + 1 + i = a + (i + 1) by omega] at ih
    rw [show i + 1 + m = (i + m) + 1 by omega, Qf]
    by_cases hc : ce a = c
    · rw [if_pos hc, List.nil_append]; exact ih
    · rw [if_neg hc]
      simp only [List.singleton_append, unseen]
      rw [if_neg (by omega), ih, Int.zero_add]

/-! ### Squares -/
theorem grown_square (f r : Opr) : grown f + grown (shift r f true) = grown r + grown (shift f r false) := by
  obtain ⟨kf, pf, cf, lf, sf⟩ := f
  obtain ⟨kr, pr, cr, lr, sr⟩ := r
  unfold shift ruleOf
  by_cases h1 : kf = 1
  · subst h1
    by_cases h2 : kr = 1
    · subst h2; simp [insIns, grown]; repeat' split <;> simp_all
    · by_cases h3 : kr = 2
      · subst h3; simp [insDel, delIns, grown]; repeat' split <;> simp_all
      · simp [h2, h3, stays, grown]
  · by_cases h2 : kf = 2
    · subst h2
      by_cases h3 : kr = 1
      · subst h3; simp [insDel, delIns, grown]; repeat' split <;> simp_all
      · by_cases h4 : kr = 2
        · subst h4
          by_cases h5 : pf < pr
          · have h6 : ¬ pr < pf := by omega
            have h7 : ¬ pr = pf := by omega
            simp [delDel, h5, h6, h7, grown]
          · by_cases h6 : pr < pf
            · have h7 : ¬ pf = pr := by omega
              simp [delDel, h5, h6, h7, grown]
            · have h7 : pf = pr := by omega
              subst h7; simp [delDel, grown]
        · simp [h3, h4, stays, grown]
    · simp [h1, h2, stays, grown]
theorem carry_sum (r : Opr) (fs : List Opr) : sumG fs + grown (carry r fs).2 = grown r + sumG (carry r fs).1 := by
  induction fs generalizing r with
  | nil => simp [carry, sumG]
  | cons f fs ih =>
    have h1 := ih (shift r f true)
    have h2 := grown_square f r
    simp only [carry, sumG]
    omega

/-- An operation fits a text of n characters (no bound on n). -/
def Fit (n : Int) (o : Opr) : Prop :=
  ((o.kind = 0 ∧ o.pos = 0 ∧ o.ch = 0) ∨ (o.kind = 1 ∧ 0 ≤ o.pos ∧ o.pos ≤ n ∧ 32 ≤ o.ch ∧ o.ch ≤ 126) ∨ (o.kind = 2 ∧ 0 ≤ o.pos ∧ o.pos < n ∧ o.ch = 0)) ∧ 1 ≤ o.client ∧ o.client ≤ 64 ∧ 1 ≤ o.seq ∧ o.seq ≤ 64
theorem valid_facts {o : Opr} (h : valid o = 0) : 0 ≤ o.kind ∧ o.kind ≤ 2 ∧ 1 ≤ o.client ∧ o.client ≤ 64 ∧ 1 ≤ o.seq ∧ o.seq ≤ 64 ∧ (o.kind = 1 → 32 ≤ o.ch ∧ o.ch ≤ 126) ∧ (¬ o.kind = 1 → o.ch = 0) ∧ 0 ≤ o.pos ∧ o.pos ≤ 4095 ∧ (o.kind = 0 → o.pos = 0) := by
  unfold valid at h
  by_cases k0 : o.kind = 0
  · rw [if_pos k0] at h
    split at h
    · omega
    split at h
    · omega
    split at h
    · omega
    split at h
    · omega
    refine ⟨?_, ?_, ?_, ?_, ?_, ?_, ?_, ?_, ?_, ?_, ?_⟩ <;> omega
  · rw [if_neg k0] at h
    split at h
    · omega
    split at h
    · omega
    split at h
    · omega
    split at h
    · omega
    refine ⟨?_, ?_, ?_, ?_, ?_, ?_, ?_, ?_, ?_, ?_, ?_⟩ <;> omega
theorem fit_of_fits {n : Int} {o : Opr} (h : fits n o = 0) : Fit n o := by
  unfold fits at h
  split at h
  · omega
  rename_i hv
  have hv : valid o = 0 := by omega
  obtain ⟨a1, a2, a3, a4, a5, a6, a7, a8, a9, a10, a11⟩ := valid_facts hv
  split at h
  · omega
  split at h
  · omega
  refine ⟨?_, a3, a4, a5, a6⟩
  by_cases k0 : o.kind = 0
  · exact Or.inl ⟨k0, a11 k0, a8 (by omega)⟩
  · by_cases k1 : o.kind = 1
    · have := a7 k1
      exact Or.inr (Or.inl ⟨k1, by omega, by omega, by omega, by omega⟩)
    · have := a8 k1
      exact Or.inr (Or.inr ⟨by omega, by omega, by omega, by omega⟩)
theorem fits_of_fit {n : Int} {o : Opr} (h : Fit n o) (h0 : 0 ≤ n) (hn : n ≤ 4095) : valid o = 0 ∧ fits n o = 0 := by
  obtain ⟨h1, h2⟩ := h
  have hv : valid o = 0 := by
    unfold valid
    rcases h1 with h1 | h1 | h1
    · rw [if_pos h1.1, if_neg (by omega), if_neg (by omega), if_neg (by omega), if_neg (by omega)]
    · rw [if_neg (show ¬ o.kind = 0 by omega), if_neg (by omega), if_neg (by omega), if_neg (by omega), if_neg (by omega)]
    · rw [if_neg (show ¬ o.kind = 0 by omega), if_neg (by omega), if_neg (by omega), if_neg (by omega), if_neg (by omega)]
  refine ⟨hv, ?_⟩
  unfold fits
  rw [if_neg (fun h => h hv), if_neg (by omega), if_neg (by omega)]
theorem fit_square {n : Int} {a b : Opr} (f : Bool) (ha : Fit n a) (hb : Fit n b) (hn : n ≤ 100000) : Fit (n + grown b) (shift a b f) := by
  obtain ⟨ka, pa, ca, la, sa⟩ := a
  obtain ⟨kb, pb, cb, lb, sb⟩ := b
  obtain ⟨h1, h2⟩ := ha
  obtain ⟨h3, h4⟩ := hb
  simp only at h1 h2 h3 h4
  unfold shift ruleOf
  rcases h1 with h1 | h1 | h1 <;> rcases h3 with h3 | h3 | h3 <;> obtain ⟨rfl, h1⟩ := h1 <;> obtain ⟨rfl, h3⟩ := h3 <;> simp [stays, grown, Fit] <;> try omega
  · simp only [insIns]; split <;> simp [wrap64] <;> omega
  · simp only [insDel]; split <;> simp [wrap64] <;> omega
  · simp only [delIns]; split <;> simp [wrap64] <;> omega
  · simp only [delDel]; split
    · simp [wrap64]; omega
    · split
      · simp; omega
      · simp; omega
def LineFit : Int → List Opr → Prop
  | _, [] => True
  | n, f :: fs => Fit n f ∧ LineFit (n + grown f) fs
theorem LineFit.snoc {fs : List Opr} {o : Opr} : ∀ {n : Int}, LineFit n fs → Fit (n + sumG fs) o → LineFit n (fs ++ [o]) := by
  induction fs with
  | nil => intro n _ h; simpa [LineFit, sumG] using h
  | cons f fs ih =>
    intro n h1 h2
    exact ⟨h1.1, ih h1.2 (by rw [show n + grown f + sumG fs = n + sumG (f :: fs) by simp only [sumG]; omega]; exact h2)⟩
theorem carry_fit (fs : List Opr) : ∀ (n : Int) (r : Opr), LineFit n fs → Fit n r → n + fs.length ≤ 100000 → LineFit (n + grown r) (carry r fs).1 ∧ Fit (n + sumG fs) (carry r fs).2 := by
  induction fs with
  | nil => intro n r _ h2 _; exact ⟨trivial, by simpa [carry, sumG] using h2⟩
  | cons f fs ih =>
    intro n r h1 h2 h3
    have hg := grown_le f
    simp only [List.length_cons] at h3
    obtain ⟨i1, i2⟩ := ih (n + grown f) (shift r f true) h1.2 (fit_square true h2 h1.1 (by omega)) (by omega)
    refine ⟨⟨fit_square false h1.1 h2 (by omega), ?_⟩, ?_⟩
    · have := grown_square f r
      rw [show n + grown r + grown (shift f r false) = n + grown f + grown (shift r f true) by omega]
      exact i1
    · simp only [sumG]
      rw [show n + (grown f + sumG fs) = n + grown f + sumG fs by omega]
      exact i2
end Go.Proofs.YtjeidklpomekdaaDoor

/- The plain law: the invariant between the program's book and the reference's. -/
namespace Go.Proofs.YtjeidklpomekdaaDoor
open Go.RowKit

abbrev RefS.ce (R : RefS) : Nat → Int := fun j => (R.e j).op.client
abbrev RefS.ownOf (R : RefS) (c : Int) : List Edt := R.E.filter (fun x => x.op.client = c)
abbrev RefS.F (R : RefS) (c : Int) (k : Nat) : List Opr := Fm R.ce R.d c (R.ownOf c) k
abbrev RefS.rc (R : RefS) (c : Int) : Nat → Opr := rec_ R.ce R.d c (R.ownOf c)

structure CInv (R : RefS) (c : Int) (h : HandS) : Prop where
  sorted : Sorted (R.ownOf c)
  tag0 : ∀ x ∈ R.ownOf c, 0 ≤ x.tag ∧ x.tag < R.E.length
  last : lastIn c R.E = (h.seq, h.tag)
  tagle : ∀ x ∈ R.ownOf c, x.tag ≤ h.tag
  htag : 0 ≤ h.tag ∧ h.tag ≤ R.E.length
  fin : H R.ce R.d c (R.ownOf c) R.E.length = []
  pop : ∀ k, k < R.E.length → R.ce k = c → ∃ t, R.F c k = R.d k :: t
  q : h.q.list = Qf R.ce (R.rc c) c h.tag.toNat (R.E.length - h.tag.toNat)
  first : h.q.first = true
  qlast : h.q.last ≤ R.E.length
  fit : ∀ k, k ≤ R.E.length → LineFit (R.n k) (R.F c k)
structure LogInv (R : RefS) : Prop where
  dl : R.D.length = R.E.length
  nl : R.N.length = R.E.length + 1
  n0 : R.n 0 = 0
  nstep : ∀ k, k < R.E.length → R.n (k + 1) = R.n k + grown (R.d k)
  dfit : ∀ k, k < R.E.length → Fit (R.n k) (R.d k)
  T : R.T = 1
  kl : R.K.length = R.E.length
theorem LogInv.nb {R : RefS} (L : LogInv R) (k : Nat) (hk : k ≤ R.E.length) : 0 ≤ R.n k ∧ R.n k ≤ k := by
  induction k with
  | zero => rw [L.n0]; simp
  | succ k ih =>
    obtain ⟨h1, h2⟩ := ih (by omega)
    have h3 := L.nstep k (by omega)
    have h4 := L.dfit k (by omega)
    have hg : 0 ≤ R.n k + grown (R.d k) ∧ R.n k + grown (R.d k) ≤ R.n k + 1 := by
      unfold grown
      obtain ⟨h5 | h5 | h5, _⟩ := h4
      · simp [h5.1]; omega
      · simp [h5.1]; omega
      · simp [h5.1]; omega
    omega

theorem Fm_len (R : RefS) (c : Int) (own : List Edt) (hs : Sorted own) (h0 : ∀ x ∈ own, 0 ≤ x.tag) (k : Nat) (hk : k ≤ R.E.length) : (Fm R.ce R.d c own k).length ≤ own.length := by
  rw [← (life_joined R c own hs h0 k hk).1]
  obtain ⟨m, h1, h2, h3⟩ := lifeTo_drop R c own k
  obtain ⟨m', h4, h5, h6, h7⟩ := addOwn_drop k (R.n k) own m (lifeTo R c own k).2.1 (lifeTo R c own k).2.2
  rw [← h2] at h7
  have := h5 h1
  omega

section
variable {R : RefS} {c : Int} {h : HandS} {e : Edt} {T : Nat}
theorem CInv.finF (C : CInv R c h) : R.F c R.E.length = [] := by
  show H R.ce R.d c (R.ownOf c) R.E.length ++ adds (R.ownOf c) R.E.length = []
  rw [C.fin, List.nil_append]
  unfold adds
  rw [List.filter_eq_nil_iff.2 (fun y hy => by have := (C.tag0 y hy).2; simp; omega)]; rfl
theorem CInv.hp (C : CInv R c h) (T j : Nat) (hj : T + j ≤ R.E.length) : ∀ i, i < j → R.ce (T + i) = c → Fm R.ce R.d c (R.ownOf c) (T + i) ≠ [] := by
  intro i hi hc
  obtain ⟨t, ht⟩ := C.pop (T + i) (by omega) hc
  show R.F c (T + i) ≠ []
  rw [ht]; simp
theorem CInv.tT (C : CInv R c h) (hT : h.tag ≤ (T : Int)) : ∀ x ∈ R.ownOf c, x.tag ≤ (T : Int) := fun x hx => by have := C.tagle x hx; omega

/-- The text's length with the client's forms grows by what comes of others. -/
theorem phi (L : LogInv R) (C : CInv R c h) (hT : h.tag ≤ (T : Int)) (j : Nat) (hj : T + j ≤ R.E.length) :
    R.n (T + j) + sumG (R.F c (T + j)) = R.n T + sumG (R.F c T) + sumG (ops (Qf R.ce (R.rc c) c T j)) := by
  induction j with
  | zero => simp [Qf, ops, sumG]
  | succ j ih =>
    have ih := ih (by omega)
    have hF : R.F c (T + (j + 1)) = H R.ce R.d c (R.ownOf c) (T + j + 1) := by
      show H _ _ _ _ _ ++ adds _ _ = _
      rw [adds_past (R.ownOf c) T _ (C.tT hT) (by omega), List.append_nil]; rfl
    rw [hF, H_succ, Qf_snoc, show T + (j + 1) = T + j + 1 by omega, L.nstep (T + j) (by omega)]
    by_cases hc : R.ce (T + j) = c
    · rw [if_pos hc, if_pos hc, List.append_nil]
      obtain ⟨t, ht⟩ := C.pop (T + j) (by omega) hc
      have ht' : Fm R.ce R.d c (R.ownOf c) (T + j) = R.d (T + j) :: t := ht
      rw [ht']
      have ht2 : R.F c (T + j) = R.d (T + j) :: t := ht
      rw [ht2] at ih
      simp only [sumG, List.tail_cons] at ih ⊢
      omega
    · rw [if_neg hc, if_neg hc]
      have h1 := carry_sum (R.d (T + j)) (R.F c (T + j))
      have h2 : (carry (R.d (T + j)) (R.F c (T + j))).2 = R.rc c (T + j) := rfl
      rw [h2] at h1
      have h3 : sumG (ops (Qf R.ce (R.rc c) c T j ++ [⟨((T + j : Nat) : Int) + 1, R.rc c (T + j)⟩])) = sumG (ops (Qf R.ce (R.rc c) c T j)) + grown (R.rc c (T + j)) := by
        unfold ops
        rw [List.map_append, sumG_app]; simp [sumG]
      rw [h3]
      have h4 : Fm R.ce R.d c (R.ownOf c) (T + j) = R.F c (T + j) := rfl
      rw [h4]
      omega
/-- The new edit fits all along. -/
theorem gof_fit (L : LogInv R) (C : CInv R c h) (hT : h.tag ≤ (T : Int)) (hlen : R.E.length ≤ 4096) (o : Opr) (ho : Fit (R.n T + sumG (R.F c T)) o) (j : Nat) (hj : T + j ≤ R.E.length) :
    Fit (R.n (T + j) + sumG (R.F c (T + j))) (gof R.ce (R.rc c) c T o j) := by
  induction j with
  | zero => simpa [gof] using ho
  | succ j ih =>
    have ih := ih (by omega)
    have p1 := phi L C hT j (by omega)
    have p2 := phi L C hT (j + 1) hj
    rw [Qf_snoc] at p2
    by_cases hc : R.ce (T + j) = c
    · rw [if_pos hc, List.append_nil] at p2
      rw [show R.n (T + (j + 1)) + sumG (R.F c (T + (j + 1))) = R.n (T + j) + sumG (R.F c (T + j)) by omega]
      simpa [gof, hc] using ih
    · rw [if_neg hc] at p2
      have h3 : sumG (ops (Qf R.ce (R.rc c) c T j ++ [⟨((T + j : Nat) : Int) + 1, R.rc c (T + j)⟩])) = sumG (ops (Qf R.ce (R.rc c) c T j)) + grown (R.rc c (T + j)) := by
        unfold ops
        rw [List.map_append, sumG_app]; simp [sumG]
      rw [h3] at p2
      have hl : (R.F c (T + j)).length ≤ 4096 := by
        have h1 := Fm_len R c (R.ownOf c) C.sorted (fun x hx => (C.tag0 x hx).1) (T + j) (by omega)
        have h2 := List.length_filter_le (fun x : Edt => decide (x.op.client = c)) R.E
        have h1' : (R.F c (T + j)).length ≤ (R.ownOf c).length := h1
        have h2' : (R.ownOf c).length ≤ R.E.length := h2
        omega
      have hn := L.nb (T + j) (by omega)
      have hs := sumG_le (R.F c (T + j))
      obtain ⟨_, f2⟩ := carry_fit (R.F c (T + j)) (R.n (T + j)) (R.d (T + j)) (C.fit (T + j) (by omega)) (L.dfit (T + j) (by omega)) (by omega)
      have f3 := fit_square false ih f2 (by omega)
      rw [show R.n (T + (j + 1)) + sumG (R.F c (T + (j + 1))) = R.n (T + j) + sumG (R.F c (T + j)) + grown (carry (R.d (T + j)) (R.F c (T + j))).2 by
        have : (carry (R.d (T + j)) (R.F c (T + j))).2 = R.rc c (T + j) := rfl
        rw [this]; omega]
      simp only [gof, if_neg hc]
      exact f3

/-- The client's life with the new edit. -/
theorem life_is (L : LogInv R) (C : CInv R e.op.client h) (he : e.tag = (T : Int)) (hT : h.tag ≤ (T : Int)) (hTn : T ≤ R.E.length) :
    lifeEnd R e = ([gof R.ce (R.rc e.op.client) e.op.client T e.op (R.E.length - T)], R.n T + sumG (R.F e.op.client T)) ∧
    ∀ k, k ≤ R.E.length → (addOwn k (R.n k) (lifeTo R e.op.client (R.own e) k).1 (lifeTo R e.op.client (R.own e) k).2.1 (lifeTo R e.op.client (R.own e) k).2.2).2.1 = Fm R.ce R.d e.op.client (R.ownOf e.op.client ++ [e]) k := by
  have hown : R.own e = R.ownOf e.op.client ++ [e] := rfl
  have hs : Sorted (R.ownOf e.op.client ++ [e]) := C.sorted.snoc (fun x hx => by rw [he]; exact C.tT hT x hx)
  have h0 : ∀ x ∈ R.ownOf e.op.client ++ [e], 0 ≤ x.tag := by
    intro x hx
    rcases List.mem_append.1 hx with hx | hx
    · exact (C.tag0 x hx).1
    · simp at hx; subst hx; omega
  have J := fun k hk => life_joined R e.op.client (R.ownOf e.op.client ++ [e]) hs h0 k hk
  have hn : ∀ j, T + j ≤ R.E.length → (lifeTo R e.op.client (R.ownOf e.op.client ++ [e]) (T + j + 1)).2.2 = R.n T + sumG (R.F e.op.client T) := by
    intro j hj
    induction j with
    | zero =>
      obtain ⟨_, j2⟩ := J T hTn
      show (addOwn T (R.n T) _ _ _).2.2 = _
      rw [j2, if_neg (by rw [adds_snoc, if_pos he]; simp), adds_snoc, if_pos he, H_snoc_low _ _ _ _ e T he T (Nat.le_refl _)]
      simp; rfl
    | succ j ih =>
      obtain ⟨_, j2⟩ := J (T + j + 1) (by omega)
      show (addOwn _ (R.n _) _ _ _).2.2 = _
      rw [show T + (j + 1) = T + j + 1 by omega, j2, if_pos (by rw [adds_snoc, adds_past _ T _ (C.tT hT) (by omega), if_neg (by omega)]; rfl)]
      exact ih (by omega)
  refine ⟨?_, fun k hk => by rw [hown]; exact (J k hk).1⟩
  have hF := Fm_snoc R.ce R.d e.op.client (R.ownOf e.op.client) e T he (C.tT hT) (R.E.length - T) (C.hp T _ (by omega))
  rw [show T + (R.E.length - T) = R.E.length by omega] at hF
  have hF0 : Fm R.ce R.d e.op.client (R.ownOf e.op.client) R.E.length = [] := C.finF
  rw [hF0, List.nil_append] at hF
  have h2 := hn (R.E.length - T) (by omega)
  rw [show T + (R.E.length - T) + 1 = R.E.length + 1 by omega] at h2
  unfold lifeEnd
  rw [hown]
  refine Prod.ext ?_ h2
  show lifeCol R e.op.client R.E.length (addOwn _ _ _ _ _).2.1 = _
  rw [(J R.E.length (Nat.le_refl _)).1, hF]
  unfold lifeCol
  rw [if_neg (by omega)]
end
end Go.Proofs.YtjeidklpomekdaaDoor

/- The plain law: what an edit that can stand leaves. -/
namespace Go.Proofs.YtjeidklpomekdaaDoor
open Go.RowKit

theorem RefS.e_old (R : RefS) (e : Edt) (k : Nat) (hk : k < R.E.length) : (R.take e).e k = R.e k := by
  simp [RefS.e, RefS.take, List.getElem?_append_left hk, List.getD]
theorem RefS.e_new (R : RefS) (e : Edt) : (R.take e).e R.E.length = e := by simp [RefS.e, RefS.take, List.getD]
theorem RefS.d_old (R : RefS) (L : LogInv R) (e : Edt) (k : Nat) (hk : k < R.E.length) : (R.take e).d k = R.d k := by
  have : k < R.D.length := by rw [L.dl]; exact hk
  simp [RefS.d, RefS.take, List.getElem?_append_left this, List.getD]
theorem RefS.d_new (R : RefS) (L : LogInv R) (e : Edt) : (R.take e).d R.E.length = R.done e := by
  rw [← L.dl]
  simp [RefS.d, RefS.take, List.getD]
theorem RefS.n_old (R : RefS) (L : LogInv R) (e : Edt) (k : Nat) (hk : k ≤ R.E.length) : (R.take e).n k = R.n k := by
  have : k < R.N.length := by rw [L.nl]; omega
  simp [RefS.n, RefS.take, List.getElem?_append_left this, List.getD]
theorem RefS.n_new (R : RefS) (L : LogInv R) (e : Edt) : (R.take e).n (R.E.length + 1) = R.n R.E.length + grown (R.done e) := by
  rw [← L.nl]
  simp [RefS.n, RefS.take, List.getD]
theorem RefS.len_take (R : RefS) (e : Edt) : (R.take e).E.length = R.E.length + 1 := by simp [RefS.take]
theorem RefS.own_take (R : RefS) (e : Edt) (c : Int) : (R.take e).ownOf c = R.ownOf c ++ (if e.op.client = c then [e] else []) := by
  simp only [RefS.ownOf, RefS.take, List.filter_append]
  congr 1
  by_cases h : e.op.client = c <;> simp [h]
theorem lastIn_take (R : RefS) (e : Edt) (c : Int) : lastIn c (R.take e).E = if e.op.client = c then (e.op.seq, e.tag) else lastIn c R.E := by
  unfold lastIn
  have := R.own_take e c
  simp only [RefS.ownOf] at this
  rw [this]
  by_cases h : e.op.client = c <;> simp [h]

structure Jn (σ : BookS) (R : RefS) : Prop where
  inv : BookInv σ
  log : LogInv R
  E : σ.edits = R.E
  D : σ.done = R.D
  len : σ.length = R.n R.E.length
  ep : σ.epoch = 1
  cl : ∀ c, 1 ≤ c → c ≤ 64 → CInv R c (σ.hand c)
  who : ∀ x ∈ R.E, 1 ≤ x.op.client ∧ x.op.client ≤ 64

section
variable {σ : BookS} {R : RefS} {e : Edt}
theorem Jn.size (J : Jn σ R) : R.E.length ≤ 4096 := by have := J.inv.size; rw [J.E] at this; exact this

/-- Where the number of the client's text is asked for, both answer the same. -/
theorem Jn.room (J : Jn σ R) {T : Nat} (hc : 1 ≤ e.op.client ∧ e.op.client ≤ 64) (he : e.tag = (T : Int)) (hT : (σ.hand e.op.client).tag ≤ (T : Int)) (hTn : T ≤ R.E.length) :
    σ.length - unseen e.tag (σ.hand e.op.client).q.list = (lifeEnd R e).2 := by
  have C := J.cl e.op.client hc.1 hc.2
  have hl := (life_is J.log C he hT hTn).1
  have p := phi J.log C hT (R.E.length - T) (by omega)
  rw [show T + (R.E.length - T) = R.E.length by omega, C.finF] at p
  have hq := C.q
  obtain ⟨a, ha⟩ : ∃ a : Nat, (σ.hand e.op.client).tag = a := ⟨(σ.hand e.op.client).tag.toNat, by have := C.htag.1; omega⟩
  rw [ha, Int.toNat_natCast] at hq
  rw [ha] at hT
  have hu := unseen_Qf R.ce (R.rc e.op.client) e.op.client (T - a) a (R.E.length - T)
  have e1 : a + (T - a) = T := by omega
  have e2 : T - a + (R.E.length - T) = R.E.length - a := by omega
  rw [e1, e2] at hu
  rw [hl, J.len, he, hq, hu]
  simp only []
  simp only [sumG] at p
  omega

theorem Jn.check (J : Jn σ R) : σ.check e = R.check e := by
  have hS : σ.check e = (if valid e.op ≠ 0 then valid e.op else if e.op.kind = 0 then 122 else if e.op.seq ≤ (σ.hand e.op.client).seq then 128 else if e.op.seq ≠ (σ.hand e.op.client).seq + 1 then 120 else if e.tag < (σ.hand e.op.client).tag ∨ (σ.edits.length : Int) < e.tag then 121 else if fits (σ.length - unseen e.tag (σ.hand e.op.client).q.list) e.op ≠ 0 then 123 else 0) := by unfold BookS.check; rw [if_neg (show ¬ σ.epoch = 0 by rw [J.ep]; omega)]
  have hR : R.check e = (if valid e.op ≠ 0 then valid e.op else if e.op.kind = 0 then 122 else if e.op.seq ≤ (lastIn e.op.client R.E).1 then 128 else if (lastIn e.op.client R.E).1 + 1 < e.op.seq then 120 else if e.tag < (lastIn e.op.client R.E).2 ∨ (R.E.length : Int) < e.tag then 121 else if fits (lifeEnd R e).2 e.op ≠ 0 then 123 else 0) := by unfold RefS.check; rw [if_neg (show ¬ R.T = 0 by rw [J.log.T]; omega)]
  rw [hS, hR, J.E]
  by_cases hv : valid e.op = 0
  · simp only [hv, ne_eq, not_true_eq_false, if_false]
    by_cases hk : e.op.kind = 0
    · simp only [hk, if_true]
    · simp only [hk, if_false]
      obtain ⟨h1, h2, h3, h4⟩ := valid_who hv
      have C := J.cl e.op.client h1 h2
      simp only [C.last]
      by_cases hs : e.op.seq ≤ (σ.hand e.op.client).seq
      · simp only [hs, if_true]
      · simp only [hs, if_false]
        by_cases hs2 : (σ.hand e.op.client).seq + 1 < e.op.seq
        · have hs3 : ¬ e.op.seq = (σ.hand e.op.client).seq + 1 := by omega
          simp only [hs2, hs3, if_true, not_false_eq_true]
        · have hs3 : e.op.seq = (σ.hand e.op.client).seq + 1 := by omega
          rw [if_neg (fun h => h hs3), if_neg hs2]
          by_cases ht : e.tag < (σ.hand e.op.client).tag ∨ (R.E.length : Int) < e.tag
          · simp only [ht, if_true]
          · simp only [ht, if_false]
            have hg := C.htag
            obtain ⟨T, hT⟩ : ∃ T : Nat, e.tag = T := ⟨e.tag.toNat, by omega⟩
            rw [J.room ⟨h1, h2⟩ hT (by omega) (by omega)]
  · simp only [hv, ne_eq, not_false_eq_true, if_true]

/-- What an edit that can stand tells. -/
theorem Jn.ok (J : Jn σ R) (h0 : R.check e = 0) : ∃ T : Nat, e.tag = T ∧ (σ.hand e.op.client).tag ≤ (T : Int) ∧ T ≤ R.E.length ∧ 1 ≤ e.op.client ∧ e.op.client ≤ 64 ∧ e.op.seq = (σ.hand e.op.client).seq + 1 ∧ Fit (R.n T + sumG (R.F e.op.client T)) e.op := by
  unfold RefS.check at h0
  rw [if_neg (by rw [J.log.T]; omega)] at h0
  by_cases hv : valid e.op = 0
  · rw [if_neg (fun h => h hv)] at h0
    by_cases hk : e.op.kind = 0
    · rw [if_pos hk] at h0; omega
    · rw [if_neg hk] at h0
      obtain ⟨h1, h2, h3, h4⟩ := valid_who hv
      have C := J.cl e.op.client h1 h2
      rw [C.last] at h0
      simp only [] at h0
      by_cases hs : e.op.seq ≤ (σ.hand e.op.client).seq
      · rw [if_pos hs] at h0; omega
      · rw [if_neg hs] at h0
        by_cases hs2 : (σ.hand e.op.client).seq + 1 < e.op.seq
        · rw [if_pos hs2] at h0; omega
        · rw [if_neg hs2] at h0
          by_cases ht : e.tag < (σ.hand e.op.client).tag ∨ (R.E.length : Int) < e.tag
          · rw [if_pos ht] at h0; omega
          · rw [if_neg ht] at h0
            have hg := C.htag
            obtain ⟨T, hT⟩ : ∃ T : Nat, e.tag = T := ⟨e.tag.toNat, by omega⟩
            have hl := (life_is J.log C hT (by omega) (by omega)).1
            rw [hl] at h0
            simp only [] at h0
            by_cases hf : fits (R.n T + sumG (R.F e.op.client T)) e.op = 0
            · exact ⟨T, hT, by omega, by omega, h1, h2, by omega, fit_of_fits hf⟩
            · rw [if_pos hf] at h0; omega
  · rw [if_pos hv] at h0; omega

theorem Jn.life (J : Jn σ R) {T : Nat} (hc : 1 ≤ e.op.client ∧ e.op.client ≤ 64) (he : e.tag = (T : Int)) (hT : (σ.hand e.op.client).tag ≤ (T : Int)) (hTn : T ≤ R.E.length) : LifeOk R e := by
  have C := J.cl e.op.client hc.1 hc.2
  obtain ⟨l1, l2⟩ := life_is J.log C he hT hTn
  have hsz := J.size
  refine ⟨hsz, J.log.dl, J.log.nl, fun k hk => by have := J.log.nb k hk; omega, fun k hk hce => ?_, by rw [l1]; simp⟩
  rw [l2 k (by omega)]
  obtain ⟨t, ht⟩ := C.pop k hk hce
  have ht' : Fm R.ce R.d e.op.client (R.ownOf e.op.client) k = R.d k :: t := ht
  by_cases hkT : k < T
  · rw [Fm_snoc_low _ _ _ _ e T he k hkT, ht']; simp
  · obtain ⟨j, rfl⟩ : ∃ j, k = T + j := ⟨k - T, by omega⟩
    rw [Fm_snoc _ _ _ _ e T he (C.tT hT) j (C.hp T j (by omega))]
    simp
theorem Jn.checkOk (J : Jn σ R) : CheckOk R e := by
  refine ⟨J.size, ?_, fun hv _ _ ht => ?_⟩
  · by_cases hc : 1 ≤ e.op.client ∧ e.op.client ≤ 64
    · have C := J.cl e.op.client hc.1 hc.2
      have hl : e.op.client.toNat < σ.hands.length := by rw [J.inv.n65]; omega
      have hh : σ.hand e.op.client = σ.hands[e.op.client.toNat] := by simp [BookS.hand, hl]
      have hs := J.inv.seq _ hl
      rw [← hh] at hs
      rw [C.last]; simp only []; omega
    · have : lastIn e.op.client R.E = (0, 0) := by
        unfold lastIn
        rw [List.filter_eq_nil_iff.2 (fun x hx => by have := J.who x hx; simp; omega)]; rfl
      rw [this]; simp
  · obtain ⟨h1, h2, h3, h4⟩ := valid_who hv
    have C := J.cl e.op.client h1 h2
    rw [C.last] at ht
    simp only [] at ht
    have hg := C.htag
    obtain ⟨T, hT⟩ : ∃ T : Nat, e.tag = T := ⟨e.tag.toNat, by omega⟩
    exact J.life ⟨h1, h2⟩ hT (by omega) (by omega)

/-- The two done forms are one. -/
theorem Jn.done (J : Jn σ R) {T : Nat} (hc : 1 ≤ e.op.client ∧ e.op.client ≤ 64) (he : e.tag = (T : Int)) (hT : (σ.hand e.op.client).tag ≤ (T : Int)) (hTn : T ≤ R.E.length) :
    (takeQ (σ.hand e.op.client) e).first = true ∧ (takeQ (σ.hand e.op.client) e).list = Qf R.ce (R.rc e.op.client) e.op.client T (R.E.length - T) ∧
    takeDone (σ.hand e.op.client) e = gof R.ce (R.rc e.op.client) e.op.client T e.op (R.E.length - T) ∧ R.done e = gof R.ce (R.rc e.op.client) e.op.client T e.op (R.E.length - T) ∧
    ((takeQ (σ.hand e.op.client) e).cross e.op).list = Qf R.ce (fun k => shift (R.rc e.op.client k) (gof R.ce (R.rc e.op.client) e.op.client T e.op (k - T)) true) e.op.client T (R.E.length - T) := by
  have C := J.cl e.op.client hc.1 hc.2
  obtain ⟨a, ha⟩ : ∃ a : Nat, (σ.hand e.op.client).tag = a := ⟨(σ.hand e.op.client).tag.toNat, by have := C.htag.1; omega⟩
  have hq := C.q
  rw [ha, Int.toNat_natCast] at hq
  rw [ha] at hT
  have hd := Qf_drop R.ce (R.rc e.op.client) e.op.client (T - a) a (R.E.length - T)
  have e1 : a + (T - a) = T := by omega
  have e2 : T - a + (R.E.length - T) = R.E.length - a := by omega
  rw [e1, e2] at hd
  have hlist : (takeQ (σ.hand e.op.client) e).list = Qf R.ce (R.rc e.op.client) e.op.client T (R.E.length - T) := by
    show (σ.hand e.op.client).q.list.drop (upto e.tag (σ.hand e.op.client).q.list) = _
    rw [hq, he]; exact hd
  have hfirst : (takeQ (σ.hand e.op.client) e).first = true := C.first
  have hp := past_Qf R.ce (R.rc e.op.client) e.op.client T e.op (R.E.length - T) 0
  rw [Nat.zero_add, Nat.add_zero] at hp
  have hp' : past true e.op (ops (Qf R.ce (R.rc e.op.client) e.op.client T (R.E.length - T))) = _ := hp
  refine ⟨hfirst, hlist, ?_, ?_, ?_⟩
  · show (past _ _ _).1 = _
    rw [hfirst, hlist, hp']
  · unfold RefS.done
    rw [(life_is J.log C he (by omega) hTn).1]; rfl
  · show remark _ (past _ _ _).2 = _
    rw [hfirst, hlist, hp', remark_Qf]
end
end Go.Proofs.YtjeidklpomekdaaDoor

/- The plain law: the step, and both replays. -/
namespace Go.Proofs.YtjeidklpomekdaaDoor
open Go.RowKit

section
variable {σ : BookS} {R : RefS} {e : Edt} {T : Nat}
theorem old_ce (L : LogInv R) (k : Nat) (hk : k ≤ R.E.length) : ∀ j, j < k → (R.take e).ce j = R.ce j ∧ (R.take e).d j = R.d j := fun j hj => by
  have h1 := R.e_old e j (by omega)
  exact ⟨by show ((R.take e).e j).op.client = _; rw [h1], R.d_old L e j (by omega)⟩
theorem H_old (L : LogInv R) (c : Int) (own : List Edt) (k : Nat) (hk : k ≤ R.E.length) : H (R.take e).ce (R.take e).d c own k = H R.ce R.d c own k := H_congr c own k (old_ce L k hk)
theorem Fm_old (L : LogInv R) (c : Int) (own : List Edt) (k : Nat) (hk : k ≤ R.E.length) : Fm (R.take e).ce (R.take e).d c own k = Fm R.ce R.d c own k := Fm_congr c own k (old_ce L k hk)
theorem ce_new (R : RefS) (e : Edt) : (R.take e).ce R.E.length = e.op.client := by show ((R.take e).e R.E.length).op.client = _; rw [R.e_new]

/-- A client of another's. -/
theorem CInv.other {c : Int} {h : HandS} (L : LogInv R) (C : CInv R c h) (hne : ¬ e.op.client = c) (hv : valid (R.done e) = 0) (hsz : R.E.length + 1 ≤ 4096) :
    CInv (R.take e) c { h with q := h.q.keep ((R.E.length : Int) + 1) (R.done e) } := by
  have hown : (R.take e).ownOf c = R.ownOf c := by rw [R.own_take, if_neg hne, List.append_nil]
  have hlen := R.len_take e
  have hF0 : Fm R.ce R.d c (R.ownOf c) R.E.length = [] := C.finF
  have hcn : ¬ (R.take e).ce R.E.length = c := by rw [ce_new]; exact hne
  have hH1 : H (R.take e).ce (R.take e).d c (R.ownOf c) (R.E.length + 1) = [] := by
    rw [H_succ, Fm_old L c _ _ (Nat.le_refl _), hF0, if_neg hcn]; rfl
  have hadd : adds (R.ownOf c) (R.E.length + 1) = [] := by
    unfold adds
    rw [List.filter_eq_nil_iff.2 (fun y hy => by have := (C.tag0 y hy).2; simp; omega)]; rfl
  have hkeep : h.q.keep ((R.E.length : Int) + 1) (R.done e) = { h.q with list := h.q.list ++ [⟨(R.E.length : Int) + 1, R.done e⟩], last := (R.E.length : Int) + 1 } := by
    unfold SpaceS.keep
    rw [if_pos ⟨hv, by have := C.qlast; omega⟩]
  have ht := C.htag
  refine ⟨by rw [hown]; exact C.sorted, ?_, ?_, by rw [hown]; exact C.tagle, by rw [hlen]; simp only []; omega, ?_, ?_, ?_, ?_, ?_, ?_⟩
  · rw [hown, hlen]; intro x hx; have := C.tag0 x hx; omega
  · rw [lastIn_take, if_neg hne]; exact C.last
  · rw [hown, hlen]; exact hH1
  · intro k hk hc
    rw [hlen] at hk
    by_cases hkn : k < R.E.length
    · have h1 := (old_ce (e := e) L (k + 1) (by omega) k (by omega))
      rw [h1.1] at hc
      obtain ⟨t, ht⟩ := C.pop k hkn hc
      refine ⟨t, ?_⟩
      show Fm _ _ c ((R.take e).ownOf c) k = _
      rw [hown, Fm_old L c _ k (by omega), h1.2]
      exact ht
    · obtain rfl : k = R.E.length := by omega
      exact absurd hc hcn
  · rw [hkeep, hlen]
    simp only []
    rw [show R.E.length + 1 - h.tag.toNat = (R.E.length - h.tag.toNat) + 1 by omega, Qf_snoc, C.q]
    have e1 : h.tag.toNat + (R.E.length - h.tag.toNat) = R.E.length := by omega
    rw [e1, if_neg hcn]
    congr 1
    · apply Qf_congr
      intro j hj
      have h1 := old_ce (e := e) L R.E.length (Nat.le_refl _) (h.tag.toNat + j) (by omega)
      refine ⟨h1.1.symm, fun _ => ?_⟩
      show (carry _ (Fm _ _ c (R.ownOf c) _)).2 = (carry _ (Fm _ _ c ((R.take e).ownOf c) _)).2
      rw [hown, Fm_old L c _ _ (by omega), h1.2]
    · show _ = [(⟨_, (carry _ (Fm _ _ c ((R.take e).ownOf c) _)).2⟩ : Mrk)]
      rw [hown, Fm_old L c _ _ (Nat.le_refl _), hF0, R.d_new L]; rfl
  · rw [hkeep]; exact C.first
  · rw [hkeep, hlen]; simp
  · intro k hk
    rw [hlen] at hk
    by_cases hkn : k ≤ R.E.length
    · show LineFit _ (Fm _ _ c ((R.take e).ownOf c) k)
      rw [hown, Fm_old L c _ k hkn, R.n_old L e k hkn]
      exact C.fit k hkn
    · obtain rfl : k = R.E.length + 1 := by omega
      show LineFit _ (H _ _ c ((R.take e).ownOf c) _ ++ adds ((R.take e).ownOf c) _)
      rw [hown, hH1, hadd]; trivial

/-- The client's own. -/
theorem CInv.mine {h : HandS} {q : SpaceS} (L : LogInv R) (C : CInv R e.op.client h) (he : e.tag = (T : Int)) (hT : h.tag ≤ (T : Int)) (hTn : T ≤ R.E.length) (hlen4 : R.E.length ≤ 4096) (ho : Fit (R.n T + sumG (R.F e.op.client T)) e.op)
    (hq1 : q.list = Qf R.ce (fun k => shift (R.rc e.op.client k) (gof R.ce (R.rc e.op.client) e.op.client T e.op (k - T)) true) e.op.client T (R.E.length - T)) (hq2 : q.first = true) (hq3 : q.last = h.q.last)
    (hd : R.done e = gof R.ce (R.rc e.op.client) e.op.client T e.op (R.E.length - T)) : CInv (R.take e) e.op.client ⟨e.op.seq, e.tag, q⟩ := by
  have hown : (R.take e).ownOf e.op.client = R.ownOf e.op.client ++ [e] := by rw [R.own_take, if_pos rfl]
  have hlen := R.len_take e
  have hF0 : Fm R.ce R.d e.op.client (R.ownOf e.op.client) R.E.length = [] := C.finF
  have hcn := ce_new R e
  have hFT : ∀ j, T + j ≤ R.E.length → Fm (R.take e).ce (R.take e).d e.op.client (R.ownOf e.op.client ++ [e]) (T + j) = R.F e.op.client (T + j) ++ [gof R.ce (R.rc e.op.client) e.op.client T e.op j] := by
    intro j hj
    rw [Fm_old L _ _ _ hj]
    exact Fm_snoc _ _ _ _ e T he (C.tT hT) j (C.hp T j hj)
  have hFl : ∀ k, k < T → Fm (R.take e).ce (R.take e).d e.op.client (R.ownOf e.op.client ++ [e]) k = R.F e.op.client k := by
    intro k hk
    rw [Fm_old L _ _ _ (by omega)]
    exact Fm_snoc_low _ _ _ _ e T he k hk
  have hFn : Fm (R.take e).ce (R.take e).d e.op.client (R.ownOf e.op.client ++ [e]) R.E.length = [R.done e] := by
    have := hFT (R.E.length - T) (by omega)
    rw [show T + (R.E.length - T) = R.E.length by omega] at this
    rw [this, hd, C.finF]; rfl
  have hH1 : H (R.take e).ce (R.take e).d e.op.client (R.ownOf e.op.client ++ [e]) (R.E.length + 1) = [] := by
    rw [H_succ, hFn, if_pos hcn]; rfl
  have hadd : adds (R.ownOf e.op.client ++ [e]) (R.E.length + 1) = [] := by
    unfold adds
    rw [List.filter_eq_nil_iff.2 (fun y hy => by
      rcases List.mem_append.1 hy with hy | hy
      · have := (C.tag0 y hy).2; simp; omega
      · simp at hy; subst hy; simp; omega)]; rfl
  refine ⟨by rw [hown]; exact C.sorted.snoc (fun x hx => by rw [he]; exact C.tT hT x hx), ?_, ?_, ?_, by rw [hlen, he]; simp only []; omega, ?_, ?_, ?_, hq2, ?_, ?_⟩
  · rw [hown, hlen]; intro x hx
    rcases List.mem_append.1 hx with hx | hx
    · have := C.tag0 x hx; omega
    · simp at hx; subst hx; omega
  · rw [lastIn_take, if_pos rfl]
  · rw [hown]; intro x hx
    rcases List.mem_append.1 hx with hx | hx
    · have := C.tT hT x hx; simp only []; omega
    · simp at hx; subst hx; simp
  · rw [hown, hlen]; exact hH1
  · intro k hk hc
    rw [hlen] at hk
    show ∃ t, Fm _ _ e.op.client ((R.take e).ownOf e.op.client) k = _
    rw [hown]
    by_cases hkn : k < R.E.length
    · have h1 := (old_ce (e := e) L (k + 1) (by omega) k (by omega))
      rw [h1.1] at hc
      obtain ⟨t, ht⟩ := C.pop k hkn hc
      rw [h1.2]
      by_cases hkT : k < T
      · exact ⟨t, by rw [hFl k hkT]; exact ht⟩
      · obtain ⟨j, rfl⟩ : ∃ j, k = T + j := ⟨k - T, by omega⟩
        refine ⟨t ++ [gof R.ce (R.rc e.op.client) e.op.client T e.op j], ?_⟩
        rw [hFT j (by omega), ht]; rfl
    · obtain rfl : k = R.E.length := by omega
      exact ⟨[], by rw [hFn, R.d_new L]⟩
  · rw [hlen, he]
    simp only [Int.toNat_natCast]
    rw [show R.E.length + 1 - T = (R.E.length - T) + 1 by omega, Qf_snoc, hq1]
    have e1 : T + (R.E.length - T) = R.E.length := by omega
    rw [e1, if_pos hcn, List.append_nil]
    apply Qf_congr
    intro j hj
    have h1 := old_ce (e := e) L R.E.length (Nat.le_refl _) (T + j) (by omega)
    refine ⟨h1.1.symm, fun _ => ?_⟩
    show shift (R.rc e.op.client (T + j)) (gof _ _ _ T e.op (T + j - T)) true = (carry _ (Fm _ _ e.op.client ((R.take e).ownOf e.op.client) _)).2
    rw [hown, hFT j (by omega), h1.2, carry_snoc, show T + j - T = j by omega]
    rfl
  · rw [hlen, hq3]; have := C.qlast; omega
  · intro k hk
    rw [hlen] at hk
    show LineFit _ (Fm _ _ e.op.client ((R.take e).ownOf e.op.client) k)
    rw [hown]
    by_cases hkn : k ≤ R.E.length
    · rw [R.n_old L e k hkn]
      by_cases hkT : k < T
      · rw [hFl k hkT]; exact C.fit k hkn
      · obtain ⟨j, rfl⟩ : ∃ j, k = T + j := ⟨k - T, by omega⟩
        rw [hFT j hkn]
        exact (C.fit _ hkn).snoc (gof_fit L C hT hlen4 e.op ho j hkn)
    · obtain rfl : k = R.E.length + 1 := by omega
      show LineFit _ (H _ _ _ _ _ ++ adds _ _)
      rw [hH1, hadd]; trivial

theorem Jn.step (J : Jn σ R) (h0 : R.check e = 0) (hch : 0 ≤ e.op.ch ∧ e.op.ch ≤ 255) : Jn (σ.take e) (R.take e) := by
  obtain ⟨T, he, hT, hTn, hc1, hc2, hseq, hfit⟩ := J.ok h0
  have hσ0 : σ.check e = 0 := by rw [J.check]; exact h0
  have I := J.inv.take e hσ0 hch
  have L := J.log
  have C := J.cl e.op.client hc1 hc2
  obtain ⟨d1, d2, d3, d4, d5⟩ := J.done ⟨hc1, hc2⟩ he hT hTn
  have hdd : takeDone (σ.hand e.op.client) e = R.done e := by rw [d3, d4]
  have hsz : R.E.length + 1 ≤ 4096 := by
    have := I.size
    have h2 : (σ.take e).edits.length = σ.edits.length + 1 := by simp [BookS.take]
    rw [h2, J.E] at this; exact this
  have hdf : Fit (R.n R.E.length) (R.done e) := by
    have := gof_fit L C hT (by omega) e.op hfit (R.E.length - T) (by omega)
    rw [show T + (R.E.length - T) = R.E.length by omega, C.finF] at this
    rw [d4]; simpa [sumG] using this
  have hnb := L.nb R.E.length (Nat.le_refl _)
  obtain ⟨hval, hfits⟩ := fits_of_fit hdf hnb.1 (by omega)
  refine ⟨I, ⟨?_, ?_, ?_, ?_, ?_, L.T, ?_⟩, ?_, ?_, ?_, J.ep, ?_, ?_⟩
  · simp [RefS.take, L.dl]
  · simp [RefS.take, L.nl]
  · rw [R.n_old L e 0 (by omega)]; exact L.n0
  · intro k hk
    rw [R.len_take] at hk
    by_cases hkn : k < R.E.length
    · rw [R.n_old L e _ (by omega), R.n_old L e _ (by omega), R.d_old L e k hkn]; exact L.nstep k hkn
    · obtain rfl : k = R.E.length := by omega
      rw [R.n_new L, R.n_old L e _ (Nat.le_refl _), R.d_new L]
  · intro k hk
    rw [R.len_take] at hk
    by_cases hkn : k < R.E.length
    · rw [R.n_old L e _ (by omega), R.d_old L e k hkn]; exact L.dfit k hkn
    · obtain rfl : k = R.E.length := by omega
      rw [R.n_old L e _ (Nat.le_refl _), R.d_new L]; exact hdf
  · simp [RefS.take, L.kl]
  · simp [BookS.take, RefS.take, J.E]
  · simp [BookS.take, RefS.take, J.D, hdd]
  · rw [R.len_take, R.n_new L, ← J.len, ← hdd]; rfl
  · intro c g1 g2
    rw [σ.take_handI e J.inv.n65 c ⟨by omega, g2⟩ (by omega)]
    by_cases hce : c = e.op.client
    · subst hce
      rw [if_pos rfl]
      exact C.mine L he hT hTn (by omega) hfit d5 d1 rfl d4
    · rw [if_neg hce, hdd, J.E]
      exact (J.cl c g1 g2).other L (fun h => hce h.symm) hval hsz
  · intro x hx
    simp only [RefS.take] at hx
    rcases List.mem_append.1 hx with hx | hx
    · exact J.who x hx
    · simp at hx; subst hx; exact ⟨hc1, hc2⟩
end
end Go.Proofs.YtjeidklpomekdaaDoor

/- The plain law: both replays tell the same. -/
namespace Go.Proofs.YtjeidklpomekdaaDoor
open Go.RowKit

theorem hands1_get (i : Nat) (h : i < book1.hands.length) : book1.hands[i] = hand0 := by
  show (List.replicate 65 hand0)[i]'h = hand0
  exact List.getElem_replicate _
theorem hands1 (c : Int) : book1.hand c = hand0 := by
  show (List.replicate 65 hand0).getD c.toNat hand0 = hand0
  rw [List.getD_eq_getElem?_getD, List.getElem?_replicate]
  split <;> rfl
theorem inv1 : BookInv book1 where
  n65 := by simp [book1, book0]
  keys := fun c s _ _ hs => by
    rw [hands1]
    show False ↔ _
    simp [hand0]; omega
  seq := fun i h => by rw [hands1_get]; simp [hand0]
  tag := fun i h => by rw [hands1_get]; simp [hand0]
  q := fun i h => by rw [hands1_get]; simp [hand0]
  qch := fun i h m hm => by rw [hands1_get] at hm; simp [hand0] at hm
  sum := by simp [book1, book0, hand0]
  zero := fun h => by rw [hands1_get]; rfl
  len := by simp [book1, book0]
  edited := by simp [book1, book0]
  done := by simp [book1, book0]
  nk := by simp [book1, book0]
theorem join1 : Jn book1 ref1 where
  inv := inv1
  log := ⟨rfl, rfl, rfl, fun k hk => by simp [ref1] at hk, fun k hk => by simp [ref1] at hk, rfl, rfl⟩
  E := rfl
  D := rfl
  len := rfl
  ep := rfl
  cl := fun c _ _ => by
    rw [hands1]
    refine ⟨by simp [RefS.ownOf, ref1, Sorted], by simp [RefS.ownOf, ref1], rfl, by simp [RefS.ownOf, ref1], by simp [hand0, ref1], rfl, fun k hk => by simp [ref1] at hk, rfl, rfl, by simp [hand0, ref1], fun k hk => ?_⟩
    have : k = 0 := by simp [ref1] at hk; exact hk
    subst this
    trivial
  who := by simp [ref1]

theorem allfit_of {R : RefS} (L : LogInv R) (hl : R.E.length ≤ 4096) : ∀ (m k : Nat) (d : List Elm), k + m = R.D.length → (d.length : Int) = R.n k → AllFit d (R.D.drop k)
  | 0, k, d, hk, _ => by rw [List.drop_of_length_le (by omega)]; trivial
  | m + 1, k, d, hk, hd => by
    have hkl : k < R.D.length := by omega
    have hke : k < R.E.length := by rw [← L.dl]; exact hkl
    have hdk : R.d k = R.D[k] := by simp [RefS.d, List.getD, hkl]
    rw [List.drop_eq_getElem_cons hkl]
    have hn := L.nb k (by omega)
    have hf := L.dfit k hke
    rw [hdk] at hf
    obtain ⟨_, hfits⟩ := fits_of_fit hf hn.1 (by omega)
    rw [← hd] at hfits
    refine ⟨hfits, allfit_of L hl m (k + 1) _ (by omega) ?_⟩
    rw [apply_length hfits, hd, L.nstep k hke, hdk]

/-- The books that are met. -/
def GB (σ : BookS) : Prop := ∃ R, Jn σ R
def GR (R : RefS) : Prop := ∃ σ, Jn σ R
theorem Jn.fit {σ : BookS} {R : RefS} (J : Jn σ R) : AllFit [] R.D := by
  have := allfit_of J.log J.size R.D.length 0 [] (by omega) (by rw [J.log.n0]; rfl)
  simpa using this
theorem Jn.chs {σ : BookS} {R : RefS} (J : Jn σ R) : ∀ o ∈ R.D, 0 ≤ o.ch ∧ o.ch ≤ 255 := by
  intro o ho
  obtain ⟨k, hk, rfl⟩ := List.getElem_of_mem ho
  have hke : k < R.E.length := by rw [← J.log.dl]; exact hk
  have hf := J.log.dfit k hke
  have hdk : R.d k = R.D[k] := by simp [RefS.d, List.getD, hk]
  rw [hdk] at hf
  obtain ⟨h1 | h1 | h1, _⟩ := hf <;> omega
theorem goodB : GoodP GB where
  start := ⟨ref1, join1⟩
  step := fun σ e ⟨R, J⟩ h0 hc => ⟨R.take e, J.step (by rw [← J.check]; exact h0) hc⟩
  inv := fun σ ⟨R, J⟩ => J.inv
  fit := fun σ ⟨R, J⟩ => by rw [J.D]; exact J.fit
  ch := fun σ ⟨R, J⟩ => by rw [J.D]; exact J.chs
theorem goodR : GoodR GR where
  start := ⟨book1, join1⟩
  step := fun R e ⟨σ, J⟩ h0 hc => ⟨σ.take e, J.step h0 hc⟩
  check := fun R e ⟨σ, J⟩ => J.checkOk
  life := fun R e ⟨σ, J⟩ h0 => by
    obtain ⟨T, he, hT, hTn, hc1, hc2, _, _⟩ := J.ok h0
    exact J.life ⟨hc1, hc2⟩ he hT hTn
  T := fun R ⟨σ, J⟩ => by rw [J.log.T]; omega
  len := fun R ⟨σ, J⟩ => J.size
  dl := fun R ⟨σ, J⟩ => J.log.dl
  kl := fun R ⟨σ, J⟩ => by have := J.size; rw [J.log.kl]; omega
  fit := fun R ⟨σ, J⟩ => J.fit
  ch := fun R ⟨σ, J⟩ => J.chs
theorem both : ∀ (xs : List Edt) (σ : BookS) (R : RefS) (i : Nat), Jn σ R → (∀ e ∈ xs, 0 ≤ e.op.ch ∧ e.op.ch ≤ 255) → (replayGo σ i xs).1.done = (rreplayGo R i xs).1.D ∧ (replayGo σ i xs).2 = (rreplayGo R i xs).2
  | [], σ, R, i, J, _ => ⟨J.D, rfl⟩
  | e :: l, σ, R, i, J, hc => by
    simp only [replayGo, rreplayGo, J.check]
    by_cases h0 : R.check e = 0
    · rw [if_pos h0, if_pos h0]
      exact both l _ _ (i + 1) (J.step h0 (hc e (by simp))) (fun x hx => hc x (List.mem_cons_of_mem _ hx))
    · rw [if_neg h0, if_neg h0]
      exact ⟨J.D, rfl⟩
/-- P12.7: the program's Replay and the reference's tell the same. -/
theorem replays (xs : List Edt) (hc : ∀ e ∈ xs, 0 ≤ e.op.ch ∧ e.op.ch ≤ 255) : (replayGo book1 0 xs).1.done = (rreplayGo ref1 0 xs).1.D ∧ (replayGo book1 0 xs).2 = (rreplayGo ref1 0 xs).2 := both xs _ _ 0 join1 hc
end Go.Proofs.YtjeidklpomekdaaDoor

/- The law's calls, as the law needs them. -/
namespace Go.Proofs.YtjeidklpomekdaaDoor
open Go.RowKit

variable {w0 w w' : World} {F : Nat → List Nat} {P : Nat → World → Prop}

theorem replay_len : ∀ (os : List Opr) (d : List Elm), AllFit d os → (replay d os).length ≤ d.length + os.length
  | [], d, _ => by simp [replay]
  | o :: os, d, h => by
    have h1 := replay_len os (apply d o) h.2
    have h2 := apply_length h.1
    have h3 := grown_le o
    simp only [replay, List.foldl_cons, List.length_cons] at h1 ⊢
    omega
theorem rgood : ∀ (xs : List Edt) (R : RefS) (i : Nat), GR R → (∀ e ∈ xs, 0 ≤ e.op.ch ∧ e.op.ch ≤ 255) → GR (rreplayGo R i xs).1
  | [], R, i, h, _ => h
  | e :: l, R, i, h, hc => by
    simp only [rreplayGo]
    by_cases h0 : R.check e = 0
    · rw [if_pos h0]
      exact rgood l _ (i + 1) (goodR.step R e h h0 (hc e (by simp))) (fun x hx => hc x (List.mem_cons_of_mem _ hx))
    · rw [if_neg h0]; exact h

/-- What a list replays to. -/
structure RepIs (xs : List Edt) (O : List Opr) (D : List Elm) (err : Option (Nat × Int)) : Prop where
  p : (replayGo book1 0 xs).1.done = O
  r : (rreplayGo ref1 0 xs).1.D = O
  pe : (replayGo book1 0 xs).2 = err
  re : (rreplayGo ref1 0 xs).2 = err
  d : replay [] O = D
  ol : O.length ≤ 4096
  dl : D.length ≤ 4096
theorem RepIs.of (xs : List Edt) (hc : ∀ e ∈ xs, 0 ≤ e.op.ch ∧ e.op.ch ≤ 255) : ∃ O D err, RepIs xs O D err := by
  obtain ⟨a, b⟩ := replays xs hc
  have g := rgood xs ref1 0 goodR.start hc
  have h1 := goodR.len _ g; have h2 := goodR.dl _ g; have h3 := replay_len _ _ (goodR.fit _ g)
  exact ⟨_, _, _, ⟨a, rfl, b, rfl, rfl, by omega, by simp at h3; omega⟩⟩

theorem rep_call {xs : List Edt} {O : List Opr} {D : List Elm} {err : Option (Nat × Int)} (hI : RepIs xs O D err) (hc : ∀ e ∈ xs, 0 ≤ e.op.ch ∧ e.op.ch ≤ 255) (S : Sts w0 w F P) (v : Value) (hs : SlR w Edt.cells 6 v xs) (hR : Rules w0) (i j k : Nat) :
    Calls Tryd.prog 6 #[v] w fun e w' => ∃ ov g c ev G, e = .returned (.tuple #[ov, .slice (some ⟨g, 0, none⟩) D.length c, ev]) ∧ Sts w0 w' (updF (updF (updF F i [i] ov.ownBlock.toList) j [j] [g]) k [k] G)
      (updP (updP (updP P i [i] (fun w => SlO w w0.heap.size 46 Opr.cells 5 ov O)) j [j] (fun w => SlO w w0.heap.size 50 Elm.cells 3 (.slice (some ⟨g, 0, none⟩) D.length c) D)) k [k] (fun w => ErrR w ev err)) := by
  refine (replayB_any GB goodB v xs w hs hc (hR.below S.bel)).mono fun e w' h => ?_
  have := rep_sts S h i j k
  rw [hI.p, hI.d, hI.pe] at this
  exact this
theorem rrep_call {xs : List Edt} {O : List Opr} {D : List Elm} {err : Option (Nat × Int)} (hI : RepIs xs O D err) (hc : ∀ e ∈ xs, 0 ≤ e.op.ch ∧ e.op.ch ≤ 255) (S : Sts w0 w F P) (v : Value) (hs : SlR w0 Edt.cells 6 v xs) (i : Nat) :
    Calls Tryd.prog 5 #[v] w fun e w' => ∃ ov dv G, e = .returned (.tuple #[ov, dv, .int .i64 (errCode err), .int .i64 (errAt err)]) ∧ Sts w0 w' (updF F i [i] G) (updP P i [i] (fun w => SlR w Opr.cells 5 ov O ∧ SlR w Elm.cells 3 dv D)) := by
  refine (rreplay_any GR goodR v xs w (hs.below S.bel) hc).mono fun e w' h => ?_
  have := rrep_sts S h i
  rw [hI.r, hI.d, hI.re] at this
  exact this
theorem copy_sts {α : Type} {E : TypeId} {enc : α → List Value} {k b n cap : Nat} {xs : List α} (S : Sts w0 w F P) (h : SlO w' w.heap.size E enc k (.slice (some ⟨b, 0, none⟩) n cap) xs) (hb : Below w.heap.size w w') (i : Nat) :
    Sts w0 w' (updF F i [i] [b]) (updP P i [i] (fun w => SlO w w0.heap.size E enc k (.slice (some ⟨b, 0, none⟩) n cap) xs)) := by
  have hsz := S.size
  obtain ⟨a1, a2⟩ := h.lt b rfl
  exact (S.below hb).add i _ _ (fun q hq => by simp at hq; subst hq; exact ⟨S.free a1, a2⟩) (fun w'' hw => (h.rebase (fun q hq => by have := (h.lt q hq).1; omega)).agree (fun q hq => hw q (by simpa [Value.ownBlock] using hq)))
theorem shelf_sts (S : Sts w0 w F P) (i : Nat) : Sts w0 (w.alloc (shBlk (.slice none 0 0) (.slice none 0 0) (.slice none 0 0) (.slice none 0 0) 0)) (updF F i [i] [w.heap.size]) (updP P i [i] (ShelfAt w0 w.heap.size 0 0 0 [w.heap.size])) :=
  (S.below ((Below.refl _ _).new _)).add i _ _ (fun q hq => by simp at hq; subst hq; exact ⟨S.free (Nat.le_refl _), by simp⟩) (fun w'' hw => (ShelfAt.new w0 w).agree hw)

theorem is_true {ev : Value} {err : Option (Nat × Int)} (S : Sts w0 w F P) (h : ErrR w ev err) (hg : ErrT w0) :
    Calls Tryd.prog 7 #[ev, .int .i64 (errCode err), .int .i64 (errAt err)] w fun e w' => e = .returned (.bool true) ∧ Sts w0 w' F P :=
  (is_any ev err _ _ w h (hg.below S.bel)).mono fun e w' ⟨h1, h2⟩ => ⟨by rw [h1]; simp, S.below h2⟩
theorem below_drewN (w : World) (n : Nat) : Below w.heap.size w (w.drewN n) := (Below.refl _ _).drewN n
theorem eqOps_true {u v : Value} {xs : List Opr} (S : Sts w0 w F P) (hx : SlR w Opr.cells 5 u xs) (hy : SlR w Opr.cells 5 v xs) :
    Calls Tryd.prog 10 #[u, v] w fun e w' => e = .returned (.bool true) ∧ Sts w0 w' F P :=
  (eqOps_any u v xs xs w hx hy).mono fun e w' ⟨h1, n, h2⟩ => ⟨by rw [h1]; simp, by rw [h2]; exact S.below (below_drewN w n)⟩
theorem eqEdits_true {u v : Value} {xs : List Edt} (S : Sts w0 w F P) (hx : SlR w Edt.cells 6 u xs) (hy : SlR w0 Edt.cells 6 v xs) :
    Calls Tryd.prog 8 #[u, v] w fun e w' => e = .returned (.bool true) ∧ Sts w0 w' F P :=
  (eqEdits_any u v xs xs w hx (hy.below S.bel)).mono fun e w' ⟨h1, n, h2⟩ => ⟨by rw [h1]; simp, by rw [h2]; exact S.below (below_drewN w n)⟩
theorem eqElems_true {u v : Value} {xs : List Elm} (S : Sts w0 w F P) (hx : SlR w Elm.cells 3 u xs) (hy : SlR w Elm.cells 3 v xs) :
    Calls Tryd.prog 11 #[u, v] w fun e w' => e = .returned (.bool true) ∧ Sts w0 w' F P :=
  (eqElems_any u v xs xs w hx hy).mono fun e w' ⟨h1, n, h2⟩ => ⟨by rw [h1]; simp, by rw [h2]; exact S.below (below_drewN w n)⟩
theorem still_true {v : Value} {n : Nat} {mark : Int} (S : Sts w0 w F P) (h : SlR w Opr.cells 5 v (List.replicate n (mk mark))) :
    Calls Tryd.prog 14 #[v, .int .i64 mark] w fun e w' => e = .returned (.bool true) ∧ Sts w0 w' F P :=
  (still_any v _ mark w h (fun x hx => by rw [List.eq_of_mem_replicate hx])).mono fun e w' ⟨h1, h2⟩ => ⟨h1, S.below h2⟩
theorem untouched_true {sb ne nd : Nat} {m : Int} {G : List Nat} (S : Sts w0 w F P) (hs : ShelfAt w0 sb m ne nd G w) (hne : ne ≤ 1000) (hnd : nd ≤ 1000) :
    Calls Tryd.prog 15 #[.pointer (some ⟨sb, 0, none⟩)] w fun e w' => e = .returned (.bool true) ∧ Sts w0 w' F P :=
  (untouched_sts hs hne hnd).mono fun e w' ⟨h1, h2⟩ => ⟨h1, S.below h2⟩
end Go.Proofs.YtjeidklpomekdaaDoor

/- The law's replayFixed. -/
namespace Go.Proofs.YtjeidklpomekdaaDoor
open Go.RowKit

abbrev fixA : Opr := ⟨1, 0, 97, 1, 1⟩
abbrev fixB : Opr := ⟨1, 0, 98, 2, 1⟩
theorem fixed_is : (replayGo book1 0 [⟨0, fixA⟩, ⟨0, fixB⟩]).1.done = [fixA, { fixB with pos := 1 }] ∧ (replayGo book1 0 [⟨0, fixA⟩, ⟨0, fixB⟩]).2 = none := by
  constructor <;> kernel_rfl
theorem fixed_doc : replay [] [fixA, { fixB with pos := 1 }] = [⟨97, 1, 1⟩, ⟨98, 2, 1⟩] := by kernel_rfl

theorem SlO.some_of' {α : Type} {w : World} {base : Nat} {T : TypeId} {enc : α → List Value} {k : Nat} {v : Value} {xs : List α} (h : SlO w base T enc k v xs) (hl : 0 < xs.length) : ∃ g cap, v = .slice (some ⟨g, 0, none⟩) xs.length cap := by
  rcases h.form with ⟨_, e⟩ | ⟨g, c, e, _⟩
  · rw [e] at hl; simp at hl
  · exact ⟨g, c, e⟩

/-- What the law looks at. -/
def FixSeen (w w' : World) (e : Ending) : Prop := ∃ g c h d, e = .returned (.tuple #[.slice (some ⟨g, 0, none⟩) 2 c, .slice (some ⟨h, 0, none⟩) 2 d, .nilIface]) ∧ Below w.heap.size w w' ∧
    w.heap.size ≤ g ∧ w.heap.size ≤ h ∧
    (∀ j u, (fixA.cells ++ ({ fixB with pos := 1 } : Opr).cells)[j]? = some u → w'.cell? ⟨g, j, none⟩ = some u) ∧
    (∀ j u, (Elm.cells ⟨97, 1, 1⟩ ++ Elm.cells ⟨98, 2, 1⟩)[j]? = some u → w'.cell? ⟨h, j, none⟩ = some u)
theorem fixed_seen {xs : List Edt} (hx : xs = [⟨0, fixA⟩, ⟨0, fixB⟩]) {w w' : World} {e : Ending} (h : ReplayB w w' e (replayGo book1 0 xs)) : FixSeen w w' e := by
  subst hx
  obtain ⟨ov, dv, ev, rfl, ho, hd, _, he, hb, _⟩ := h
  rw [fixed_is.1] at ho hd
  rw [fixed_is.2] at he
  rw [fixed_doc] at hd
  obtain ⟨g, c, rfl⟩ := ho.some_of' (by simp)
  obtain ⟨h, d, rfl⟩ := hd.some_of' (by simp)
  have he' : ev = .nilIface := he
  subst he'
  refine ⟨g, c, h, d, rfl, hb, (ho.lt g rfl).1, (hd.lt h rfl).1, fun j u hj => ?_, fun j u hj => ?_⟩
  · have h0 := fun o => ho.cell len_op rfl 0 o (by simp)
    have h1 := fun o => ho.cell len_op rfl 1 o (by simp)
    match j with
    | 0 => exact h0 0 _ hj
    | 1 => exact h0 1 _ hj
    | 2 => exact h0 2 _ hj
    | 3 => exact h0 3 _ hj
    | 4 => exact h0 4 _ hj
    | 5 => exact h1 0 _ hj
    | 6 => exact h1 1 _ hj
    | 7 => exact h1 2 _ hj
    | 8 => exact h1 3 _ hj
    | 9 => exact h1 4 _ hj
    | n + 10 => simp [Opr.cells] at hj
  · have h0 := fun o => hd.cell len_elem rfl 0 o (by simp)
    have h1 := fun o => hd.cell len_elem rfl 1 o (by simp)
    match j with
    | 0 => exact h0 0 _ hj
    | 1 => exact h0 1 _ hj
    | 2 => exact h0 2 _ hj
    | 3 => exact h1 0 _ hj
    | 4 => exact h1 1 _ hj
    | 5 => exact h1 2 _ hj
    | n + 6 => simp [Elm.cells] at hj

theorem fixed_args (W : World) : SlR (W.alloc (.cells #[.int .i64 0, .int .i64 1, .int .i64 0, .int .u8 97, .int .i64 1, .int .i64 1, .int .i64 0, .int .i64 1, .int .i64 0, .int .u8 98, .int .i64 2, .int .i64 1] 48 (0, 0))) Edt.cells 6 (.slice (some ⟨W.heap.size, 0, none⟩) 2 2) [⟨0, fixA⟩, ⟨0, fixB⟩] := by
  have C := blk_cell (blk_new W (.cells #[.int .i64 0, .int .i64 1, .int .i64 0, .int .u8 97, .int .i64 1, .int .i64 1, .int .i64 0, .int .i64 1, .int .i64 0, .int .u8 98, .int .i64 2, .int .i64 1] 48 (0, 0)))
  refine ⟨_, 2, rfl, (show 2 ≤ maxLen by decide), ⟨(show 2 ≤ 2 by decide), (fun h => by simp at h)⟩, fun i hi => ⟨W.heap.size, 0, rfl, fun j u hj => ?_⟩⟩
  rw [C]
  match i with
  | 0 =>
    match j with
    | 0 => exact hj
    | 1 => exact hj
    | 2 => exact hj
    | 3 => exact hj
    | 4 => exact hj
    | 5 => exact hj
    | n + 6 => simp [Edt.cells, Opr.cells] at hj
  | 1 =>
    match j with
    | 0 => exact hj
    | 1 => exact hj
    | 2 => exact hj
    | 3 => exact hj
    | 4 => exact hj
    | 5 => exact hj
    | n + 6 => simp [Edt.cells, Opr.cells] at hj
  | n + 2 => exact absurd hi (by simp)

theorem fixed_call' (xs : List Edt) (hx : xs = [⟨0, fixA⟩, ⟨0, fixB⟩]) (v : Value) (w : World) (hs : SlR w Edt.cells 6 v xs) (hR : Rules w) :
    Calls Tryd.prog 6 #[v] w fun e w' => FixSeen w w' e :=
  (replayB_any GB goodB v xs w hs (by subst hx; decide) hR).mono fun _ _ h => fixed_seen hx h
theorem fixed_call (W : World) (hR : Rules W) (b : Nat) (hb : b = W.heap.size) :
    Calls Tryd.prog 6 #[.slice (some ⟨b, 0, none⟩) 2 2] (W.alloc (.cells #[.int .i64 0, .int .i64 1, .int .i64 0, .int .u8 97, .int .i64 1, .int .i64 1, .int .i64 0, .int .i64 1, .int .i64 0, .int .u8 98, .int .i64 2, .int .i64 1] 48 (0, 0))) fun e w' => FixSeen (W.alloc (.cells #[.int .i64 0, .int .i64 1, .int .i64 0, .int .u8 97, .int .i64 1, .int .i64 1, .int .i64 0, .int .i64 1, .int .i64 0, .int .u8 98, .int .i64 2, .int .i64 1] 48 (0, 0))) w' e :=
  fixed_call' _ rfl _ _ (hb ▸ fixed_args W) (hR.alloc _)
set_option maxRecDepth 100000 in
set_option maxHeartbeats 3200000 in
theorem fixed_any (w : World) (hR : Rules w) : Calls Tryd.prog 4 #[] w fun e w' => e = .returned (.bool true) ∧ Below w.heap.size w w' := by
  have HR := Lib.hid hR; clear hR
  go_enter Tryd.func4, Tryd.ntmps4
  go_wp2_with fail
  refine (fixed_call _ ((HR.out.alloc _).alloc _) _ (by simp)).mono ?_
  rintro e w1 ⟨g, c, h, d, rfl, hb, hg, hh, hG, hH⟩
  have e3 : ((w.alloc (.cells #[.int .i64 1, .int .i64 0, .int .u8 97, .int .i64 1, .int .i64 1] 46 (0, 0))).alloc (.cells #[.int .i64 1, .int .i64 0, .int .u8 98, .int .i64 2, .int .i64 1] 46 (0, 0))).heap.size = w.heap.size + 2 := by simp
  have BA := hb.blk (blk_alloc _ (blk_alloc _ (blk_new w _)))
  have BB := hb.blk (blk_alloc _ (blk_at (n := w.heap.size + 1) _ (by simp)))
  have hb' := ((((Below.refl w.heap.size w).new _).new _).new _).then_ hb
  simp at hg hh
  have BB' := blk_set BB 1 (.int .i64 1)
  have BA' := blk_other ⟨w.heap.size + 1, 1, none⟩ (.int .i64 1) BA (by simp)
  have hG' : ∀ j u, (fixA.cells ++ ({ fixB with pos := 1 } : Opr).cells)[j]? = some u → (w1.setCell ⟨w.heap.size + 1, 1, none⟩ (.int .i64 1)).cell? ⟨g, j, none⟩ = some u := fun j u h => by
    rw [World.cell?_setCell_other _ _ _ _ (by first | (simp; omega) | omega | (intro h'; have := congrArg Addr.block h'; simp at this; omega))]; exact hG j u h
  have hH' : ∀ j u, (Elm.cells ⟨97, 1, 1⟩ ++ Elm.cells ⟨98, 2, 1⟩)[j]? = some u → (w1.setCell ⟨w.heap.size + 1, 1, none⟩ (.int .i64 1)).cell? ⟨h, j, none⟩ = some u := fun j u h => by
    rw [World.cell?_setCell_other _ _ _ _ (by first | (simp; omega) | omega | (intro h'; have := congrArg Addr.block h'; simp at this; omega))]; exact hH j u h
  have hb2 : Below w.heap.size w (w1.setCell ⟨w.heap.size + 1, 1, none⟩ (.int .i64 1)) := hb'.mod (Mod.setCell _ _ _ _) (by simp)
  have hsz : w.heap.size + 1 < w1.heap.size := blk_lt BB
  have CB := blk_cell BB
  have FB := blk_free BB
  clear hb hb' hG hH BA e3
  generalize hW : w1.setCell ⟨w.heap.size + 1, 1, none⟩ (.int .i64 1) = W at *
  have HW := Lib.hid hW; have HBW := Lib.hid hb2; clear hW hb2
  have G0 : W.cell? ⟨g, 0, none⟩ = some (.int .i64 1) := hG' 0 _ rfl
  have G1 : W.cell? ⟨g, 1, none⟩ = some (.int .i64 0) := hG' 1 _ rfl
  have G2 : W.cell? ⟨g, 2, none⟩ = some (.int .u8 97) := hG' 2 _ rfl
  have G3 : W.cell? ⟨g, 3, none⟩ = some (.int .i64 1) := hG' 3 _ rfl
  have G4 : W.cell? ⟨g, 4, none⟩ = some (.int .i64 1) := hG' 4 _ rfl
  have G5 : W.cell? ⟨g, 5, none⟩ = some (.int .i64 1) := hG' 5 _ rfl
  have G6 : W.cell? ⟨g, 6, none⟩ = some (.int .i64 1) := hG' 6 _ rfl
  have G7 : W.cell? ⟨g, 7, none⟩ = some (.int .u8 98) := hG' 7 _ rfl
  have G8 : W.cell? ⟨g, 8, none⟩ = some (.int .i64 2) := hG' 8 _ rfl
  have G9 : W.cell? ⟨g, 9, none⟩ = some (.int .i64 1) := hG' 9 _ rfl
  have H0 : W.cell? ⟨h, 0, none⟩ = some (.int .u8 97) := hH' 0 _ rfl
  have H1 : W.cell? ⟨h, 1, none⟩ = some (.int .i64 1) := hH' 1 _ rfl
  have H2 : W.cell? ⟨h, 2, none⟩ = some (.int .i64 1) := hH' 2 _ rfl
  have H3 : W.cell? ⟨h, 3, none⟩ = some (.int .u8 98) := hH' 3 _ rfl
  have H4 : W.cell? ⟨h, 4, none⟩ = some (.int .i64 2) := hH' 4 _ rfl
  have H5 : W.cell? ⟨h, 5, none⟩ = some (.int .i64 1) := hH' 5 _ rfl
  have CA := blk_cell BA'
  have CC := blk_cell BB'
  have A0 : W.cell? ⟨w.heap.size, 0, none⟩ = some (.int .i64 1) := CA 0
  have A1 : W.cell? ⟨w.heap.size, 1, none⟩ = some (.int .i64 0) := CA 1
  have A2 : W.cell? ⟨w.heap.size, 2, none⟩ = some (.int .u8 97) := CA 2
  have A3 : W.cell? ⟨w.heap.size, 3, none⟩ = some (.int .i64 1) := CA 3
  have A4 : W.cell? ⟨w.heap.size, 4, none⟩ = some (.int .i64 1) := CA 4
  have B0 : W.cell? ⟨w.heap.size + 1, 0, none⟩ = some (.int .i64 1) := CC 0
  have B1 : W.cell? ⟨w.heap.size + 1, 1, none⟩ = some (.int .i64 1) := CC 1
  have B2 : W.cell? ⟨w.heap.size + 1, 2, none⟩ = some (.int .u8 98) := CC 2
  have B3 : W.cell? ⟨w.heap.size + 1, 3, none⟩ = some (.int .i64 2) := CC 3
  have B4 : W.cell? ⟨w.heap.size + 1, 4, none⟩ = some (.int .i64 1) := CC 4
  clear CA CC hG' hH' BA' BB'
  have q1 := fun U => eql_op fixA fixA U
  have q2 := fun U => eql_op ⟨1, 1, 98, 2, 1⟩ ⟨1, 1, 98, 2, 1⟩ U
  go_wp2
  rw [HW.out]
  clear BB CB FB hsz
  go_quiet (fail)
  go_wp2
  go_ret
  exact ⟨rfl, HBW.out.drewN _⟩
end Go.Proofs.YtjeidklpomekdaaDoor

/- The law: every replay. -/
namespace Go.Proofs.YtjeidklpomekdaaDoor
open Go.RowKit

set_option maxRecDepth 100000 in
set_option maxHeartbeats 6400000 in
theorem main_any (v1 v2 : Value) (xs ys : List Edt) (w0 : World) (h1 : SlR w0 Edt.cells 6 v1 xs) (h2 : SlR w0 Edt.cells 6 v2 ys) (hc1 : ∀ e ∈ xs, 0 ≤ e.op.ch ∧ e.op.ch ≤ 255) (hc2 : ∀ e ∈ ys, 0 ≤ e.op.ch ∧ e.op.ch ≤ 255) (hR : Rules w0) (hE : ErrT w0) (hn1 : xs.length ≤ 2932031007330) (hn2 : ys.length ≤ 2932031007330) :
    Calls Tryd.prog 3 #[v1, v2] w0 fun e w' => e = .returned (.bool true) ∧ Below w0.heap.size w0 w' := by
  obtain ⟨O1, D1, E1, hI1⟩ := RepIs.of xs hc1
  obtain ⟨O2, D2, E2, hI2⟩ := RepIs.of ys hc2
  have l1 := hI1.ol; have l2 := hI1.dl; have l3 := hI2.ol; have l4 := hI2.dl
  have H1 := Lib.hid h1; have H2 := Lib.hid h2; have C1 := Lib.hid hc1; have C2 := Lib.hid hc2; have HR := Lib.hid hR; have HE := Lib.hid hE; have I1 := Lib.hid hI1; have I2 := Lib.hid hI2
  have N1 := Lib.hid hn1; have N2 := Lib.hid hn2
  have L1 := Lib.hid (show O1.length ≤ 100000 by omega); have L2 := Lib.hid (show D1.length ≤ 2932031007330 by omega)
  have L3 := Lib.hid (show O2.length ≤ 100000 by omega); have L4 := Lib.hid (show D2.length ≤ 2932031007330 by omega)
  have B1 := Lib.hid (show xs.length * 48 ≤ 140737488355328 by omega); have B2 := Lib.hid (show xs.length ≤ 9223372036854775807 by omega)
  have B3 := Lib.hid (show ys.length * 48 ≤ 140737488355328 by omega); have B4 := Lib.hid (show ys.length ≤ 9223372036854775807 by omega)
  clear h1 h2 hc1 hc2 hR hE hI1 hI2 hn1 hn2 l1 l2 l3 l4
  go_enter Tryd.func3, Tryd.ntmps3
  go_wp2_with fail
  refine (fixed_any _ HR.out).mono ?_
  rintro e w1 ⟨rfl, b1⟩
  have S1 := Lib.hid ((Sts.none w0).below b1); clear b1
  go_wp2_with fail
  refine (rrep_call I1.out C1.out S1.out v1 H1.out 1).mono ?_
  rintro e w2 ⟨ov1, dv1, G1, rfl, s⟩
  have S2 := Lib.hid s; clear s S1
  go_wp2_with fail
  refine (rrep_call I2.out C2.out S2.out v2 H2.out 2).mono ?_
  rintro e w3 ⟨ov2, dv2, G2, rfl, s⟩
  have S3 := Lib.hid s; clear s S2
  go_upto_region 6 with (at_builtin; refine wp_app_new et_edit rfl _ _ rfl Edt.cells len_edit one_edit rfl xs v1 rfl (H1.out.below S3.out.bel) B1.out B2.out ?_; intro ga4 ca4 w4 ho hb _; have S4 := Lib.hid (copy_sts S3.out ho hb 3); clear ho hb S3)
  go_wp2_with (at_builtin; refine wp_app_new et_edit rfl _ _ rfl Edt.cells len_edit one_edit rfl ys v2 rfl (H2.out.below S4.out.bel) B3.out B4.out ?_; intro ga5 ca5 w5 ho hb _; have S5 := Lib.hid (copy_sts S4.out ho hb 4); clear ho hb S4)
  refine (rep_call I1.out C1.out S5.out _ (SlO.reads (S5.out.get 3) len_edit) HR.out 5 6 7).mono ?_
  rintro e w6 ⟨ov3, gd1, cd1, ev1, G3, rfl, s⟩
  have S6 := Lib.hid s; clear s S5
  go_wp2_with fail
  refine (rep_call I2.out C2.out S6.out _ (SlO.reads (S6.out.get 4) len_edit) HR.out 8 9 10).mono ?_
  rintro e w7 ⟨ov4, gd2, cd2, ev2, G4, rfl, s⟩
  have S7 := Lib.hid s; clear s S6
  go_wp2_with (at_builtin; refine wp_app_new et_edit rfl _ _ rfl Edt.cells len_edit one_edit rfl xs v1 rfl (H1.out.below S7.out.bel) B1.out B2.out ?_; intro ga8 ca8 w8 ho hb _; have S8 := Lib.hid (copy_sts S7.out ho hb 18); clear ho hb S7)
  refine (rep_call I1.out C1.out S8.out _ (SlO.reads (S8.out.get 18) len_edit) HR.out 11 12 13).mono ?_
  rintro e w9 ⟨ov5, gd5, cd5, ev5, G5, rfl, s⟩
  have S9 := Lib.hid s; clear s S8
  go_wp2_with fail
  refine (is_true S9.out (S9.out.get 7) HE.out).mono ?_
  rintro e w10 ⟨rfl, s⟩
  have S10 := Lib.hid s; clear s S9
  go_wp2_with fail
  refine (is_true S10.out (S10.out.get 10) HE.out).mono ?_
  rintro e w11 ⟨rfl, s⟩
  have S11 := Lib.hid s; clear s S10
  go_wp2_with fail
  refine (eqEdits_true S11.out (SlO.reads (S11.out.get 3) len_edit) H1.out).mono ?_
  rintro e w12 ⟨rfl, s⟩
  have S12 := Lib.hid s; clear s S11
  go_wp2_with fail
  refine (eqEdits_true S12.out (SlO.reads (S12.out.get 4) len_edit) H2.out).mono ?_
  rintro e w13 ⟨rfl, s⟩
  have S13 := Lib.hid s; clear s S12
  go_wp2_with fail
  have S14 := Lib.hid (shelf_sts S13.out 14); clear S13
  refine (shE_sts (i := 14) (j := 3) (m := 0) (ne := 0) (nd := 0) S14.out (S14.out.get 14) (S14.out.get 3) rfl (by decide) N1.out (by decide) (by decide)).mono ?_
  rintro e w15 ⟨rfl, G114, s⟩
  have S15 := Lib.hid s; clear s S14
  go_wp2_with fail
  refine (shE_sts (i := 14) (j := 4) (m := 0 + 1) (ne := 2) (nd := 0) S15.out (S15.out.get 14) (S15.out.get 4) rfl (by decide) N2.out (by decide) (by decide)).mono ?_
  rintro e w16 ⟨rfl, G115, s⟩
  have S16 := Lib.hid s; clear s S15
  go_wp2_with fail
  refine (eqOps_true S16.out (SlO.reads (S16.out.get 5) len_op) (And.left (S16.out.get 1))).mono ?_
  rintro e w17 ⟨rfl, s⟩
  have S17 := Lib.hid s; clear s S16
  go_wp2_with fail
  refine (eqOps_true S17.out (SlO.reads (S17.out.get 8) len_op) (And.left (S17.out.get 2))).mono ?_
  rintro e w18 ⟨rfl, s⟩
  have S18 := Lib.hid s; clear s S17
  go_wp2_with fail
  refine (eqElems_true S18.out (SlO.reads (S18.out.get 6) len_elem) (And.right (S18.out.get 1))).mono ?_
  rintro e w19 ⟨rfl, s⟩
  have S19 := Lib.hid s; clear s S18
  go_wp2_with fail
  refine (eqElems_true S19.out (SlO.reads (S19.out.get 9) len_elem) (And.right (S19.out.get 2))).mono ?_
  rintro e w20 ⟨rfl, s⟩
  have S20 := Lib.hid s; clear s S19
  go_wp2_with fail
  refine (shD_sts (i := 14) (j := 6) (m := 0 + 1 + 1) (ne := 4) (nd := 0) S20.out (S20.out.get 14) (S20.out.get 6) rfl (by decide) L2.out (by decide) (by decide)).mono ?_
  rintro e w21 ⟨rfl, G120, s⟩
  have S21 := Lib.hid s; clear s S20
  go_wp2_with fail
  refine (marked_sts (i := 5) (-1) S21.out (S21.out.get 5) rfl L1.out).mono ?_
  rintro e w22 ⟨gm1, rfl, s⟩
  have S22 := Lib.hid s; clear s S21
  go_wp2_with fail
  refine (eqOps_true S22.out (SlO.reads (S22.out.get 11) len_op) (And.left (S22.out.get 1))).mono ?_
  rintro e w23 ⟨rfl, s⟩
  have S23 := Lib.hid s; clear s S22
  go_wp2_with fail
  refine (eqElems_true S23.out (SlO.reads (S23.out.get 12) len_elem) (And.right (S23.out.get 1))).mono ?_
  rintro e w24 ⟨rfl, s⟩
  have S24 := Lib.hid s; clear s S23
  go_wp2_with fail
  refine (eqOps_true S24.out (SlO.reads (S24.out.get 8) len_op) (And.left (S24.out.get 2))).mono ?_
  rintro e w25 ⟨rfl, s⟩
  have S25 := Lib.hid s; clear s S24
  go_wp2_with fail
  refine (eqElems_true S25.out (SlO.reads (S25.out.get 9) len_elem) (And.right (S25.out.get 2))).mono ?_
  rintro e w26 ⟨rfl, s⟩
  have S26 := Lib.hid s; clear s S25
  go_wp2_with fail
  refine (shD_sts (i := 14) (j := 12) (m := 0 + 1 + 1 + 1) (ne := 4) (nd := 2) S26.out (S26.out.get 14) (S26.out.get 12) rfl (by decide) L2.out (by decide) (by decide)).mono ?_
  rintro e w27 ⟨rfl, G126, s⟩
  have S27 := Lib.hid s; clear s S26
  go_wp2_with fail
  refine (marked_sts (i := 11) (-3) S27.out (S27.out.get 11) rfl L1.out).mono ?_
  rintro e w28 ⟨gm3, rfl, s⟩
  have S28 := Lib.hid s; clear s S27
  go_wp2_with fail
  refine (eqOps_true S28.out (SlO.reads (S28.out.get 8) len_op) (And.left (S28.out.get 2))).mono ?_
  rintro e w29 ⟨rfl, s⟩
  have S29 := Lib.hid s; clear s S28
  go_wp2_with fail
  refine (eqElems_true S29.out (SlO.reads (S29.out.get 9) len_elem) (And.right (S29.out.get 2))).mono ?_
  rintro e w30 ⟨rfl, s⟩
  have S30 := Lib.hid s; clear s S29
  go_wp2_with fail
  refine (still_true S30.out (And.left (S30.out.get 11))).mono ?_
  rintro e w31 ⟨rfl, s⟩
  have S31 := Lib.hid s; clear s S30
  go_wp2_with fail
  refine (still_true S31.out (SlO.reads (And.right (S31.out.get 11)) len_op)).mono ?_
  rintro e w32 ⟨rfl, s⟩
  have S32 := Lib.hid s; clear s S31
  go_wp2_with fail
  refine (shD_sts (i := 14) (j := 9) (m := 0 + 1 + 1 + 1 + 1) (ne := 4) (nd := 4) S32.out (S32.out.get 14) (S32.out.get 9) rfl (by decide) L4.out (by decide) (by decide)).mono ?_
  rintro e w33 ⟨rfl, G132, s⟩
  have S33 := Lib.hid s; clear s S32
  go_wp2_with fail
  refine (marked_sts (i := 8) (-2) S33.out (S33.out.get 8) rfl L3.out).mono ?_
  rintro e w34 ⟨gm2, rfl, s⟩
  have S34 := Lib.hid s; clear s S33
  go_wp2_with (at_builtin; refine wp_app_new et_edit rfl _ _ rfl Edt.cells len_edit one_edit rfl xs v1 rfl (H1.out.below S34.out.bel) B1.out B2.out ?_; intro ga35 ca35 w35 ho hb _; have S35 := Lib.hid (copy_sts S34.out ho hb 19); clear ho hb S34)
  refine (rep_call I1.out C1.out S35.out _ (SlO.reads (S35.out.get 19) len_edit) HR.out 15 16 17).mono ?_
  rintro e w36 ⟨ov6, gd6, cd6, ev6, G6, rfl, s⟩
  have S36 := Lib.hid s; clear s S35
  go_wp2_with fail
  refine (eqOps_true S36.out (SlO.reads (S36.out.get 15) len_op) (And.left (S36.out.get 1))).mono ?_
  rintro e w37 ⟨rfl, s⟩
  have S37 := Lib.hid s; clear s S36
  go_wp2_with fail
  refine (eqElems_true S37.out (SlO.reads (S37.out.get 16) len_elem) (And.right (S37.out.get 1))).mono ?_
  rintro e w38 ⟨rfl, s⟩
  have S38 := Lib.hid s; clear s S37
  go_wp2_with fail
  refine (is_true S38.out (S38.out.get 17) HE.out).mono ?_
  rintro e w39 ⟨rfl, s⟩
  have S39 := Lib.hid s; clear s S38
  go_wp2_with fail
  refine (untouched_true S39.out (S39.out.get 14) (by decide) (by decide)).mono ?_
  rintro e w40 ⟨rfl, s⟩
  have S40 := Lib.hid s; clear s S39
  go_wp2_with fail
  refine (still_true S40.out (And.left (S40.out.get 5))).mono ?_
  rintro e w41 ⟨rfl, s⟩
  have S41 := Lib.hid s; clear s S40
  go_wp2_with fail
  refine (still_true S41.out (And.left (S41.out.get 8))).mono ?_
  rintro e w42 ⟨rfl, s⟩
  have S42 := Lib.hid s; clear s S41
  go_wp2_with fail
  refine (still_true S42.out (SlO.reads (And.right (S42.out.get 5)) len_op)).mono ?_
  rintro e w43 ⟨rfl, s⟩
  have S43 := Lib.hid s; clear s S42
  go_wp2_with fail
  refine (still_true S43.out (SlO.reads (And.right (S43.out.get 8)) len_op)).mono ?_
  rintro e w44 ⟨rfl, s⟩
  have S44 := Lib.hid s; clear s S43
  go_wp2_with fail
  refine (still_true S44.out (And.left (S44.out.get 11))).mono ?_
  rintro e w45 ⟨rfl, s⟩
  have S45 := Lib.hid s; clear s S44
  go_wp2_with fail
  refine (still_true S45.out (SlO.reads (And.right (S45.out.get 11)) len_op)).mono ?_
  rintro e w46 ⟨rfl, s⟩
  have S46 := Lib.hid s; clear s S45
  go_wp2_with fail
  go_ret
  exact ⟨rfl, S46.out.bel⟩
end Go.Proofs.YtjeidklpomekdaaDoor

