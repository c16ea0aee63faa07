/- Steps of the proof: QBackS, QRestS, Grp6, GOnc, GLng, GNed, GRn1, GRn2, GRng, QCut, QTextS, QRead, QNum, QStpR. No conditions. -/
import Derived.Laws.EntriesVeiled
import Derived.Test.YtdolibeceijnnaaDoorZGM1
import Derived.Test.YtdolibeceijnnaaDoorZGM2
import Derived.Test.YtdolibeceijnnaaDoorZGM3
namespace Go.Proofs.YtdolibeceijnnaaDoor
open Go.RowKit
theorem behAll_not {e : Int → Bool} {l : List Stp} {a : Int} (h : ∀ x ∈ l, movesIn a x = false) : behAll e l a = e a := by
  induction l generalizing e with
  | nil => rfl
  | cons x l ih =>
    rw [behAll_cons, ih fun y hy => h y (List.mem_cons_of_mem _ hy)]
    refine beh_not fun y hy ee => ?_
    have := (movesIn_iff a x).2 ⟨y, hy, ee⟩
    rw [h x (List.mem_cons_self ..)] at this; cases this
theorem behAll_append (e : Int → Bool) (l q : List Stp) : behAll e (l ++ q) = behAll (behAll e l) q := List.foldl_append
theorem ckWalk_append {m : Int} {e : Int → Bool} {l q : List Stp} : ckWalk m e (l ++ q) = 0 ↔ ckWalk m e l = 0 ∧ ckWalk m (behAll e l) q = 0 := by
  induction l generalizing e with
  | nil => exact ⟨fun h => ⟨rfl, h⟩, fun h => h.2⟩
  | cons x l ih =>
    rw [List.cons_append, ckWalk_iff, ckWalk_iff, ih, behAll_cons]
    exact ⟨fun h => ⟨⟨h.1, h.2.1⟩, h.2.2⟩, fun h => ⟨h.1.1, h.1.2, h.2⟩⟩
theorem Right.notIn {m : Int} {l : List Stp} (h : Right m l) {a : Int} (ha : ¬ In m a) : ∀ x ∈ l, movesIn a x = false := fun x hx => by
  cases hm : movesIn a x
  · rfl
  · obtain ⟨y, hy, rfl⟩ := (movesIn_iff a x).1 hm
    exact absurd ((h.fine x hx).2 y hy) ha
theorem Right.none {m : Int} {l : List Stp} (h : Right m l) : behAll none6 l = none6 := by
  funext a
  by_cases ha : In m a
  · exact h.back a ha
  · exact behAll_not (h.notIn ha)
theorem Right.ck {m : Int} {l : List Stp} (h : Right m l) : ckSeq (m, l) = 0 := ckSeq_of h.act h.len h.walk h.back h.moved
def wordL (l : List Stp) : List Stk := l.flatMap (·.1)
def accL : List Stp → List Stk → Bool
  | [], w => w.length == 0
  | x :: l, w => if w.length < x.1.length then false else if x.1.any (fun y => !(w.take x.1.length).contains y) then false else accL l (w.drop x.1.length)
theorem accL_cons {x : Stp} {l : List Stp} {p w : List Stk} (hp : p.length = x.1.length) (hm : ∀ y ∈ x.1, y ∈ p) (hw : accL l w = true) : accL (x :: l) (p ++ w) = true := by
  unfold accL
  rw [if_neg (by rw [List.length_append]; omega), ← hp, List.take_left, List.drop_left, if_neg, hw]
  rw [Bool.not_eq_true, List.any_eq_false]
  intro y hy
  simp [hm y hy]
theorem accL_append {q r : List Stp} : ∀ {v w : List Stk}, accL q v = true → accL r w = true → accL (q ++ r) (v ++ w) = true := by
  induction q with
  | nil =>
    intro v w hv hw
    have : v = [] := by simpa [accL] using hv
    subst this
    exact hw
  | cons x q ih =>
    intro v w hv hw
    unfold accL at hv
    by_cases h1 : v.length < x.1.length
    · rw [if_pos h1] at hv; cases hv
    · rw [if_neg h1] at hv
      by_cases h2 : x.1.any (fun y => !(v.take x.1.length).contains y) = true
      · rw [if_pos h2] at hv; cases hv
      · rw [if_neg h2] at hv
        have h3 := ih hv hw
        rw [List.cons_append]
        have e : v ++ w = v.take x.1.length ++ (v.drop x.1.length ++ w) := by rw [← List.append_assoc, List.take_append_drop]
        rw [e]
        refine accL_cons (by rw [List.length_take]; omega) (fun y hy => ?_) h3
        rw [Bool.not_eq_true, List.any_eq_false] at h2
        have := h2 y hy
        simpa using this
theorem accL_word (l : List Stp) : accL l (wordL l) = true := by
  induction l with
  | nil => rfl
  | cons x l ih => exact accL_cons rfl (fun y hy => hy) ih
theorem diff_len {l : List Stk} (hd : Diff l) (hk : ∀ y ∈ l, 0 ≤ y.1 ∧ y.1 < 6) : l.length ≤ 6 := by
  have := sub_len (l := l.map (·.1)) (m := ints 6) (by unfold List.Nodup; rw [List.pairwise_map]; exact hd) (fun x hx => by
    obtain ⟨y, hy, rfl⟩ := List.mem_map.1 hx
    exact ints_mem.2 (hk y hy))
  rw [List.length_map, ints_length] at this
  exact this
theorem merged_right {m : Int} {l : List Stp} (h : Right m l) {k : Nat} (hk : mergeE (m, l) (k : Int) = 0) : Right m (merged (m, l) k).2 ∧ (merged (m, l) k).2.length = l.length - 1 ∧ k + 1 < l.length ∧ accL (merged (m, l) k).2 (wordL l) = true := by
  unfold mergeE at hk
  rw [if_neg (by simp [h.ck])] at hk
  dsimp only at hk
  by_cases h1 : (k : Int) < 0 ∨ (l.length : Int) - 2 < (k : Int)
  · rw [if_pos h1] at hk; cases hk
  rw [if_neg h1] at hk
  have hk1 : k + 1 < l.length := by omega
  have e2 : ((k : Int)).toNat = k := by omega
  rw [e2] at hk
  obtain ⟨x, hx⟩ : ∃ x, x = l.getD k stp0 := ⟨_, rfl⟩
  obtain ⟨y, hy⟩ : ∃ y, y = l.getD (k + 1) stp0 := ⟨_, rfl⟩
  have hsplit : l = l.take k ++ x :: y :: l.drop (k + 2) := by
    have e1 : l = l.take k ++ l.drop k := (List.take_append_drop k l).symm
    rw [drop_cons l stp0 (by omega : k < l.length), drop_cons l stp0 hk1] at e1
    rw [hx, hy]; exact e1
  have h3 : (apart (l.getD k ([], 0)) (l.getD (k + 1) ([], 0)) && (l.getD k ([], 0)).2 == 0) = true := by
    cases hq : (apart (l.getD k ([], 0)) (l.getD (k + 1) ([], 0)) && (l.getD k ([], 0)).2 == 0)
    · rw [hq] at hk; cases hk
    · rfl
  have h3 : (apart x y && x.2 == 0) = true := by rw [hx, hy]; exact h3
  clear hk
  have hap : apart x y = true := by rw [Bool.and_eq_true] at h3; exact h3.1
  have hxm : x ∈ l := by rw [hsplit]; simp
  have hym : y ∈ l := by rw [hsplit]; simp
  obtain ⟨z, hz⟩ : ∃ z : Stp, z = (ordered (x.1 ++ y.1), y.2) := ⟨_, rfl⟩
  have hmg : (merged (m, l) k).2 = l.take k ++ z :: l.drop (k + 2) := by rw [hz, hx, hy]; rfl
  have hdf : Diff (x.1 ++ y.1) := apart_diff (sa := x.1) (wa := x.2) (sb := y.1) (wb := y.2) (h.fine x hxm).1 (h.fine y hym).1 hap
  have hkn : ∀ u ∈ x.1 ++ y.1, 0 ≤ u.1 ∧ u.1 < 6 := fun u hu => by
    have ha := h.act
    rcases List.mem_append.1 hu with hu | hu
    · have h1 := (h.fine x hxm).2 u hu; have h2 := h1.1; have h3 := h1.2; omega
    · have h1 := (h.fine y hym).2 u hu; have h2 := h1.1; have h3 := h1.2; omega
  have hzm : ∀ u, u ∈ z.1 ↔ u ∈ x.1 ∨ u ∈ y.1 := fun u => by
    rw [hz]
    show u ∈ ordered (x.1 ++ y.1) ↔ _
    rw [ordered_mem, List.mem_append]
    exact ⟨fun h => h.1, fun h => ⟨h, hkn u (List.mem_append.2 h)⟩⟩
  have hzl : z.1.length = x.1.length + y.1.length := by
    rw [hz]
    show (ordered (x.1 ++ y.1)).length = _
    rw [← isortK_ordered hdf hkn, isortK_length, List.length_append]
  have hza : Asc z.1 := by rw [hz]; exact ordered_asc hdf
  have hzk : ∀ u ∈ z.1, 0 ≤ u.1 ∧ u.1 < 6 := fun u hu => hkn u (List.mem_append.2 ((hzm u).1 hu))
  have hne : ∀ u ∈ x.1, ∀ v ∈ y.1, u.1 ≠ v.1 := fun u hu v hv e => (List.pairwise_append.1 hdf).2.2 u hu v hv e
  have hw := h.walk
  rw [hsplit] at hw
  obtain ⟨w1, w2⟩ := ckWalk_append.1 hw
  obtain ⟨w3, w4⟩ := ckWalk_iff.1 w2
  obtain ⟨w5, w6⟩ := ckWalk_iff.1 w4
  obtain ⟨x1, x2, x3⟩ := ckFit_iff.1 w3
  obtain ⟨y1, y2, y3⟩ := ckFit_iff.1 w5
  have hsx := ckStep_strokes x1
  have hsy := ckStep_strokes y1
  have hbz : ∀ e, beh e z.1 = beh (beh e x.1) y.1 := fun e => by
    funext a
    cases hmy : movesIn a y
    · have ny : ∀ v ∈ y.1, v.1 ≠ a := fun v hv ee => by have := (movesIn_iff a y).2 ⟨v, hv, ee⟩; rw [hmy] at this; cases this
      rw [beh_not (l := y.1) ny]
      cases hmx : movesIn a x
      · have nx : ∀ v ∈ x.1, v.1 ≠ a := fun v hv ee => by have := (movesIn_iff a x).2 ⟨v, hv, ee⟩; rw [hmx] at this; cases this
        rw [beh_not (l := x.1) nx, beh_not]
        intro u hu ee
        rcases (hzm u).1 hu with hu | hu
        · exact nx u hu ee
        · exact ny u hu ee
      · obtain ⟨u, hu, rfl⟩ := (movesIn_iff a x).1 hmx
        rw [beh_mem (ckStrokes_asc hsx.1).1.diff hu, beh_mem hza.diff ((hzm u).2 (.inl hu))]
    · obtain ⟨u, hu, rfl⟩ := (movesIn_iff a y).1 hmy
      rw [beh_mem (ckStrokes_asc hsy.1).1.diff hu, beh_mem hza.diff ((hzm u).2 (.inr hu))]
  have hbl : ∀ e, behAll e (l.take k ++ z :: l.drop (k + 2)) = behAll e l := fun e => by
    conv => rhs; rw [hsplit]
    rw [behAll_append, behAll_append, behAll_cons, behAll_cons, behAll_cons, hbz]
  have hlen : (l.take k ++ z :: l.drop (k + 2)).length = l.length - 1 := by
    rw [List.length_append, List.length_take, List.length_cons, List.length_drop]; omega
  rw [hmg]
  refine ⟨⟨h.act, by rw [hlen]; have := h.len; omega, ckWalk_append.2 ⟨w1, ckWalk_iff.2 ⟨ckFit_iff.2 ⟨?_, fun u hu => ?_, fun u hu => ?_⟩, by rw [hbz]; exact w6⟩⟩, fun a ha => by rw [hbl]; exact h.back a ha, fun a ha => ?_⟩, hlen, hk1, ?_⟩
  · refine ckStep_of (by omega) ?_ (asc_ck hza (fun u hu => by have := hzk u hu; omega) hzk) (by rw [hz]; exact hsy.2.2.2)
    exact diff_len hza.diff hzk
  · rcases (hzm u).1 hu with hu | hu
    · exact x2 u hu
    · exact y2 u hu
  · rcases (hzm u).1 hu with hu | hu
    · exact x3 u hu
    · rw [← y3 u hu, beh_not]
      exact fun v hv => hne v hv u hu
  · obtain ⟨s, hs, hh⟩ := (movedIn_iff a l).1 (h.moved a ha)
    rw [hsplit] at hs
    rcases List.mem_append.1 hs with hs | hs
    · exact (movedIn_iff a _).2 ⟨s, List.mem_append.2 (.inl hs), hh⟩
    · rcases List.mem_cons.1 hs with rfl | hs
      · obtain ⟨u, hu, e⟩ := (movesIn_iff a _).1 hh
        exact (movedIn_iff a _).2 ⟨z, by simp, (movesIn_iff a z).2 ⟨u, (hzm u).2 (.inl hu), e⟩⟩
      · rcases List.mem_cons.1 hs with rfl | hs
        · obtain ⟨u, hu, e⟩ := (movesIn_iff a _).1 hh
          exact (movedIn_iff a _).2 ⟨z, by simp, (movesIn_iff a z).2 ⟨u, (hzm u).2 (.inr hu), e⟩⟩
        · exact (movedIn_iff a _).2 ⟨s, List.mem_append.2 (.inr (List.mem_cons_of_mem _ hs)), hh⟩
  · have e : wordL l = wordL (l.take k) ++ ((x.1 ++ y.1) ++ wordL (l.drop (k + 2))) := by
      conv => lhs; rw [hsplit]
      unfold wordL
      rw [List.flatMap_append, List.flatMap_cons, List.flatMap_cons, List.append_assoc]
    rw [e]
    exact accL_append (accL_word _) (accL_cons (by rw [hzl, List.length_append]) (fun u hu => List.mem_append.2 ((hzm u).1 hu)) (accL_word _))
end Go.Proofs.YtdolibeceijnnaaDoor
namespace Go.Proofs.YtdolibeceijnnaaDoor
open Go.RowKit
end Go.Proofs.YtdolibeceijnnaaDoor
namespace Go.Proofs.YtdolibeceijnnaaDoor
def okF (f : Nat → Stp) (i j : Nat) : Bool := (List.range j).all fun q => (List.range q).all fun p => decide (p < i) || apart (f p) (f q)
theorem okF_iff {f : Nat → Stp} {i j : Nat} : okF f i j = true ↔ ∀ p q, i ≤ p → p < q → q < j → apart (f p) (f q) = true := by
  unfold okF
  rw [List.all_eq_true]
  refine ⟨fun h p q h1 h2 h3 => ?_, fun h q hq => ?_⟩
  · have := h q (List.mem_range.2 h3)
    rw [List.all_eq_true] at this
    have := this p (List.mem_range.2 h2)
    rw [Bool.or_eq_true, decide_eq_true_eq] at this
    rcases this with h4 | h4
    · omega
    · exact h4
  · rw [List.all_eq_true]
    intro p hp
    rw [Bool.or_eq_true, decide_eq_true_eq]
    by_cases hi : p < i
    · exact .inl hi
    · exact .inr (h p q (by omega) (List.mem_range.1 hp) (List.mem_range.1 hq))
theorem okF_her (f : Nat → Stp) : Her (okF f) :=
  ⟨fun i => okF_iff.2 fun p q h1 h2 h3 => by omega, fun i j i' j' h1 h2 _ h => okF_iff.2 fun p q g1 g2 g3 => okF_iff.1 h p q (by omega) g2 (by omega)⟩
theorem okF_shift {f g : Nat → Stp} {t : Nat} (h : ∀ p, g p = f (p + t)) (i j : Nat) : okF g i j = okF f (i + t) (j + t) := by
  refine bool_iff ?_
  rw [okF_iff, okF_iff]
  refine ⟨fun e p q h1 h2 h3 => ?_, fun e p q h1 h2 h3 => ?_⟩
  · have := e (p - t) (q - t) (by omega) (by omega) (by omega)
    rw [h, h, show p - t + t = p by omega, show q - t + t = q by omega] at this
    exact this
  · rw [h, h]; exact e _ _ (by omega) (by omega) (by omega)
theorem okF_congr {f g : Nat → Stp} {i j : Nat} (h : ∀ p q, p < j → q < j → apart (g p) (g q) = apart (f p) (f q)) : okF g i j = okF f i j := by
  refine bool_iff ?_
  rw [okF_iff, okF_iff]
  refine ⟨fun e p q h1 h2 h3 => ?_, fun e p q h1 h2 h3 => ?_⟩
  · rw [← h p q (by omega) h3]; exact e p q h1 h2 h3
  · rw [h p q (by omega) h3]; exact e p q h1 h2 h3
theorem apart_iff {a b : Stp} : apart a b = true ↔ ∀ y ∈ a.1, ∀ z ∈ b.1, z.1 ≠ y.1 := by
  unfold apart
  rw [List.all_eq_true]
  refine ⟨fun h y hy z hz e => ?_, fun h y hy => ?_⟩
  · have := h y hy
    rw [Bool.not_eq_true'] at this
    rw [(movesIn_iff _ _).2 ⟨z, hz, e⟩] at this
    cases this
  · rw [Bool.not_eq_true']
    cases hm : movesIn y.1 b
    · rfl
    · obtain ⟨z, hz, e⟩ := (movesIn_iff _ _).1 hm
      exact absurd e (h y hy z hz)
def cyc (l : List Stp) (p : Nat) : Stp := l.getD (p % l.length) stp0
def lin (l : List Stp) (p : Nat) : Stp := l.getD p stp0
theorem cyc_lin {l : List Stp} {p : Nat} (h : p < l.length) : cyc l p = lin l p := by unfold cyc lin; rw [Nat.mod_eq_of_lt h]
theorem cyc_per (l : List Stp) : Per (okF (cyc l)) l.length := fun i j => (okF_shift (fun p => by unfold cyc; rw [Nat.add_mod_right]) i j).symm
theorem Greedy.congr {ok ok' : Nat → Nat → Bool} {a b k n : Nat} (h : Greedy ok a b k) (hb : b ≤ n) (e : ∀ i j, i ≤ n → j ≤ n → ok i j = ok' i j) : Greedy ok' a b k := by
  induction h with
  | nil => exact .nil _
  | cons h1 h2 h3 h4 ih =>
    rename_i a c b k
    have hcb := h4.div.le
    refine .cons h1 (by rw [← e _ _ (by omega) (by omega)]; exact h2) ?_ (ih hb)
    rcases h3 with h3 | ⟨h3, h5⟩
    · exact .inl h3
    · exact .inr ⟨h3, by rw [← e _ _ (by omega) (by omega)]; exact h5⟩
theorem Greedy.up {ok ok' : Nat → Nat → Bool} {t a b k : Nat} (e : ∀ i j, ok' i j = ok (i + t) (j + t)) (h : Greedy ok' a b k) : Greedy ok (a + t) (b + t) k := by
  induction h with
  | nil => exact .nil _
  | cons h1 h2 h3 _ ih =>
    refine .cons (by omega) (by rw [← e]; exact h2) ?_ ih
    rcases h3 with h3 | ⟨h3, h5⟩
    · exact .inl (by omega)
    · exact .inr ⟨by omega, by rw [e] at h5; rw [← h5]; congr 1; omega⟩
def grpN (l : List Stp) : Nat := (longS (okF (cyc l)) l.length 0).length
theorem grp_greedy {l : List Stp} (h : 0 < l.length) : Greedy (okF (lin l)) 0 l.length (grpN l) := by
  have := long_greedy (okF_her (cyc l)) (n := l.length) (b := 0) h
  rw [Nat.zero_add] at this
  exact this.congr (n := l.length) (Nat.le_refl _) fun i j hi hj => okF_congr fun p q hp hq => by rw [cyc_lin (by omega), cyc_lin (by omega)]
end Go.Proofs.YtdolibeceijnnaaDoor
namespace Go.Proofs.YtdolibeceijnnaaDoor
open Go.RowKit
def mskF (f : Nat → Stp) (i : Nat) : Nat → Nat
  | 0 => 0
  | k + 1 => mskF f i k ||| mskK (f (i + k)).1
theorem mskF_bit (f : Nat → Stp) (i b : Nat) : ∀ k, (mskF f i k).testBit b = true ↔ ∃ t, t < k ∧ ∃ y ∈ (f (i + t)).1, y.1.toNat = b := by
  intro k
  induction k with
  | zero => unfold mskF; simp
  | succ k ih =>
    unfold mskF
    rw [Nat.testBit_or, Bool.or_eq_true, ih, msk_bit, List.any_eq_true]
    constructor
    · rintro (⟨t, h1, h2⟩ | ⟨y, h1, h2⟩)
      · exact ⟨t, by omega, h2⟩
      · exact ⟨k, by omega, y, h1, of_decide_eq_true h2⟩
    · rintro ⟨t, h1, y, h2, h3⟩
      by_cases ht : t = k
      · subst ht; exact .inr ⟨y, h2, decide_eq_true h3⟩
      · exact .inl ⟨t, by omega, y, h2, h3⟩
def RngF (f : Nat → Stp) : Prop := ∀ p, ∀ y ∈ (f p).1, 0 ≤ y.1 ∧ y.1 < 6
theorem mskF_lt {f : Nat → Stp} (h : RngF f) (i : Nat) : ∀ k, mskF f i k < 64 := by
  intro k
  induction k with
  | zero => unfold mskF; omega
  | succ k ih =>
    unfold mskF
    exact Nat.or_lt_two_pow (n := 6) ih (msk_lt (h _))
theorem and_zero (a b : Nat) : a &&& b = 0 ↔ ∀ i, a.testBit i = true → b.testBit i = false := by
  constructor
  · intro h i hi
    have := Nat.testBit_and a b i
    rw [h, Nat.zero_testBit, hi, Bool.true_and] at this
    exact this.symm
  · intro h
    refine Nat.eq_of_testBit_eq fun i => ?_
    rw [Nat.testBit_and, Nat.zero_testBit]
    cases hx : a.testBit i
    · rfl
    · rw [h i hx]; rfl
theorem once_step {f : Nat → Stp} (hr : RngF f) {i k : Nat} (h : okF f i (i + k) = true) : (mskF f i k &&& mskK (f (i + k)).1 = 0) ↔ okF f i (i + (k + 1)) = true := by
  rw [okF_iff] at h ⊢
  rw [and_zero]
  constructor
  · intro e p q h1 h2 h3
    by_cases hq : q = i + k
    · subst hq
      rw [apart_iff]
      intro y hy z hz hyz
      have h4 := e y.1.toNat ((mskF_bit f i _ k).2 ⟨p - i, by omega, y, by rw [show i + (p - i) = p by omega]; exact hy, rfl⟩)
      rw [msk_bit, List.any_eq_false] at h4
      exact h4 z hz (by simp [hyz])
    · exact h p q h1 h2 (by omega)
  · intro e b hb
    obtain ⟨t, ht, y, hy, hyb⟩ := (mskF_bit f i b k).1 hb
    rw [msk_bit, List.any_eq_false]
    intro z hz hzb
    have hzb := of_decide_eq_true hzb
    have h4 := apart_iff.1 (e (i + t) (i + k) (by omega) (by omega) (by omega)) y hy z hz
    have := hr _ y hy
    have := hr _ z hz
    omega
theorem rng_cyc {l : List Stp} (h : ∀ x ∈ l, ∀ y ∈ x.1, 0 ≤ y.1 ∧ y.1 < 6) : RngF (cyc l) := fun p y hy => by
  unfold cyc at hy
  by_cases hp : p % l.length < l.length
  · exact h _ (getD_inn hp) y hy
  · rw [List.getD_eq_getElem?_getD, List.getElem?_eq_none (by omega)] at hy
    simp [stp0] at hy
structure SeqG (w : World) (a : Option Addr) (l : List Stp) : Prop where
  cells : CellsP w a l
  rng : ∀ x ∈ l, ∀ y ∈ x.1, 0 ≤ y.1 ∧ y.1 < 6
  pos : 0 < l.length
  len : l.length ≤ 64
  bits : GBits w
theorem SeqG.ext {w w' : World} {a : Option Addr} {l : List Stp} (h : SeqG w a l) (e : Ext w w') : SeqG w' a l := ⟨h.cells.ext e, h.rng, h.pos, h.len, h.bits.ext e⟩
set_option maxHeartbeats 8000000 in
set_option maxRecDepth 100000 in
theorem once_any (n : Int) (l : List Stp) (a : Option Addr) (cap : Nat) (i c : Nat) (w : World) (hi : i ≤ 1000) (hcn : c ≤ 1000) (h : SeqG w a l) :
    Calls Tryd.prog 40 #[.agg #[.int .i64 n, .slice a l.length cap], .int .i64 i, .int .i64 c] w fun r w' => (∃ m : Int, r = .returned (.tuple #[.int .u64 m, .bool (okF (cyc l) i (i + c))])) ∧ Ext w w' := by
  have HH := Lib.hid h
  have hl0 := h.pos
  have hl := h.len
  have HR := Lib.hid (rng_cyc h.rng)
  clear h
  go_enter Tryd.func40, Tryd.ntmps40
  go_wp2_with fail
  have E1 : Ext w (w.alloc (.cells #[.int .i64 n, .slice a l.length cap] 24)) := extA
  have c1 : ((w.alloc (.cells #[.int .i64 n, .slice a l.length cap] 24))).cell? ⟨w.heap.size, 1, none⟩ = some (.slice a l.length cap) := by go_simp
  obtain ⟨bs, hbs⟩ : ∃ bs, bs = w.heap.size := ⟨_, rfl⟩
  rw [← hbs] at c1 ⊢
  clear hbs
  generalize (w.alloc (.cells #[.int .i64 n, .slice a l.length cap] 24)) = W at E1 c1 ⊢
  replace HH := Lib.hid (HH.out.ext E1)
  go_wp2
  go_loopw [12, 8] (fun x v wr => ∃ k : Nat, k ≤ c ∧ x = .int .i64 k ∧ v = .int .u64 ((mskF (cyc l) i k : Nat) : Int) ∧ Hid (okF (cyc l) i (i + k) = true) ∧ Ext W wr) (fun x _ _ => c - (intOf x).toNat)
  case atStart => exact ⟨0, Nat.zero_le _, rfl, rfl, okF_iff.2 fun p q h1 h2 h3 => by omega, Ext.refl _⟩
  case round =>
    obtain ⟨k, hk, rfl, rfl, hok, he⟩ := hrel
    have d1 := he.cell c1
    by_cases hlt : k < c
    · obtain ⟨r, hr⟩ : ∃ r, r = (i + k) % l.length := ⟨_, rfl⟩
      have hrl : r < l.length := by rw [hr]; exact Nat.mod_lt _ hl0
      obtain ⟨b, off, v, ha, e1, e2, e3⟩ := HH.out.cells.ext he r hrl
      subst ha
      obtain ⟨sa, sc, rfl, hsc, hsm⟩ := e2
      have hmod : ((i : Int) + (k : Int)).tmod (l.length : Int) = (r : Int) := by
        rw [Int.tmod_eq_emod_of_nonneg (by omega), hr]; rfl
      have hcy : cyc l (i + k) = l.getD r stp0 := by unfold cyc; rw [hr]
      have hst := once_step HR.out hok.out
      rw [hcy] at hst
      have hrg := HR.out (i + k)
      rw [hcy] at hrg
      have hml := msk_lt hrg
      have hfl := mskF_lt HR.out i k
      have hsucc : mskF (cyc l) i (k + 1) = mskF (cyc l) i k ||| mskK (l.getD r stp0).1 := by rw [← hcy]; rfl
      have HMV := Lib.hid (fun W' hG hC => moving_any (l.getD r stp0).1 (l.getD r stp0).2 sa sc W' hsm hrg hG hC)
      have HX := Lib.hid hsc
      clear hcy hr hrg
      generalize l.getD r stp0 = x at e1 e3 HMV HX hst hml hsucc hsm
      obtain ⟨st, wt⟩ := x
      dsimp only at e1 e3 HMV HX hst hml hsucc hsm
      have u1 : IntKind.i64.wrap ((i : Int) + (k : Int)) = (i : Int) + (k : Int) := IntWalk.i64_in _ (by omega)
      have u2 : IntKind.i64.wrap (r : Int) = (r : Int) := IntWalk.i64_in _ (by omega)
      have u3 : ((l.length : Int) == 0) = false := beq_eq_false_iff_ne.2 (by omega)
      have u4 : ¬ (l = []) := fun h => by rw [h] at hl0; simp at hl0
      have HA := bits_and_u64_nat (mskF (cyc l) i k) (mskK st) (by omega) (by omega)
      have HO := bits_or_u64_nat (mskF (cyc l) i k) (mskK st) (by omega) (by omega)
      rw [← hsucc] at HO
      have HST := Lib.hid hst
      have z1 := cell_lt d1
      have z2 := cell_lt e1
      dsimp only at z1 z2
      clear hsucc hml hfl hst hsm
      obtain ⟨m2, hm2⟩ : ∃ m, m = mskF (cyc l) i (k + 1) := ⟨_, rfl⟩
      rw [← hm2] at HO
      have HM2 := Lib.hid hm2
      clear hm2
      generalize mskF (cyc l) i k = m1 at HA HO HST ⊢
      generalize mskK st = ms at HA HO HST HMV ⊢
      go_wp2
      go_region_held3 (fun w' => Sees wr w') ((repeat (first | exact Sees.refl _ | assumption | apply Sees.drew | apply Sees.alloc | (refine Sees.ext ?_ (by assumption))))) (first | (go_at_call 46; refine (HMV.out _ (HH.out.bits.ext (he.trans (by exact (show Sees wr _ by assumption).2.2))) (HX.out.ext (by exact (show Sees wr _ by assumption).2.2))).mono ?_; rintro e w' ⟨rfl, hE⟩))
      have F := he.trans (show Sees wr _ by assumption).2.2
      by_cases hz : m1 &&& ms = 0
      · have HZ : Hid (okF (cyc l) i (i + (k + 1)) = true) := HST.out.1 hz
        have hz2 : (((m1 &&& ms : Nat) : Int) != 0) = false := by rw [hz]; rfl
        clear HST hz
        go_wp2
        refine ⟨⟨k + 1, by omega, by go_num, by rw [HM2.out], HZ, F⟩, by simp [intOf]; omega⟩
      · have hz2 : (((m1 &&& ms : Nat) : Int) != 0) = true := by rw [bne_iff_ne]; omega
        have hno : okF (cyc l) i (i + c) = false := by
          cases hx : okF (cyc l) i (i + c)
          · rfl
          · exact absurd (HST.out.2 ((okF_her _).part i (i + c) i (i + (k + 1)) (Nat.le_refl _) (by omega) (by omega) hx)) hz
        have HN := Lib.hid hno
        clear HST hz hno
        go_wp2
        go_ret2
        exact ⟨⟨(m1 : Int), by rw [HN.out]; rfl⟩, E1.trans F⟩
    · have : k = c := by omega
      subst this
      go_wp2
      go_ret2
      exact ⟨⟨((mskF (cyc l) i k : Nat) : Int), by rw [hok.out]; rfl⟩, E1.trans he⟩
end Go.Proofs.YtdolibeceijnnaaDoor
namespace Go.Proofs.YtdolibeceijnnaaDoor
open Go.RowKit
def intsN (l : List Nat) : List Int := l.map fun (n : Nat) => (n : Int)
theorem intsN_len (l : List Nat) : (intsN l).length = l.length := List.length_map ..
theorem intsN_get (l : List Nat) (k : Nat) : (intsN l).getD k 0 = ((l.getD k 0 : Nat) : Int) := by
  unfold intsN
  rw [List.getD_eq_getElem?_getD, List.getD_eq_getElem?_getD, List.getElem?_map]
  cases l[k]? <;> rfl
theorem ownsI_one (w : World) (x : Int) : OwnsI (w.alloc (.cells #[.int .i64 x] 3)) (.slice (some ⟨w.heap.size, 0, none⟩) 1 1) [x] :=
  ⟨by simp, .inr ⟨w.heap.size, 1, #[.int .i64 x], rfl, Nat.zero_le _, heap_alloc_new w _, Nat.le_refl _, by decide, rfl, rfl⟩⟩
def OwnNatPost (l : List Nat) (w : World) (e : Ending) (w' : World) : Prop := ∃ v, e = .returned v ∧ OwnsI w' v (intsN l) ∧ (∀ b, v.ownBlock = some b → w.heap.size ≤ b) ∧ Ext w w'
theorem lng_succ_yes {ok : Nat → Nat → Bool} {b n k last : Nat} (hk : k < n) (h : ok last (b + k + 1) = true) : lngS ok b (n - k) k last = lngS ok b (n - (k + 1)) (k + 1) last := by
  rw [show n - k = n - (k + 1) + 1 by omega]
  conv => lhs; unfold lngS
  rw [if_pos h]
theorem lng_succ_no {ok : Nat → Nat → Bool} {b n k last : Nat} (hk : k < n) (h : ok last (b + k + 1) = false) : lngS ok b (n - k) k last = (b + k) :: lngS ok b (n - (k + 1)) (k + 1) (b + k) := by
  rw [show n - k = n - (k + 1) + 1 by omega]
  conv => lhs; unfold lngS
  rw [if_neg (by simp [h])]
set_option maxHeartbeats 8000000 in
set_option maxRecDepth 100000 in
theorem longest_any (n : Int) (l : List Stp) (a : Option Addr) (cap : Nat) (b : Nat) (w : World) (hb : b ≤ 64) (h : SeqG w a l) :
    Calls Tryd.prog 36 #[.agg #[.int .i64 n, .slice a l.length cap], .int .i64 b] w (OwnNatPost (longS (okF (cyc l)) l.length b) w) := by
  have HH := Lib.hid h
  have hl0 := h.pos
  have hl := h.len
  clear h
  obtain ⟨i0, hi, hi0, hi1, hi2⟩ := info_parts infoInt
  go_enter Tryd.func36, Tryd.ntmps36
  go_wp2_with fail
  have E0 : Ext w (w.alloc (.cells #[.int .i64 n, .slice a l.length cap] 24)) := extA
  have E1 : Ext (w.alloc (.cells #[.int .i64 n, .slice a l.length cap] 24)) ((w.alloc (.cells #[.int .i64 n, .slice a l.length cap] 24)).alloc (.cells #[.int .i64 (b : Int)] 3)) := extA
  have c0 : ((w.alloc (.cells #[.int .i64 n, .slice a l.length cap] 24))).cell? ⟨w.heap.size, 0, none⟩ = some (.int .i64 n) := by go_simp
  have c1 : ((w.alloc (.cells #[.int .i64 n, .slice a l.length cap] 24))).cell? ⟨w.heap.size, 1, none⟩ = some (.slice a l.length cap) := by go_simp
  have hvs : ((w.alloc (.cells #[.int .i64 n, .slice a l.length cap] 24))).heap.size = w.heap.size + 1 := Array.size_push _
  have O0 : Hid (OwnsI ((w.alloc (.cells #[.int .i64 n, .slice a l.length cap] 24)).alloc (.cells #[.int .i64 (b : Int)] 3)) (.slice (some ⟨w.heap.size + 1, 0, none⟩) 1 1) [(b : Int)]) := by
    have h9 := ownsI_one (w.alloc (.cells #[.int .i64 n, .slice a l.length cap] 24)) (b : Int)
    rw [hvs] at h9
    exact h9
  replace HH := Lib.hid (HH.out.ext E0)
  generalize ((w.alloc (.cells #[.int .i64 n, .slice a l.length cap] 24)).alloc (.cells #[.int .i64 (b : Int)] 3)) = W at E1 O0 ⊢
  generalize (w.alloc (.cells #[.int .i64 n, .slice a l.length cap] 24)) = V at E0 E1 c0 c1 HH hvs
  obtain ⟨bs, hbs⟩ : ∃ bs, bs = w.heap.size := ⟨_, rfl⟩
  rw [← hbs] at c0 c1 O0 hvs ⊢
  have HVS := Lib.hid hvs
  clear hbs hvs
  go_wp2
  go_loopw [7, 5, 6] (fun x v z wr => ∃ (k last : Nat) (pre : List Nat), k ≤ l.length ∧ last ≤ b + k ∧ x = .int .i64 k ∧ (∃ vv, v = vv ∧ Hid (OwnsI wr vv (intsN (pre ++ [last])) ∧ (∀ g, vv.ownBlock = some g → V.heap.size ≤ g) ∧ pre.length ≤ k ∧ pre ++ last :: lngS (okF (cyc l)) b (l.length - k) k last = longS (okF (cyc l)) l.length b)) ∧ z = .int .i64 ((b : Int) + (k : Int) - (last : Int)) ∧ Ext V wr) (fun x _ _ _ => l.length - (intOf x).toNat)
  case atStart => exact ⟨0, b, [], Nat.zero_le _, by omega, rfl, ⟨_, rfl, O0.out, fun g hg => by cases hg; have := HVS.out; exact Nat.le_of_eq this, Nat.le_refl _, rfl⟩, by simp, E1⟩
  case round =>
    obtain ⟨k, last, pre, hk, hlast, rfl, ⟨vv, hvv, hO⟩, rfl, he⟩ := hrel
    obtain rfl := hvv.symm
    have d0 := he.cell c0
    have d1 := he.cell c1
    by_cases hlt : k < l.length
    · obtain ⟨va, vc, hv, hvc, hvr⟩ := hO.out.1.reads
      have hplen : (intsN (pre ++ [last])).length = pre.length + 1 := by rw [intsN_len, List.length_append]; rfl
      have hp := hO.out.2.2.1
      obtain ⟨vb, vo, rfl, e1⟩ := hvc pre.length (by omega)
      rw [intsN_get, show (pre ++ [last]).getD pre.length 0 = last by simp] at e1
      obtain ⟨L, hL⟩ : ∃ L, L = pre.length + 1 := ⟨_, rfl⟩
      rw [hplen, ← hL] at hv
      obtain ⟨p, hp2⟩ : ∃ p, p = pre.length := ⟨_, rfl⟩
      have hpL : p < L := by omega
      have hL64 : L ≤ 65 := by omega
      have z0 := cell_lt d0
      have z1 := cell_lt e1
      dsimp only at z0 z1
      have HON := Lib.hid (fun W' hs => once_any n l a cap last (b + k + 1 - last) W' (by omega) (by omega) hs)
      rw [show last + (b + k + 1 - last) = b + k + 1 by omega] at HON
      have hcs : ((b + k + 1 - last : Nat) : Int) = (b : Int) + (k : Int) - (last : Int) + 1 := by omega
      rw [hcs] at HON
      have u1 : IntKind.i64.wrap ((b : Int) + (k : Int) - (last : Int) + 1) = (b : Int) + (k : Int) - (last : Int) + 1 := IntWalk.i64_in _ (by omega)
      have u2 : IntKind.i64.wrap ((L : Int) - 1) = (p : Int) := by rw [IntWalk.i64_in _ (by omega)]; omega
      rw [← hp2] at e1
      subst hv
      have HLP := Lib.hid (And.intro hL hp2)
      clear hvc hvr hplen hL hp2 hp
      have hcond : ∃ q, okF (cyc l) last (b + k + 1) = q := ⟨_, rfl⟩
      obtain ⟨q, hq⟩ := hcond
      rw [hq] at HON
      have HQ := Lib.hid hq
      clear hq hcs
      go_wp2
      go_region_held3 (fun w' => Sees wr w') ((repeat (first | exact Sees.refl _ | assumption | apply Sees.drew | apply Sees.alloc | (refine Sees.ext ?_ (by assumption))))) (first | (go_at_call 40; refine (HON.out _ (HH.out.ext (he.trans (by exact (show Sees wr _ by assumption).2.2)))).mono ?_; rintro e w' ⟨⟨m, rfl⟩, hE⟩))
      have F := (show Sees wr _ by assumption).2.2
      have O2 := Lib.hid (hO.out.1.ext F)
      have OB := Lib.hid hO.out.2.1
      have OE := Lib.hid hO.out.2.2
      clear hO
      have G := he.trans F
      generalize w' = w2 at G O2 ⊢
      cases q
      · have hnx := lng_succ_no (ok := okF (cyc l)) (b := b) hlt HQ.out
        have u3 : IntKind.i64.wrap ((b : Int) + (k : Int)) = ((b + k : Nat) : Int) := by rw [IntWalk.i64_in _ (by omega)]; omega
        have hsz2 := G.size
        have HNX := Lib.hid hnx
        clear hnx
        go_wp2_with (at_builtin; refine wpList_append1 _ rfl _ _ 27 rfl 3 i0 (.int .i64 0) 1 8 Tryd.underlying27 hi hi0 hi1 hi2 rfl (by decide) (.slice (some ⟨vb, vo, none⟩) L vc) (intsN (pre ++ [last])).length ((intsN (pre ++ [last])).map (Value.int .i64)) rfl ?ho ⟨w2.heap.size, 0, none⟩ 1 1 (by decide) [.int .i64 ((b + k : Nat) : Int)] rfl rfl ?hn ?c1 ?c2 ?c3 ?c4)
        case ho => exact O2.out.ext ((Ext.refl _).alloc _)
        case hn => exact cells_one _ _ _
        case c1 => intro u hu; simp at hu; subst hu; rfl
        case c2 => have := HLP.out; have := OE.out.1; rw [intsN_len, List.length_append, List.length_singleton]; unfold maxLen; omega
        case c3 => have := HLP.out; have := OE.out.1; rw [intsN_len, List.length_append, List.length_singleton]; omega
        case c4 =>
          intro v' w5 hown5 hend5
          have O5 : Hid (OwnsI w5 v' (intsN ((pre ++ [last]) ++ [b + k]))) := by
            show OwnsI _ _ _
            have h9 := ownsI_succ hown5
            unfold intsN at h9 ⊢
            rw [List.map_append]
            exact h9
          have B5 : Ext V w5 := (G.trans ((Ext.refl _).alloc _)).trans' (hend5.below (n := V.heap.size) (by simp; omega) OB.out) (Nat.le_refl _)
          have OB5 : Hid (∀ b, v'.ownBlock = some b → V.heap.size ≤ b) := hend5.ge (n := V.heap.size) (by simp; omega) OB.out
          clear hown5 hend5 O2 OB
          go_wp2
          refine ⟨⟨k + 1, b + k, pre ++ [last], by omega, by omega, by go_num, ⟨v', rfl, O5.out, OB5.out, by have := OE.out.1; rw [List.length_append, List.length_singleton]; omega, ?_⟩, by simp; omega, B5⟩, by simp [intOf]; omega⟩
          have h9 := OE.out.2
          rw [HNX.out] at h9
          rw [List.append_assoc]
          exact h9
      · have hnx := lng_succ_yes (ok := okF (cyc l)) (b := b) hlt HQ.out
        have HNX := Lib.hid hnx
        clear hnx
        go_wp2
        refine ⟨⟨k + 1, last, pre, by omega, by omega, by go_num, ⟨_, rfl, O2.out, OB.out, by have := OE.out.1; omega, ?_⟩, by simp; omega, G⟩, by simp [intOf]; omega⟩
        have h9 := OE.out.2
        rw [HNX.out] at h9
        exact h9
    · have hke : k = l.length := by omega
      subst hke
      have h9 := hO.out.2.2.2
      rw [Nat.sub_self] at h9
      have H9 := Lib.hid h9
      clear h9
      go_wp2
      go_ret
      have HVS2 := HVS.out
      have h0 := E0.size
      refine ⟨vv, rfl, ?_, fun g hg => Nat.le_trans h0 (hO.out.2.1 g hg), E0.trans he⟩
      have h8 := hO.out.1
      rw [show pre ++ [last] = longS (okF (cyc l)) l.length b from H9.out] at h8
      exact h8
end Go.Proofs.YtdolibeceijnnaaDoor
namespace Go.Proofs.YtdolibeceijnnaaDoor
open Go.RowKit
set_option maxHeartbeats 8000000 in
set_option maxRecDepth 100000 in
theorem needed_any (n : Int) (l : List Stp) (a : Option Addr) (cap : Nat) (x y : Nat) (w : World) (hxy : x ≤ y) (hy : y ≤ 200) (h : SeqG w a l) :
    Calls Tryd.prog 38 #[.agg #[.int .i64 n, .slice a l.length cap], .int .i64 x, .int .i64 y] w fun r w' => r = .returned (.int .i64 ((needS (okF (cyc l)) y (y - x) x : Nat) : Int)) ∧ Ext w w' := by
  have HH := Lib.hid h
  have HOK := Lib.hid (okF_her (cyc l))
  clear h
  generalize hokd : okF (cyc l) = ok at HOK
  have HD := Lib.hid hokd
  clear hokd
  go_enter Tryd.func38, Tryd.ntmps38
  go_wp2_with fail
  have E1 : Ext w (w.alloc (.cells #[.int .i64 n, .slice a l.length cap] 24)) := extA
  have c0 : ((w.alloc (.cells #[.int .i64 n, .slice a l.length cap] 24))).cell? ⟨w.heap.size, 0, none⟩ = some (.int .i64 n) := by go_simp
  have c1 : ((w.alloc (.cells #[.int .i64 n, .slice a l.length cap] 24))).cell? ⟨w.heap.size, 1, none⟩ = some (.slice a l.length cap) := by go_simp
  obtain ⟨bs, hbs⟩ : ∃ bs, bs = w.heap.size := ⟨_, rfl⟩
  rw [← hbs] at c0 c1 ⊢
  clear hbs
  replace HH := Lib.hid (HH.out.ext E1)
  generalize (w.alloc (.cells #[.int .i64 n, .slice a l.length cap] 24)) = W at E1 c0 c1 HH ⊢
  go_wp2
  go_loopw [1, 7] (fun f v wr => ∃ c k : Nat, x ≤ c ∧ c ≤ y ∧ k ≤ c ∧ f = .int .i64 c ∧ v = .int .i64 k ∧ Hid (∀ m, Greedy ok c y m → Greedy ok x y (k + m)) ∧ Ext W wr) (fun f _ _ => y - (intOf f).toNat)
  case atStart => exact ⟨x, 0, Nat.le_refl _, hxy, Nat.zero_le _, rfl, rfl, fun m hm => by rw [Nat.zero_add]; exact hm, Ext.refl _⟩
  case round =>
    obtain ⟨c, k, hxc, hcy, hkc, rfl, rfl, hg, he⟩ := hrel
    by_cases hlt : c < y
    · go_wp2
      go_loopw [8] (fun s w2 => ∃ e : Nat, 1 ≤ e ∧ c + e ≤ y ∧ s = .int .i64 e ∧ Hid (ok c (c + e) = true) ∧ Ext wr w2) (fun s _ => y - (c + (intOf s).toNat))
      case atStart => exact ⟨1, Nat.le_refl _, by omega, rfl, HOK.out.one c, Ext.refl _⟩
      case round =>
        obtain ⟨e, he1, hey, rfl, hoke, he2⟩ := hrel
        have F := he.trans he2
        have u1 : IntKind.i64.wrap ((c : Int) + (e : Int)) = ((c + e : Nat) : Int) := by rw [IntWalk.i64_in _ (by omega)]; omega
        by_cases hl2 : c + e < y
        · have d0 := F.cell c0
          have d1 := F.cell c1
          have u2 : IntKind.i64.wrap ((e : Int) + 1) = ((e + 1 : Nat) : Int) := by rw [IntWalk.i64_in _ (by omega)]; omega
          have HON := Lib.hid (fun W' hs => once_any n l a cap c (e + 1) W' (by omega) (by omega) hs)
          rw [HD.out] at HON
          obtain ⟨q, hq⟩ : ∃ q, ok c (c + (e + 1)) = q := ⟨_, rfl⟩
          rw [hq] at HON
          have HQ := Lib.hid hq
          clear hq
          go_wp2_with fail
          refine (HON.out _ (HH.out.ext F)).mono ?_
          rintro r w3 ⟨⟨m, rfl⟩, hE⟩
          have F3 := F.trans hE
          cases q
          · go_wp2
            have u3 : IntKind.i64.wrap ((k : Int) + 1) = ((k + 1 : Nat) : Int) := by rw [IntWalk.i64_in _ (by omega)]; omega
            refine ⟨⟨c + e, k + 1, by omega, hey, by omega, by first | rfl | exact congrArg _ (by first | exact u1 | omega), by first | rfl | exact congrArg _ (by first | exact u3 | omega), fun m2 hm2 => ?_, F3⟩, by simp [intOf]; omega⟩
            have := hg.out (m2 + 1) (.cons (by omega) hoke.out (.inr ⟨hl2, HQ.out⟩) hm2)
            rwa [show k + (m2 + 1) = k + 1 + m2 by omega] at this
          · go_wp2
            refine ⟨⟨e + 1, by omega, by omega, by first | rfl | exact congrArg _ (by first | exact u2 | omega), HQ.out, he2.trans hE⟩, by simp [intOf]; omega⟩
        · have hce : c + e = y := by omega
          have u3 : IntKind.i64.wrap ((k : Int) + 1) = ((k + 1 : Nat) : Int) := by rw [IntWalk.i64_in _ (by omega)]; omega
          go_wp2
          refine ⟨⟨c + e, k + 1, by omega, hey, by omega, by first | rfl | exact congrArg _ (by first | exact u1 | omega), by first | rfl | exact congrArg _ (by first | exact u3 | omega), fun m2 hm2 => ?_, F⟩, by simp [intOf]; omega⟩
          have := hg.out (m2 + 1) (.cons (by omega) hoke.out (.inl hce) hm2)
          rwa [show k + (m2 + 1) = k + 1 + m2 by omega] at this
    · have hce : c = y := by omega
      subst hce
      have h1 := hg.out 0 (.nil _)
      have h2 := (need_greedy HOK.out (c - x) x (Nat.le_refl _) hxy).same HOK.out h1
      have HN := Lib.hid h2
      clear h1 h2
      go_wp2
      go_ret
      refine ⟨?_, E1.trans he⟩
      rw [HN.out, Nat.add_zero]
      rfl
end Go.Proofs.YtdolibeceijnnaaDoor
namespace Go.Proofs.YtdolibeceijnnaaDoor
open Go.RowKit
set_option maxHeartbeats 2000000 in
set_option maxRecDepth 100000 in
theorem CloneI_any (l : List Int) (eb eo ec : Nat) (w : World) (hn : l.length ≤ 100) (h0 : 0 < l.length) (he : CellsI w (some ⟨eb, eo, none⟩) l) :
    Calls Tryd.prog 39 #[.slice (some ⟨eb, eo, none⟩) l.length ec] w fun e w' => ∃ v, e = .returned v ∧ OwnsI w' v l ∧ (∀ b, v.ownBlock = some b → w.heap.size ≤ b) ∧ Ext w w' := by
  have HE := Lib.hid he
  clear he
  obtain ⟨i0, hi, hi0, hi1, hi2⟩ := info_parts infoInt
  have heq : ∀ w' : World, (binOp .eql 27 (.slice (some ⟨eb, eo, none⟩) l.length ec) (.slice none 0 0)).run Tryd.prog w' = .ok (.bool false) w' := fun w' => Lib.run_eql_slice_nil (P := Tryd.prog) w' 27 3 (some ⟨eb, eo, none⟩) l.length ec 0 0 Tryd.underlying27
  go_enter Tryd.func39, Tryd.ntmps39
  have E1 : Ext w (w.alloc (.cells #[] 3)) := extA
  have hown : (w.alloc (.cells #[] 3)).ownsRow 0 3 1 (.slice (some ⟨w.heap.size, 0, none⟩) 0 0) 0 [] :=
    World.ownsRow_made (w := w) (base := 0) (e := 3) (size := 1) #[] 0 (Nat.zero_le _) (Nat.zero_le _) rfl
  have ez : (w.alloc (.cells #[] 3)).heap.size = w.heap.size + 1 := by simp
  go_wp2_with (at_builtin; refine wpList_append1 _ rfl _ _ 27 rfl 3 i0 (.int .i64 0) 1 8 Tryd.underlying27 hi hi0 hi1 hi2 rfl (by decide) (.slice (some ⟨w.heap.size, 0, none⟩) 0 0) 0 [] rfl hown ⟨eb, eo, none⟩ l.length ec h0 (l.map (Value.int .i64)) rfl ?c0 ?c1 ?c2 ?c3 ?c4 ?c5)
  case c0 => simp
  case c1 =>
    intro j u hu
    have hj : j < l.length := by have := (List.getElem?_eq_some_iff.1 hu).1; simpa using this
    obtain ⟨b, off, h1, h2⟩ := HE.out.ext E1 j hj
    cases h1
    rw [Addr.add_lit, h2]
    simp [hj] at hu
    simp [List.getD, hj, hu]
  case c2 => intro u hu; simp at hu; obtain ⟨x, _, rfl⟩ := hu; rfl
  case c3 => unfold maxLen; omega
  case c4 => omega
  case c5 =>
    intro v' w5 hown5 hend5
    have O5 : Hid (OwnsI w5 v' l) := by
      show OwnsI _ _ _
      unfold OwnsI
      simpa using hown5
    have F5 : Ext w w5 := E1.trans' (hend5.below (n := w.heap.size) (by rw [ez]; omega) (fun b hb => by cases hb; exact Nat.le_refl _)) (Nat.le_refl _)
    have G5 : Hid (∀ b, v'.ownBlock = some b → w.heap.size ≤ b) := hend5.ge (n := w.heap.size) (by rw [ez]; omega) (fun b hb => by cases hb; exact Nat.le_refl _)
    clear hown5 hend5 hown E1 ez
    go_wp2
    go_ret
    exact ⟨_, rfl, O5.out, G5.out, F5⟩
theorem run_appI (w : World) (v : Value) (N : List Int) (x : Int) (hO : OwnsI w v N) (hl : N.length ≤ 100) (a : Addr) (c : Nat) (hx : w.cell? a = some (.int .i64 x)) :
    ∃ v' w', (Builtin.append_ #[27, 27] 27 #[v, .slice (some a) 1 c]).run Tryd.prog w = .ok v' w' ∧ OwnsI w' v' (N ++ [x]) ∧ AppEnd w w' v v' ∧ (∀ C, v'.ownBlock = v.ownBlock → OwnsI C v' (N ++ [x]) → OwnsI C v N) := by
  obtain ⟨i, hi, hz, hsize, hby⟩ := info_parts infoInt
  have hnews : ∀ j u, ([.int .i64 x] : List Value)[j]? = some u → w.cell? (a.add j) = some u := fun j u hu => by
    cases j with
    | zero => simp at hu; subst hu; rw [← hx]; cases a; simp [Addr.add]
    | succ j => simp at hu
  have h1 : ∀ u ∈ ([.int .i64 x] : List Value), u.oneCell' = true := fun u hu => by simp at hu; subst hu; rfl
  obtain ⟨v', w', hr, h2, h3⟩ := run_append1 (P := Tryd.prog) w 27 27 3 i (.int .i64 0) 1 8 Tryd.underlying27 hi hz hsize hby rfl (by decide) v N.length _ hO a 1 c (by decide) [.int .i64 x] rfl hnews h1 (by unfold maxLen; omega) (by omega)
  refine ⟨v', w', hr, ownsI_succ h2, h3, fun C hb hC => ?_⟩
  rcases hO.2 with ⟨rfl, h0⟩ | ⟨g, cap, cur, rfl, hbg, hg, hnc, hcm, hcs, htake⟩
  · 
    have hN : N = [] := List.eq_nil_of_length_eq_zero h0
    subst hN
    exact OwnsI.nil C
  · by_cases hroom : N.length + 1 ≤ cap
    · have hfit : N.length * i.size + ([.int .i64 x] : List Value).length ≤ cur.size := by rw [hsize, hcs]; simp; omega
      have hq := run_append_room (P := Tryd.prog) w 27 27 3 i Tryd.underlying27 hi g N.length cap cur hg a 1 c [.int .i64 x] (by rw [hsize]; rfl) hnews h1 hroom hfit
      rw [hr] at hq
      injection hq with e1 e2
      subst e1
      obtain ⟨c1, c2⟩ := hC
      refine ⟨by simp, ?_⟩
      rcases c2 with ⟨hv, _⟩ | ⟨g', cap', cur', hv, hbg', hg', hnc', hcm', hcs', ht'⟩
      · cases hv
      · injection hv with q1 q2 q3
        subst q3
        injection q1 with q1
        injection q1 with q1
        subst q1
        refine .inr ⟨g, cap, cur', rfl, Nat.zero_le _, hg', hnc, hcm', hcs', ?_⟩
        have h9 : (cur'.toList.take (N.length + 1)).take N.length = ((N ++ [x]).map (Value.int .i64)).take N.length := by
          rw [← ht']
          simp
        rw [List.take_take, Nat.min_eq_left (Nat.le_succ _), List.map_append, List.take_left' (by simp)] at h9
        simpa using h9
    · exfalso
      rcases h3 with ⟨_, _, hgr⟩ | ⟨hb2, _⟩
      · have holds : ∀ j u, (N.map (Value.int .i64))[j]? = some u → w.cell? ((⟨g, 0, none⟩ : Addr).add j) = some u := World.ownsRow.cells hO (g := g) rfl
        have hq := run_append_grow (P := Tryd.prog) w 27 27 3 i (.int .i64 0) Tryd.underlying27 hi hz ⟨g, 0, none⟩ N.length cap (N.map (Value.int .i64)) (by rw [hsize]; simp) holds a 1 c [.int .i64 x] (by rw [hsize]; rfl) hnews (by omega) (by omega) (growslice_fits (by omega) (by rw [hby]; omega))
        rw [hr] at hq
        injection hq with e1 e2
        subst e1
        have hlt := rowLt hO (b := g) rfl
        simp [Value.ownBlock] at hb
        omega
      · rw [hb2] at hb
        have hlt := rowLt hO (b := g) rfl
        simp [Value.ownBlock] at hb
        omega
end Go.Proofs.YtdolibeceijnnaaDoor
namespace Go.Proofs.YtdolibeceijnnaaDoor
open Go.RowKit
def walkV (sb nb fb bb kb : Nat) : Value := .func (.func 37) #[] #[.pointer (some ⟨sb, 0, none⟩), .pointer (some ⟨nb, 0, none⟩), .pointer (some ⟨fb, 0, none⟩), .pointer (some ⟨bb, 0, none⟩), .pointer (some ⟨kb, 0, none⟩)]
structure EnvR (V : World) (n : Int) (l : List Stp) (a : Option Addr) (cap r sb nb fb bb kb : Nat) : Prop where
  s0 : V.cell? ⟨sb, 0, none⟩ = some (.int .i64 n)
  s1 : V.cell? ⟨sb, 1, none⟩ = some (.slice a l.length cap)
  n0 : V.cell? ⟨nb, 0, none⟩ = some (.int .i64 l.length)
  f0 : V.cell? ⟨fb, 0, none⟩ = some (.int .i64 r)
  seq : SeqG V a l
  top : V.heap.size ≤ bb
  kb : bb < kb
  r64 : r ≤ 64
structure StR (V w : World) (sb nb fb bb kb : Nat) : Prop where
  ext : Ext V w
  kk : w.cell? ⟨kb, 0, none⟩ = some (walkV sb nb fb bb kb)
  bc : ∃ u, w.cell? ⟨bb, 0, none⟩ = some u
  bf : w.frozen? ⟨bb, 0, none⟩ = false
theorem StR.below {V A B : World} {sb nb fb bb kb m : Nat} (h : StR V A sb nb fb bb kb) (hV : V.heap.size ≤ bb) (hb : bb < kb) (k : Below m A B) (hm : kb < m) : StR V B sb nb fb bb kb := by
  obtain ⟨u, hu⟩ := h.bc
  exact ⟨h.ext.trans' k (by omega), cellB k hm h.kk, ⟨u, cellB k (by show bb < m; omega) hu⟩, by
    rw [← h.bf]; exact World.frozen?_of_block (w := A) (a := ⟨bb, 0, none⟩) (Below.block k bb (by omega))⟩
theorem StR.put {V A : World} {sb nb fb bb kb : Nat} (h : StR V A sb nb fb bb kb) (hV : V.heap.size ≤ bb) (hb : bb < kb) (v : Value) : StR V (A.setCell ⟨bb, 0, none⟩ v) sb nb fb bb kb := by
  obtain ⟨u, hu⟩ := h.bc
  refine ⟨h.ext.set hV _, ?_, ⟨v, ?_⟩, by rw [World.frozen?_setCell]; exact h.bf⟩
  · rw [World.cell?_setCell_other _ _ _ _ (fun e => by simp only [Addr.mk.injEq] at e; omega)]; exact h.kk
  · rw [World.cell?_setCell_same _ _ _ hu]
def BestAt (w : World) (bb kb : Nat) (xs : List Nat) : Prop := ∃ v, w.cell? ⟨bb, 0, none⟩ = some v ∧ OwnsI w v (intsN xs) ∧ ∀ g, v.ownBlock = some g → kb < g
theorem BestAt.ext {A B : World} {bb kb : Nat} {xs : List Nat} (h : BestAt A bb kb xs) (k : Ext A B) : BestAt B bb kb xs := by
  obtain ⟨v, h1, h2, h3⟩ := h
  exact ⟨v, k.cell h1, h2.ext k, h3⟩
def WPost (V : World) (sb nb fb bb kb : Nat) (v : Value) (xs : List Nat) (R : Option (List Nat)) (w : World) (e : Ending) (w' : World) : Prop :=
  e = .returned (.bool R.isSome) ∧ StR V w' sb nb fb bb kb ∧ OwnsI w' v (intsN xs) ∧ (∀ ys, R = some ys → BestAt w' bb kb ys) ∧ Chg (fun g => g = bb ∨ v.ownBlock = some g) w w'
theorem wpost_none {V : World} {sb nb fb bb kb : Nat} {v : Value} {xs : List Nat} {R : Option (List Nat)} {w w' : World} (hR : R = none) (h1 : StR V w' sb nb fb bb kb) (h2 : OwnsI w' v (intsN xs)) (h3 : Chg (fun g => g = bb ∨ v.ownBlock = some g) w w') : WPost V sb nb fb bb kb v xs R w (.returned (.bool false)) w' :=
  ⟨by rw [hR]; rfl, h1, h2, fun ys hy => (by rw [hR] at hy; cases hy), h3⟩
theorem wpost_some {V : World} {sb nb fb bb kb : Nat} {v : Value} {xs ys : List Nat} {R : Option (List Nat)} {w w' : World} (hR : R = some ys) (h1 : StR V w' sb nb fb bb kb) (h2 : OwnsI w' v (intsN xs)) (hb : BestAt w' bb kb ys) (h3 : Chg (fun g => g = bb ∨ v.ownBlock = some g) w w') : WPost V sb nb fb bb kb v xs R w (.returned (.bool true)) w' :=
  ⟨by rw [hR]; rfl, h1, h2, fun zs hy => (by rw [hR] at hy; cases hy; exact hb), h3⟩
theorem chg_app {w A B C : World} {v v4 : Value} {bb : Nat} (h : Ext w A) (k : AppEnd A B v v4) (c : Chg (fun g => g = bb ∨ v4.ownBlock = some g) B C) : Chg (fun g => g = bb ∨ v.ownBlock = some g) w C := by
  obtain ⟨k1, k2, k3⟩ := k.chg
  refine ⟨Nat.le_trans h.size (Nat.le_trans k2 c.1), fun g hg hn => ?_⟩
  have hgA : g < A.heap.size := Nat.lt_of_lt_of_le hg h.size
  rw [c.2 g (Nat.lt_of_lt_of_le hgA k2) (fun e => ?_), k1 g hgA (fun e => hn (.inr e)), Below.block h g hg]
  rcases e with e | e
  · exact hn (.inl e)
  · rcases k3 g e with e | e
    · exact hn (.inr e)
    · omega
theorem own_back {A B C : World} {v v4 : Value} {N M : List Int} {bb : Nat} (hO : OwnsI A v N) (k : AppEnd A B v v4) (hb : ∀ g, v.ownBlock = some g → bb < g) (hold : v4.ownBlock = v.ownBlock → OwnsI C v4 M → OwnsI C v N) (h4 : OwnsI C v4 M) (c : Chg (fun g => g = bb ∨ v4.ownBlock = some g) B C) : OwnsI C v N := by
  by_cases he : v4.ownBlock = v.ownBlock
  · exact hold he h4
  · obtain ⟨k1, k2, k3⟩ := k.chg
    rcases k with ⟨h1, _, _⟩ | ⟨h1, hE⟩
    · exact absurd h1 he
    · refine rowSame (hO.ext hE) fun g hg => c.2 g (Nat.lt_of_lt_of_le (rowLt hO hg) hE.size) (fun e => ?_)
      have h2 := rowLt hO hg
      have h3 := hb g hg
      rcases e with e | e
      · omega
      · rw [h1] at e; cases e; omega
set_option maxHeartbeats 16000000 in
set_option maxRecDepth 100000 in
theorem walk_any {V : World} {n : Int} {l : List Stp} {a : Option Addr} {cap r sb nb fb bb kb : Nat} (hE : EnvR V n l a cap r sb nb fb bb kb) : ∀ (f : Nat) (xs : List Nat) (v : Value) (w : World),
    StR V w sb nb fb bb kb → OwnsI w v (intsN xs) → (∀ g, v.ownBlock = some g → kb < g) → 0 < xs.length → xs.length ≤ xs.getLastD 0 + 1 → xs.headD 0 ≤ xs.getLastD 0 → xs.getLastD 0 < l.length → l.length - xs.getLastD 0 ≤ f →
    Calls Tryd.prog 37 #[v, .pointer (some ⟨sb, 0, none⟩), .pointer (some ⟨nb, 0, none⟩), .pointer (some ⟨fb, 0, none⟩), .pointer (some ⟨bb, 0, none⟩), .pointer (some ⟨kb, 0, none⟩)] w
      (WPost V sb nb fb bb kb v xs (wlkS (okF (cyc l)) l.length r f xs) w) := by
  intro f
  induction f with
  | zero => intro xs v w _ _ _ _ _ _ h1 h2; omega
  | succ f ih =>
    intro xs v w hs ho hvb hx0 hxl hhd hlt hf
    have IH := Lib.hid ih
    have HE := Lib.hid hE
    have HS := Lib.hid hs
    have HO := Lib.hid ho
    have HVB := Lib.hid hvb
    obtain ⟨R, hR⟩ : ∃ R, R = wlkS (okF (cyc l)) l.length r (f + 1) xs := ⟨_, rfl⟩
    rw [← hR]
    have HOK := Lib.hid (okF_her (cyc l))
    generalize hokd : okF (cyc l) = ok at HOK hR
    have HD := Lib.hid hokd
    unfold wlkS at hR
    have HR := Lib.hid hR
    have hl64 := hE.seq.len
    have hl0 := hE.seq.pos
    clear ih hs ho hvb hR hokd
    obtain ⟨last, hla⟩ : ∃ last, last = xs.getLastD 0 := ⟨_, rfl⟩
    obtain ⟨hd, hhdd⟩ : ∃ hd, hd = xs.headD 0 := ⟨_, rfl⟩
    rw [← hla] at hlt hf hhd hxl HR
    rw [← hhdd] at hhd HR
    obtain ⟨i0, hi, hi0, hi1, hi2⟩ := info_parts infoInt
    obtain ⟨va, vc, hv, hvc, hvr⟩ := HO.out.reads
    rw [intsN_len] at hv
    obtain ⟨L, hL⟩ : ∃ L, L = xs.length := ⟨_, rfl⟩
    rw [← hL] at hv hx0 hxl HR
    obtain ⟨p, hp⟩ : ∃ p, p + 1 = L := ⟨L - 1, by omega⟩
    have hpL : p < L := by omega
    have hL64 : L ≤ 64 := by omega
    obtain ⟨vb, vo, hva, e1⟩ := hvc p (by rw [intsN_len]; omega)
    obtain ⟨_, _, hva2, e0⟩ := hvc 0 (by rw [intsN_len]; omega)
    rw [hva] at hva2
    cases hva2
    have hxe : xs.getD p 0 = last := by
      rw [hla, show p = xs.length - 1 by omega, List.getLastD_eq_getLast?, List.getLast?_eq_getElem?, List.getD_eq_getElem?_getD]
    have hxh : xs.getD 0 0 = hd := by rw [hhdd]; cases xs <;> rfl
    rw [intsN_get, hxe] at e1
    rw [intsN_get, hxh, Nat.add_zero] at e0
    have HV := Lib.hid hv
    have HLA := Lib.hid hla
    have HHD := Lib.hid hhdd
    have HL := Lib.hid hL
    subst hv
    subst hva
    clear hvc hvr hxe hxh hla hhdd hL
    have s0 := HS.out.ext.cell HE.out.s0
    have s1 := HS.out.ext.cell HE.out.s1
    have n0 := HS.out.ext.cell HE.out.n0
    have f0 := HS.out.ext.cell HE.out.f0
    have z0 := cell_lt s0
    have z1 := cell_lt n0
    have z2 := cell_lt f0
    have z3 := cell_lt e1
    dsimp only at z0 z1 z2 z3
    have u2 : IntKind.i64.wrap ((L : Int) - 1) = (p : Int) := by rw [IntWalk.i64_in _ (by omega)]; omega
    have u3 : IntKind.i64.wrap ((hd : Int) + (l.length : Int)) = ((hd + l.length : Nat) : Int) := by rw [IntWalk.i64_in _ (by omega)]; omega
    have HND := Lib.hid (fun W' hs => needed_any n l a cap last (hd + l.length) W' (by omega) (by omega) hs)
    rw [HD.out] at HND
    obtain ⟨N, hN⟩ : ∃ N, N = needS ok (hd + l.length) (hd + l.length - last) last := ⟨_, rfl⟩
    rw [← hN] at HND HR
    have hN2 : N ≤ 200 := by
      have h1 := need_greedy HOK.out (b := hd + l.length) (hd + l.length - last) last (Nat.le_refl _) (by omega)
      have h2 : ∀ {a b k : Nat}, Greedy ok a b k → k ≤ b - a := by
        intro a b k h
        induction h with
        | nil => omega
        | cons g1 g2 g3 g4 ih => have := g4.div.le; omega
      have := h2 h1
      omega
    clear hN
    have u4 : IntKind.i64.wrap ((p : Int) + (N : Int)) = ((p + N : Nat) : Int) := by rw [IntWalk.i64_in _ (by omega)]; omega
    go_enter Tryd.func37, Tryd.ntmps37
    go_wp2
    go_region_held3 (fun w' => Sees w w') ((repeat (first | exact Sees.refl _ | assumption | apply Sees.drew | apply Sees.alloc | (refine Sees.ext ?_ (by assumption))))) (first | (go_at_call 38; refine (HND.out _ (HE.out.seq.ext (HS.out.ext.trans (by exact (show Sees w _ by assumption).2.2)))).mono ?_; rintro e w' ⟨rfl, hE⟩))
    have F := (show Sees w _ by assumption).2.2
    generalize w' = w1 at F ⊢
    by_cases hrn : r < p + N
    · have HRN : Hid (R = none) := by show _ = _; rw [HR.out, if_pos (by omega)]
      go_wp2
      go_ret
      exact wpost_none HRN.out (HS.out.below HE.out.top HE.out.kb F (cell_lt HS.out.kk)) (HO.out.ext F) (Chg.ext F)
    have HR2 : Hid (R = if xs.length = r then some xs else tryS ok last (fun k => wlkS ok l.length r f (xs ++ [k])) (l.length - (last + 1)) (last + 1)) := by
      show _ = _
      rw [HR.out, if_neg (by omega), HL.out]
    clear HR
    have S1 : Hid (StR V w1 sb nb fb bb kb) := HS.out.below HE.out.top HE.out.kb F (cell_lt HS.out.kk)
    have O1 := Lib.hid (HO.out.ext F)
    have f0 := F.cell f0
    have n0 := F.cell n0
    have e1 := F.cell e1
    by_cases hLr : L = r
    · have HRS : Hid (R = some xs) := by show _ = _; rw [HR2.out, if_pos (by have := HL.out; omega)]
      subst hLr
      obtain ⟨u, hu⟩ := S1.out.bc
      have hbf := S1.out.bf
      have hcl := CloneI_any (intsN xs) vb vo vc w1 (by rw [intsN_len]; have := HL.out; omega) (by rw [intsN_len]; have := HL.out; omega)
      rw [intsN_len, ← HL.out] at hcl
      have HCL := Lib.hid hcl
      clear hcl
      obtain ⟨_, _, hq, hqc, _⟩ := O1.out.reads
      injection hq with q1 q2 q3
      subst q1
      have HQC := Lib.hid hqc
      have z4 := cell_lt hu
      clear hqc q2 q3
      go_wp2_with fail
      refine (HCL.out HQC.out).mono ?_
      rintro e w2 ⟨v2, rfl, hO2, hb2, hE2⟩
      have hu2 := hE2.cell hu
      have hbf2 := (Below.frozen (p := ⟨bb, 0, none⟩) hE2 (cell_lt hu)).trans hbf
      have z5 := cell_lt hu2
      dsimp only at z5
      have HO2 := Lib.hid hO2
      have HB2 := Lib.hid hb2
      obtain ⟨wa, wc, rfl, _, _⟩ := hO2.reads
      clear hO2 hb2 hu hbf
      go_wp2
      go_ret
      have S2 : StR V w2 sb nb fb bb kb := S1.out.below HE.out.top HE.out.kb hE2 (cell_lt S1.out.kk)
      have hc2 : Chg (fun g => g = bb) w2 (w2.setCell ⟨bb, 0, none⟩ (.slice wa (intsN xs).length wc)) := Chg.setCell (B := fun g => g = bb) ⟨bb, 0, none⟩ _ rfl
      have hkk := cell_lt S1.out.kk
      have hbk := HE.out.kb
      refine wpost_some HRS.out (S2.put HE.out.top HE.out.kb _) ?_ ⟨.slice wa (intsN xs).length wc, World.cell?_setCell_same _ _ _ hu2, ?_, ?_⟩ ?_
      · exact rowSame (O1.out.ext hE2) fun g hg => hc2.2 g (rowLt (O1.out.ext hE2) hg) (by have := HVB.out g hg; omega)
      · exact rowSame HO2.out fun g hg => hc2.2 g (rowLt HO2.out hg) (by have := HB2.out g hg; dsimp only at hkk; omega)
      · intro g hg; have := HB2.out g hg; dsimp only at hkk; omega
      · exact (Chg.ext (F.trans hE2)).trans (hc2.mono fun g hg => .inl hg)
    have HT : Hid (R = tryS ok last (fun k => wlkS ok l.length r f (xs ++ [k])) (l.length - (last + 1)) (last + 1)) := by
      show _ = _
      rw [HR2.out, if_neg (by have := HL.out; omega)]
    clear HR2
    obtain ⟨G, hG⟩ : ∃ G, G = fun k => wlkS ok l.length r f (xs ++ [k]) := ⟨_, rfl⟩
    rw [← hG] at HT
    have HG := Lib.hid hG
    clear hG
    have hne : ((L : Int) == (r : Int)) = false := beq_eq_false_iff_ne.2 (by omega)
    have u5 : IntKind.i64.wrap ((last : Int) + 1) = ((last + 1 : Nat) : Int) := by rw [IntWalk.i64_in _ (by omega)]; omega
    go_wp2
    go_loopw [9] (fun s wr => ∃ k : Nat, last + 1 ≤ k ∧ k ≤ l.length ∧ s = .int .i64 k ∧ Hid (R = tryS ok last G (l.length - k) k ∧ StR V wr sb nb fb bb kb ∧ OwnsI wr (.slice (some ⟨vb, vo, none⟩) L vc) (intsN xs) ∧ Chg (fun g => g = bb ∨ (Value.slice (some ⟨vb, vo, none⟩) L vc).ownBlock = some g) w wr)) (fun s _ => l.length - (intOf s).toNat)
    case atStart => exact ⟨last + 1, Nat.le_refl _, by omega, rfl, HT.out, S1.out, O1.out, Chg.ext F⟩
    case round =>
      clear s0 s1 n0 f0 e0 e1 z0 z1 z2 z3 u2 u3 u4 hne
      obtain ⟨k, hk1, hk2, rfl, hst⟩ := hrel
      have n0 := hst.out.2.1.ext.cell HE.out.n0
      by_cases hk : k < l.length
      · have s0 := hst.out.2.1.ext.cell HE.out.s0
        have s1 := hst.out.2.1.ext.cell HE.out.s1
        have HON := Lib.hid (fun W' hs => once_any n l a cap last (k - last) W' (by omega) (by omega) hs)
        rw [show last + (k - last) = k by omega, HD.out] at HON
        have u6 : IntKind.i64.wrap ((k : Int) - (last : Int)) = ((k - last : Nat) : Int) := by rw [IntWalk.i64_in _ (by omega)]; omega
        obtain ⟨q, hq⟩ : ∃ q, ok last k = q := ⟨_, rfl⟩
        rw [hq] at HON
        have HQ := Lib.hid hq
        clear hq
        go_wp2_with fail
        refine (HON.out _ (HE.out.seq.ext hst.out.2.1.ext)).mono ?_
        rintro e w2 ⟨⟨m, rfl⟩, hE2⟩
        have ST : Hid (R = tryS ok last G (l.length - k) k ∧ StR V w2 sb nb fb bb kb ∧ OwnsI w2 (.slice (some ⟨vb, vo, none⟩) L vc) (intsN xs) ∧ Chg (fun g => g = bb ∨ (Value.slice (some ⟨vb, vo, none⟩) L vc).ownBlock = some g) w w2) :=
          ⟨hst.out.1, hst.out.2.1.below HE.out.top HE.out.kb hE2 (cell_lt hst.out.2.1.kk), hst.out.2.2.1.ext hE2, hst.out.2.2.2.trans (Chg.ext hE2)⟩
        clear s0 s1 n0 hst hE2 HON
        cases q
        · have HRN : Hid (R = none) := by
            show _ = _
            rw [ST.out.1, show l.length - k = (l.length - k - 1) + 1 by omega]
            unfold tryS
            rw [if_neg (by rw [HQ.out]; simp)]
          go_wp2
          go_ret
          exact wpost_none HRN.out ST.out.2.1 ST.out.2.2.1 ST.out.2.2.2
        · have htry : R = match G k with | some x => some x | none => tryS ok last G (l.length - (k + 1)) (k + 1) := by
            rw [ST.out.1, show l.length - k = (l.length - (k + 1)) + 1 by omega]
            conv => lhs; unfold tryS
            rw [if_pos HQ.out]
            cases G k <;> rfl
          obtain ⟨R2, hR2⟩ : ∃ R2, R2 = G k := ⟨_, rfl⟩
          rw [← hR2] at htry
          have HTY := Lib.hid htry
          have HIH : Hid (∀ (v4 : Value) (w4 : World), StR V w4 sb nb fb bb kb → OwnsI w4 v4 (intsN (xs ++ [k])) → (∀ g, v4.ownBlock = some g → kb < g) → Calls Tryd.prog 37 #[v4, .pointer (some ⟨sb, 0, none⟩), .pointer (some ⟨nb, 0, none⟩), .pointer (some ⟨fb, 0, none⟩), .pointer (some ⟨bb, 0, none⟩), .pointer (some ⟨kb, 0, none⟩)] w4 (WPost V sb nb fb bb kb v4 (xs ++ [k]) R2 w4)) := by
            intro v4 w4 h1 h2 h3
            have hgl : (xs ++ [k]).getLastD 0 = k := by simp
            have hgh : (xs ++ [k]).headD 0 = hd := by
              rw [HHD.out]
              cases hxs : xs with
              | nil => have := HL.out; rw [hxs] at this; simp at this; omega
              | cons => rfl
            have := IH.out (xs ++ [k]) v4 w4 h1 h2 h3 (by simp) (by rw [hgl, List.length_append, List.length_singleton]; have := HL.out; omega) (by rw [hgl, hgh]; omega) (by rw [hgl]; exact hk) (by rw [hgl]; omega)
            rw [hR2, HG.out]
            rwa [HD.out] at this
          clear htry hR2
          go_wp2
          refine wp_region_heldE 5 (fun w' => w'.cell? ⟨kb, 0, none⟩ = some (walkV sb nb fb bb kb)) (by kernel_rfl) ?_
          have ED : Ext w2 w2.drew := extA
          have hS : w2.drew.cell? ⟨kb, 0, none⟩ = some (walkV sb nb fb bb kb) := ED.cell ST.out.2.1.kk
          have zk := cell_lt hS
          dsimp only at zk
          generalize w2.drew = W2 at ED hS zk ⊢
          (refine eTk 0 ?_)
          ((refine ePu 1 ?_); (refine ePu 2 ?_))
          have E3 : Ext W2 (W2.alloc (.cells #[.int .i64 (k : Int)] 3)) := extA
          (refine wpAnyE_one (i := 3) (o := ?_) ?_ (by kernel_rfl) (fun K hK => ?_); rotate_left; (focus ((simp only [List.getElem?_toArray, List.getElem?_cons_succ, List.getElem?_cons_zero]; exact rfl))); go_simp; refine hK.out _ _ ?_ (fun hHeld => ?_); rotate_left; clear hK K; (try simp only [Act.put, List.setIfInBounds_toArray, List.set_cons_zero, List.set_cons_succ]))
          rotate_left
          · exact E3.cell hS
          have hkk := cell_lt ST.out.2.1.kk
          dsimp only at hkk
          have hbk := HE.out.kb
          have EW : Ext w2 (W2.alloc (.cells #[.int .i64 (k : Int)] 3)) := ED.trans E3
          have OW := ST.out.2.2.1.ext EW
          have hcx : (W2.alloc (.cells #[.int .i64 (k : Int)] 3)).cell? ⟨W2.heap.size, 0, none⟩ = some (.int .i64 (k : Int)) := by go_simp
          obtain ⟨v4, w4, hr4, hO4, hend4, hold4⟩ := run_appI _ _ (intsN xs) (k : Int) OW (by rw [intsN_len]; have := HL.out; omega) ⟨W2.heap.size, 0, none⟩ 1 hcx
          have hO4' : OwnsI w4 v4 (intsN (xs ++ [k])) := by unfold intsN at hO4 ⊢; rw [List.map_append]; exact hO4
          have hesz := EW.size
          have B4 := hend4.below (n := kb + 1) (by omega) (fun g hg => HVB.out g hg)
          have hge4 := hend4.ge (n := kb + 1) (by omega) (fun g hg => HVB.out g hg)
          have S4 : StR V w4 sb nb fb bb kb := (ST.out.2.1.below HE.out.top HE.out.kb EW (cell_lt ST.out.2.1.kk)).below HE.out.top HE.out.kb B4 (Nat.lt_succ_self _)
          have HR4 := Lib.hid hr4
          have HO4 := Lib.hid hO4'
          have HW4 := Lib.hid (And.intro OW (And.intro hend4 hold4))
          have HS4 := Lib.hid S4
          have HGE := Lib.hid hge4
          have HEW := Lib.hid EW
          clear hr4 hO4 hO4' hend4 hold4 OW S4 hge4 B4 hcx hesz
          (refine wpAnyE_one (i := 4) (o := ?_) ?_ (by kernel_rfl) (fun K hK => ?_); rotate_left; (focus ((simp only [List.getElem?_toArray, List.getElem?_cons_succ, List.getElem?_cons_zero]; exact rfl))); refine step_append_run rfl _ _ 27 27 rfl (.slice (some ⟨vb, vo, none⟩) L vc) (.slice (some ⟨W2.heap.size, 0, none⟩) 1 1) rfl rfl _ _ HR4.out ?_; refine hK.out _ _ ?_ (fun hHeld => ?_); rotate_left; clear hK K; (try simp only [Act.put, List.setIfInBounds_toArray, List.set_cons_zero, List.set_cons_succ]))
          rotate_left
          · exact HS4.out.kk
          (refine wpAnyE_free (i := 5) (o := ?_) ?_ (by kernel_rfl) (by kernel_rfl) (fun K hK => ?_); rotate_left; (focus ((simp only [List.getElem?_toArray, List.getElem?_cons_succ, List.getElem?_cons_zero]; exact rfl))); go_simp; refine (HIH.out _ _ HS4.out HO4.out (fun g hg => HGE.out g hg)).mono ?_; rintro e w5 ⟨rfl, hs5, ho5, hb5, hc5⟩; go_wp2_with fail; refine hK.out _ _ ?_; clear hK K; (try simp only [Act.put, List.setIfInBounds_toArray, List.set_cons_zero, List.set_cons_succ]))
          refine wpAnyE_done (by kernel_rfl) ?_ _
          have S5 := Lib.hid hs5
          have OB := Lib.hid (own_back HW4.out.1 HW4.out.2.1 (bb := bb) (fun g hg => by have := HVB.out g hg; omega) (fun h1 h2 => HW4.out.2.2 w5 h1 (by have h3 := h2; unfold intsN at h3 ⊢; rw [List.map_append] at h3; exact h3)) ho5 hc5)
          have HB5 := Lib.hid hb5
          have HC5 := Lib.hid (ST.out.2.2.2.trans (chg_app HEW.out HW4.out.2.1 hc5))
          clear hs5 ho5 hb5 hc5
          cases R2 with
          | none =>
            go_wp2
            refine ⟨⟨k + 1, by omega, by omega, by go_num, HTY.out, S5.out, OB.out, HC5.out⟩, by simp [intOf]; omega⟩
          | some ys =>
            have HRS : Hid (R = some ys) := HTY
            go_wp2
            go_ret
            exact wpost_some HRS.out S5.out OB.out (HB5.out ys rfl) HC5.out
      · have HRN : Hid (R = none) := by
          show _ = _
          rw [hst.out.1, show l.length - k = 0 by omega]
          rfl
        go_wp2
        go_ret
        exact wpost_none HRN.out hst.out.2.1 hst.out.2.2.1 hst.out.2.2.2
end Go.Proofs.YtdolibeceijnnaaDoor
namespace Go.Proofs.YtdolibeceijnnaaDoor
open Go.RowKit
theorem seqG_of {w : World} {n : Int} {l : List Stp} {a : Option Addr} (hk : ckSeq (n, l) = 0) (hc : CellsP w a l) (hG : GBits w) : SeqG w a l := by
  have h := ckSeq_right hk
  refine ⟨hc, fun x hx y hy => ?_, h.len.1, h.len.2, hG⟩
  have h1 := (h.fine x hx).2 y hy
  have h2 := h.act
  unfold In at h1
  omega
def elseO (R S : Option (List Nat)) : Option (List Nat) := match R with
  | some x => some x
  | none => S
theorem first_succ (g : Nat → Option (List Nat)) (c k : Nat) : firstS g (c + 1) k = elseO (g k) (firstS g c (k + 1)) := by
  conv => lhs; unfold firstS
  cases g k <;> rfl
set_option maxHeartbeats 8000000 in
set_option maxRecDepth 100000 in
theorem Fewest_any (n : Int) (l : List Stp) (a : Option Addr) (cap : Nat) (w : World) (hk : ckSeq (n, l) = 0) (hG : GBits w) (hc : CellsP w a l) :
    Calls Tryd.prog 12 #[.agg #[.int .i64 n, .slice a l.length cap]] w (IntsPost (intsN (longS (okF (cyc l)) l.length 0)) 0 w) := by
  have HS := Lib.hid (seqG_of hk hc hG)
  have HCK := Lib.hid (fun W h => Check_any n l a cap W (by have := (ckSeq_right hk).len; unfold maxLen; omega) h)
  rw [hk] at HCK
  have HLN := Lib.hid (fun W h => longest_any n l a cap 0 W (by omega) h)
  clear hk hG hc
  generalize longS (okF (cyc l)) l.length 0 = L at HLN ⊢
  go_enter Tryd.func12, Tryd.ntmps12
  go_wp2_with fail
  have E1 : Ext w (w.alloc (.cells #[.int .i64 n, .slice a l.length cap] 24)) := extA
  have c0 : ((w.alloc (.cells #[.int .i64 n, .slice a l.length cap] 24))).cell? ⟨w.heap.size, 0, none⟩ = some (.int .i64 n) := by go_simp
  have c1 : ((w.alloc (.cells #[.int .i64 n, .slice a l.length cap] 24))).cell? ⟨w.heap.size, 1, none⟩ = some (.slice a l.length cap) := by go_simp
  obtain ⟨bs, hbs⟩ : ∃ bs, bs = w.heap.size := ⟨_, rfl⟩
  rw [← hbs] at c0 c1 ⊢
  clear hbs
  generalize (w.alloc (.cells #[.int .i64 n, .slice a l.length cap] 24)) = W at E1 c0 c1 ⊢
  refine (HCK.out _ (HS.out.ext E1).cells).mono ?_
  rintro e w1 ⟨rfl, hE⟩
  have F1 := E1.trans hE
  have c0 := hE.cell c0
  have c1 := hE.cell c1
  go_wp2_with fail
  refine (HLN.out _ (HS.out.ext F1)).mono ?_
  rintro e w2 ⟨v, rfl, hO, hb, hE2⟩
  obtain ⟨ra, rc, rfl, hrc, hrl⟩ := hO.reads
  go_wp2
  go_ret2
  exact ⟨ra, rc, rfl, hrc, hrl, F1.trans hE2⟩
set_option maxHeartbeats 16000000 in
set_option maxRecDepth 100000 in
theorem Ring_any (n : Int) (l : List Stp) (a : Option Addr) (cap : Nat) (w : World) (hk : ckSeq (n, l) = 0) (hG : GBits w) (hc : CellsP w a l) :
    Calls Tryd.prog 13 #[.agg #[.int .i64 n, .slice a l.length cap]] w (IntsPost (intsN (ringS (okF (cyc l)) l.length)) 0 w) := by
  have HS := Lib.hid (seqG_of hk hc hG)
  have HCK := Lib.hid (fun W h => Check_any n l a cap W (by have := (ckSeq_right hk).len; unfold maxLen; omega) h)
  rw [hk] at HCK
  have hl0 := HS.out.pos
  have hl64 := HS.out.len
  obtain ⟨RS, hRS⟩ : ∃ RS, RS = ringS (okF (cyc l)) l.length := ⟨_, rfl⟩
  rw [← hRS]
  have HRS := Lib.hid hRS
  clear hk hG hc hRS
  go_enter Tryd.func13, Tryd.ntmps13
  go_wp2_with fail
  have E1 : Ext w (w.alloc (.cells #[.int .i64 n, .slice a l.length cap] 24)) := extA
  have c0 : ((w.alloc (.cells #[.int .i64 n, .slice a l.length cap] 24))).cell? ⟨w.heap.size, 0, none⟩ = some (.int .i64 n) := by go_simp
  have c1 : ((w.alloc (.cells #[.int .i64 n, .slice a l.length cap] 24))).cell? ⟨w.heap.size, 1, none⟩ = some (.slice a l.length cap) := by go_simp
  obtain ⟨bs, hbs⟩ : ∃ bs, bs = w.heap.size := ⟨_, rfl⟩
  rw [← hbs] at c0 c1 ⊢
  clear hbs
  generalize (w.alloc (.cells #[.int .i64 n, .slice a l.length cap] 24)) = W at E1 c0 c1 ⊢
  refine (HCK.out _ (HS.out.ext E1).cells).mono ?_
  rintro e w1 ⟨rfl, hE⟩
  have F1 := E1.trans hE
  have c0 := hE.cell c0
  have c1 := hE.cell c1
  have z1 := cell_lt c1
  dsimp only at z1
  clear hE E1 HCK
  go_wp2
  have E2 : Ext w1 (w1.alloc (.cells #[.int .i64 l.length] 3)) := extA
  have E3 : Ext (w1.alloc (.cells #[.int .i64 l.length] 3)) ((w1.alloc (.cells #[.int .i64 l.length] 3)).alloc (.cells #[.int .i64 l.length] 3)) := extA
  have n0 : ((w1.alloc (.cells #[.int .i64 l.length] 3))).cell? ⟨w1.heap.size, 0, none⟩ = some (.int .i64 l.length) := by go_simp
  have f0 : (((w1.alloc (.cells #[.int .i64 l.length] 3)).alloc (.cells #[.int .i64 l.length] 3))).cell? ⟨w1.heap.size + 1, 0, none⟩ = some (.int .i64 l.length) := by go_simp
  have ff : (((w1.alloc (.cells #[.int .i64 l.length] 3)).alloc (.cells #[.int .i64 l.length] 3))).frozen? ⟨w1.heap.size + 1, 0, none⟩ = false := by go_simp
  have hva : ((w1.alloc (.cells #[.int .i64 l.length] 3))).heap.size = w1.heap.size + 1 := Array.size_push _
  obtain ⟨nb, hnb⟩ : ∃ nb, nb = w1.heap.size := ⟨_, rfl⟩
  obtain ⟨fb, hfb⟩ : ∃ fb, fb = nb + 1 := ⟨_, rfl⟩
  rw [← hnb, ← hfb] at hva f0 ff
  rw [← hnb] at n0
  rw [← hnb, ← hfb]
  generalize ((w1.alloc (.cells #[.int .i64 l.length] 3)).alloc (.cells #[.int .i64 l.length] 3)) = VB at E3 f0 ff ⊢
  generalize (w1.alloc (.cells #[.int .i64 l.length] 3)) = VA at E2 E3 n0 hva ⊢
  have F2 := F1.trans E2
  have s0 := E2.cell c0
  have s1 := E2.cell c1
  have HVA := Lib.hid (Nat.le_of_eq hva)
  have HS2 := Lib.hid (HS.out.ext F2)
  clear c0 c1 z1 hva E2 F1 hnb hfb
  go_loopw [21] (fun s wr => ∃ k m : Nat, k ≤ l.length ∧ s = .int .i64 k ∧ m ≤ 64 ∧ Hid (fewS (okF (cyc l)) l.length (l.length - k) k m = minS (okF (cyc l)) l.length) ∧ Ext VA wr ∧ wr.cell? ⟨fb, 0, none⟩ = some (.int .i64 m) ∧ wr.frozen? ⟨fb, 0, none⟩ = false) (fun s _ => l.length - (intOf s).toNat)
  case atStart => exact ⟨0, l.length, Nat.zero_le _, rfl, hl64, rfl, E3, f0, ff⟩
  case round =>
    clear f0 ff E3
    obtain ⟨k, m, hk, rfl, hm, hfw, he, f0, ff⟩ := hrel
    have d0 := he.cell s0
    have d1 := he.cell s1
    have zf := cell_lt f0
    have zs := cell_lt d0
    dsimp only at zf zs
    by_cases hlt : k < l.length
    · have hfw2 : fewS (okF (cyc l)) l.length (l.length - (k + 1)) (k + 1) (min m (longS (okF (cyc l)) l.length k).length) = minS (okF (cyc l)) l.length := by
        have h1 := hfw.out
        rw [show l.length - k = (l.length - (k + 1)) + 1 by omega] at h1
        exact h1
      have HLN := Lib.hid (fun W h => longest_any n l a cap k W (by omega) h)
      have hlen : (longS (okF (cyc l)) l.length k).length ≤ 64 := Nat.le_trans (long_len (okF_her _) hl0) hl64
      obtain ⟨L, hL⟩ : ∃ L, L = longS (okF (cyc l)) l.length k := ⟨_, rfl⟩
      rw [← hL] at HLN hfw2 hlen
      have HFW := Lib.hid hfw2
      clear hL hfw hfw2
      go_wp2
      refine wp_region_heldE 6 (fun w' => w'.cell? ⟨fb, 0, none⟩ = some (.int .i64 m) ∧ w'.frozen? ⟨fb, 0, none⟩ = false ∧ w'.cell? ⟨bs, 0, none⟩ = some (.int .i64 n) ∧ w'.cell? ⟨bs, 1, none⟩ = some (.slice a l.length cap)) (by kernel_rfl) ?_
      have ED : Ext wr wr.drew := extA
      have hS : wr.drew.cell? ⟨fb, 0, none⟩ = some (.int .i64 m) ∧ wr.drew.frozen? ⟨fb, 0, none⟩ = false ∧ wr.drew.cell? ⟨bs, 0, none⟩ = some (.int .i64 n) ∧ wr.drew.cell? ⟨bs, 1, none⟩ = some (.slice a l.length cap) := ⟨ED.cell f0, by rw [← ff]; rfl, ED.cell d0, ED.cell d1⟩
      have zf := cell_lt hS.1
      dsimp only at zf
      clear f0 ff d0 d1 zs
      generalize wr.drew = W2 at ED hS zf ⊢
      ((refine eTk 0 ?_); (refine eTk 1 ?_))
      (refine ePu 2 ?_)
      (refine wpAnyE_one (i := 3) (o := ?_) ?_ (by kernel_rfl) (fun K hK => ?_); rotate_left; (focus ((simp only [List.getElem?_toArray, List.getElem?_cons_succ, List.getElem?_cons_zero]; exact rfl))); go_simp; refine (HLN.out _ (HS2.out.ext (he.trans ED))).mono ?_; rintro e w3 ⟨v, rfl, hO, hvb, hE3⟩; obtain ⟨ra, rc, rfl, _, _⟩ := hO.reads; rw [intsN_len]; go_wp2_with fail; refine hK.out _ _ ?_ (fun hHeld => ?_); rotate_left; clear hK K; (try simp only [Act.put, List.setIfInBounds_toArray, List.set_cons_zero, List.set_cons_succ]))
      rotate_left
      · exact ⟨hE3.cell hS.1, (Below.frozen (p := ⟨fb, 0, none⟩) hE3 zf).trans hS.2.1, hE3.cell hS.2.2.1, hE3.cell hS.2.2.2⟩
      have F3 := he.trans (ED.trans hE3)
      ((refine ePu 4 ?_); (refine ePu 5 ?_))
      have hH : w3.cell? ⟨fb, 0, none⟩ = some (.int .i64 m) ∧ w3.frozen? ⟨fb, 0, none⟩ = false ∧ w3.cell? ⟨bs, 0, none⟩ = some (.int .i64 n) ∧ w3.cell? ⟨bs, 1, none⟩ = some (.slice a l.length cap) := by assumption
      have zf3 := cell_lt hH.1
      dsimp only at zf3
      (refine wpAnyE_free (i := 6) (o := ?_) ?_ (by kernel_rfl) (by kernel_rfl) (fun K hK => ?_); rotate_left; (focus ((simp only [List.getElem?_toArray, List.getElem?_cons_succ, List.getElem?_cons_zero]; exact rfl))); go_simp; refine hK.out _ _ ?_; clear hK K; (try simp only [Act.put, List.setIfInBounds_toArray, List.set_cons_zero, List.set_cons_succ]))
      refine wpAnyE_done (by kernel_rfl) ?_ _
      go_wp2
      refine ⟨⟨k + 1, min m L.length, by omega, by go_num, by omega, HFW.out, F3.set (by have := HVA.out; omega) _, ?_, by rw [World.frozen?_setCell]; exact hH.2.1⟩, by simp [intOf]; omega⟩
      rw [World.cell?_setCell_same _ _ _ hH.1]
      congr 2
      (try split) <;> omega
    · have hke : k = l.length := by omega
      subst hke
      have hm0 : m = minS (okF (cyc l)) l.length := by
        have h1 := hfw.out
        rw [Nat.sub_self] at h1
        exact h1
      have HM := Lib.hid hm0
      clear hfw hm0 hlt
      have HSV := Lib.hid (HS2.out.ext he)
      have n0 := he.cell n0
      have F2 := F2.trans he
      have hkb : wr.heap.size < wr.heap.size + 1 := Nat.lt_succ_self _
      have HEN : Hid (∀ V bb kb, Ext wr V → V.heap.size ≤ bb → bb < kb → EnvR V n l a cap m bs nb fb bb kb) := fun V bb kb hV h1 h2 =>
        ⟨hV.cell d0, hV.cell d1, hV.cell n0, hV.cell f0, HSV.out.ext hV, h1, h2, hm⟩
      have zn := cell_lt n0
      dsimp only at zn
      clear he HS2 s0 s1 HVA HS
      go_wp2
      have EW : Ext wr ((wr.alloc (.cells #[.slice none 0 0] 27)).alloc (.cells #[walkV bs nb fb wr.heap.size (wr.heap.size + 1)] 73)) := extA
      have SW : Hid (StR wr ((wr.alloc (.cells #[.slice none 0 0] 27)).alloc (.cells #[walkV bs nb fb wr.heap.size (wr.heap.size + 1)] 73)) bs nb fb wr.heap.size (wr.heap.size + 1)) := ⟨EW, by go_simp, ⟨.slice none 0 0, by go_simp⟩, by go_simp⟩
      unfold walkV at SW
      obtain ⟨bb, hbb⟩ : ∃ bb, bb = wr.heap.size := ⟨_, rfl⟩
      rw [← hbb] at SW ⊢
      have HEV := Lib.hid (HEN.out wr bb (bb + 1) (Ext.refl _) (Nat.le_of_eq hbb.symm) (Nat.lt_succ_self _))
      have HBB := Lib.hid hbb
      clear hbb EW HEN f0 ff d0 d1 n0 zf zs zn hkb
      generalize ((wr.alloc (.cells #[.slice none 0 0] 27)).alloc (.cells #[.func (.func 37) #[] #[.pointer (some ⟨bs, 0, none⟩), .pointer (some ⟨nb, 0, none⟩), .pointer (some ⟨fb, 0, none⟩), .pointer (some ⟨bb, 0, none⟩), .pointer (some ⟨bb + 1, 0, none⟩)]] 73)) = VW at SW ⊢
      obtain ⟨G, hG⟩ : ∃ G, G = fun x => wlkS (okF (cyc l)) l.length m l.length [x] := ⟨_, rfl⟩
      have hfs : ∃ ys, firstS G l.length 0 = some ys ∧ RS = ys := by
        have h1 := HRS.out
        unfold ringS at h1
        rw [← HM.out, ← hG] at h1
        cases hx : firstS G l.length 0 with
        | some ys => rw [hx] at h1; exact ⟨ys, rfl, h1⟩
        | none =>
          rw [hx] at h1
          have h2 := ring_len (okF_her (cyc l)) (cyc_per l) hl0
          rw [← HRS.out, h1] at h2
          have h3 := (min_pos (okF_her (cyc l)) hl0).1
          simp at h2
          omega
      have HFS := Lib.hid hfs
      have HG := Lib.hid hG
      clear hfs hG
      generalize wr = W9 at *
      go_loopw [33] (fun s w2 => ∃ k : Nat, k ≤ l.length ∧ s = .int .i64 k ∧ Hid (firstS G (l.length - k) k = firstS G l.length 0 ∧ StR W9 w2 bs nb fb bb (bb + 1))) (fun s _ => l.length - (intOf s).toNat)
      case atStart => exact ⟨0, Nat.zero_le _, rfl, rfl, SW.out⟩
      case round =>
        obtain ⟨k, hk, rfl, hst⟩ := hrel
        clear SW
        by_cases hlt : k < l.length
        · have hkk := hst.out.2.kk
          have zk := cell_lt hkk
          dsimp only at zk
          unfold walkV at hkk
          have E3 : Ext wr (wr.alloc (.cells #[.int .i64 (k : Int)] 3)) := extA
          have O3 := Lib.hid (ownsI_one wr (k : Int))
          have S3 := Lib.hid (hst.out.2.below HEV.out.top HEV.out.kb E3 (cell_lt hst.out.2.kk))
          have hwk := walk_any HEV.out l.length [k] (.slice (some ⟨wr.heap.size, 0, none⟩) 1 1) _ S3.out O3.out (fun g hg => by cases hg; exact zk) (by simp) (by simp) (by simp) (by simpa using hlt) (by simp)
          obtain ⟨R, hR⟩ : ∃ R, R = G k := ⟨_, rfl⟩
          have hwR : wlkS (okF (cyc l)) l.length m l.length [k] = R := by rw [hR, HG.out]
          rw [hwR] at hwk
          have hfk : firstS G l.length 0 = elseO R (firstS G (l.length - (k + 1)) (k + 1)) := by
            rw [← hst.out.1, show l.length - k = (l.length - (k + 1)) + 1 by omega, first_succ, ← hR]
          have HFK := Lib.hid hfk
          have HWK := Lib.hid hwk
          clear hfk hwk hwR hR E3 O3 S3 hst
          go_wp2_with fail
          refine HWK.out.mono ?_
          rintro e w5 ⟨rfl, hs5, _, hb5, _⟩
          have S5 := Lib.hid hs5
          have HB5 := Lib.hid hb5
          clear hs5 hb5 HWK hkk zk
          cases R with
          | none =>
            go_wp2
            refine ⟨⟨k + 1, by omega, by go_num, HFK.out.symm, S5.out⟩, by simp [intOf]; omega⟩
          | some ys =>
            obtain ⟨zs, hz1, hz2⟩ := HFS.out
            have hzy : zs = ys := by have h1 := HFK.out; rw [hz1] at h1; exact Option.some.inj h1
            subst hzy
            obtain ⟨v, hv1, hv2, _⟩ := HB5.out zs rfl
            obtain ⟨ra, rc, rfl, hrc, hrl⟩ := hv2.reads
            have HRC := Lib.hid hrc
            have HX5 := Lib.hid (F2.trans S5.out.ext)
            clear hv2 hrc
            go_wp2
            go_ret2
            rw [hz2]
            exact ⟨ra, rc, rfl, HRC.out, hrl, HX5.out⟩
        · exfalso
          obtain ⟨zs, hz1, _⟩ := HFS.out
          have h1 := hst.out.1
          rw [hz1, show l.length - k = 0 by omega] at h1
          cases h1
end Go.Proofs.YtdolibeceijnnaaDoor
namespace Go.Proofs.YtdolibeceijnnaaDoor
open Go.RowKit
def cutGo (s by' : ByteArray) : Nat → Nat → Nat → List ByteArray
  | 0, _, f => [s.extract f s.size]
  | n + 1, i, f => if i + by'.size ≤ s.size then
      (if f ≤ i then (if (s.extract i (i + by'.size)).toList == by'.toList then s.extract f i :: cutGo s by' n (i + 1) (i + by'.size) else cutGo s by' n (i + 1) f) else cutGo s by' n (i + 1) f)
      else [s.extract f s.size]
def cutS (s by' : ByteArray) : List ByteArray := cutGo s by' (s.size + 1) 0 0
theorem infoStr : (Tryd.prog.info? 9).map (fun i => (i.zero, i.size, i.bytes)) = some (some (.string ByteArray.empty), 1, 16) := by kernel_rfl
def OwnsS (w : World) (v : Value) (l : List ByteArray) : Prop := w.ownsRow 0 9 1 v l.length (l.map Value.string)
theorem OwnsS.nil (w : World) : OwnsS w (.slice none 0 0) [] := World.ownsRow_nil w 0 _ _
theorem OwnsS.ext {A B : World} {v : Value} {l : List ByteArray} (h : OwnsS A v l) (k : Ext A B) : OwnsS B v l := rowExt h k
def str0 : ByteArray := ByteArray.empty
def CellsS (w : World) (a : Option Addr) (l : List ByteArray) : Prop := ∀ i, i < l.length → ∃ b off, a = some ⟨b, off, none⟩ ∧ w.cell? ⟨b, off + i, none⟩ = some (.string (l.getD i str0))
theorem CellsS.ext {w w' : World} {a : Option Addr} {l : List ByteArray} (h : CellsS w a l) (he : Ext w w') : CellsS w' a l := fun i hi => by
  obtain ⟨b, off, h1, h2⟩ := h i hi
  exact ⟨b, off, h1, he.cell h2⟩
theorem OwnsS.reads {A : World} {v : Value} {l : List ByteArray} (h : OwnsS A v l) : ∃ a cap, v = .slice a l.length cap ∧ CellsS A a l ∧ l.length ≤ maxLen ∧ ∀ b off, a = some ⟨b, off, none⟩ → l ≠ [] → v.ownBlock = some b := by
  obtain ⟨a, cap, hv, hm, hr⟩ := rowReads h
  refine ⟨a, cap, hv, fun i hi => ?_, hm, fun b off hb hne => ?_⟩
  rotate_left
  · have h0 : 0 < l.length := List.length_pos_iff.2 hne
    obtain ⟨b', hb', h3, _, _⟩ := hr 0 (.string (l.getD 0 str0)) (by rw [List.getElem?_map, List.getD_eq_getElem?_getD, List.getElem?_eq_getElem h0]; rfl)
    rw [hb] at hb'
    cases hb'
    exact h3
  obtain ⟨b, hb, _, h1, _⟩ := hr i (.string (l.getD i str0)) (by rw [List.getElem?_map, List.getD_eq_getElem?_getD, List.getElem?_eq_getElem hi]; rfl)
  exact ⟨b, 0, hb, by rw [Nat.zero_add]; exact h1⟩
theorem ownsS_succ {w : World} {v : Value} {l : List ByteArray} {x : ByteArray} (h : w.ownsRow 0 9 1 v (l.length + 1) (l.map Value.string ++ [.string x])) : OwnsS w v (l ++ [x]) := by
  unfold OwnsS
  rw [List.length_append, List.map_append]; exact h
def StrsPost (l : List ByteArray) (w : World) (e : Ending) (w' : World) : Prop := ∃ a c, e = .returned (.slice a l.length c) ∧ CellsS w' a l ∧ l.length ≤ maxLen ∧ (∀ b off, a = some ⟨b, off, none⟩ → l ≠ [] → w.heap.size ≤ b) ∧ Ext w w'
set_option maxHeartbeats 4000000 in
set_option maxRecDepth 100000 in
theorem Cut_any (s by' : ByteArray) (w : World) (hs : s.size ≤ 5000) (h0 : 0 < by'.size) (hb : by'.size ≤ 10) :
    Calls Tryd.prog 88 #[.string s, .string by'] w (StrsPost (cutS s by') w) := by
  obtain ⟨L, hL⟩ : ∃ L, L = cutS s by' := ⟨_, rfl⟩
  rw [← hL]
  have HL : Hid (cutGo s by' (s.size + 1) 0 0 = L) := hL.symm
  clear hL
  obtain ⟨i0, hi, hi0, hi1, hi2⟩ := info_parts infoStr
  go_enter Tryd.func88, Tryd.ntmps88
  go_wp2
  go_loopw [7, 5, 6] (fun i v fr wr => ∃ k f : Nat, k ≤ s.size ∧ f ≤ s.size ∧ i = .int .i64 k ∧ fr = .int .i64 f ∧ (∃ vv, v = vv ∧ ∃ P : List ByteArray, P.length ≤ k ∧ Hid (P ++ cutGo s by' (s.size - k + 1) k f = L) ∧ Hid (OwnsS wr vv P ∧ ∀ b, vv.ownBlock = some b → w.heap.size ≤ b)) ∧ Ext w wr) (fun i _ _ _ => s.size + 1 - (intOf i).toNat)
  case atStart => exact ⟨0, 0, by omega, by omega, rfl, rfl, ⟨_, rfl, [], by simp, HL, OwnsS.nil _, fun b hb => by cases hb⟩, Ext.refl _⟩
  case round =>
    obtain ⟨k, f, hk, hf, rfl, rfl, ⟨vv, hvv, P, hP, hz, hO⟩, he⟩ := hrel
    obtain rfl := hvv.symm
    have hsz := he.size
    have hz1 := hz.out
    unfold cutGo at hz1
    clear hz HL
    have hw1 : IntKind.i64.wrap ((k : Int) + (by'.size : Int)) = (k : Int) + (by'.size : Int) := IntWalk.i64_in _ (by omega)
    have hf2 : (f : Int) ≤ (s.size : Int) := by omega
    have hf3 : (0 : Int) ≤ (f : Int) := by omega
    have O2 := Lib.hid hO.out.1
    have OB := Lib.hid hO.out.2
    clear hO
    by_cases hle : k + by'.size ≤ s.size
    · have hle2 : (k : Int) + (by'.size : Int) ≤ (s.size : Int) := by omega
      have hfu : s.size - k = s.size - (k + 1) + 1 := by omega
      rw [if_pos hle, hfu] at hz1
      have ht2 : ((k : Int) + (by'.size : Int)).toNat = k + by'.size := by omega
      have hp2 : (0 : Int) ≤ (k : Int) + (by'.size : Int) := by omega
      have hp3 : (k : Int) ≤ (k : Int) + (by'.size : Int) := by omega
      by_cases hfk : f ≤ k
      · have hfk2 : (f : Int) ≤ (k : Int) := by omega
        rw [if_pos hfk] at hz1
        cases hq : ((s.extract k (k + by'.size)).toList == by'.toList)
        · rw [hq] at hz1
          simp only [Bool.false_eq_true, if_false] at hz1
          have HZ := Lib.hid hz1
          clear hz1
          go_wp2
          refine ⟨⟨k + 1, f, by omega, hf, by go_num, rfl, ⟨_, rfl, P, by omega, HZ, ⟨O2.out, OB.out⟩⟩, he⟩, by simp [intOf]; omega⟩
        · rw [hq] at hz1
          simp only [if_true] at hz1
          have HZ : Hid ((P ++ [s.extract f k]) ++ cutGo s by' (s.size - (k + 1) + 1) (k + 1) (k + by'.size) = L) := by show _ = _; rw [List.append_assoc]; exact hz1
          clear hz1
          have hks : (k : Int) ≤ (s.size : Int) := by omega
          go_wp2_with (at_builtin; refine wpList_append1 _ rfl _ _ 126 rfl 9 i0 (.string ByteArray.empty) 1 16 Tryd.underlying126 hi hi0 hi1 hi2 rfl (by decide) vv P.length (P.map Value.string) rfl ?ho ⟨wr.heap.size, 0, none⟩ 1 1 (by decide) [.string (s.extract f k)] rfl rfl ?hn ?c1 ?c2 ?c3 ?c4)
          case ho => exact O2.out.ext ((Ext.refl _).alloc _)
          case c1 => rfl
          case c2 => unfold maxLen; omega
          case c3 => omega
          case c4 =>
            intro v' w5 hown5 hend5
            have O5 : Hid (OwnsS w5 v' (P ++ [s.extract f k])) := ownsS_succ hown5
            have B5 : Ext w w5 := (he.trans ((Ext.refl _).alloc _)).trans' (hend5.below (n := w.heap.size) (by simp; omega) OB.out) (Nat.le_refl _)
            have OB5 : Hid (∀ b, v'.ownBlock = some b → w.heap.size ≤ b) := hend5.ge (n := w.heap.size) (by simp; omega) OB.out
            clear hown5 hend5 O2 OB
            go_wp2
            refine ⟨⟨k + 1, k + by'.size, by omega, by omega, by go_num, by go_num, ⟨v', rfl, P ++ [s.extract f k], by rw [List.length_append]; simp; omega, HZ, ⟨O5.out, OB5.out⟩⟩, B5⟩, by simp [intOf]; omega⟩
      · have hfk2 : ¬ ((f : Int) ≤ (k : Int)) := by omega
        rw [if_neg hfk] at hz1
        have HZ := Lib.hid hz1
        clear hz1
        go_wp2
        refine ⟨⟨k + 1, f, by omega, hf, by go_num, rfl, ⟨_, rfl, P, by omega, HZ, ⟨O2.out, OB.out⟩⟩, he⟩, by simp [intOf]; omega⟩
    · have hle2 : ¬ ((k : Int) + (by'.size : Int) ≤ (s.size : Int)) := by omega
      rw [if_neg hle] at hz1
      have HZ := Lib.hid hz1
      clear hz1
      go_wp2_with (at_builtin; refine wpList_append1 _ rfl _ _ 126 rfl 9 i0 (.string ByteArray.empty) 1 16 Tryd.underlying126 hi hi0 hi1 hi2 rfl (by decide) vv P.length (P.map Value.string) rfl ?ko ⟨wr.heap.size, 0, none⟩ 1 1 (by decide) [.string (s.extract f s.size)] rfl rfl ?kn ?k1 ?k2 ?k3 ?k4)
      case ko => exact O2.out.ext ((Ext.refl _).alloc _)
      case k1 => rfl
      case k2 => unfold maxLen; omega
      case k3 => omega
      case k4 =>
        intro v' w5 hown5 hend5
        have O5 : Hid (OwnsS w5 v' L) := by show OwnsS _ _ _; rw [← HZ.out]; exact ownsS_succ hown5
        have B5 : Ext w w5 := (he.trans ((Ext.refl _).alloc _)).trans' (hend5.below (n := w.heap.size) (by simp; omega) OB.out) (Nat.le_refl _)
        have OB5 : Hid (∀ b, v'.ownBlock = some b → w.heap.size ≤ b) := hend5.ge (n := w.heap.size) (by simp; omega) OB.out
        clear hown5 hend5 O2 OB
        obtain ⟨ra, rc, rfl, hrc, hrl, hrb⟩ := O5.out.reads
        have HRC := Lib.hid hrc
        have HRB := Lib.hid hrb
        clear hrc hrb
        go_wp2
        go_ret
        exact ⟨ra, rc, rfl, HRC.out, hrl, (fun b off hb hne => OB5.out b (HRB.out b off hb hne)), B5⟩
end Go.Proofs.YtdolibeceijnnaaDoor
namespace Go.Proofs.YtdolibeceijnnaaDoor
open Go.RowKit
abbrev Bts := List UInt8
def wrB (x : Int) (o : Bool) : Bts := [(65 + x.toNat).toUInt8, if o then 43 else 45]
def allStk : List Stk := [(0, false), (0, true), (1, false), (1, true), (2, false), (2, true), (3, false), (3, true), (4, false), (4, true), (5, false), (5, true)]
def readL (s : Bts) : Option Stk := allStk.find? fun x => wrB x.1 x.2 == s
def numGo : Bts → Int → Option Int
  | [], n => some n
  | c :: l, n => if c < 48 ∨ 57 < c then none else numGo l (10 * n + ((c.toNat : Int) - 48))
def numL (s : Bts) : Option Int := if s.length < 2 ∨ 7 < s.length ∨ s.getD 0 0 = 48 then none else numGo s 0
def stepW : List Bts → List Stk → Option Stp
  | [], P => some (P, 0)
  | y :: ys, P => match readL y with
    | some x => stepW ys (P ++ [x])
    | none => if ys.length = 0 ∧ P.length ≠ 0 then (match numL y with | some n => if n = 0 then none else some (P, n) | none => none) else none
def cutL (s b : Bts) : Nat → Nat → Nat → List Bts
  | 0, _, f => [(s.drop f).take (s.length - f)]
  | n + 1, i, f => if i + b.length ≤ s.length then
      (if f ≤ i then (if ((s.drop i).take b.length == b) then (s.drop f).take (i - f) :: cutL s b n (i + 1) (i + b.length) else cutL s b n (i + 1) f) else cutL s b n (i + 1) f)
      else [(s.drop f).take (s.length - f)]
def cutB (s b : Bts) : List Bts := cutL s b (s.length + 1) 0 0
def stepL (s : Bts) : Option Stp := (stepW (cutB s [32]) []).filter fun x => ckStep x = 0
def allSome {α : Type} : List (Option α) → Option (List α)
  | [] => some []
  | none :: _ => none
  | some x :: l => (allSome l).map (x :: ·)
def stepsL (l : List Bts) : Option (List Stp) := allSome (l.map stepL)
def parseL (s : Bts) : Option (List Stp) := (stepsL (cutB s [59, 32])).filter fun l => l.length ≤ 64 ∧ s.length ≤ 4096 ∧ s.length ≠ 0
def ofGo (l : List Stp) (m : Int) : Int := l.foldl (fun m x => x.1.foldl (fun m y => max m (y.1 + 1)) m) m
def ofS (l : List Stp) : Sq := (ofGo l 0, l)
def sqL (s : Bts) : Option Sq := ((parseL s).map ofS).filter fun q => ckSeq q = 0
theorem toL_len (s : ByteArray) : s.toList.length = s.size := by rw [ByteArray.toList_eq]; rfl
theorem toL_extract (s : ByteArray) (i j : Nat) : (s.extract i j).toList = (s.toList.drop i).take (j - i) := by
  rw [ByteArray.toList_eq, ByteArray.toList_eq]
  simp [ByteArray.data_extract, Array.toList_extract]
theorem cutGo_map (s b : ByteArray) (n i f : Nat) : (cutGo s b n i f).map ByteArray.toList = cutL s.toList b.toList n i f := by
  induction n generalizing i f with
  | zero => simp [cutGo, cutL, toL_extract, toL_len]
  | succ n ih =>
    unfold cutGo cutL
    rw [toL_len, toL_len]
    by_cases h1 : i + b.size ≤ s.size
    · rw [if_pos h1, if_pos h1]
      by_cases h2 : f ≤ i
      · rw [if_pos h2, if_pos h2, toL_extract, show i + b.size - i = b.size by omega]
        cases h3 : ((s.toList.drop i).take b.size == b.toList)
        · simp only [Bool.false_eq_true, if_false]; exact ih _ _
        · simp only [if_true, List.map_cons, toL_extract]; rw [ih]
      · rw [if_neg h2, if_neg h2]; exact ih _ _
    · rw [if_neg h1, if_neg h1]; simp [toL_extract]
theorem cutS_map (s b : ByteArray) : (cutS s b).map ByteArray.toList = cutB s.toList b.toList := by
  unfold cutS cutB; rw [cutGo_map, toL_len]
def rdGo (s : Bts) (n : Nat) : Option Stk := (allStk.drop n).find? fun x => wrB x.1 x.2 == s
theorem rd_step (s : Bts) (k j : Nat) (hk : k < 6) (hj : j < 2) : rdGo s (2 * k + j) = if (wrB k (decide (j = 1)) == s) = true then some ((k : Int), decide (j = 1)) else rdGo s (2 * k + j + 1) := by
  have hk' : k = 0 ∨ k = 1 ∨ k = 2 ∨ k = 3 ∨ k = 4 ∨ k = 5 := by omega
  have hj' : j = 0 ∨ j = 1 := by omega
  rcases hk' with rfl | rfl | rfl | rfl | rfl | rfl <;> rcases hj' with rfl | rfl <;>
  · show List.find? _ (_ :: _) = _
    rw [List.find?_cons]
    split
    · next h => exact (if_pos h).symm
    · next h => exact (if_neg (fun e => Bool.false_ne_true (h.symm.trans e))).symm
theorem rd_end (s : Bts) : rdGo s 12 = none := rfl
theorem stepW_len {ws : List Bts} {P : List Stk} {x : Stp} (h : stepW ws P = some x) : P.length ≤ x.1.length ∧ x.1.length ≤ P.length + ws.length := by
  induction ws generalizing P with
  | nil => simp only [stepW, Option.some.injEq] at h; subst h; simp
  | cons y ys ih =>
    unfold stepW at h
    split at h
    · have := ih h; simp at this ⊢; omega
    · split at h
      · split at h
        · split at h
          · cases h
          · cases h; simp
        · cases h
      · cases h
theorem allSome_get {α : Type} {l : List (Option α)} {m : List α} (h : allSome l = some m) : l = m.map some := by
  induction l generalizing m with
  | nil => simp only [allSome, Option.some.injEq] at h; subst h; rfl
  | cons x l ih =>
    cases x with
    | none => cases h
    | some x =>
      unfold allSome at h
      cases h2 : allSome l with
      | none => rw [h2] at h; cases h
      | some m' => rw [h2] at h; cases h; rw [List.map_cons, ih h2]
end Go.Proofs.YtdolibeceijnnaaDoor
namespace Go.Proofs.YtdolibeceijnnaaDoor
open Go.RowKit
set_option maxHeartbeats 1000000 in
theorem written_any (x : Nat) (o : Bool) (w : World) (hx : x < 6) :
    Calls Tryd.prog 108 #[.agg #[.int .i64 (x : Int), .bool o]] w fun r w' => (∃ t : ByteArray, r = .returned (.string t) ∧ t.toList = wrB (x : Int) o) ∧ Ext w w' := by
  have hw1 : IntKind.i64.wrap ((x : Int) + 1) = (x : Int) + 1 := IntWalk.i64_in _ (by omega)
  have h1 : (0 : Int) ≤ (x : Int) + 1 := by omega
  have h2 : (x : Int) + 1 ≤ 6 := by omega
  have h3 : (x : Int) ≤ (x : Int) + 1 := by omega
  have h4 : ((x : Int) + 1).toNat = x + 1 := by omega
  have hx' : x = 0 ∨ x = 1 ∨ x = 2 ∨ x = 3 ∨ x = 4 ∨ x = 5 := by omega
  have E1 : Ext w (w.alloc (.cells #[.int .i64 (x : Int), .bool o] 67)) := extA
  have HE := Lib.hid E1
  clear E1
  cases o
  · go_enter Tryd.func108, Tryd.ntmps108
    go_wp2
    go_ret
    refine ⟨⟨_, rfl, ?_⟩, HE.out⟩
    rw [ByteArray.toList_eq]
    rcases hx' with rfl | rfl | rfl | rfl | rfl | rfl <;> rfl
  · go_enter Tryd.func108, Tryd.ntmps108
    go_wp2
    go_ret
    refine ⟨⟨_, rfl, ?_⟩, HE.out⟩
    rw [ByteArray.toList_eq]
    rcases hx' with rfl | rfl | rfl | rfl | rfl | rfl <;> rfl
def rdOf : Option Stk → Stk × Bool
  | some x => (x, true)
  | none => (stk0, false)
set_option maxHeartbeats 4000000 in
theorem read_any (s : ByteArray) (w : World) (x : Stk) (bo : Bool) (h : rdOf (readL s.toList) = (x, bo)) :
    Calls Tryd.prog 101 #[.string s] w fun r w' => r = .returned (.tuple #[.agg #[.int .i64 x.1, .bool x.2], .bool bo]) ∧ Ext w w' := by
  have H0 : Hid (rdOf (rdGo s.toList (2 * 0)) = (x, bo)) := h
  clear h
  obtain ⟨xa, xo⟩ := x
  dsimp only
  go_enter Tryd.func101, Tryd.ntmps101
  go_wp2
  have E1 : Ext w (w.alloc (.cells #[.int .i64 0, .bool false] 67)) := extA
  have c0 : (w.alloc (.cells #[.int .i64 0, .bool false] 67)).cell? ⟨w.heap.size, 0, none⟩ = some (.int .i64 0) := by go_simp
  have c1 : (w.alloc (.cells #[.int .i64 0, .bool false] 67)).cell? ⟨w.heap.size, 1, none⟩ = some (.bool false) := by go_simp
  have f0 : (w.alloc (.cells #[.int .i64 0, .bool false] 67)).frozen? ⟨w.heap.size, 0, none⟩ = false := by go_simp
  have f1 : (w.alloc (.cells #[.int .i64 0, .bool false] 67)).frozen? ⟨w.heap.size, 1, none⟩ = false := by go_simp
  generalize (w.alloc (.cells #[.int .i64 0, .bool false] 67)) = W at E1 c0 c1 f0 f1 ⊢
  go_loopw [4] (fun i wr => ∃ k : Nat, k ≤ 6 ∧ i = .int .i64 k ∧ Hid (rdOf (rdGo s.toList (2 * k)) = ((xa, xo), bo)) ∧ Ext W wr) (fun i _ => 6 - (intOf i).toNat)
  case atStart => exact ⟨0, by omega, rfl, H0, Ext.refl _⟩
  case round =>
    obtain ⟨k, hk, rfl, hz, he⟩ := hrel
    clear H0
    obtain ⟨wo, hwo⟩ : ∃ wo : World, wo = wr := ⟨_, rfl⟩
    subst hwo
    by_cases hlt : k < 6
    · go_wp2
      have E2 : Ext wo (wo.alloc (.cells #[.bool false, .bool true] 4)) := extA
      have b0 : (wo.alloc (.cells #[.bool false, .bool true] 4)).cell? ⟨wo.heap.size, 0, none⟩ = some (.bool false) := by go_simp
      have b1 : (wo.alloc (.cells #[.bool false, .bool true] 4)).cell? ⟨wo.heap.size, 1, none⟩ = some (.bool true) := by go_simp
      generalize (wo.alloc (.cells #[.bool false, .bool true] 4)) = W2 at E2 b0 b1 ⊢
      have HZ0 : Hid (rdOf (rdGo s.toList (2 * k + 0)) = ((xa, xo), bo)) := hz
      clear hz
      have hki : (k : Int) < 6 := by omega
      (try simp only [decide_eq_true hki])
      clear hki
      go_loopw [14] (fun i wr => ∃ j : Nat, j ≤ 2 ∧ i = .int .i64 j ∧ Hid (rdOf (rdGo s.toList (2 * k + j)) = ((xa, xo), bo)) ∧ Ext W2 wr) (fun i _ => 2 - (intOf i).toNat)
      case atStart => exact ⟨0, by omega, rfl, HZ0, Ext.refl _⟩
      case round =>
        obtain ⟨j, hj, rfl, hz, hE⟩ := hrel
        clear HZ0
        have d0 := hE.cell b0
        have d1 := hE.cell b1
        by_cases hjl : j < 2
        · have dj : wr.cell? ⟨wo.heap.size, j, none⟩ = some (.bool (decide (j = 1))) := by
            have : j = 0 ∨ j = 1 := by omega
            rcases this with rfl | rfl
            · exact d0
            · exact d1
          have hst := rd_step s.toList k j hlt hjl
          have hz1 := hz.out
          rw [hst] at hz1
          have HZ1 := Lib.hid hz1
          clear hz1 hz hst d0 d1
          generalize hoo : decide (j = 1) = oo at dj HZ1
          go_wp2_with fail
          refine (written_any k oo _ hlt).mono ?_
          rintro e w3 ⟨⟨t, rfl, ht⟩, hE3⟩
          have E3 : Ext W2 w3 := extA
          have g7 := hE3.cell (show (wr.alloc (.cells #[.int .i64 (k : Int), .bool oo] 67)).cell? ⟨wr.heap.size, 0, none⟩ = some (.int .i64 (k : Int)) by go_simp)
          have g8 := hE3.cell (show (wr.alloc (.cells #[.int .i64 (k : Int), .bool oo] 67)).cell? ⟨wr.heap.size, 1, none⟩ = some (.bool oo) by go_simp)
          have E4 := (he.trans E2).trans E3
          have k0 := E4.cell c0
          have k1 := E4.cell c1
          have m0 := (Below.frozen (p := ⟨w.heap.size, 0, none⟩) E4 (cell_lt c0)).trans f0
          have m1 := (Below.frozen (p := ⟨w.heap.size, 1, none⟩) E4 (cell_lt c1)).trans f1
          have hz1 := HZ1.out
          rw [← ht] at hz1
          clear HZ1 hE hE3 dj ht
          cases hq : (t.toList == s.toList)
          · rw [hq] at hz1
            have HZ : Hid (rdOf (rdGo s.toList (2 * k + (j + 1))) = ((xa, xo), bo)) := hz1
            clear hz1
            go_wp2
            refine ⟨⟨j + 1, by omega, by go_num, HZ, E3⟩, by simp [intOf]; omega⟩
          · rw [hq] at hz1
            have HZ : Hid ((k : Int) = xa ∧ oo = xo ∧ true = bo) := by
              simp only [if_true, rdOf, Prod.mk.injEq] at hz1
              exact ⟨hz1.1.1, hz1.1.2, hz1.2⟩
            clear hz1
            have EF : Ext w ((w3.setCell ⟨w.heap.size, 0, none⟩ (.int .i64 (k : Int))).setCell ⟨w.heap.size, 1, none⟩ (.bool oo)) := ((E1.trans E4).set (by omega) _).set (by omega) _
            go_wp2
            refine bodyPost_ret (v := .tuple #[.agg #[.int .i64 (k : Int), .bool oo], .bool true]) (by rw [results_cell_tmp1 rfl]; go_simp) rfl ⟨?_, EF⟩
            rw [HZ.out.1, HZ.out.2.1, HZ.out.2.2]
        · have hj2 : j = 2 := by omega
          subst hj2
          have HZ : Hid (rdOf (rdGo s.toList (2 * (k + 1))) = ((xa, xo), bo)) := hz
          clear hz
          go_wp2
          refine ⟨⟨k + 1, by omega, by go_num, HZ, (he.trans E2).trans hE⟩, by simp [intOf]; omega⟩
    · have hk6 : k = 6 := by omega
      subst hk6
      have HZ : Hid ((0 : Int) = xa ∧ false = xo ∧ false = bo) := by
        have hz1 := hz.out
        rw [show 2 * 6 = 12 from rfl, rd_end] at hz1
        simp only [rdOf, stk0, Prod.mk.injEq] at hz1
        exact ⟨hz1.1.1, hz1.1.2, hz1.2⟩
      clear hz
      have k0 := he.cell c0
      have k1 := he.cell c1
      have m0 := (Below.frozen (p := ⟨w.heap.size, 0, none⟩) he (cell_lt c0)).trans f0
      have m1 := (Below.frozen (p := ⟨w.heap.size, 1, none⟩) he (cell_lt c1)).trans f1
      have EF : Ext w ((wo.setCell ⟨w.heap.size, 0, none⟩ (.int .i64 0)).setCell ⟨w.heap.size, 1, none⟩ (.bool false)) := ((E1.trans he).set (by omega) _).set (by omega) _
      go_wp2
      refine bodyPost_ret (v := .tuple #[.agg #[.int .i64 0, .bool false], .bool false]) (by rw [results_cell_tmp1 rfl]; go_simp) rfl ⟨?_, EF⟩
      rw [← HZ.out.1, ← HZ.out.2.1, ← HZ.out.2.2]
end Go.Proofs.YtdolibeceijnnaaDoor
namespace Go.Proofs.YtdolibeceijnnaaDoor
open Go.RowKit
theorem toL_get (s : ByteArray) {k : Nat} (h : k < s.size) : s.toList.getD k 0 = s[k] := by
  have h' : k < s.data.size := h
  rw [ByteArray.toList_eq, List.getD_eq_getElem?_getD, Array.getElem?_toList, Array.getElem?_eq_getElem h']
  rfl
set_option maxHeartbeats 4000000 in
theorem Number_any (s : ByteArray) (N : Int) (w : World) (h : numL s.toList = some N) :
    Calls Tryd.prog 102 #[.string s] w fun r w' => r = .returned (.tuple #[.int .i64 N, .bool true]) ∧ Ext w w' := by
  unfold numL at h
  by_cases hg : s.toList.length < 2 ∨ 7 < s.toList.length ∨ s.toList.getD 0 0 = 48
  · rw [if_pos hg] at h; cases h
  rw [if_neg hg] at h
  rw [toL_len] at hg
  have H0 : Hid (numGo (s.toList.drop 0) 0 = some N) := h
  have h2 : 2 ≤ s.size := by omega
  have h7 : s.size ≤ 7 := by omega
  have h8 : ¬ ((7 : Int) < (s.size : Int)) := by omega
  have h9 : (1 : Int) < (s.size : Int) := by omega
  have hne : (s.toList == ([] : List UInt8)) = false := by
    rw [← toL_len] at h2
    cases hs : s.toList with
    | nil => rw [hs] at h2; simp at h2
    | cons c l => rfl
  have hb : (0 : Nat) < s.size := by omega
  have hgn : s.toList.getD 0 0 ≠ 48 := fun a => hg (.inr (.inr a))
  clear h hg
  have hg0 : ((s[0].toNat : Int) == 48) = false := by
    have e := toL_get s hb
    have g := hgn
    rw [e] at g
    have : s[0].toNat ≠ 48 := fun x => g (UInt8.toNat_inj.1 x)
    simpa using (show ((s[0].toNat : Int)) ≠ 48 by omega)
  clear hgn
  go_enter Tryd.func102, Tryd.ntmps102
  go_wp2
  go_loopw [5, 4] (fun i v wr => ∃ (k : Nat) (m : Int), k ≤ s.size ∧ i = .int .i64 k ∧ v = .int .i64 m ∧ 0 ≤ m ∧ Hid (m < 10 ^ k) ∧ Hid (numGo (s.toList.drop k) m = some N) ∧ w = wr) (fun i _ _ => s.size - (intOf i).toNat)
  case atStart => exact ⟨0, 0, by omega, rfl, rfl, by omega, by show (0 : Int) < 10 ^ 0; decide, H0, rfl⟩
  case round =>
    obtain ⟨k, m, hk, rfl, rfl, hm0, hm1, hz, rfl⟩ := hrel
    clear H0
    by_cases hlt : k < s.size
    · have hz1 := hz.out
      have e := toL_get s hlt
      rw [drop_cons s.toList 0 (by rw [toL_len]; exact hlt), e] at hz1
      unfold numGo at hz1
      by_cases hc : s[k] < 48 ∨ 57 < s[k]
      · rw [if_pos hc] at hz1; cases hz1
      rw [if_neg hc] at hz1
      have c1 : ¬ s[k].toNat < 48 := fun x => hc (.inl (UInt8.lt_iff_toNat_lt.2 x))
      have c2 : ¬ 57 < s[k].toNat := fun x => hc (.inr (UInt8.lt_iff_toNat_lt.2 x))
      have hp : (10 : Int) ^ k ≤ 10 ^ 6 := by
        have : 10 ^ k ≤ 10 ^ 6 := Nat.pow_le_pow_right (by omega) (by omega)
        exact_mod_cast this
      have hm2 := hm1.out
      have hsu : (10 : Int) ^ (k + 1) = 10 ^ k * 10 := Int.pow_succ ..
      have hp6 : (10 : Int) ^ 6 = 1000000 := by decide
      have HZ := Lib.hid hz1
      have HM : Hid (10 * m + ((s[k].toNat : Int) - 48) < 10 ^ (k + 1)) := by show _ < _; rw [hsu]; omega
      have d1 : ¬ ((s[k].toNat : Int) < 48) := by omega
      have d2 : ¬ (57 < (s[k].toNat : Int)) := by omega
      have w1 : IntKind.u8.wrap ((s[k].toNat : Int) - 48) = (s[k].toNat : Int) - 48 := IntWalk.u8_in _ (by omega)
      have w2 : IntKind.i64.wrap ((s[k].toNat : Int) - 48) = (s[k].toNat : Int) - 48 := IntWalk.i64_in _ (by omega)
      have w3 : IntKind.i64.wrap (10 * m) = 10 * m := IntWalk.i64_in _ (by omega)
      have w4 : IntKind.i64.wrap (10 * m + ((s[k].toNat : Int) - 48)) = 10 * m + ((s[k].toNat : Int) - 48) := IntWalk.i64_in _ (by omega)
      have hq0 : 0 ≤ 10 * m + ((s[k].toNat : Int) - 48) := by omega
      clear hz hz1 hm1 hm2 hsu hc e hp hp6
      generalize hch : s[k].toNat = ch at d1 d2 w1 w2 w3 w4 c1 c2 HZ HM hq0
      go_wp2
      refine ⟨⟨k + 1, _, by omega, by go_num, rfl, hq0, HM, HZ, trivial⟩, by simp [intOf]; omega⟩
    · have hz1 := hz.out
      rw [List.drop_eq_nil_of_le (by rw [toL_len]; omega)] at hz1
      have HN : Hid (m = N) := by show m = N; exact Option.some.inj hz1
      clear hz hz1
      go_wp2
      go_ret2
      have hmn := HN.out
      subst hmn
      exact ⟨rfl, Ext.refl _⟩
end Go.Proofs.YtdolibeceijnnaaDoor
namespace Go.Proofs.YtdolibeceijnnaaDoor
open Go.RowKit
def StpPost (x : Stp) (w : World) (e : Ending) (w' : World) : Prop := ∃ v, e = .returned (.tuple #[.agg #[v, .int .i64 x.2], .int .i64 0]) ∧ OwnsK w' v x.1 ∧ (∀ b, v.ownBlock = some b → w.heap.size ≤ b) ∧ Ext w w'
structure StSt (b : Nat) (W0 wr : World) (P : List Stk) (wt : Int) : Prop where
  ch : Chg (fun k => k = b) W0 wr
  v : ∃ v, wr.cell? ⟨b, 0, none⟩ = some v ∧ OwnsK wr v P ∧ ∀ k, v.ownBlock = some k → W0.heap.size ≤ k
  c1 : wr.cell? ⟨b, 1, none⟩ = some (.int .i64 wt)
  f0 : wr.frozen? ⟨b, 0, none⟩ = false
  f1 : wr.frozen? ⟨b, 1, none⟩ = false
theorem StSt.ext {b : Nat} {W0 A B : World} {P : List Stk} {wt : Int} (h : StSt b W0 A P wt) (k : Ext A B) : StSt b W0 B P wt := by
  obtain ⟨h1, ⟨v, h2, h3, h4⟩, h5, h6, h7⟩ := h
  exact ⟨h1.trans (Chg.ext k), ⟨v, k.cell h2, h3.ext k, h4⟩, k.cell h5, (Below.frozen (p := ⟨b, 0, none⟩) k (cell_lt h2)).trans h6, (Below.frozen (p := ⟨b, 1, none⟩) k (cell_lt h5)).trans h7⟩
set_option maxHeartbeats 8000000 in
set_option maxRecDepth 100000 in
theorem Step_any (s : ByteArray) (X : Stp) (w : World) (hs : s.size ≤ 5000) (h : stepL s.toList = some X) :
    Calls Tryd.prog 89 #[.string s] w (StpPost X w) := by
  obtain ⟨hstep, hck⟩ : stepW ((cutS s ⟨#[32]⟩).map ByteArray.toList) [] = some X ∧ ckStep X = 0 := by
    unfold stepL at h
    have h2 := Option.filter_eq_some_iff.1 h
    refine ⟨?_, by simpa using h2.2⟩
    rw [cutS_map, show (⟨#[32]⟩ : ByteArray).toList = [32] by rw [ByteArray.toList_eq]]
    exact h2.1
  have H0 : Hid (stepW (((cutS s ⟨#[32]⟩).map ByteArray.toList).drop 0) [] = some X) := hstep
  have HCK := Lib.hid hck
  have hXl : X.1.length ≤ 6 := (ckStep_strokes hck).2.1
  clear h hstep hck
  obtain ⟨ws, hws⟩ : ∃ ws, ws = cutS s ⟨#[32]⟩ := ⟨_, rfl⟩
  rw [← hws] at H0
  obtain ⟨i0, hi, hi0, hi1, hi2⟩ := info_parts infoStk
  go_enter Tryd.func89, Tryd.ntmps89
  go_wp2_with fail
  have E1 : Ext w ((w.alloc (.cells #[.slice none 0 0, .int .i64 0] 65)).alloc (.cells #[.slice none 0 0, .int .i64 0] 65)) := extA
  have c0 : ((w.alloc (.cells #[.slice none 0 0, .int .i64 0] 65)).alloc (.cells #[.slice none 0 0, .int .i64 0] 65)).cell? ⟨w.heap.size, 0, none⟩ = some (.slice none 0 0) := by go_simp
  have c1 : ((w.alloc (.cells #[.slice none 0 0, .int .i64 0] 65)).alloc (.cells #[.slice none 0 0, .int .i64 0] 65)).cell? ⟨w.heap.size, 1, none⟩ = some (.int .i64 0) := by go_simp
  have c2 : ((w.alloc (.cells #[.slice none 0 0, .int .i64 0] 65)).alloc (.cells #[.slice none 0 0, .int .i64 0] 65)).cell? ⟨w.heap.size + 1, 0, none⟩ = some (.slice none 0 0) := by go_simp
  have c3 : ((w.alloc (.cells #[.slice none 0 0, .int .i64 0] 65)).alloc (.cells #[.slice none 0 0, .int .i64 0] 65)).cell? ⟨w.heap.size + 1, 1, none⟩ = some (.int .i64 0) := by go_simp
  have f0 : ((w.alloc (.cells #[.slice none 0 0, .int .i64 0] 65)).alloc (.cells #[.slice none 0 0, .int .i64 0] 65)).frozen? ⟨w.heap.size, 0, none⟩ = false := by go_simp
  have f1 : ((w.alloc (.cells #[.slice none 0 0, .int .i64 0] 65)).alloc (.cells #[.slice none 0 0, .int .i64 0] 65)).frozen? ⟨w.heap.size, 1, none⟩ = false := by go_simp
  have f2 : ((w.alloc (.cells #[.slice none 0 0, .int .i64 0] 65)).alloc (.cells #[.slice none 0 0, .int .i64 0] 65)).frozen? ⟨w.heap.size + 1, 0, none⟩ = false := by go_simp
  have f3 : ((w.alloc (.cells #[.slice none 0 0, .int .i64 0] 65)).alloc (.cells #[.slice none 0 0, .int .i64 0] 65)).frozen? ⟨w.heap.size + 1, 1, none⟩ = false := by go_simp
  have hsz : ((w.alloc (.cells #[.slice none 0 0, .int .i64 0] 65)).alloc (.cells #[.slice none 0 0, .int .i64 0] 65)).heap.size = w.heap.size + 2 := by go_simp
  generalize ((w.alloc (.cells #[.slice none 0 0, .int .i64 0] 65)).alloc (.cells #[.slice none 0 0, .int .i64 0] 65)) = W1 at E1 c0 c1 c2 c3 f0 f1 f2 f3 hsz ⊢
  refine (Cut_any s ⟨#[32]⟩ _ hs (by decide) (by decide)).mono ?_
  rintro e W ⟨ta, tc, rfl, hcs, hls, htb, hE⟩
  rw [← hws] at hcs hls htb ⊢
  rw [hsz] at htb
  unfold maxLen at hls
  have HCS := Lib.hid hcs
  have HTB := Lib.hid htb
  have E2 := E1.trans hE
  have hWs := hE.size
  rw [hsz] at hWs
  clear hsz
  have M0 : Hid (StSt (w.heap.size + 1) W W [] 0) := ⟨Chg.refl _ _, ⟨_, hE.cell c2, OwnsK.nil _, fun b hb => by cases hb⟩, hE.cell c3, (Below.frozen (p := ⟨w.heap.size + 1, 0, none⟩) hE (cell_lt c2)).trans f2, (Below.frozen (p := ⟨w.heap.size + 1, 1, none⟩) hE (cell_lt c3)).trans f3⟩
  have g0 := (Below.frozen (p := ⟨w.heap.size, 0, none⟩) hE (cell_lt c0)).trans f0
  have g1 := (Below.frozen (p := ⟨w.heap.size, 1, none⟩) hE (cell_lt c1)).trans f1
  have c0 := hE.cell c0
  have c1 := hE.cell c1
  clear hcs htb E1 hE c2 c3 f0 f1 f2 f3 hws hs
  go_wp2
  go_loopw [6] (fun i wr => ∃ k : Nat, k ≤ ws.length ∧ i = .int .i64 k ∧ (∃ (P : List Stk) (wt : Int), Hid (StSt (w.heap.size + 1) W wr P wt) ∧ Hid ((wt = 0 ∧ P.length ≤ k ∧ P.length ≤ 6 ∧ stepW ((ws.map ByteArray.toList).drop k) P = some X) ∨ (k = ws.length ∧ X = (P, wt)))) ∧ Ext w wr) (fun i _ => ws.length - (intOf i).toNat)
  case atStart => exact ⟨0, by omega, rfl, ⟨[], 0, M0, .inl ⟨rfl, by simp, by simp, H0.out⟩⟩, E2⟩
  case round =>
    obtain ⟨k, hk, rfl, ⟨P, wt, M, hz⟩, he⟩ := hrel
    clear M0 H0
    have hch := M.out.ch
    by_cases hlt : k < ws.length
    · obtain ⟨rfl, hPk, hP6, hst⟩ : wt = 0 ∧ P.length ≤ k ∧ P.length ≤ 6 ∧ stepW ((ws.map ByteArray.toList).drop k) P = some X := by
        rcases hz.out with h | h
        · exact h
        · exact absurd h.1 (by omega)
      obtain ⟨tb, tf, rfl, t1⟩ := HCS.out k hlt
      have htbW : w.heap.size + 2 ≤ tb := by
        have := HTB.out tb tf rfl (List.length_pos_iff.1 (by omega)); omega
      have t1 := hch.cell (p := ⟨tb, tf + k, none⟩) (by show ¬ tb = w.heap.size + 1; omega) t1
      have hmd : (ws.map ByteArray.toList).getD k [] = (ws.getD k str0).toList := by
        rw [List.getD_eq_getElem?_getD, List.getElem?_map, List.getD_eq_getElem?_getD, List.getElem?_eq_getElem hlt]; rfl
      rw [drop_cons _ [] (by rw [List.length_map]; exact hlt), hmd] at hst
      generalize ws.getD k str0 = y at t1 hst
      obtain ⟨vv, v1, v2, v3⟩ := M.out.v
      have q1 := M.out.c1
      have q2 := M.out.f0
      have q3 := M.out.f1
      unfold stepW at hst
      cases hr : readL y.toList with
      | some st =>
        rw [hr] at hst
        simp only at hst
        have hl6 := (stepW_len hst).1
        rw [List.length_append] at hl6
        simp only [List.length_cons, List.length_nil] at hl6
        have HST := Lib.hid hst
        have HRD : Hid (rdOf (readL y.toList) = (st, true)) := by show _ = _; rw [hr]; rfl
        obtain ⟨sta, sto⟩ := st
        clear hz hst hr
        go_wp2_with fail
        refine (read_any y _ _ _ HRD.out).mono ?_
        rintro e w3 ⟨rfl, hE3⟩
        have E3 : Ext w w3 := he.trans hE3
        have M3 := Lib.hid (M.out.ext hE3)
        have v1 := hE3.cell v1
        have q1 := hE3.cell q1
        have V2 := Lib.hid (v2.ext hE3)
        have V3 := Lib.hid v3
        have q2 := M3.out.f0
        have q3 := M3.out.f1
        clear M v2 v3 t1 hE3
        dsimp only
        have z1 := cell_lt v1
        dsimp only at z1
        go_wp2_with (at_builtin; refine wpList_append1 _ rfl _ _ 45 rfl 67 i0 (.agg #[.int .i64 0, .bool false]) 2 16 Tryd.underlying45 hi hi0 hi1 hi2 rfl (by decide) vv P.length (flatK P) rfl ?ho ⟨w3.heap.size + 1, 0, none⟩ 1 1 (by decide) [.int .i64 sta, .bool sto] rfl rfl ?hn ?c1 ?c2 ?c3 ?c4)
        case ho => exact V2.out.ext (((Ext.refl _).alloc _).alloc _)
        case hn =>
          have hh := cells_one (w3.alloc (.cells #[.int .i64 sta, .bool sto] 67)) [.int .i64 sta, .bool sto] 67
          simpa using hh
        case c1 => intro u hu; simp at hu; rcases hu with rfl | rfl <;> rfl
        case c2 => unfold maxLen; omega
        case c3 => omega
        case c4 =>
          intro v' w7 hown7 hend7
          have O7 : OwnsK w7 v' (P ++ [(sta, sto)]) := ownsK_succ hown7
          have EA : Ext w3 ((w3.alloc (.cells #[.int .i64 sta, .bool sto] 67)).alloc (.cells #[.int .i64 sta, .bool sto] 67)) := extA
          have hgr := hend7.chg
          have hsA := EA.size
          have hW3 : W.heap.size ≤ w3.heap.size := M3.out.ch.1
          have E7 : Ext w w7 := (E3.trans EA).trans' (hend7.below (n := W.heap.size) (by omega) V3.out) (by omega)
          have V7 := hend7.ge (n := W.heap.size) (by omega) V3.out
          have same7 : ∀ (p : Addr) (v : Value), p.block = w.heap.size + 1 → w3.cell? p = some v → w7.cell? p = some v ∧ w7.frozen? p = w3.frozen? p := fun p v hp hc => by
            have h1 := hgr.1 p.block (EA.size_lt (cell_lt hc)) (fun e => by have := V3.out _ e; omega)
            exact ⟨(World.cell?_of_block (w := _) h1).trans (EA.cell hc), (World.frozen?_of_block (w := _) h1).trans (Below.frozen (p := p) EA (cell_lt hc))⟩
          have C7 : Chg (fun k => k = w.heap.size + 1) W w7 := by
            refine ⟨by have := hgr.2.1; omega, fun b hb hn => ?_⟩
            have e1 := hgr.1 b (by omega) (fun e => by have := V3.out _ e; omega)
            exact (e1.trans (Below.block EA b (by omega))).trans (M3.out.ch.2 b hb hn)
          obtain ⟨r0, rf0⟩ := same7 ⟨w.heap.size + 1, 0, none⟩ _ rfl v1
          obtain ⟨r1, rf1⟩ := same7 ⟨w.heap.size + 1, 1, none⟩ _ rfl q1
          rw [q2] at rf0
          rw [q3] at rf1
          have HO7 := Lib.hid O7
          have HV7 := Lib.hid V7
          obtain ⟨va, vc, hvv, _, _⟩ := O7.reads
          have hlen : (P ++ [(sta, sto)]).length = P.length + 1 := by rw [List.length_append]; rfl
          rw [hlen] at hvv
          subst hvv
          have MN : Hid (StSt (w.heap.size + 1) W (w7.setCell ⟨w.heap.size + 1, 0, none⟩ (.slice va (P.length + 1) vc)) (P ++ [(sta, sto)]) 0) := by
            refine ⟨C7.trans (Chg.setCell (B := fun k => k = w.heap.size + 1) ⟨w.heap.size + 1, 0, none⟩ _ rfl), ⟨_, World.cell?_setCell_same _ _ _ r0, ?_, HV7.out⟩, ?_, by rw [World.frozen?_setCell]; exact rf0, by rw [World.frozen?_setCell]; exact rf1⟩
            · exact rowSame HO7.out (fun b hb => Below.heap_setCell _ _ _ _ (fun e => by have h9 := HV7.out b hb; dsimp only at e; omega))
            · rw [World.cell?_setCell_other _ _ _ _ (fun h => by simp only [Addr.mk.injEq] at h; omega)]; exact r1
          have E8 : Ext w (w7.setCell ⟨w.heap.size + 1, 0, none⟩ (.slice va (P.length + 1) vc)) := E7.set (by omega) _
          have HMZ := Lib.hid hlen
          clear hown7 hend7 hgr same7 O7 V7 C7 hlen EA E7 M3 V2 V3 rf1 r1
          go_wp2
          refine ⟨⟨k + 1, by omega, by go_num, ⟨_, 0, MN, .inl ⟨rfl, by rw [HMZ.out]; omega, by rw [HMZ.out]; omega, HST.out⟩⟩, E8⟩, by simp [intOf]; omega⟩
      | none =>
        rw [hr] at hst
        simp only at hst
        by_cases hys : (((ws.map ByteArray.toList).drop (k + 1)).length = 0 ∧ P.length ≠ 0)
        · rw [if_pos hys] at hst
          have hke : k + 1 = ws.length := by
            have := hys.1
            rw [List.length_drop, List.length_map] at this; omega
          have hk0 : ¬ (k : Int) = 0 := by have := hys.2; omega
          have hk1 : ¬ k = 0 := by omega
          cases hn : numL y.toList with
          | none => rw [hn] at hst; cases hst
          | some n =>
            rw [hn] at hst
            simp only at hst
            by_cases hn0 : n = 0
            · rw [if_pos hn0] at hst; cases hst
            rw [if_neg hn0] at hst
            have HX : Hid ((P, n) = X) := Option.some.inj hst
            have HRD : Hid (rdOf (readL y.toList) = (stk0, false)) := by show _ = _; rw [hr]; rfl
            have HNN := Lib.hid hn
            have hys2 := hys.2
            clear hz hst hr hn hys
            go_wp2_with fail
            refine (read_any y _ _ _ HRD.out).mono ?_
            rintro e w3 ⟨rfl, hE3⟩
            dsimp only
            have E3 : Ext w w3 := he.trans hE3
            have M3 := Lib.hid (M.out.ext hE3)
            have v1 := hE3.cell v1
            have q1 := hE3.cell q1
            have t1 := hE3.cell t1
            have z1 := cell_lt v1
            have z2 := cell_lt t1
            dsimp only at z1 z2
            have V2 := Lib.hid (v2.ext hE3)
            have V3 := Lib.hid v3
            have q2 := M3.out.f0
            have q3 := M3.out.f1
            clear M v2 v3 hE3
            go_wp2_with fail
            refine (Number_any y n _ HNN.out).mono ?_
            rintro e w5 ⟨rfl, hE5⟩
            have EN : Ext w3 w5 := extA
            have M5 := Lib.hid (M3.out.ext EN)
            have E5 : Ext w w5 := E3.trans EN
            have v1 := EN.cell v1
            have q1 := EN.cell q1
            have q2 := M5.out.f0
            have q3 := M5.out.f1
            have O5 := Lib.hid (V2.out.ext EN)
            have MN : Hid (StSt (w.heap.size + 1) W (w5.setCell ⟨w.heap.size + 1, 1, none⟩ (.int .i64 n)) P n) := by
              refine ⟨M5.out.ch.trans (Chg.setCell (B := fun k => k = w.heap.size + 1) ⟨w.heap.size + 1, 1, none⟩ _ rfl), ⟨vv, ?_, ?_, V3.out⟩, World.cell?_setCell_same _ _ _ q1, by rw [World.frozen?_setCell]; exact q2, by rw [World.frozen?_setCell]; exact q3⟩
              · rw [World.cell?_setCell_other _ _ _ _ (fun h => by simp only [Addr.mk.injEq] at h; omega)]; exact v1
              · exact rowSame O5.out (fun b hb => Below.heap_setCell _ _ _ _ (fun e => by have h9 := V3.out b hb; dsimp only at e; omega))
            have E8 : Ext w (w5.setCell ⟨w.heap.size + 1, 1, none⟩ (.int .i64 n)) := E5.set (by omega) _
            have hkl : (k : Int) + 1 = (ws.length : Int) := by omega
            have hkm : ¬ ((k : Int) < (ws.length : Int) - 1) := by omega
            have hwm : IntKind.i64.wrap ((ws.length : Int) - 1) = (ws.length : Int) - 1 := IntWalk.i64_in _ (by omega)
            have hb1 : (n == 0) = false := by simpa using hn0
            have hb2 : ((k : Int) == 0) = false := by simpa using hk0
            have hb3 : decide ((k : Int) < (ws.length : Int) - 1) = false := decide_eq_false hkm
            clear hE5 EN M3 V2 M5 O5
            go_wp2
            refine ⟨⟨k + 1, by omega, by go_num, ⟨P, n, MN, .inr ⟨hke, HX.out.symm⟩⟩, E8⟩, by simp [intOf]; omega⟩
        · rw [if_neg hys] at hst; cases hst
    · have hkk : k = ws.length := by omega
      have HX : Hid (X = (P, wt)) := by
        rcases hz.out with h | h
        · obtain ⟨rfl, _, _, h3⟩ := h
          rw [List.drop_eq_nil_of_le (by rw [List.length_map]; omega)] at h3
          exact (Option.some.inj h3).symm
        · exact h.2
      obtain ⟨vv, v1, v2, v3⟩ := M.out.v
      have q1 := M.out.c1
      have z1 := cell_lt v1
      dsimp only at z1
      obtain ⟨va, vc, rfl, hva, hvl, _⟩ := v2.reads
      have hck := HCK.out
      rw [HX.out] at hck
      have HCK2 := Lib.hid hck
      have HVA := Lib.hid hva
      have HVL := Lib.hid hvl
      have V2 := Lib.hid v2
      have V3 := Lib.hid v3
      have u0 := hch.cell (p := ⟨w.heap.size, 0, none⟩) (by show ¬ w.heap.size = w.heap.size + 1; omega) c0
      have u1 := hch.cell (p := ⟨w.heap.size, 1, none⟩) (by show ¬ w.heap.size = w.heap.size + 1; omega) c1
      have y0 := (hch.frozen (p := ⟨w.heap.size, 0, none⟩) (by show ¬ w.heap.size = w.heap.size + 1; omega) c0).trans g0
      have y1 := (hch.frozen (p := ⟨w.heap.size, 1, none⟩) (by show ¬ w.heap.size = w.heap.size + 1; omega) c1).trans g1
      clear hz hck hva hvl v2 v3 M hch
      go_wp2_with fail
      refine (CheckStepR_any P wt va vc _ HVL.out HVA.out).mono ?_
      rintro e w5 ⟨rfl, hE5⟩
      rw [HCK2.out]
      have y0 := (Below.frozen (p := ⟨w.heap.size, 0, none⟩) hE5 (cell_lt u0)).trans y0
      have y1 := (Below.frozen (p := ⟨w.heap.size, 1, none⟩) hE5 (cell_lt u1)).trans y1
      have u0 := hE5.cell u0
      have u1 := hE5.cell u1
      have v1 := hE5.cell v1
      have q1 := hE5.cell q1
      have O5 := Lib.hid (V2.out.ext hE5)
      have E5 : Ext w w5 := he.trans hE5
      have EF : Ext w ((w5.setCell ⟨w.heap.size, 0, none⟩ (.slice va P.length vc)).setCell ⟨w.heap.size, 1, none⟩ (.int .i64 wt)) := (E5.set (by omega) _).set (by omega) _
      have HFO : Hid (OwnsK ((w5.setCell ⟨w.heap.size, 0, none⟩ (.slice va P.length vc)).setCell ⟨w.heap.size, 1, none⟩ (.int .i64 wt)) (.slice va P.length vc) P) :=
        rowSame O5.out (fun b hb => by
          have h9 := V3.out b hb
          refine (Below.heap_setCell _ _ _ _ (fun e => ?_)).trans (Below.heap_setCell _ _ _ _ (fun e => ?_)) <;> dsimp only at e <;> omega)
      have HFV : Hid (∀ b, (Value.slice va P.length vc).ownBlock = some b → w.heap.size ≤ b) := fun b hb => by have h9 := V3.out b hb; omega
      clear V2 V3 O5 hE5 HVA he
      go_wp2
      refine bodyPost_ret (v := .tuple #[.agg #[.slice va P.length vc, .int .i64 wt], .int .i64 0]) (by rw [results_cell_tmp1 rfl]; go_simp) rfl ?_
      rw [HX.out]
      exact ⟨_, rfl, HFO.out, HFV.out, EF⟩
end Go.Proofs.YtdolibeceijnnaaDoor
