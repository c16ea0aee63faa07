/- Steps of the proof: QRenP, QBackS, QRight, QWord, QAcc, QBwd, QRetR. No conditions. -/
import Derived.Test.YtnhbogmihnnpjaaGreatYB1
import Derived.Test.YtnhbogmihnnpjaaGreatYB2
import Derived.Test.YtnhbogmihnnpjaaGreatYB3
import Derived.Test.YtnhbogmihnnpjaaGreatYB4
import Derived.Test.YtnhbogmihnnpjaaGreatYB5
import Derived.Test.YtnhbogmihnnpjaaGreatYB6
import Derived.Test.YtnhbogmihnnpjaaGreatYB7
import Derived.Test.YtnhbogmihnnpjaaGreatYB8
import Derived.Test.YtnhbogmihnnpjaaGreatYB9
import Derived.Test.YtnhbogmihnnpjaaGreatYB10
/- Renaming sequences, in plain terms: what is renamed can be carried out, the opposite renaming cancels out, and the standard letters are the same. -/
namespace Go.Proofs.YtnhbogmihnnpjaaGreat
open Go.RowKit

/-- f takes what P tells to the first n numbers, g takes back -/
structure Bij (P : Int → Prop) (n : Int) (f g : Int → Int) : Prop where
  rng : ∀ a, P a → 0 ≤ f a ∧ f a < n
  gp : ∀ a, 0 ≤ a ∧ a < n → P (g a)
  gf : ∀ a, P a → g (f a) = a
  fg : ∀ a, 0 ≤ a ∧ a < n → f (g a) = a
theorem Bij.inj {P : Int → Prop} {n : Int} {f g : Int → Int} (h : Bij P n f g) {a b : Int} (ha : P a) (hb : P b) (e : f a = f b) : a = b := by
  rw [← h.gf a ha, ← h.gf b hb, e]
def In (n : Int) (a : Int) : Prop := 0 ≤ a ∧ a < n
/-- a step that is right by itself, with strokes of which P tells -/
def FineP (P : Int → Prop) (x : Stp) : Prop := ckStep x = 0 ∧ ∀ y ∈ x.1, P y.1
theorem FineP.asc {P : Int → Prop} {x : Stp} (h : FineP P x) : Asc x.1 := (ckStrokes_asc (ckStep_strokes h.1).1).1
theorem FineP.diff {P : Int → Prop} {x : Stp} (h : FineP P x) : Diff x.1 := h.asc.diff
theorem Fine.all {n : Int} {l : List Stp} (h : Fine n l) : ∀ x ∈ l, FineP (In n) x := fun x hx => by
  obtain ⟨k, hk, e⟩ := List.mem_iff_getElem.1 hx
  obtain ⟨h1, h2⟩ := h k hk
  rw [List.getD_eq_getElem?_getD, List.getElem?_eq_getElem hk] at h1 h2
  have h1 : ckStep l[k] = 0 := h1
  have h2 : ∀ j, j < (l[k]).1.length → 0 ≤ ((l[k]).1.getD j stk0).1 ∧ ((l[k]).1.getD j stk0).1 < n := h2
  rw [e] at h1 h2
  refine ⟨h1, fun y hy => ?_⟩
  obtain ⟨j, hj, e⟩ := List.mem_iff_getElem.1 hy
  have := h2 j hj
  rw [List.getD_eq_getElem?_getD, List.getElem?_eq_getElem hj] at this
  rw [← e]; exact this
theorem asc_ck {l : List Stk} {z : Int} (h : Asc l) (hz : ∀ y ∈ l, z < y.1) (hk : ∀ y ∈ l, 0 ≤ y.1 ∧ y.1 < 6) : ckStrokes z l = 0 := by
  induction l generalizing z with
  | nil => rfl
  | cons y l ih =>
    have h1 := hz y (List.mem_cons_self ..)
    have h2 := hk y (List.mem_cons_self ..)
    obtain ⟨p1, p2⟩ := List.pairwise_cons.1 h
    unfold ckStrokes
    rw [if_neg (by omega), if_neg (by omega), if_neg (by omega)]
    exact ih p2 p1 fun y hy => hk y (List.mem_cons_of_mem _ hy)
theorem ckStep_of {x : Stp} (h1 : 0 < x.1.length) (h2 : x.1.length ≤ 6) (h3 : ckStrokes (-1) x.1 = 0) (h4 : 0 ≤ x.2 ∧ x.2 ≤ 1000000) : ckStep x = 0 := by
  unfold ckStep
  rw [if_neg (by omega), if_neg (by omega), if_neg (by simp [h3]), if_neg (by omega)]
section
variable {P : Int → Prop} {n : Int} {f g : Int → Int}
theorem ren_diff (h : Bij P n f g) {x : Stp} (hx : FineP P x) : Diff (x.1.map fun y => (f y.1, y.2)) := by
  unfold Diff
  rw [List.pairwise_map]
  exact List.Pairwise.imp_of_mem (fun {a b} ha hb hab e => hab (h.inj (hx.2 a ha) (hx.2 b hb) e)) hx.diff
theorem ren_mem (h : Bij P n f g) (hn : n ≤ 6) {x : Stp} (hx : FineP P x) (z : Stk) : z ∈ (renStep f x).1 ↔ ∃ y ∈ x.1, (f y.1, y.2) = z := by
  show z ∈ ordered (x.1.map fun y => (f y.1, y.2)) ↔ _
  rw [ordered_mem, List.mem_map]
  refine ⟨fun h => h.1, fun h1 => ⟨h1, ?_⟩⟩
  obtain ⟨y, hy, rfl⟩ := h1
  have := h.rng _ (hx.2 y hy)
  dsimp only
  omega
theorem renStep_asc (h : Bij P n f g) {x : Stp} (hx : FineP P x) : Asc (renStep f x).1 := ordered_asc (ren_diff h hx)
theorem renStep_len (h : Bij P n f g) (hn : n ≤ 6) {x : Stp} (hx : FineP P x) : (renStep f x).1.length = x.1.length := by
  show (ordered (x.1.map fun y => (f y.1, y.2))).length = _
  rw [← isortK_ordered (ren_diff h hx), isortK_length, List.length_map]
  intro y hy
  obtain ⟨z, hz, rfl⟩ := List.mem_map.1 hy
  have := h.rng _ (hx.2 z hz)
  dsimp only
  omega
theorem renStep_fine (h : Bij P n f g) (hn : n ≤ 6) {x : Stp} (hx : FineP P x) : FineP (In n) (renStep f x) := by
  have hs := ckStep_strokes hx.1
  have hm : ∀ y ∈ (renStep f x).1, 0 ≤ y.1 ∧ y.1 < n := fun y hy => by
    obtain ⟨z, hz, rfl⟩ := (ren_mem h hn hx y).1 hy
    exact h.rng _ (hx.2 z hz)
  refine ⟨ckStep_of (by rw [renStep_len h hn hx]; omega) (by rw [renStep_len h hn hx]; omega) (asc_ck (renStep_asc h hx) (fun y hy => by have := hm y hy; omega) (fun y hy => by have := hm y hy; omega)) ⟨hs.2.2.2.1, hs.2.2.2.2⟩, hm⟩
theorem renStep_back (h : Bij (In n) n f g) (hn : n ≤ 6) {x : Stp} (hx : FineP (In n) x) : renStep g (renStep f x) = x := by
  have hb : Bij (In n) n g f := ⟨h.gp, h.rng, h.fg, h.gf⟩
  have hf := renStep_fine h hn hx
  refine Prod.ext ?_ rfl
  refine asc_ext (renStep_asc hb hf) hx.asc fun z => ?_
  rw [ren_mem hb hn hf]
  constructor
  · rintro ⟨y, hy, rfl⟩
    obtain ⟨z, hz, rfl⟩ := (ren_mem h hn hx y).1 hy
    dsimp only
    rw [h.gf _ (hx.2 z hz)]
    exact hz
  · intro hz
    exact ⟨(f z.1, z.2), (ren_mem h hn hx _).2 ⟨z, hz, rfl⟩, by dsimp only; rw [h.gf _ (hx.2 z hz)]⟩
theorem movesIn_iff (a : Int) (x : Stp) : movesIn a x = true ↔ ∃ y ∈ x.1, y.1 = a := by
  unfold movesIn
  rw [List.any_eq_true]
  constructor
  · rintro ⟨y, hy, e⟩; exact ⟨y, hy, by simpa using e⟩
  · rintro ⟨y, hy, e⟩; exact ⟨y, hy, by simpa using e⟩
theorem bool_iff {a b : Bool} (h : a = true ↔ b = true) : a = b := by cases a <;> cases b <;> simp_all
theorem movesIn_ren (h : Bij P n f g) (hn : n ≤ 6) {x : Stp} (hx : FineP P x) {a : Int} (ha : P a) : movesIn (f a) (renStep f x) = movesIn a x := by
  apply bool_iff
  rw [movesIn_iff, movesIn_iff]
  constructor
  · rintro ⟨y, hy, e⟩
    obtain ⟨z, hz, rfl⟩ := (ren_mem h hn hx y).1 hy
    exact ⟨z, hz, h.inj (hx.2 z hz) ha e⟩
  · rintro ⟨y, hy, rfl⟩
    exact ⟨_, (ren_mem h hn hx _).2 ⟨y, hy, rfl⟩, rfl⟩
theorem beh_cons (e : Int → Bool) (y : Stk) (l : List Stk) : beh e (y :: l) = beh (fun i => if i = y.1 then y.2 else e i) l := rfl
theorem beh_not {e : Int → Bool} {l : List Stk} {a : Int} (h : ∀ y ∈ l, y.1 ≠ a) : beh e l a = e a := by
  induction l generalizing e with
  | nil => rfl
  | cons y l ih =>
    rw [beh_cons, ih fun y hy => h y (List.mem_cons_of_mem _ hy)]
    exact if_neg fun e => h y (List.mem_cons_self ..) e.symm
theorem beh_mem {e : Int → Bool} {l : List Stk} (hd : Diff l) {y : Stk} (hy : y ∈ l) : beh e l y.1 = y.2 := by
  induction l generalizing e with
  | nil => cases hy
  | cons z l ih =>
    obtain ⟨h1, h2⟩ := List.pairwise_cons.1 hd
    rw [beh_cons]
    rcases List.mem_cons.1 hy with rfl | hy
    · rw [beh_not fun z hz e => h1 z hz e.symm]
      exact if_pos rfl
    · exact ih h2 hy
theorem beh_ren (h : Bij P n f g) (hn : n ≤ 6) {x : Stp} (hx : FineP P x) {e e' : Int → Bool} (he : ∀ a, P a → e' (f a) = e a) : ∀ a, P a → beh e' (renStep f x).1 (f a) = beh e x.1 a := fun a ha => by
  cases hm : movesIn a x
  · have h1 : ∀ y ∈ x.1, y.1 ≠ a := fun y hy e => by
      have := (movesIn_iff a x).2 ⟨y, hy, e⟩
      rw [hm] at this; cases this
    rw [beh_not h1, beh_not, he a ha]
    intro y hy e
    obtain ⟨z, hz, rfl⟩ := (ren_mem h hn hx y).1 hy
    exact h1 z hz (h.inj (hx.2 z hz) ha e)
  · obtain ⟨y, hy, rfl⟩ := (movesIn_iff a x).1 hm
    rw [beh_mem hx.diff hy]
    exact beh_mem (renStep_asc h hx).diff (y := (f y.1, y.2)) ((ren_mem h hn hx _).2 ⟨y, hy, rfl⟩)
theorem ckFit_iff {m : Int} {x : Stp} {e : Int → Bool} : ckFit m x e = 0 ↔ ckStep x = 0 ∧ (∀ y ∈ x.1, y.1 < m) ∧ ∀ y ∈ x.1, e y.1 = !y.2 := by
  unfold ckFit
  by_cases h1 : ckStep x = 0
  · rw [if_neg (by simp [h1])]
    cases h2 : anyHigh m x.1
    · have h2' : ∀ y ∈ x.1, y.1 < m := fun y hy => by
        have := (List.any_eq_false.1 h2) y hy
        simp at this; omega
      cases h3 : anySame e x.1
      · refine ⟨fun _ => ⟨h1, h2', fun y hy => ?_⟩, fun _ => rfl⟩
        have := (List.any_eq_false.1 h3) y hy
        cases ha : e y.1 <;> cases hb : y.2 <;> simp_all
      · refine ⟨fun h => by simp at h, fun ⟨_, _, h⟩ => ?_⟩
        obtain ⟨y, hy, hh⟩ := List.any_eq_true.1 h3
        rw [h y hy] at hh
        cases hb : y.2 <;> rw [hb] at hh <;> cases hh
    · refine ⟨fun h => by simp at h, fun ⟨_, h, _⟩ => ?_⟩
      obtain ⟨y, hy, hh⟩ := List.any_eq_true.1 h2
      have := h y hy
      simp at hh; omega
  · rw [if_pos h1]
    exact ⟨fun h => absurd h h1, fun h => absurd h.1 h1⟩
theorem ckWalk_iff {m : Int} {e : Int → Bool} {x : Stp} {l : List Stp} : ckWalk m e (x :: l) = 0 ↔ ckFit m x e = 0 ∧ ckWalk m (beh e x.1) l = 0 := by
  show (if ckFit m x e ≠ 0 then ckFit m x e else ckWalk m (beh e x.1) l) = 0 ↔ _
  by_cases h : ckFit m x e = 0
  · rw [if_neg (by simp [h])]; exact ⟨fun k => ⟨h, k⟩, fun k => k.2⟩
  · rw [if_pos h]; exact ⟨fun k => absurd k h, fun k => absurd k.1 h⟩
theorem ckWalk_ren (h : Bij P n f g) (hn : n ≤ 6) {m : Int} {l : List Stp} (hl : ∀ x ∈ l, FineP P x) {e e' : Int → Bool} (he : ∀ a, P a → e' (f a) = e a) (hk : ckWalk m e l = 0) : ckWalk n e' (l.map (renStep f)) = 0 := by
  induction l generalizing e e' with
  | nil => rfl
  | cons x l ih =>
    have hx := hl x (List.mem_cons_self ..)
    obtain ⟨h1, h2⟩ := ckWalk_iff.1 hk
    obtain ⟨_, _, h3⟩ := ckFit_iff.1 h1
    have hf := renStep_fine h hn hx
    rw [List.map_cons]
    refine ckWalk_iff.2 ⟨ckFit_iff.2 ⟨hf.1, fun y hy => (hf.2 y hy).2, fun y hy => ?_⟩, ih (fun x hx => hl x (List.mem_cons_of_mem _ hx)) (beh_ren h hn hx he) h2⟩
    obtain ⟨z, hz, rfl⟩ := (ren_mem h hn hx y).1 hy
    rw [he _ (hx.2 z hz)]
    exact h3 z hz
theorem behAll_cons (e : Int → Bool) (x : Stp) (l : List Stp) : behAll e (x :: l) = behAll (beh e x.1) l := rfl
theorem behAll_ren (h : Bij P n f g) (hn : n ≤ 6) {l : List Stp} (hl : ∀ x ∈ l, FineP P x) {e e' : Int → Bool} (he : ∀ a, P a → e' (f a) = e a) : ∀ a, P a → behAll e' (l.map (renStep f)) (f a) = behAll e l a := by
  induction l generalizing e e' with
  | nil => exact he
  | cons x l ih =>
    rw [List.map_cons, behAll_cons, behAll_cons]
    exact ih (fun x hx => hl x (List.mem_cons_of_mem _ hx)) (beh_ren h hn (hl x (List.mem_cons_self ..)) he)
theorem movedIn_iff (a : Int) (l : List Stp) : movedIn a l = true ↔ ∃ x ∈ l, movesIn a x = true := by
  unfold movedIn
  exact List.any_eq_true
theorem movedIn_ren (h : Bij P n f g) (hn : n ≤ 6) {l : List Stp} (hl : ∀ x ∈ l, FineP P x) {a : Int} (ha : P a) : movedIn (f a) (l.map (renStep f)) = movedIn a l := by
  apply bool_iff
  rw [movedIn_iff, movedIn_iff]
  constructor
  · rintro ⟨y, hy, e⟩
    obtain ⟨x, hx, rfl⟩ := List.mem_map.1 hy
    exact ⟨x, hx, by rw [← movesIn_ren h hn (hl x hx) ha]; exact e⟩
  · rintro ⟨x, hx, e⟩
    exact ⟨_, List.mem_map.2 ⟨x, hx, rfl⟩, by rw [movesIn_ren h hn (hl x hx) ha]; exact e⟩
theorem ints_all (p : Int → Bool) (m : Int) : (ints m).any p = false ↔ ∀ a, 0 ≤ a ∧ a < m → p a = false := by
  rw [List.any_eq_false]
  constructor
  · intro h a ha; have := h a (ints_mem.2 ha); simpa using this
  · intro h a ha; simp [h a (ints_mem.1 ha)]
theorem ckSeq_of {m : Int} {l : List Stp} (h1 : 1 ≤ m ∧ m ≤ 6) (h2 : 0 < l.length ∧ l.length ≤ 64) (h3 : ckWalk m none6 l = 0) (h4 : ∀ a, 0 ≤ a ∧ a < m → behAll none6 l a = false) (h5 : ∀ a, 0 ≤ a ∧ a < m → movedIn a l = true) : ckSeq (m, l) = 0 := by
  have h4' := (ints_all (behAll none6 l) m).2 h4
  have h5' : (ints m).any (fun a => !movedIn a l) = false := (ints_all _ m).2 fun a ha => by rw [h5 a ha]; rfl
  unfold ckSeq
  dsimp only
  rw [if_neg (by omega), if_neg (by omega), if_neg (by omega), if_neg (by simp [h3]), h4', h5']
  rfl
structure Right (m : Int) (l : List Stp) : Prop where
  act : 1 ≤ m ∧ m ≤ 6
  len : 0 < l.length ∧ l.length ≤ 64
  walk : ckWalk m none6 l = 0
  back : ∀ a, 0 ≤ a ∧ a < m → behAll none6 l a = false
  moved : ∀ a, 0 ≤ a ∧ a < m → movedIn a l = true
theorem ckSeq_right {m : Int} {l : List Stp} (h : ckSeq (m, l) = 0) : Right m l := by
  obtain ⟨h1, h2, h3, h4, h5, h6, h7⟩ := ckSeq_zero h
  refine ⟨⟨h1, h2⟩, ⟨h3, h4⟩, h5, (ints_all _ _).1 h6, fun a ha => ?_⟩
  have := (ints_all _ _).1 h7 a ha
  simpa using this
theorem Right.fine {m : Int} {l : List Stp} (h : Right m l) : ∀ x ∈ l, FineP (In m) x := (ckWalk_fine h.walk).all
/-- what is renamed can be carried out -/
theorem ckSeq_ren (h : Bij (In n) n f g) {l : List Stp} (hk : ckSeq (n, l) = 0) : ckSeq (ren f (n, l)) = 0 := by
  have hr := ckSeq_right hk
  have hn := hr.act.2
  show ckSeq (n, l.map (renStep f)) = 0
  refine ckSeq_of hr.act (by rw [List.length_map]; exact hr.len) (ckWalk_ren h hn hr.fine (fun _ _ => rfl) hr.walk) (fun a ha => ?_) (fun a ha => ?_)
  · rw [← h.fg a ha, behAll_ren h hn hr.fine (fun _ _ => rfl) _ (h.gp a ha)]
    exact hr.back _ (h.gp a ha)
  · rw [← h.fg a ha, movedIn_ren h hn hr.fine (h.gp a ha)]
    exact hr.moved _ (h.gp a ha)
/-- the opposite renaming cancels out -/
theorem ren_back (h : Bij (In n) n f g) {l : List Stp} (hk : ckSeq (n, l) = 0) : ren g (ren f (n, l)) = (n, l) := by
  have hr := ckSeq_right hk
  show (n, (l.map (renStep f)).map (renStep g)) = (n, l)
  rw [List.map_map]
  congr 1
  conv => rhs; rw [← List.map_id l]
  exact List.map_congr_left fun x hx => renStep_back h hr.act.2 (hr.fine x hx)
theorem ren_lens (h : Bij P n f g) (hn : n ≤ 6) {l : List Stp} (hl : ∀ x ∈ l, FineP P x) : (l.map (renStep f)).map (fun x => x.1.length) = l.map (fun x => x.1.length) := by
  rw [List.map_map]
  exact List.map_congr_left fun x hx => renStep_len h hn (hl x hx)
end
theorem sub_len {α : Type} [DecidableEq α] {l m : List α} (hd : l.Nodup) (h : ∀ x ∈ l, x ∈ m) : l.length ≤ m.length := by
  induction l generalizing m with
  | nil => simp
  | cons x l ih =>
    obtain ⟨h1, h2⟩ := List.nodup_cons.1 hd
    have hm := h x (List.mem_cons_self ..)
    have := ih (m := m.erase x) h2 fun y hy => (List.mem_erase_of_ne (fun e => by subst e; exact h1 hy)).2 (h y (List.mem_cons_of_mem _ hy))
    rw [List.length_erase_of_mem hm] at this
    have := List.length_pos_of_mem hm
    simp only [List.length_cons]
    omega
theorem ints_nodup (n : Int) : (ints n).Nodup := (ints_asc n).imp fun h e => by omega
/-- as many are told by p as by p behind f -/
theorem count_ren {n : Int} {f g : Int → Int} (h : Bij (In n) n f g) (p : Int → Bool) : ((ints n).filter fun b => p (f b)).length = ((ints n).filter p).length := by
  have key : ∀ (f g : Int → Int) (p : Int → Bool), Bij (In n) n f g → ((ints n).filter fun b => p (f b)).length ≤ ((ints n).filter p).length := fun f g p h => by
    rw [← List.length_map (f := f)]
    refine sub_len ?_ fun x hx => ?_
    · unfold List.Nodup
      rw [List.pairwise_map]
      refine List.Pairwise.imp_of_mem (fun {a b} ha hb hab e => hab (h.inj (ints_mem.1 (List.mem_filter.1 ha).1) (ints_mem.1 (List.mem_filter.1 hb).1) e)) ((ints_nodup n).filter _)
    · obtain ⟨b, hb, rfl⟩ := List.mem_map.1 hx
      obtain ⟨h1, h2⟩ := List.mem_filter.1 hb
      exact List.mem_filter.2 ⟨ints_mem.2 (h.rng b (ints_mem.1 h1)), h2⟩
  have hb : Bij (In n) n g f := ⟨h.gp, h.rng, h.fg, h.gf⟩
  have k1 := key f g p h
  have k2 := key g f (fun b => p (f b)) hb
  have e : ((ints n).filter fun b => p (f (g b))) = (ints n).filter p := List.filter_congr fun b hb => by rw [h.fg b (ints_mem.1 hb)]
  rw [e] at k2
  omega
theorem count_two {l : List Int} {p q r : Int → Bool} (hp : ∀ a ∈ l, p a = true → r a = true) (hq : ∀ a ∈ l, q a = true → r a = true) (hd : ∀ a ∈ l, p a = true → q a = false) : (l.filter p).length + (l.filter q).length ≤ (l.filter r).length := by
  induction l with
  | nil => simp
  | cons x l ih =>
    have := ih (fun a ha => hp a (List.mem_cons_of_mem _ ha)) (fun a ha => hq a (List.mem_cons_of_mem _ ha)) (fun a ha => hd a (List.mem_cons_of_mem _ ha))
    have h1 := hp x (List.mem_cons_self ..)
    have h2 := hq x (List.mem_cons_self ..)
    have h3 := hd x (List.mem_cons_self ..)
    rw [List.filter_cons, List.filter_cons, List.filter_cons]
    cases hx : p x <;> cases hy : q x <;> cases hz : r x <;> simp_all <;> omega
/-- actuators with the same letter, before and behind a renaming, move in the same steps -/
theorem letter_same {n : Int} {f g : Int → Int} (h : Bij (In n) n f g) {l m : List Stp} (hm : ∀ a, In n a → movesOf m (f a) = movesOf l a) {a b : Int} (ha : In n a) (hb : In n b) (e : letterOf (n, l) a = letterOf (n, m) (f b)) : movesOf l a = movesOf l b := by
  have hbb : letterOf (n, m) (f b) = (((ints n).filter fun c => lexLt (movesOf l c) (movesOf l b) || (decide (f c < f b) && (movesOf l c == movesOf l b))).length : Nat) := by
    unfold letterOf
    dsimp only
    rw [← count_ren h]
    congr 2
    exact List.filter_congr fun c hc => by rw [hm c (ints_mem.1 hc), hm b hb]
  have hlt : ∀ (u v : Int) (q : Int → Bool), In n u → q u = false → lexLt (movesOf l u) (movesOf l v) = true →
      ((ints n).filter fun c => lexLt (movesOf l c) (movesOf l u) || (q c && (movesOf l c == movesOf l u))).length < ((ints n).filter fun c => lexLt (movesOf l c) (movesOf l v)).length := fun u v q hu hq hl => by
    have h1 := count_two (l := ints n) (p := fun c => lexLt (movesOf l c) (movesOf l u) || (q c && (movesOf l c == movesOf l u))) (q := fun c => decide (c = u)) (r := fun c => lexLt (movesOf l c) (movesOf l v)) (fun c _ hc => ?_) (fun c _ hc => ?_) (fun c _ hc => ?_)
    · have h2 : 0 < ((ints n).filter fun c => decide (c = u)).length := List.length_pos_of_mem (List.mem_filter.2 ⟨ints_mem.2 hu, by simp⟩)
      omega
    · simp only [Bool.or_eq_true, Bool.and_eq_true, beq_iff_eq] at hc
      rcases hc with hc | ⟨_, hc⟩
      · exact lexLt_trans hc hl
      · rw [hc]; exact hl
    · have : c = u := by simpa using hc
      rw [this]; exact hl
    · by_cases hcu : c = u
      · subst hcu
        rw [lexLt_irrefl, hq] at hc
        simp at hc
      · simp [hcu]
  have hge : ∀ (v : Int) (q : Int → Bool), ((ints n).filter fun c => lexLt (movesOf l c) (movesOf l v)).length ≤ ((ints n).filter fun c => lexLt (movesOf l c) (movesOf l v) || (q c && (movesOf l c == movesOf l v))).length := fun v q => by
    have := count_two (l := ints n) (p := fun c => lexLt (movesOf l c) (movesOf l v)) (q := fun _ => false) (r := fun c => lexLt (movesOf l c) (movesOf l v) || (q c && (movesOf l c == movesOf l v))) (fun c _ hc => by rw [hc]; rfl) (fun c _ hc => by cases hc) (fun c _ _ => rfl)
    omega
  by_cases hne : movesOf l a = movesOf l b
  · exact hne
  exfalso
  rw [hbb] at e
  unfold letterOf at e
  dsimp only at e
  cases hl : lexLt (movesOf l a) (movesOf l b)
  · have hl := lexLt_total hl hne
    have h1 := hlt b a (fun c => decide (f c < f b)) hb (by simp) hl
    have h2 := hge a (fun c => decide (c < a))
    (try dsimp only at h1 h2)
    omega
  · have h1 := hlt a b (fun c => decide (c < a)) ha (by simp) hl
    have h2 := hge b (fun c => decide (f c < f b))
    (try dsimp only at h1 h2)
    omega
theorem movesOf_mem (l : List Stp) (a : Int) {k : Nat} (hk : k < l.length) : (k : Int) ∈ movesOf l a ↔ movesIn a (l.getD k stp0) = true := by
  unfold movesOf
  rw [List.mem_filter, ints_mem]
  constructor
  · intro h; exact h.2
  · intro h; exact ⟨⟨by omega, by omega⟩, h⟩
theorem movesOf_ren {P : Int → Prop} {n : Int} {f g : Int → Int} (h : Bij P n f g) (hn : n ≤ 6) {l : List Stp} (hl : ∀ x ∈ l, FineP P x) {a : Int} (ha : P a) : movesOf (l.map (renStep f)) (f a) = movesOf l a := by
  unfold movesOf
  rw [List.length_map]
  refine List.filter_congr fun k hk => ?_
  have hk := ints_mem.1 hk
  have hk' : k.toNat < l.length := by omega
  rw [List.getD_eq_getElem?_getD, List.getD_eq_getElem?_getD, List.getElem?_map, List.getElem?_eq_getElem hk']
  exact movesIn_ren h hn (hl _ (List.getElem_mem hk')) ha
/-- which way an actuator moves follows from the steps in which it moves -/
theorem dir_same {m : Int} {l : List Stp} {e : Int → Bool} (hw : ckWalk m e l = 0) {a b : Int} (he : e a = e b) (hm : ∀ k, k < l.length → movesIn a (l.getD k stp0) = movesIn b (l.getD k stp0)) :
    ∀ k, k < l.length → ∀ d, (a, d) ∈ (l.getD k stp0).1 → (b, d) ∈ (l.getD k stp0).1 := by
  induction l generalizing e with
  | nil => intro k hk; simp at hk
  | cons x l ih =>
    obtain ⟨h1, h2⟩ := ckWalk_iff.1 hw
    obtain ⟨c1, _, h3⟩ := ckFit_iff.1 h1
    have hd : Diff x.1 := (ckStrokes_asc (ckStep_strokes c1).1).1.diff
    have hm0 : movesIn a x = movesIn b x := hm 0 (by simp)
    have hdir : ∀ d, (a, d) ∈ x.1 → (b, d) ∈ x.1 := fun d hy => by
      have hb : movesIn b x = true := by rw [← hm0]; exact (movesIn_iff a x).2 ⟨_, hy, rfl⟩
      obtain ⟨y, hy2, rfl⟩ := (movesIn_iff b x).1 hb
      have e1 := h3 _ hy
      have e2 := h3 _ hy2
      dsimp only at e1
      have : y.2 = d := by rw [he, e2] at e1; cases hh : y.2 <;> cases d <;> simp_all
      rw [← this]; exact hy2
    have hbeh : beh e x.1 a = beh e x.1 b := by
      cases hma : movesIn a x
      · have hmb := hma; rw [hm0] at hmb
        rw [beh_not (fun y hy e => by have := (movesIn_iff a x).2 ⟨y, hy, e⟩; rw [hma] at this; cases this), beh_not (fun y hy e => by have := (movesIn_iff b x).2 ⟨y, hy, e⟩; rw [hmb] at this; cases this), he]
      · obtain ⟨y, hy, rfl⟩ := (movesIn_iff a x).1 hma
        rw [beh_mem hd hy]
        exact (beh_mem hd (y := (b, y.2)) (hdir y.2 hy)).symm
    intro k hk
    cases k with
    | zero => exact hdir
    | succ k => exact ih h2 hbeh (fun k hk => hm (k + 1) (by simpa using hk)) k (by simpa using hk)
theorem bij_letters (n : Int) (l : List Stp) : ∃ g, Bij (In n) n (listFn (lettersOf (n, l))) g := by
  have hsur : ∀ v, In n v → ∃ a, In n a ∧ letterOf (n, l) a = v := fun v hv => by
    have hj : v.toNat < (isortI (cmpM l) (ints n)).length := by rw [isortI_len]; have := hv.1; have := hv.2; omega
    refine ⟨_, isortI_rng n l (j := v.toNat) (by have := hv.1; have := hv.2; omega), ?_⟩
    rw [letterOf_at n l hj]; have := hv.1; omega
  classical
  refine ⟨fun v => if h : In n v then Classical.choose (hsur v h) else 0, fun a ha => ?_, fun a ha => ?_, fun a ha => ?_, fun a ha => ?_⟩
  · rw [listFn_letters n l ha]; exact letterOf_rng n l ha
  · (try dsimp only)
    rw [dif_pos (show In n a from ha)]; exact (Classical.choose_spec (hsur a ha)).1
  · have hr := letterOf_rng n l ha
    rw [listFn_letters n l ha]
    (try dsimp only)
    rw [dif_pos (show In n (letterOf (n, l) a) from hr)]
    have hs := Classical.choose_spec (hsur _ hr)
    exact letterOf_inj n l hs.1 ha hs.2
  · (try dsimp only)
    rw [dif_pos (show In n a from ha)]
    have hs := Classical.choose_spec (hsur a ha)
    rw [listFn_letters n l hs.1]; exact hs.2
/-- the standard letters of what is renamed are those of the sequence itself -/
theorem standard_ren {n : Int} {f g : Int → Int} (h : Bij (In n) n f g) {l : List Stp} (hk : ckSeq (n, l) = 0) : standard (ren f (n, l)) = standard (n, l) := by
  have hr := ckSeq_right hk
  have hn := hr.act.2
  obtain ⟨gs, hs⟩ := bij_letters n l
  obtain ⟨gt, ht⟩ := bij_letters n (l.map (renStep f))
  show (n, (l.map (renStep f)).map (renStep (listFn (lettersOf (n, l.map (renStep f)))))) = (n, l.map (renStep (listFn (lettersOf (n, l)))))
  congr 1
  rw [List.map_map]
  have hfr : ∀ x ∈ l, FineP (In n) (renStep f x) := fun x hx => renStep_fine h hn (hr.fine x hx)
  have hms : ∀ a, In n a → movesOf (l.map (renStep f)) (f a) = movesOf l a := fun a ha => movesOf_ren h hn hr.fine ha
  have hsame : ∀ a b, In n a → In n b → listFn (lettersOf (n, l)) a = listFn (lettersOf (n, l.map (renStep f))) (f b) → ∀ k, k < l.length → ∀ d, (a, d) ∈ (l.getD k stp0).1 ↔ (b, d) ∈ (l.getD k stp0).1 := fun a b ha hb e => by
    rw [listFn_letters n l ha, listFn_letters n _ (h.rng b hb)] at e
    have hmm := letter_same h hms ha hb e
    have hmk : ∀ k, k < l.length → movesIn a (l.getD k stp0) = movesIn b (l.getD k stp0) := fun k hk => by
      apply bool_iff
      rw [← movesOf_mem l a hk, ← movesOf_mem l b hk, hmm]
    exact fun k hk d => ⟨dir_same (a := a) (b := b) hr.walk rfl hmk k hk d, dir_same (a := b) (b := a) hr.walk rfl (fun k hk => (hmk k hk).symm) k hk d⟩
  refine list_ext_getD stp0 (by simp) fun k hk => ?_
  have hk' : k < l.length := by simpa using hk
  have hx : l.getD k stp0 ∈ l := by rw [List.getD_eq_getElem?_getD, List.getElem?_eq_getElem hk']; exact List.getElem_mem hk'
  have e1 : (l.map (renStep (listFn (lettersOf (n, l.map (renStep f)))) ∘ renStep f)).getD k stp0 = renStep (listFn (lettersOf (n, l.map (renStep f)))) (renStep f (l.getD k stp0)) := by
    simp [List.getD, hk']
  have e2 : (l.map (renStep (listFn (lettersOf (n, l))))).getD k stp0 = renStep (listFn (lettersOf (n, l))) (l.getD k stp0) := by
    simp [List.getD, hk']
  rw [e1, e2]
  have hfx := hr.fine _ hx
  have hffx := hfr _ hx
  have hsm := fun a b ha hb e => hsame a b ha hb e k hk'
  refine Prod.ext (asc_ext (renStep_asc ht hffx) (renStep_asc hs hfx) fun z => ?_) rfl
  rw [ren_mem ht hn hffx, ren_mem hs hn hfx]
  constructor
  · rintro ⟨y, hy, rfl⟩
    obtain ⟨u, hu, rfl⟩ := (ren_mem h hn hfx y).1 hy
    have hiu := hfx.2 u hu
    have hr1 := ht.rng _ (h.rng _ hiu)
    have ha := hs.gp _ hr1
    have he := hs.fg _ hr1
    exact ⟨(gs _, u.2), (hsm _ u.1 ha hiu he u.2).2 hu, by dsimp only; rw [he]⟩
  · rintro ⟨u, hu, rfl⟩
    have hiu := hfx.2 u hu
    have hr1 := hs.rng _ hiu
    have hb := ht.gp _ hr1
    have he := ht.fg _ hr1
    have hgb := h.gp _ hb
    have he2 := h.fg _ hb
    refine ⟨(gt (listFn (lettersOf (n, l)) u.1), u.2), (ren_mem h hn hfx _).2 ⟨(g (gt (listFn (lettersOf (n, l)) u.1)), u.2), (hsm u.1 _ hiu hgb (by rw [he2, he]) u.2).1 hu, by dsimp only; rw [he2]⟩, by dsimp only; rw [he]⟩
/-- a right renaming has an opposite -/
theorem renGo_zero {n : Int} : ∀ (l bef : List Int), renGo n bef l = 0 → (∀ x ∈ l, 0 ≤ x ∧ x < n) ∧ l.Nodup ∧ ∀ x ∈ l, x ∉ bef := by
  intro l
  induction l with
  | nil => intro bef _; exact ⟨by simp, List.Pairwise.nil, by simp⟩
  | cons y l ih =>
    intro bef h
    unfold renGo at h
    by_cases h1 : y < 0 ∨ n ≤ y
    · rw [if_pos h1] at h; cases h
    · rw [if_neg h1] at h
      by_cases h2 : bef.contains y = true
      · rw [if_pos h2] at h; cases h
      · rw [if_neg h2] at h
        obtain ⟨i1, i2, i3⟩ := ih _ h
        refine ⟨fun x hx => ?_, List.nodup_cons.2 ⟨fun hy => i3 y hy (by simp), i2⟩, fun x hx => ?_⟩
        · rcases List.mem_cons.1 hx with rfl | hx
          · omega
          · exact i1 x hx
        · rcases List.mem_cons.1 hx with rfl | hx
          · intro hb; exact h2 (by simpa using hb)
          · intro hb; exact i3 x hx (by simp [hb])
theorem listFn_at (t : List Int) {k : Nat} : listFn t (k : Int) = t.getD k 0 := by
  unfold listFn
  rw [if_neg (by omega)]; rfl
theorem bij_list {t b : List Int} {n : Int} (ht : renE t n = 0) (hb : ∀ k, k < t.length → b.getD (t.getD k 0).toNat 0 = (k : Int)) : Bij (In n) n (listFn t) (listFn b) := by
  unfold renE at ht
  by_cases hl : (t.length : Int) ≠ n
  · rw [if_pos hl] at ht; cases ht
  rw [if_neg hl] at ht
  have hl : (t.length : Int) = n := by omega
  obtain ⟨h1, h2, _⟩ := renGo_zero t [] ht
  have hrng : ∀ a, In n a → In n (listFn t a) := fun a ha => by
    obtain ⟨k, rfl⟩ := Int.eq_ofNat_of_zero_le ha.1
    have hk : k < t.length := by have := ha.2; omega
    rw [listFn_at]
    exact h1 _ (by rw [List.getD_eq_getElem?_getD, List.getElem?_eq_getElem hk]; exact List.getElem_mem hk)
  have hgf : ∀ a, In n a → listFn b (listFn t a) = a := fun a ha => by
    have hr := hrng a ha
    obtain ⟨k, rfl⟩ := Int.eq_ofNat_of_zero_le ha.1
    have hk : k < t.length := by have := ha.2; omega
    rw [listFn_at] at hr ⊢
    unfold listFn
    rw [if_neg (by have := hr.1; omega)]
    exact hb k hk
  have hsur : ∀ v, In n v → ∃ a, In n a ∧ listFn t a = v := fun v hv => by
    by_cases hm : v ∈ t
    · obtain ⟨k, hk, e⟩ := List.mem_iff_getElem.1 hm
      refine ⟨(k : Int), ⟨by omega, by omega⟩, ?_⟩
      rw [listFn_at, List.getD_eq_getElem?_getD, List.getElem?_eq_getElem hk]; exact e
    · exfalso
      have := sub_len (l := v :: t) (m := ints n) (List.nodup_cons.2 ⟨hm, h2⟩) (fun x hx => by
        rcases List.mem_cons.1 hx with rfl | hx
        · exact ints_mem.2 hv
        · exact ints_mem.2 (h1 x hx))
      rw [ints_length, List.length_cons] at this
      omega
  refine ⟨hrng, fun v hv => ?_, hgf, fun v hv => ?_⟩
  · obtain ⟨a, ha, rfl⟩ := hsur v hv
    rw [hgf a ha]; exact ha
  · obtain ⟨a, ha, rfl⟩ := hsur v hv
    rw [hgf a ha]
end Go.Proofs.YtnhbogmihnnpjaaGreat
/- Sequences backwards, from a pause on, in parts, joined and merged, in plain terms: all can be carried out. -/
namespace Go.Proofs.YtnhbogmihnnpjaaGreat
open Go.RowKit

theorem beh_pt {e e' : Int → Bool} {l : List Stk} {a : Int} (h : e a = e' a) : beh e l a = beh e' l a := by
  induction l generalizing e e' with
  | nil => exact h
  | cons y l ih =>
    rw [beh_cons, beh_cons]
    exact ih (by rw [h])
theorem behAll_pt {e e' : Int → Bool} {l : List Stp} {a : Int} (h : e a = e' a) : behAll e l a = behAll e' l a := by
  induction l generalizing e e' with
  | nil => exact h
  | cons x l ih => rw [behAll_cons, behAll_cons]; exact ih (beh_pt h)
theorem behAll_not {e : Int → Bool} {l : List Stp} {a : Int} (h : ∀ x ∈ l, movesIn a x = false) : behAll e l a = e a := by
  induction l generalizing e with
  | nil => rfl
  | cons x l ih =>
    rw [behAll_cons, ih fun y hy => h y (List.mem_cons_of_mem _ hy)]
    refine beh_not fun y hy ee => ?_
    have := (movesIn_iff a x).2 ⟨y, hy, ee⟩
    rw [h x (List.mem_cons_self ..)] at this; cases this
theorem behAll_append (e : Int → Bool) (l q : List Stp) : behAll e (l ++ q) = behAll (behAll e l) q := List.foldl_append
theorem ckWalk_append {m : Int} {e : Int → Bool} {l q : List Stp} : ckWalk m e (l ++ q) = 0 ↔ ckWalk m e l = 0 ∧ ckWalk m (behAll e l) q = 0 := by
  induction l generalizing e with
  | nil => exact ⟨fun h => ⟨rfl, h⟩, fun h => h.2⟩
  | cons x l ih =>
    rw [List.cons_append, ckWalk_iff, ckWalk_iff, ih, behAll_cons]
    exact ⟨fun h => ⟨⟨h.1, h.2.1⟩, h.2.2⟩, fun h => ⟨h.1.1, h.1.2, h.2⟩⟩
theorem ckWalk_mono {m m' : Int} (hm : m ≤ m') {e : Int → Bool} {l : List Stp} (h : ckWalk m e l = 0) : ckWalk m' e l = 0 := by
  induction l generalizing e with
  | nil => rfl
  | cons x l ih =>
    obtain ⟨h1, h2⟩ := ckWalk_iff.1 h
    obtain ⟨k1, k2, k3⟩ := ckFit_iff.1 h1
    exact ckWalk_iff.2 ⟨ckFit_iff.2 ⟨k1, fun y hy => by have := k2 y hy; omega, k3⟩, ih h2⟩
theorem ckWalk_none {m : Int} {e : Int → Bool} {l : List Stp} (he : ∀ a, In m a → e a = false) (h : ckWalk m e l = 0) : ckWalk m none6 l = 0 := by
  have key : ∀ (l : List Stp) (e e' : Int → Bool), (∀ a, In m a → e a = e' a) → ckWalk m e l = 0 → ckWalk m e' l = 0 := by
    intro l
    induction l with
    | nil => intro e e' _ _; rfl
    | cons x l ih =>
      intro e e' he h
      obtain ⟨h1, h2⟩ := ckWalk_iff.1 h
      obtain ⟨k1, k2, k3⟩ := ckFit_iff.1 h1
      have hk := ckStrokes_known (ckStep_strokes k1).1
      exact ckWalk_iff.2 ⟨ckFit_iff.2 ⟨k1, k2, fun y hy => by rw [← he y.1 ⟨(hk y hy).1, k2 y hy⟩]; exact k3 y hy⟩, ih _ _ (fun a ha => beh_pt (he a ha)) h2⟩
  exact key l e none6 (fun a ha => he a ha) h
theorem Right.notIn {m : Int} {l : List Stp} (h : Right m l) {a : Int} (ha : ¬ In m a) : ∀ x ∈ l, movesIn a x = false := fun x hx => by
  cases hm : movesIn a x
  · rfl
  · obtain ⟨y, hy, rfl⟩ := (movesIn_iff a x).1 hm
    exact absurd ((h.fine x hx).2 y hy) ha
theorem Right.none {m : Int} {l : List Stp} (h : Right m l) : behAll none6 l = none6 := by
  funext a
  by_cases ha : In m a
  · exact h.back a ha
  · exact behAll_not (h.notIn ha)
theorem Right.ck {m : Int} {l : List Stp} (h : Right m l) : ckSeq (m, l) = 0 := ckSeq_of h.act h.len h.walk h.back h.moved
theorem rests_none {m : Int} {l : List Stp} (h : Right m l) {k : Nat} : restsAt (m, l) k = true ↔ behAll none6 (l.take k) = none6 := by
  unfold restsAt
  rw [List.all_eq_true]
  constructor
  · intro hr
    funext a
    by_cases ha : In m a
    · have := hr a (ints_mem.2 ha)
      have h2 : behAll none6 (l.take k) a = false := by simpa using this
      exact h2
    · exact behAll_not fun x hx => h.notIn ha x (List.mem_of_mem_take hx)
  · intro hr a _
    dsimp only
    rw [hr]; rfl
/-- from a pause on a sequence can be carried out -/
theorem turned_right {m : Int} {l : List Stp} (h : Right m l) {k : Nat} (hk : behAll none6 (l.take k) = none6) : Right m (l.drop k ++ l.take k) := by
  have hw := h.walk
  rw [← List.take_append_drop k l] at hw
  obtain ⟨w1, w2⟩ := ckWalk_append.1 hw
  rw [hk] at w2
  have hn := h.none
  have hd : behAll none6 (l.drop k) = none6 := by
    rw [← List.take_append_drop k l, behAll_append, hk] at hn; exact hn
  refine ⟨h.act, by rw [List.length_append, List.length_drop, List.length_take]; have := h.len; omega, ckWalk_append.2 ⟨w2, by rw [hd]; exact w1⟩, fun a _ => by rw [behAll_append, hd, hk]; rfl, fun a ha => ?_⟩
  obtain ⟨x, hx, hm⟩ := (movedIn_iff a l).1 (h.moved a ha)
  refine (movedIn_iff a _).2 ⟨x, ?_, hm⟩
  rw [← List.take_append_drop k l] at hx
  rcases List.mem_append.1 hx with hx | hx
  · exact List.mem_append.2 (.inr hx)
  · exact List.mem_append.2 (.inl hx)
theorem drop_none {m : Int} {l : List Stp} (h : Right m l) {k : Nat} (hk : behAll none6 (l.take k) = none6) : behAll none6 (l.drop k) = none6 := by
  have hn := h.none
  rw [← List.take_append_drop k l, behAll_append, hk] at hn; exact hn
theorem turned_back (m : Int) (l : List Stp) {k : Nat} (hk : k < l.length) : turned (turned (m, l) k) ((l.length - k) % l.length) = (m, l) := by
  unfold turned
  dsimp only
  congr 1
  by_cases h0 : k = 0
  · subst h0
    rw [Nat.sub_zero, Nat.mod_self]
    simp
  · rw [Nat.mod_eq_of_lt (by omega)]
    have e1 : (l.drop k).length = l.length - k := List.length_drop
    rw [← e1, List.drop_left, List.take_left, List.take_append_drop]
theorem turned_rests {m : Int} {l : List Stp} (h : Right m l) {k : Nat} (hk : k < l.length) (hr : behAll none6 (l.take k) = none6) : fromE (turned (m, l) k) (((l.length - k) % l.length : Nat) : Int) = 0 := by
  have ht := turned_right h hr
  have hlen : (l.drop k ++ l.take k).length = l.length := by rw [List.length_append, List.length_drop, List.length_take]; omega
  unfold fromE turned
  dsimp only
  rw [hlen, if_neg (by simp [ht.ck]), if_neg (by have := Nat.mod_lt (l.length - k) (show 0 < l.length by omega); omega), if_pos]
  rw [rests_none ht]
  show behAll none6 ((l.drop k ++ l.take k).take ((l.length - k) % l.length)) = none6
  by_cases h0 : k = 0
  · subst h0
    rw [Nat.sub_zero, Nat.mod_self]; rfl
  · rw [Nat.mod_eq_of_lt (by omega)]
    have e1 : (l.drop k).length = l.length - k := List.length_drop
    rw [← e1, List.take_left]
    exact drop_none h hr
/- backwards -/
theorem flip_ck (z : Int) (l : List Stk) : ckStrokes z (flipAll l) = ckStrokes z l := by
  induction l generalizing z with
  | nil => rfl
  | cons y l ih =>
    show ckStrokes z ((y.1, !y.2) :: flipAll l) = _
    unfold ckStrokes
    rw [ih]
theorem flip_len (l : List Stk) : (flipAll l).length = l.length := by unfold flipAll; exact List.length_map ..
theorem flip_mem (z : Stk) (l : List Stk) : z ∈ flipAll l ↔ (z.1, !z.2) ∈ l := by
  unfold flipAll
  rw [List.mem_map]
  constructor
  · rintro ⟨y, hy, rfl⟩; simpa using hy
  · intro h; exact ⟨_, h, by simp⟩
theorem flip_flip (l : List Stk) : flipAll (flipAll l) = l := by
  unfold flipAll
  rw [List.map_map]
  conv => rhs; rw [← List.map_id l]
  exact List.map_congr_left fun y _ => by simp
theorem rev_split {l q : List Stp} {x : Stp} (h : q.map (·.1) = ((x :: l).map fun x => flipAll x.1).reverse) : ∃ q1 y, q = q1 ++ [y] ∧ q1.map (·.1) = (l.map fun x => flipAll x.1).reverse ∧ y.1 = flipAll x.1 := by
  rw [List.map_cons, List.reverse_cons] at h
  obtain ⟨q1, q2, rfl, h1, h2⟩ := List.map_eq_append_iff.1 h
  cases q2 with
  | nil => cases h2
  | cons y r =>
    cases r with
    | nil => exact ⟨q1, y, rfl, h1, by simpa using h2⟩
    | cons u r => simp at h2
theorem rev_walk {m : Int} {l : List Stp} : ∀ {e : Int → Bool} {q : List Stp}, ckWalk m e l = 0 → q.map (·.1) = (l.map fun x => flipAll x.1).reverse → (∀ x ∈ q, 0 ≤ x.2 ∧ x.2 ≤ 1000000) → ckWalk m (behAll e l) q = 0 ∧ ∀ a, behAll (behAll e l) q a = e a := by
  induction l with
  | nil =>
    intro e q _ hq _
    have : q = [] := by simpa using hq
    subst this
    exact ⟨rfl, fun a => rfl⟩
  | cons x l ih =>
    intro e q hw hq hz
    obtain ⟨q1, y, rfl, hq1, hy⟩ := rev_split hq
    obtain ⟨h1, h2⟩ := ckWalk_iff.1 hw
    obtain ⟨k1, k2, k3⟩ := ckFit_iff.1 h1
    have hs := ckStep_strokes k1
    have hd : Diff x.1 := (ckStrokes_asc hs.1).1.diff
    obtain ⟨i1, i2⟩ := ih (e := beh e x.1) h2 hq1 fun z hz' => hz z (List.mem_append.2 (.inl hz'))
    have hyw := hz y (List.mem_append.2 (.inr (List.mem_cons_self ..)))
    have hdy : Diff y.1 := by rw [hy]; unfold flipAll Diff; rw [List.pairwise_map]; exact hd
    rw [behAll_cons]
    refine ⟨ckWalk_append.2 ⟨i1, ckWalk_iff.2 ⟨ckFit_iff.2 ⟨ckStep_of (by rw [hy, flip_len]; omega) (by rw [hy, flip_len]; omega) (by rw [hy, flip_ck]; exact hs.1) hyw, fun z hz' => ?_, fun z hz' => ?_⟩, rfl⟩⟩, fun a => ?_⟩
    · rw [hy, flip_mem] at hz'
      exact k2 (z.1, !z.2) hz'
    · rw [hy, flip_mem] at hz'
      rw [i2]
      exact beh_mem hd (y := (z.1, !z.2)) hz'
    · rw [behAll_append]
      show beh _ y.1 a = e a
      cases hm : movesIn a x
      · have hna : ∀ z ∈ x.1, z.1 ≠ a := fun z hz' ee => by
          have := (movesIn_iff a x).2 ⟨z, hz', ee⟩; rw [hm] at this; cases this
        rw [beh_not, i2, beh_not hna]
        intro z hz' ee
        rw [hy, flip_mem] at hz'
        exact hna _ hz' ee
      · obtain ⟨z, hz', rfl⟩ := (movesIn_iff a x).1 hm
        have : (z.1, !z.2) ∈ y.1 := by rw [hy, flip_mem]; simpa using hz'
        rw [beh_mem hdy (y := (z.1, !z.2)) this, k3 z hz']
theorem back_strokes (m : Int) (l : List Stp) : (backwards (m, l)).2.map (·.1) = (l.map fun x => flipAll x.1).reverse := by
  unfold backwards
  rw [List.map_map]
  refine list_ext_getD ([] : List Stk) (by simp) fun k hk => ?_
  have hk' : k < l.length := by simpa using hk
  have e : l.length - 1 - k < l.length := by omega
  simp only [List.getD_eq_getElem?_getD]
  rw [List.getElem?_map, List.getElem?_range hk', List.getElem?_reverse (by simpa using hk'), List.length_map, List.getElem?_map, List.getElem?_eq_getElem e]
  simp [backStep, List.getElem?_eq_getElem e]
theorem back_len (m : Int) (l : List Stp) : (backwards (m, l)).2.length = l.length := by unfold backwards; simp
theorem back_at (m : Int) (l : List Stp) {k : Nat} (hk : k < l.length) : (backwards (m, l)).2.getD k stp0 = backStep (m, l) k := by
  unfold backwards
  simp [List.getD, hk]
theorem back_right {m : Int} {l : List Stp} (h : Right m l) : Right m (backwards (m, l)).2 := by
  have hz : ∀ x ∈ (backwards (m, l)).2, 0 ≤ x.2 ∧ x.2 ≤ 1000000 := fun x hx => by
    unfold backwards at hx
    obtain ⟨k, hk, rfl⟩ := List.mem_map.1 hx
    have hlt : (2 * l.length - 2 - k) % l.length < l.length := Nat.mod_lt _ h.len.1
    have hm : l.getD ((2 * l.length - 2 - k) % l.length) ([], 0) ∈ l := by rw [List.getD_eq_getElem?_getD, List.getElem?_eq_getElem hlt]; exact List.getElem_mem hlt
    have := ckStep_strokes (h.fine _ hm).1
    exact this.2.2.2
  obtain ⟨h1, h2⟩ := rev_walk h.walk (back_strokes m l) hz
  rw [h.none] at h1 h2
  refine ⟨h.act, by rw [back_len]; exact h.len, h1, fun a _ => h2 a, fun a ha => ?_⟩
  obtain ⟨x, hx, hm⟩ := (movedIn_iff a l).1 (h.moved a ha)
  have hmem : flipAll x.1 ∈ (backwards (m, l)).2.map (·.1) := by
    rw [back_strokes, List.mem_reverse]
    exact List.mem_map.2 ⟨x, hx, rfl⟩
  obtain ⟨y, hy, e⟩ := List.mem_map.1 hmem
  refine (movedIn_iff a _).2 ⟨y, hy, ?_⟩
  obtain ⟨z, hz', rfl⟩ := (movesIn_iff a x).1 hm
  refine (movesIn_iff _ y).2 ⟨(z.1, !z.2), ?_, rfl⟩
  show (z.1, !z.2) ∈ y.1
  rw [e, flip_mem]
  simpa using hz'
theorem back_back {m : Int} {l : List Stp} (h0 : 0 < l.length) : backwards (backwards (m, l)) = (m, l) := by
  refine Prod.ext rfl (list_ext_getD stp0 (by rw [show backwards (backwards (m, l)) = backwards (m, (backwards (m, l)).2) from rfl, back_len, back_len]) fun k hk => ?_)
  have hk' : k < l.length := by rw [show backwards (backwards (m, l)) = backwards (m, (backwards (m, l)).2) from rfl, back_len, back_len] at hk; exact hk
  rw [show backwards (backwards (m, l)) = backwards (m, (backwards (m, l)).2) from rfl, back_at m _ (by rw [back_len]; exact hk')]
  have hlt : (2 * l.length - 2 - k) % l.length < l.length := Nat.mod_lt _ h0
  show ((flipAll ((backwards (m, l)).2.getD ((backwards (m, l)).2.length - 1 - k) stp0).1, ((backwards (m, l)).2.getD ((2 * (backwards (m, l)).2.length - 2 - k) % (backwards (m, l)).2.length) stp0).2) : Stp) = l.getD k stp0
  rw [back_len, back_at m l (by omega), back_at m l hlt]
  show ((flipAll (flipAll (l.getD (l.length - 1 - (l.length - 1 - k)) stp0).1), (l.getD ((2 * l.length - 2 - (2 * l.length - 2 - k) % l.length) % l.length) stp0).2) : Stp) = l.getD k stp0
  rw [flip_flip, show l.length - 1 - (l.length - 1 - k) = k from by omega]
  have e : (2 * l.length - 2 - (2 * l.length - 2 - k) % l.length) % l.length = k := by
    by_cases h1 : k = l.length - 1
    · have e1 : 2 * l.length - 2 - k = l.length - 1 := by omega
      rw [e1, Nat.mod_eq_of_lt (show l.length - 1 < l.length by omega), show 2 * l.length - 2 - (l.length - 1) = l.length - 1 from by omega, Nat.mod_eq_of_lt (by omega)]
      omega
    · have e1 : 2 * l.length - 2 - k = (l.length - 2 - k) + l.length := by omega
      rw [e1, Nat.add_mod_right, Nat.mod_eq_of_lt (show l.length - 2 - k < l.length by omega), show 2 * l.length - 2 - (l.length - 2 - k) = k + l.length from by omega, Nat.add_mod_right, Nat.mod_eq_of_lt hk']
  rw [e]
/- words -/
def wordL (l : List Stp) : List Stk := l.flatMap (·.1)
def accL : List Stp → List Stk → Bool
  | [], w => w.length == 0
  | x :: l, w => if w.length < x.1.length then false else if x.1.any (fun y => !(w.take x.1.length).contains y) then false else accL l (w.drop x.1.length)
theorem accL_cons {x : Stp} {l : List Stp} {p w : List Stk} (hp : p.length = x.1.length) (hm : ∀ y ∈ x.1, y ∈ p) (hw : accL l w = true) : accL (x :: l) (p ++ w) = true := by
  unfold accL
  rw [if_neg (by rw [List.length_append]; omega), ← hp, List.take_left, List.drop_left, if_neg, hw]
  rw [Bool.not_eq_true, List.any_eq_false]
  intro y hy
  simp [hm y hy]
theorem accL_append {q r : List Stp} : ∀ {v w : List Stk}, accL q v = true → accL r w = true → accL (q ++ r) (v ++ w) = true := by
  induction q with
  | nil =>
    intro v w hv hw
    have : v = [] := by simpa [accL] using hv
    subst this
    exact hw
  | cons x q ih =>
    intro v w hv hw
    unfold accL at hv
    by_cases h1 : v.length < x.1.length
    · rw [if_pos h1] at hv; cases hv
    · rw [if_neg h1] at hv
      by_cases h2 : x.1.any (fun y => !(v.take x.1.length).contains y) = true
      · rw [if_pos h2] at hv; cases hv
      · rw [if_neg h2] at hv
        have h3 := ih hv hw
        rw [List.cons_append]
        have e : v ++ w = v.take x.1.length ++ (v.drop x.1.length ++ w) := by rw [← List.append_assoc, List.take_append_drop]
        rw [e]
        refine accL_cons (by rw [List.length_take]; omega) (fun y hy => ?_) h3
        rw [Bool.not_eq_true, List.any_eq_false] at h2
        have := h2 y hy
        simpa using this
theorem accL_word (l : List Stp) : accL l (wordL l) = true := by
  induction l with
  | nil => rfl
  | cons x l ih => exact accL_cons rfl (fun y hy => hy) ih
theorem accL_back {l : List Stp} : ∀ {q : List Stp}, q.map (·.1) = (l.map fun x => flipAll x.1).reverse → accL q (flipAll (wordL l).reverse) = true := by
  induction l with
  | nil =>
    intro q hq
    have : q = [] := by simpa using hq
    subst this; rfl
  | cons x l ih =>
    intro q hq
    obtain ⟨q1, y, rfl, hq1, hy⟩ := rev_split hq
    have e : flipAll (wordL (x :: l)).reverse = flipAll (wordL l).reverse ++ (flipAll x.1.reverse ++ []) := by
      show flipAll (x.1 ++ wordL l).reverse = _
      rw [List.reverse_append, List.append_nil]
      unfold flipAll; rw [List.map_append]
    rw [e]
    refine accL_append (ih hq1) (accL_cons (by rw [flip_len, List.length_reverse, hy, flip_len]) (fun z hz => ?_) rfl)
    rw [hy, flip_mem] at hz
    rw [flip_mem, List.mem_reverse]; exact hz
/- joined -/
theorem joined_right {m n : Int} {l q : List Stp} (h : Right m l) (k : Right n q) (hlen : l.length + q.length ≤ 64) : Right (max m n) (l ++ q) := by
  refine ⟨by have := h.act; have := k.act; omega, by rw [List.length_append]; have := h.len; omega, ckWalk_append.2 ⟨ckWalk_mono (by omega) h.walk, by rw [h.none]; exact ckWalk_mono (by omega) k.walk⟩, fun a _ => by rw [behAll_append, h.none, k.none]; rfl, fun a ha => ?_⟩
  rw [movedIn_iff]
  by_cases hm : a < m
  · obtain ⟨x, hx, hh⟩ := (movedIn_iff a l).1 (h.moved a ⟨ha.1, hm⟩)
    exact ⟨x, List.mem_append.2 (.inl hx), hh⟩
  · obtain ⟨x, hx, hh⟩ := (movedIn_iff a q).1 (k.moved a ⟨ha.1, by have := ha.2; omega⟩)
    exact ⟨x, List.mem_append.2 (.inr hx), hh⟩
/- merged -/
theorem diff_len {l : List Stk} (hd : Diff l) (hk : ∀ y ∈ l, 0 ≤ y.1 ∧ y.1 < 6) : l.length ≤ 6 := by
  have := sub_len (l := l.map (·.1)) (m := ints 6) (by unfold List.Nodup; rw [List.pairwise_map]; exact hd) (fun x hx => by
    obtain ⟨y, hy, rfl⟩ := List.mem_map.1 hx
    exact ints_mem.2 (hk y hy))
  rw [List.length_map, ints_length] at this
  exact this
theorem merged_right {m : Int} {l : List Stp} (h : Right m l) {k : Nat} (hk : mergeE (m, l) (k : Int) = 0) : Right m (merged (m, l) k).2 ∧ (merged (m, l) k).2.length = l.length - 1 ∧ k + 1 < l.length ∧ accL (merged (m, l) k).2 (wordL l) = true := by
  unfold mergeE at hk
  rw [if_neg (by simp [h.ck])] at hk
  dsimp only at hk
  by_cases h1 : (k : Int) < 0 ∨ (l.length : Int) - 2 < (k : Int)
  · rw [if_pos h1] at hk; cases hk
  rw [if_neg h1] at hk
  have hk1 : k + 1 < l.length := by omega
  have e2 : ((k : Int)).toNat = k := by omega
  rw [e2] at hk
  obtain ⟨x, hx⟩ : ∃ x, x = l.getD k stp0 := ⟨_, rfl⟩
  obtain ⟨y, hy⟩ : ∃ y, y = l.getD (k + 1) stp0 := ⟨_, rfl⟩
  have hsplit : l = l.take k ++ x :: y :: l.drop (k + 2) := by
    have e1 : l = l.take k ++ l.drop k := (List.take_append_drop k l).symm
    rw [drop_cons l stp0 (by omega : k < l.length), drop_cons l stp0 hk1] at e1
    rw [hx, hy]; exact e1
  have h3 : (apart (l.getD k ([], 0)) (l.getD (k + 1) ([], 0)) && (l.getD k ([], 0)).2 == 0) = true := by
    cases hq : (apart (l.getD k ([], 0)) (l.getD (k + 1) ([], 0)) && (l.getD k ([], 0)).2 == 0)
    · rw [hq] at hk; cases hk
    · rfl
  have h3 : (apart x y && x.2 == 0) = true := by rw [hx, hy]; exact h3
  clear hk
  have hap : apart x y = true := by rw [Bool.and_eq_true] at h3; exact h3.1
  have hxm : x ∈ l := by rw [hsplit]; simp
  have hym : y ∈ l := by rw [hsplit]; simp
  obtain ⟨z, hz⟩ : ∃ z : Stp, z = (ordered (x.1 ++ y.1), y.2) := ⟨_, rfl⟩
  have hmg : (merged (m, l) k).2 = l.take k ++ z :: l.drop (k + 2) := by rw [hz, hx, hy]; rfl
  have hdf : Diff (x.1 ++ y.1) := apart_diff (sa := x.1) (wa := x.2) (sb := y.1) (wb := y.2) (h.fine x hxm).1 (h.fine y hym).1 hap
  have hkn : ∀ u ∈ x.1 ++ y.1, 0 ≤ u.1 ∧ u.1 < 6 := fun u hu => by
    have ha := h.act
    rcases List.mem_append.1 hu with hu | hu
    · have h1 := (h.fine x hxm).2 u hu; have h2 := h1.1; have h3 := h1.2; omega
    · have h1 := (h.fine y hym).2 u hu; have h2 := h1.1; have h3 := h1.2; omega
  have hzm : ∀ u, u ∈ z.1 ↔ u ∈ x.1 ∨ u ∈ y.1 := fun u => by
    rw [hz]
    show u ∈ ordered (x.1 ++ y.1) ↔ _
    rw [ordered_mem, List.mem_append]
    exact ⟨fun h => h.1, fun h => ⟨h, hkn u (List.mem_append.2 h)⟩⟩
  have hzl : z.1.length = x.1.length + y.1.length := by
    rw [hz]
    show (ordered (x.1 ++ y.1)).length = _
    rw [← isortK_ordered hdf hkn, isortK_length, List.length_append]
  have hza : Asc z.1 := by rw [hz]; exact ordered_asc hdf
  have hzk : ∀ u ∈ z.1, 0 ≤ u.1 ∧ u.1 < 6 := fun u hu => hkn u (List.mem_append.2 ((hzm u).1 hu))
  have hne : ∀ u ∈ x.1, ∀ v ∈ y.1, u.1 ≠ v.1 := fun u hu v hv e => (List.pairwise_append.1 hdf).2.2 u hu v hv e
  have hw := h.walk
  rw [hsplit] at hw
  obtain ⟨w1, w2⟩ := ckWalk_append.1 hw
  obtain ⟨w3, w4⟩ := ckWalk_iff.1 w2
  obtain ⟨w5, w6⟩ := ckWalk_iff.1 w4
  obtain ⟨x1, x2, x3⟩ := ckFit_iff.1 w3
  obtain ⟨y1, y2, y3⟩ := ckFit_iff.1 w5
  have hsx := ckStep_strokes x1
  have hsy := ckStep_strokes y1
  have hbz : ∀ e, beh e z.1 = beh (beh e x.1) y.1 := fun e => by
    funext a
    cases hmy : movesIn a y
    · have ny : ∀ v ∈ y.1, v.1 ≠ a := fun v hv ee => by have := (movesIn_iff a y).2 ⟨v, hv, ee⟩; rw [hmy] at this; cases this
      rw [beh_not (l := y.1) ny]
      cases hmx : movesIn a x
      · have nx : ∀ v ∈ x.1, v.1 ≠ a := fun v hv ee => by have := (movesIn_iff a x).2 ⟨v, hv, ee⟩; rw [hmx] at this; cases this
        rw [beh_not (l := x.1) nx, beh_not]
        intro u hu ee
        rcases (hzm u).1 hu with hu | hu
        · exact nx u hu ee
        · exact ny u hu ee
      · obtain ⟨u, hu, rfl⟩ := (movesIn_iff a x).1 hmx
        rw [beh_mem (ckStrokes_asc hsx.1).1.diff hu, beh_mem hza.diff ((hzm u).2 (.inl hu))]
    · obtain ⟨u, hu, rfl⟩ := (movesIn_iff a y).1 hmy
      rw [beh_mem (ckStrokes_asc hsy.1).1.diff hu, beh_mem hza.diff ((hzm u).2 (.inr hu))]
  have hbl : ∀ e, behAll e (l.take k ++ z :: l.drop (k + 2)) = behAll e l := fun e => by
    conv => rhs; rw [hsplit]
    rw [behAll_append, behAll_append, behAll_cons, behAll_cons, behAll_cons, hbz]
  have hlen : (l.take k ++ z :: l.drop (k + 2)).length = l.length - 1 := by
    rw [List.length_append, List.length_take, List.length_cons, List.length_drop]; omega
  rw [hmg]
  refine ⟨⟨h.act, by rw [hlen]; have := h.len; omega, ckWalk_append.2 ⟨w1, ckWalk_iff.2 ⟨ckFit_iff.2 ⟨?_, fun u hu => ?_, fun u hu => ?_⟩, by rw [hbz]; exact w6⟩⟩, fun a ha => by rw [hbl]; exact h.back a ha, fun a ha => ?_⟩, hlen, hk1, ?_⟩
  · refine ckStep_of (by omega) ?_ (asc_ck hza (fun u hu => by have := hzk u hu; omega) hzk) (by rw [hz]; exact hsy.2.2.2)
    exact diff_len hza.diff hzk
  · rcases (hzm u).1 hu with hu | hu
    · exact x2 u hu
    · exact y2 u hu
  · rcases (hzm u).1 hu with hu | hu
    · exact x3 u hu
    · rw [← y3 u hu, beh_not]
      exact fun v hv => hne v hv u hu
  · obtain ⟨s, hs, hh⟩ := (movedIn_iff a l).1 (h.moved a ha)
    rw [hsplit] at hs
    rcases List.mem_append.1 hs with hs | hs
    · exact (movedIn_iff a _).2 ⟨s, List.mem_append.2 (.inl hs), hh⟩
    · rcases List.mem_cons.1 hs with rfl | hs
      · obtain ⟨u, hu, e⟩ := (movesIn_iff a _).1 hh
        exact (movedIn_iff a _).2 ⟨z, by simp, (movesIn_iff a z).2 ⟨u, (hzm u).2 (.inl hu), e⟩⟩
      · rcases List.mem_cons.1 hs with rfl | hs
        · obtain ⟨u, hu, e⟩ := (movesIn_iff a _).1 hh
          exact (movedIn_iff a _).2 ⟨z, by simp, (movesIn_iff a z).2 ⟨u, (hzm u).2 (.inr hu), e⟩⟩
        · exact (movedIn_iff a _).2 ⟨s, List.mem_append.2 (.inr (List.mem_cons_of_mem _ hs)), hh⟩
  · have e : wordL l = wordL (l.take k) ++ ((x.1 ++ y.1) ++ wordL (l.drop (k + 2))) := by
      conv => lhs; rw [hsplit]
      unfold wordL
      rw [List.flatMap_append, List.flatMap_cons, List.flatMap_cons, List.append_assoc]
    rw [e]
    exact accL_append (accL_word _) (accL_cons (by rw [hzl, List.length_append]) (fun u hu => List.mem_append.2 ((hzm u).1 hu)) (accL_word _))
/- parts -/
theorem partFn_sur (l : List Stp) (n : Nat) : ∀ v, 0 ≤ v → v < partFn l (n : Int) → ∃ a : Nat, a < n ∧ movedIn (a : Int) l = true ∧ partFn l (a : Int) = v := by
  induction n with
  | zero =>
    intro v h0 h
    have : partFn l ((0 : Nat) : Int) ≤ ((0 : Nat) : Int) := partFn_le l 0
    omega
  | succ n ih =>
    intro v h0 h
    rw [partFn_succ] at h
    by_cases hv : v < partFn l (n : Int)
    · obtain ⟨a, h1, h2, h3⟩ := ih v h0 hv
      exact ⟨a, by omega, h2, h3⟩
    · cases hm : movedIn (n : Int) l
      · rw [hm] at h; simp at h; omega
      · rw [hm] at h; simp at h
        exact ⟨n, by omega, hm, by omega⟩
theorem part_bij (n : Nat) (l : List Stp) : ∃ g, Bij (fun a => In (n : Int) a ∧ movedIn a l = true) (partFn l n) (partFn l) g := by
  classical
  refine ⟨fun v => if h : 0 ≤ v ∧ v < partFn l (n : Int) then ((Classical.choose (partFn_sur l n v h.1 h.2) : Nat) : Int) else 0, fun a ha => ⟨partFn_nonneg l a, partFn_lt l ha.1.1 ha.1.2 ha.2⟩, fun a ha => ?_, fun a ha => ?_, fun a ha => ?_⟩
  · (try dsimp only)
    rw [dif_pos ha]
    have hs := Classical.choose_spec (partFn_sur l n a ha.1 ha.2)
    exact ⟨⟨by omega, by omega⟩, hs.2.1⟩
  · have hr : 0 ≤ partFn l a ∧ partFn l a < partFn l (n : Int) := ⟨partFn_nonneg l a, partFn_lt l ha.1.1 ha.1.2 ha.2⟩
    (try dsimp only)
    rw [dif_pos hr]
    have hs := Classical.choose_spec (partFn_sur l n _ hr.1 hr.2)
    exact partFn_inj l (by omega) ha.1.1 hs.2.1 ha.2 hs.2.2
  · (try dsimp only)
    rw [dif_pos ha]
    exact (Classical.choose_spec (partFn_sur l n a ha.1 ha.2)).2.2
theorem part_right {n : Nat} {l : List Stp} (hn : (n : Int) ≤ 6) (h0 : 0 < l.length ∧ l.length ≤ 64) (hw : ckWalk (n : Int) none6 l = 0) (hb : behAll none6 l = none6) : Right (partOf (n : Int) l).1 (partOf (n : Int) l).2 := by
  obtain ⟨g, hg⟩ := part_bij n l
  have hf : ∀ x ∈ l, FineP (fun a => In (n : Int) a ∧ movedIn a l = true) x := fun x hx => by
    have := (ckWalk_fine hw).all x hx
    exact ⟨this.1, fun y hy => ⟨this.2 y hy, movedIn_mem hx hy⟩⟩
  have hle := partFn_le l n
  have hp6 : partFn l n ≤ 6 := by omega
  show Right (partFn l n) (l.map (renStep (partFn l)))
  refine ⟨⟨?_, hp6⟩, by rw [List.length_map]; exact h0, ckWalk_ren hg hp6 hf (fun _ _ => rfl) hw, fun a ha => ?_, fun a ha => ?_⟩
  · have hx : l.getD 0 stp0 ∈ l := getD_mem stp0 h0.1
    have h1 := hf _ hx
    have h2 := ckStep_strokes h1.1
    have hy : (l.getD 0 stp0).1.getD 0 stk0 ∈ (l.getD 0 stp0).1 := getD_mem stk0 h2.2.2.1
    have h3 := hg.rng _ (h1.2 _ hy)
    omega
  · rw [← hg.fg a ha, behAll_ren (e := none6) (e' := none6) hg hp6 hf (fun _ _ => rfl) _ (hg.gp a ha), hb]; rfl
  · rw [← hg.fg a ha, movedIn_ren hg hp6 hf (hg.gp a ha)]
    exact (hg.gp a ha).2
end Go.Proofs.YtnhbogmihnnpjaaGreat
/- The law's right: a sequence can be carried out, and is small. -/
namespace Go.Proofs.YtnhbogmihnnpjaaGreat
open Go.RowKit

def rightB (s : Sq) : Bool := !([s].any badQ) && decide (s.2.length ≤ 30) && decide (ckSeq s = 0)
theorem rightB_true {n : Int} {l : List Stp} (h : rightB (n, l) = true) : l.length ≤ 30 ∧ ckSeq (n, l) = 0 := by
  unfold rightB at h
  rw [Bool.and_eq_true, Bool.and_eq_true] at h
  exact ⟨of_decide_eq_true h.1.2, of_decide_eq_true h.2⟩

set_option maxHeartbeats 8000000 in
set_option maxRecDepth 100000 in
theorem right_any (n : Int) (l : List Stp) (a : Option Addr) (cap : Nat) (w : World) (hc : CellsP w a l) (hr : Room a l.length cap) :
    Calls Tryz.prog 26 #[.agg #[.int .i64 n, .slice a l.length cap]] w fun e w' => e = .returned (.bool (rightB (n, l))) ∧ Ext w w' := by
  have HC := Lib.hid hc
  have HR := Lib.hid hr
  obtain ⟨R, hR⟩ : ∃ R, R = rightB (n, l) := ⟨_, rfl⟩
  rw [← hR]
  have HRR : Hid (R = (!([(n, l)].any badQ) && decide (l.length ≤ 30) && decide (ckSeq (n, l) = 0))) := hR
  clear hc hr hR
  have E0 : Ext w (w.alloc (.cells #[.int .i64 n, .slice a l.length cap] 24)) := (by repeat (first | with_reducible exact Ext.refl _ | with_reducible assumption | with_reducible apply Ext.drewN | with_reducible apply Ext.drew | with_reducible apply Ext.alloc | ((with_reducible refine Ext.set ?_ ?_ _); rotate_left; first | omega | (simp; omega)) | (with_reducible refine Ext.trans ?_ (by with_reducible assumption))))
  have c0 : ((w.alloc (.cells #[.int .i64 n, .slice a l.length cap] 24))).cell? ⟨w.heap.size, 0, none⟩ = some (.int .i64 n) := by go_simp
  have c1 : ((w.alloc (.cells #[.int .i64 n, .slice a l.length cap] 24))).cell? ⟨w.heap.size, 1, none⟩ = some (.slice a l.length cap) := by go_simp
  go_enter Tryz.func26, Tryz.ntmps26
  go_wp2_with fail
  have E1 : Ext (w.alloc (.cells #[.int .i64 n, .slice a l.length cap] 24)) (((w.alloc (.cells #[.int .i64 n, .slice a l.length cap] 24))).alloc (.cells #[.int .i64 n, .slice a l.length cap] 24)) := (by repeat (first | with_reducible exact Ext.refl _ | with_reducible assumption | with_reducible apply Ext.drewN | with_reducible apply Ext.drew | with_reducible apply Ext.alloc | ((with_reducible refine Ext.set ?_ ?_ _); rotate_left; first | omega | (simp; omega)) | (with_reducible refine Ext.trans ?_ (by with_reducible assumption))))
  have E2 := E0.trans E1
  have c0 := (E1).cell c0
  have c1 := (E1).cell c1
  have HQ := Lib.hid (cellsQ_one (n := n) (c := cap) HR.out (HC.out.ext E0))
  refine (few_any [(n, l)] _ 1 _ (by unfold maxLen; simp) (by simpa using HQ.out)).mono ?_
  rintro e w1 ⟨rfl, hE⟩
  have F1 := E2.trans hE
  have c0 := (hE).cell c0
  have c1 := (hE).cell c1
  clear hE E1 E0 E2 HQ
  generalize (!([(n, l)] : List Sq).any badQ) = fw at HRR ⊢
  obtain ⟨bs, hbs⟩ : ∃ bs, bs = w.heap.size := ⟨_, rfl⟩
  rw [← hbs] at c0 c1 ⊢
  clear hbs
  cases fw
  · have h := HRR.out
    rw [Bool.false_and, Bool.false_and] at h
    subst h
    clear HRR
    go_wp2
    go_ret
    exact ⟨rfl, F1⟩
  by_cases h30 : l.length ≤ 30
  · have h := HRR.out
    rw [decide_eq_true h30, Bool.true_and, Bool.true_and] at h
    have H := Lib.hid h
    have h31 : (l.length : Int) ≤ 30 := by omega
    clear h HRR
    go_wp2_with fail
    refine (CheckR_any n l a cap _ HR.out (HC.out.ext F1)).mono ?_
    rintro e w2 ⟨rfl, hE⟩
    have F2 := F1.trans hE
    obtain ⟨er, her⟩ : ∃ er, er = ckSeq (n, l) := ⟨_, rfl⟩
    rw [← her] at H ⊢
    clear her hE F1
    by_cases h0 : er = 0
    · have h := H.out
      rw [decide_eq_true h0] at h
      subst h
      subst h0
      clear H
      go_wp2
      go_ret
      exact ⟨rfl, F2⟩
    · have h := H.out
      rw [decide_eq_false h0] at h
      subst h
      have h1 : (er == 0) = false := by simp [h0]
      clear H h0
      go_wp2
      go_ret
      exact ⟨rfl, F2⟩
  · have h := HRR.out
    rw [decide_eq_false h30, Bool.and_false, Bool.false_and] at h
    subst h
    have h31 : ¬ (l.length : Int) ≤ 30 := by omega
    clear HRR
    go_wp2
    go_ret
    exact ⟨rfl, F1⟩
end Go.Proofs.YtnhbogmihnnpjaaGreat
/- sequence.Word and sequence.Words. -/
namespace Go.Proofs.YtnhbogmihnnpjaaGreat
open Go.RowKit

theorem wordL_succ {l : List Stp} {k : Nat} (h : k < l.length) : wordL (l.take (k + 1)) = wordL (l.take k) ++ (l.getD k stp0).1 := by
  unfold wordL
  rw [List.take_succ_eq_append_getElem h, List.flatMap_append, List.getD_eq_getElem?_getD, List.getElem?_eq_getElem h]
  simp
theorem wordL_len {n : Int} {l : List Stp} (h : Fine n l) : ∀ k, k ≤ l.length → (wordL (l.take k)).length ≤ 6 * k := by
  intro k
  induction k with
  | zero => intro _; simp [wordL]
  | succ k ih =>
    intro hk
    have := ih (by omega)
    have h2 := (ckStep_strokes (h k (by omega)).1).2.1
    rw [wordL_succ (by omega), List.length_append]
    omega
theorem ownsK_app {w : World} {v : Value} {l m : List Stk} (h : w.ownsRow 0 73 2 v (l.length + m.length) (flatK l ++ flatK m)) : OwnsK w v (l ++ m) := by
  unfold OwnsK
  rw [List.length_append, flatK_append]; exact h

set_option maxHeartbeats 8000000 in
set_option maxRecDepth 100000 in
theorem Word_any (n : Int) (l : List Stp) (a : Option Addr) (cap : Nat) (w : World) (hl : l.length ≤ maxLen) (hc : CellsP w a l) :
    Calls Tryz.prog 38 #[.agg #[.int .i64 n, .slice a l.length cap]] w fun e w' => ∃ v, e = .returned (.tuple #[v, .int .i64 (ckSeq (n, l))]) ∧ OwnsK w' v (if ckSeq (n, l) = 0 then wordL l else []) ∧ (∀ b, v.ownBlock = some b → w.heap.size ≤ b) ∧ Ext w w' := by
  have HC := Lib.hid hc
  have HL := Lib.hid hl
  obtain ⟨er, her⟩ : ∃ er, er = ckSeq (n, l) := ⟨_, rfl⟩
  obtain ⟨R, hR⟩ : ∃ R, R = if er = 0 then wordL l else [] := ⟨_, rfl⟩
  rw [← her, ← hR]
  have HER := Lib.hid her
  have HR := Lib.hid hR
  clear hc her hR hl
  obtain ⟨i0, hi, hi0, hi1, hi2⟩ := info_parts infoStk
  go_enter Tryz.func38, Tryz.ntmps38
  go_wp2_with fail
  have E1 : Ext w (w.alloc (.cells #[.int .i64 n, .slice a l.length cap] 24)) := (by repeat (first | with_reducible exact Ext.refl _ | with_reducible assumption | with_reducible apply Ext.drewN | with_reducible apply Ext.drew | with_reducible apply Ext.alloc | ((with_reducible refine Ext.set ?_ ?_ _); rotate_left; first | omega | (simp; omega)) | (with_reducible refine Ext.trans ?_ (by with_reducible assumption))))
  have c0 : ((w.alloc (.cells #[.int .i64 n, .slice a l.length cap] 24))).cell? ⟨w.heap.size, 0, none⟩ = some (.int .i64 n) := by go_simp
  have c1 : ((w.alloc (.cells #[.int .i64 n, .slice a l.length cap] 24))).cell? ⟨w.heap.size, 1, none⟩ = some (.slice a l.length cap) := by go_simp
  generalize (w.alloc (.cells #[.int .i64 n, .slice a l.length cap] 24)) = W at E1 c0 c1 ⊢
  refine (Check_any n l a cap _ HL.out (HC.out.ext E1)).mono ?_
  rintro e w1 ⟨rfl, hE⟩
  rw [← HER.out]
  have E2 := E1.trans hE
  have c0 := (hE).cell c0
  have c1 := (hE).cell c1
  clear hE
  by_cases h0 : er = 0
  · subst h0
    have hck := HER.out.symm
    obtain ⟨hN1, hN6, hl0, hl64, hwk, _, _⟩ := ckSeq_zero hck
    have HFI := Lib.hid (ckWalk_fine hwk)
    have hR := HR.out
    rw [if_pos rfl] at hR
    have HRR : Hid (wordL (l.take l.length) = R) := by show _ = _; rw [List.take_length]; exact hR.symm
    have zw := cell_lt c0
    dsimp only at zw
    clear hck hwk HER HR hR
    go_wp2
    go_loopw [16, 5] (fun i v wr => ∃ k : Nat, k ≤ l.length ∧ i = .int .i64 k ∧ (∃ vv, v = vv ∧ Hid (OwnsK wr vv (wordL (l.take k)) ∧ ∀ b, vv.ownBlock = some b → w1.heap.size ≤ b)) ∧ Ext w1 wr) (fun i _ _ => l.length - (intOf i).toNat)
    case atStart => exact ⟨0, Nat.zero_le _, rfl, ⟨_, rfl, OwnsK.nil _, fun b hb => by cases hb⟩, Ext.refl _⟩
    case round =>
      obtain ⟨k, hk, rfl, ⟨vv, hvv, hO⟩, he⟩ := hrel
      obtain rfl := hvv.symm
      have E3 := E2.trans he
      by_cases hlt : k < l.length
      · obtain ⟨b, off, v, ha, p1, hv, p2⟩ := HC.out k hlt
        subst ha
        have HFK := HFI.out k hlt
        have hst := ckStep_strokes HFK.1
        have hst6 := hst.2.1
        have hst0 := hst.2.2.1
        have HWS := Lib.hid (wordL_succ hlt)
        have hwl := wordL_len HFI.out k (by omega)
        obtain ⟨sa, sc, rfl, hcs, hls⟩ := hv
        have p1 := E3.cell p1
        have p2 := E3.cell p2
        generalize l.getD k stp0 = x at p1 p2 hcs hls HWS hst6 hst0
        obtain ⟨st, wj⟩ := x
        dsimp only at p1 p2 hcs hls HWS hst6 hst0
        obtain ⟨kb, ko, ha, _, _⟩ := hcs 0 hst0
        subst ha
        have HCS := Lib.hid hcs
        have O2 := Lib.hid hO.out.1
        have OB := Lib.hid hO.out.2
        have hsz := he.size
        have zb := cell_lt p1
        dsimp only at zb
        clear hcs hls hO HFK hst
        generalize wordL (l.take k) = P at O2 HWS hwl
        have ES : Ext wr (wr.alloc (.cells #[.slice (some ⟨kb, ko, none⟩) st.length sc, .int .i64 wj] 87)) := (by repeat (first | with_reducible exact Ext.refl _ | with_reducible assumption | with_reducible apply Ext.drewN | with_reducible apply Ext.drew | with_reducible apply Ext.alloc | ((with_reducible refine Ext.set ?_ ?_ _); rotate_left; first | omega | (simp; omega)) | (with_reducible refine Ext.trans ?_ (by with_reducible assumption))))
        have hO5 : Hid (OwnsK (wr.alloc (.cells #[.slice (some ⟨kb, ko, none⟩) st.length sc, .int .i64 wj] 87)) vv P) := O2.out.ext ES
        have hfl : Hid (∀ j u, (flatK st)[j]? = some u → (wr.alloc (.cells #[.slice (some ⟨kb, ko, none⟩) st.length sc, .int .i64 wj] 87)).cell? ((⟨kb, ko, none⟩ : Addr).add j) = some u) := fun j u hu => (HCS.out.ext (E3.trans ES)).flat j u hu
        go_wp2_with (at_builtin; refine wpList_append1 _ rfl _ _ 66 rfl 73 i0 (.agg #[.int .i64 0, .bool false]) 2 16 Tryz.underlying66 hi hi0 hi1 hi2 rfl (by decide) vv P.length (flatK P) rfl hO5.out ⟨kb, ko, none⟩ st.length sc hst0 (flatK st) rfl (flatK_length st) hfl.out (flatK_one st) ?c2 ?c3 ?c4)
        case c2 => unfold maxLen; omega
        case c3 => omega
        case c4 =>
          intro v' w5 hown5 hend5
          have O5 : Hid (OwnsK w5 v' (wordL (l.take (k + 1)))) := by show OwnsK _ _ _; rw [HWS.out]; exact ownsK_app hown5
          have B5 : Ext w1 w5 := (he.trans ES).trans' (hend5.below (n := w1.heap.size) (by simp; omega) OB.out) (Nat.le_refl _)
          have OB5 : Hid (∀ b, v'.ownBlock = some b → w1.heap.size ≤ b) := hend5.ge (n := w1.heap.size) (by simp; omega) OB.out
          clear hown5 hend5 O2 OB HWS hO5 hfl
          go_wp2
          refine ⟨⟨k + 1, by omega, by go_num, ⟨v', rfl, O5.out, OB5.out⟩, B5⟩, by simp [intOf]; omega⟩
      · have hke : k = l.length := by omega
        subst hke
        have hO1 := hO.out.1
        rw [HRR.out] at hO1
        have HO1 := Lib.hid hO1
        have HO2 := Lib.hid hO.out.2
        have hsz := E2.size
        clear hO hO1
        go_wp2
        go_ret2
        exact ⟨_, rfl, HO1.out, fun b hb => by have := HO2.out b hb; omega, E3⟩
  · have hn : (er != 0) = true := by simp [h0]
    have hR := HR.out
    rw [if_neg h0] at hR
    subst hR
    clear h0 HER HR
    go_wp2
    go_ret2
    exact ⟨.slice none 0 0, rfl, OwnsK.nil _, (fun b hb => by cases hb), E2⟩
/-- the product with the factors behind k, or 0 if it is too great -/
def facGo (o : Int) (k : Nat) : Nat → Int
  | 0 => o
  | r + 1 => if 1048576 < o * ((k : Int) + 1) then 0 else facGo (o * ((k : Int) + 1)) (k + 1) r
def wordsGo (o : Int) : List Nat → Int
  | [] => o
  | m :: ms => if facGo o 0 m = 0 then 0 else wordsGo (facGo o 0 m) ms
def lens (l : List Stp) : List Nat := l.map fun x => x.1.length
def wordsN (s : Sq) : Int := if ckSeq s = 0 then wordsGo 1 (lens s.2) else 0
def wordsE (s : Sq) : Int := if ckSeq s = 0 then (if wordsGo 1 (lens s.2) = 0 then 12 else 0) else ckSeq s
theorem facGo_succ {o : Int} {j m : Nat} (h : j < m) {P : Int} (e : facGo o j (m - j) = P) : (1048576 < o * ((j : Int) + 1) → P = 0) ∧ (¬ 1048576 < o * ((j : Int) + 1) → facGo (o * ((j : Int) + 1)) (j + 1) (m - (j + 1)) = P) := by
  rw [show m - j = (m - (j + 1)) + 1 from by omega] at e
  unfold facGo at e
  refine ⟨fun h1 => ?_, fun h1 => ?_⟩
  · rw [if_pos h1] at e; exact e.symm
  · rw [if_neg h1] at e; exact e
theorem wordsGo_drop {o : Int} {l : List Stp} {k : Nat} (h : k < l.length) {R : Int} (e : wordsGo o (lens (l.drop k)) = R) : (facGo o 0 (l.getD k stp0).1.length = 0 → R = 0) ∧ (facGo o 0 (l.getD k stp0).1.length ≠ 0 → wordsGo (facGo o 0 (l.getD k stp0).1.length) (lens (l.drop (k + 1))) = R) := by
  rw [drop_cons l stp0 h] at e
  unfold lens at e ⊢
  rw [List.map_cons] at e
  unfold wordsGo at e
  refine ⟨fun h1 => ?_, fun h1 => ?_⟩
  · rw [if_pos h1] at e; exact e.symm
  · rw [if_neg h1] at e; exact e

set_option maxHeartbeats 8000000 in
set_option maxRecDepth 100000 in
theorem Words_any (n : Int) (l : List Stp) (a : Option Addr) (cap : Nat) (w : World) (hl : l.length ≤ maxLen) (hc : CellsP w a l) :
    Calls Tryz.prog 37 #[.agg #[.int .i64 n, .slice a l.length cap]] w fun e w' => e = .returned (.tuple #[.int .i64 (wordsN (n, l)), .int .i64 (wordsE (n, l))]) ∧ Ext w w' := by
  have HC := Lib.hid hc
  have HL := Lib.hid hl
  obtain ⟨er, her⟩ : ∃ er, er = ckSeq (n, l) := ⟨_, rfl⟩
  obtain ⟨wn, hwn⟩ : ∃ wn, wn = wordsN (n, l) := ⟨_, rfl⟩
  obtain ⟨we, hwe⟩ : ∃ we, we = wordsE (n, l) := ⟨_, rfl⟩
  rw [← hwn, ← hwe]
  have HER := Lib.hid her
  have HWN := Lib.hid (And.intro hwn hwe)
  clear hc her hwn hwe hl
  go_enter Tryz.func37, Tryz.ntmps37
  go_wp2_with fail
  have E1 : Ext w (w.alloc (.cells #[.int .i64 n, .slice a l.length cap] 24)) := (by repeat (first | with_reducible exact Ext.refl _ | with_reducible assumption | with_reducible apply Ext.drewN | with_reducible apply Ext.drew | with_reducible apply Ext.alloc | ((with_reducible refine Ext.set ?_ ?_ _); rotate_left; first | omega | (simp; omega)) | (with_reducible refine Ext.trans ?_ (by with_reducible assumption))))
  have c0 : ((w.alloc (.cells #[.int .i64 n, .slice a l.length cap] 24))).cell? ⟨w.heap.size, 0, none⟩ = some (.int .i64 n) := by go_simp
  have c1 : ((w.alloc (.cells #[.int .i64 n, .slice a l.length cap] 24))).cell? ⟨w.heap.size, 1, none⟩ = some (.slice a l.length cap) := by go_simp
  generalize (w.alloc (.cells #[.int .i64 n, .slice a l.length cap] 24)) = W at E1 c0 c1 ⊢
  refine (Check_any n l a cap _ HL.out (HC.out.ext E1)).mono ?_
  rintro e w1 ⟨rfl, hE⟩
  rw [← HER.out]
  have E2 := E1.trans hE
  have c0 := (hE).cell c0
  have c1 := (hE).cell c1
  clear hE
  by_cases h0 : er = 0
  · subst h0
    have hck := HER.out.symm
    obtain ⟨hN1, hN6, hl0, hl64, hwk, _, _⟩ := ckSeq_zero hck
    have HFI := Lib.hid (ckWalk_fine hwk)
    obtain ⟨R, hR⟩ : ∃ R, R = wordsGo 1 (lens l) := ⟨_, rfl⟩
    have hn1 : wn = R := by rw [HWN.out.1]; unfold wordsN; rw [if_pos hck, hR]
    have he1 : we = if R = 0 then 12 else 0 := by rw [HWN.out.2]; unfold wordsE; rw [if_pos hck, hR]
    subst hn1
    have HWE := Lib.hid he1
    have R0 : Hid (wordsGo 1 (lens (l.drop 0)) = wn) := hR.symm
    have zw := cell_lt c0
    dsimp only at zw
    clear hck hwk HER HWN hR he1
    go_wp2
    go_loopw [17, 5] (fun i v wr => ∃ k : Nat, k ≤ l.length ∧ i = .int .i64 k ∧ (∃ o : Int, v = .int .i64 o ∧ 1 ≤ o ∧ o ≤ 1048576 ∧ Hid (wordsGo o (lens (l.drop k)) = wn)) ∧ Ext w1 wr) (fun i _ _ => l.length - (intOf i).toNat)
    case atStart => exact ⟨0, Nat.zero_le _, rfl, ⟨1, rfl, by omega, by omega, R0⟩, Ext.refl _⟩
    case round =>
      obtain ⟨k, hk, rfl, ⟨o, rfl, ho1, ho2, hz⟩, he⟩ := hrel
      clear R0
      have E3 := E2.trans he
      by_cases hlt : k < l.length
      · obtain ⟨b, off, v, ha, p1, hv, p2⟩ := HC.out k hlt
        subst ha
        have hst6 := (ckStep_strokes (HFI.out k hlt).1).2.1
        have HZ := Lib.hid (wordsGo_drop hlt hz.out)
        obtain ⟨sa, sc, rfl, hcs, hls⟩ := hv
        have p1 := E3.cell p1
        have p2 := E3.cell p2
        generalize l.getD k stp0 = x at p1 p2 hcs hls HZ hst6
        obtain ⟨st, wj⟩ := x
        dsimp only at p1 p2 hcs hls HZ hst6
        have zb := cell_lt p1
        dsimp only at zb
        obtain ⟨P, hP⟩ : ∃ P, P = facGo o 0 st.length := ⟨_, rfl⟩
        rw [← hP] at HZ
        have F0 : Hid (facGo o 0 (st.length - 0) = P) := hP.symm
        have EB : Ext wr (wr.alloc (.cells #[.slice sa st.length sc, .int .i64 wj] 87)) := (by repeat (first | with_reducible exact Ext.refl _ | with_reducible assumption | with_reducible apply Ext.drewN | with_reducible apply Ext.drew | with_reducible apply Ext.alloc | ((with_reducible refine Ext.set ?_ ?_ _); rotate_left; first | omega | (simp; omega)) | (with_reducible refine Ext.trans ?_ (by with_reducible assumption))))
        clear hcs hls hz hP
        go_wp2
        have E4 := he.trans EB
        generalize (wr.alloc (.cells #[.slice sa st.length sc, .int .i64 wj] 87)) = W5 at E4 ⊢
        clear EB
        go_loopw [24, 5] (fun i v wr => ∃ j : Nat, j ≤ st.length ∧ i = .int .i64 j ∧ (∃ o : Int, v = .int .i64 o ∧ 1 ≤ o ∧ o ≤ 1048576 ∧ Hid (facGo o j (st.length - j) = P)) ∧ wr = W5) (fun i _ _ => st.length - (intOf i).toNat)
        case atStart => exact ⟨0, by omega, rfl, ⟨o, rfl, ho1, ho2, F0⟩, rfl⟩
        case round =>
          obtain ⟨j, hj, rfl, ⟨q, rfl, hq1, hq2, hf⟩, rfl⟩ := hrel
          clear F0
          by_cases hjl : j < st.length
          · have HS := Lib.hid (facGo_succ hjl hf.out)
            have hpos : 1 ≤ q * ((j : Int) + 1) := by
              have : q * 1 ≤ q * ((j : Int) + 1) := Int.mul_le_mul_of_nonneg_left (by omega) (by omega)
              omega
            have hup : q * ((j : Int) + 1) ≤ 1048576 * 7 := by
              have h1 : q * ((j : Int) + 1) ≤ q * 7 := Int.mul_le_mul_of_nonneg_left (by omega) (by omega)
              omega
            have g1 : IntKind.i64.wrap ((j : Int) + 1) = (j : Int) + 1 := IntWalk.i64_in _ (by omega)
            have g2 : IntKind.i64.wrap (q * ((j : Int) + 1)) = q * ((j : Int) + 1) := IntWalk.i64_in _ (by omega)
            obtain ⟨r, hr⟩ : ∃ r, r = q * ((j : Int) + 1) := ⟨_, rfl⟩
            rw [← hr] at HS hpos hup
            have g2 : IntKind.i64.wrap (q * ((j : Int) + 1)) = r := by rw [g2, hr]
            have HRQ := Lib.hid hr
            clear hf hr
            by_cases hov : 1048576 < r
            · have hP := HS.out.1 hov
              have hw := HZ.out.1 hP
              have hwe := HWE.out
              rw [if_pos hw] at hwe
              subst hw
              subst hwe
              clear HZ HS HWE hP
              go_wp2
              go_ret2
              exact ⟨rfl, E2.trans E4⟩
            · have HS2 := Lib.hid (HS.out.2 hov)
              have hov2 : r ≤ 1048576 := by omega
              clear HS
              go_wp2
              refine ⟨⟨j + 1, by omega, by go_num, ⟨r, by rw [HRQ.out], hpos, hov2, HS2⟩, trivial⟩, by simp [intOf]; omega⟩
          · have hje : j = st.length := by omega
            have hfo := hf.out
            rw [hje, Nat.sub_self] at hfo
            have hfo : q = P := hfo
            subst hfo
            have HZ2 := Lib.hid (HZ.out.2 (by omega))
            clear hf HZ
            go_wp2
            refine ⟨⟨k + 1, by omega, by go_num, ⟨q, rfl, hq1, hq2, HZ2⟩, E4⟩, by simp [intOf]; omega⟩
      · have hke : k = l.length := by omega
        have hz2 := hz.out
        rw [List.drop_eq_nil_of_le (by omega)] at hz2
        have hz2 : o = wn := hz2
        subst hz2
        have hwe := HWE.out
        rw [if_neg (by omega)] at hwe
        subst hwe
        clear hz HWE
        go_wp2
        go_ret2
        exact ⟨rfl, E3⟩
  · have hn : (er != 0) = true := by simp [h0]
    have h2 : ¬ ckSeq (n, l) = 0 := fun h => h0 (HER.out.trans h)
    have hn1 : wn = 0 := by rw [HWN.out.1]; unfold wordsN; rw [if_neg h2]
    have he1 : we = er := by rw [HWN.out.2]; unfold wordsE; rw [if_neg h2]; exact HER.out.symm
    subst hn1
    subst he1
    clear h0 h2 HER HWN
    go_wp2
    go_ret2
    exact ⟨rfl, E2⟩
end Go.Proofs.YtnhbogmihnnpjaaGreat
/- slices.Contains of strokes, and sequence.Accepts. -/
namespace Go.Proofs.YtnhbogmihnnpjaaGreat
open Go.RowKit

def memS (l : List Stk) (x : Stk) : Bool := l.contains x
set_option maxHeartbeats 2000000 in
theorem IndexS_any (l : List Stk) (x : Stk) (a : Option Addr) (cap : Nat) (w : World) (hl : l.length ≤ maxLen) (hc : CellsK w a l) :
    Calls Tryz.prog 108 #[.slice a l.length cap, .agg #[.int .i64 x.1, .bool x.2]] w (AnyPost (memS l x) w) := by
  unfold maxLen at hl
  have HC := Lib.hid hc
  clear hc
  go_enter Tryz.func108, Tryz.ntmps108
  go_wp2
  have E1 : Ext w (w.alloc (.cells #[.int .i64 x.1, .bool x.2] 73)) := (by repeat (first | with_reducible exact Ext.refl _ | with_reducible assumption | with_reducible apply Ext.drewN | with_reducible apply Ext.drew | with_reducible apply Ext.alloc | ((with_reducible refine Ext.set ?_ ?_ _); rotate_left; first | omega | (simp; omega)) | (with_reducible refine Ext.trans ?_ (by with_reducible assumption))))
  have c0 : ((w.alloc (.cells #[.int .i64 x.1, .bool x.2] 73))).cell? ⟨w.heap.size, 0, none⟩ = some (.int .i64 x.1) := by go_simp
  have c1 : ((w.alloc (.cells #[.int .i64 x.1, .bool x.2] 73))).cell? ⟨w.heap.size, 1, none⟩ = some (.bool x.2) := by go_simp
  generalize (w.alloc (.cells #[.int .i64 x.1, .bool x.2] 73)) = W at E1 c0 c1 ⊢
  go_loopw [8] (fun i wr => ∃ k : Nat, k ≤ l.length ∧ i = .int .i64 k ∧ Hid (∀ j : Nat, j < k → l.getD j stk0 ≠ x) ∧ Ext W wr) (fun i _ => l.length - (intOf i).toNat)
  case atStart => exact ⟨0, Nat.zero_le _, rfl, fun j hj => by omega, Ext.refl _⟩
  case round =>
    obtain ⟨k, hk, rfl, hnn, he⟩ := hrel
    have c0 := he.cell c0
    have c1 := he.cell c1
    by_cases hlt : k < l.length
    · obtain ⟨b, off, rfl, p1, p2⟩ := HC.out.ext (E1.trans he) k hlt
      by_cases hx : l.getD k stk0 = x
      · have HB : Hid (memS l x = true) := by
          show _ = _
          unfold memS
          rw [List.contains_iff_mem, ← hx, List.getD_eq_getElem?_getD, List.getElem?_eq_getElem hlt]
          simp
        have hq := fun w => eqlStk x (l.getD k stk0) w
        rw [decide_eq_true hx.symm] at hq
        clear hx
        generalize l.getD k stk0 = y at p1 p2 hq
        go_wp2
        go_quiet (fail)
        go_wp2
        go_ret
        exact ⟨(k : Int), rfl, by rw [HB.out]; simp, (by repeat (first | with_reducible exact Ext.refl _ | with_reducible assumption | with_reducible apply Ext.drewN | with_reducible apply Ext.drew | with_reducible apply Ext.alloc | ((with_reducible refine Ext.set ?_ ?_ _); rotate_left; first | omega | (simp; omega)) | (with_reducible refine Ext.trans ?_ (by with_reducible assumption))))⟩
      · have HX := Lib.hid hx
        have hq := fun w => eqlStk x (l.getD k stk0) w
        rw [decide_eq_false (fun h => hx h.symm)] at hq
        clear hx
        generalize hy : l.getD k stk0 = y at p1 p2 HX hq
        have HY := Lib.hid hy
        clear hy
        have HN : Hid (∀ j, j < k + 1 → l.getD j stk0 ≠ x) := fun j hj => by
          rcases Nat.lt_or_eq_of_le (Nat.le_of_lt_succ hj) with h | rfl
          · exact hnn.out j h
          · rw [HY.out]; exact HX.out
        clear HX hnn
        go_wp2
        go_quiet (fail)
        go_wp2
        refine ⟨⟨k + 1, by omega, by go_num, HN, (by repeat (first | with_reducible exact Ext.refl _ | with_reducible assumption | with_reducible apply Ext.drewN | with_reducible apply Ext.drew | with_reducible apply Ext.alloc | ((with_reducible refine Ext.set ?_ ?_ _); rotate_left; first | omega | (simp; omega)) | (with_reducible refine Ext.trans ?_ (by with_reducible assumption))))⟩, by simp [intOf]; omega⟩
    · have HB : Hid (memS l x = false) := by
        show _ = _
        unfold memS
        rw [← Bool.not_eq_true, List.contains_iff_mem]
        intro hm
        obtain ⟨j, hj, e⟩ := List.mem_iff_getElem.1 hm
        refine hnn.out j (by omega) ?_
        rw [List.getD_eq_getElem?_getD, List.getElem?_eq_getElem hj, e]; rfl
      go_wp2
      go_ret
      exact ⟨-1, rfl, by rw [HB.out]; simp, E1.trans he⟩
theorem ContainsS_any (l : List Stk) (x : Stk) (a : Option Addr) (cap : Nat) (w : World) (hl : l.length ≤ maxLen) (hc : CellsK w a l) :
    Calls Tryz.prog 78 #[.slice a l.length cap, .agg #[.int .i64 x.1, .bool x.2]] w fun e w' => e = .returned (.bool (memS l x)) ∧ Ext w w' := by
  have HC := Lib.hid hc
  have HL := Lib.hid hl
  clear hc hl
  have E1 : Ext w (w.alloc (.cells #[.int .i64 x.1, .bool x.2] 73)) := (by repeat (first | with_reducible exact Ext.refl _ | with_reducible assumption | with_reducible apply Ext.drewN | with_reducible apply Ext.drew | with_reducible apply Ext.alloc | ((with_reducible refine Ext.set ?_ ?_ _); rotate_left; first | omega | (simp; omega)) | (with_reducible refine Ext.trans ?_ (by with_reducible assumption))))
  go_enter Tryz.func78, Tryz.ntmps78
  go_wp2_with fail
  refine (IndexS_any l x a cap _ HL.out (HC.out.ext E1)).mono ?_
  rintro e w1 ⟨r, rfl, hr, hE⟩
  have HR := Lib.hid hr
  have E2 := E1.trans hE
  clear hr
  go_wp2
  all_goals go_ret
  all_goals exact ⟨ret_bool HR.out, E2⟩
theorem CellsK.take {w : World} {a : Option Addr} {l : List Stk} (h : CellsK w a l) (k : Nat) : CellsK w a (l.take k) := fun i hi => by
  rw [List.length_take] at hi
  have e : (l.take k).getD i stk0 = l.getD i stk0 := by
    rw [List.getD_eq_getElem?_getD, List.getD_eq_getElem?_getD, List.getElem?_take_of_lt (by omega)]
  rw [e]
  exact h i (by omega)
theorem CellsK.drop {w : World} {b off : Nat} {l : List Stk} (h : CellsK w (some ⟨b, off, none⟩) l) (k : Nat) : CellsK w (some ⟨b, off + k * 2, none⟩) (l.drop k) := fun i hi => by
  rw [List.length_drop] at hi
  obtain ⟨b', o', e, p1, p2⟩ := h (k + i) (by omega)
  cases e
  have e : (l.drop k).getD i stk0 = l.getD (k + i) stk0 := by
    rw [List.getD_eq_getElem?_getD, List.getD_eq_getElem?_getD, List.getElem?_drop]
  rw [e]
  exact ⟨b, off + k * 2, rfl, by rw [show off + k * 2 + i * 2 = off + (k + i) * 2 from by omega]; exact p1, by rw [show off + k * 2 + i * 2 + 1 = off + (k + i) * 2 + 1 from by omega]; exact p2⟩
theorem accL_step {l : List Stp} {k : Nat} (h : k < l.length) {q : List Stk} {R : Bool} (e : accL (l.drop k) q = R) :
    (q.length < (l.getD k stp0).1.length → R = false) ∧
    (¬ q.length < (l.getD k stp0).1.length → (∀ j, j < (l.getD k stp0).1.length → memS (q.take (l.getD k stp0).1.length) ((l.getD k stp0).1.getD j stk0) = false → R = false) ∧
      ((∀ j, j < (l.getD k stp0).1.length → memS (q.take (l.getD k stp0).1.length) ((l.getD k stp0).1.getD j stk0) = true) → accL (l.drop (k + 1)) (q.drop (l.getD k stp0).1.length) = R)) := by
  rw [drop_cons l stp0 h] at e
  unfold accL at e
  generalize (l.getD k stp0).1 = st at e ⊢
  refine ⟨fun h1 => ?_, fun h1 => ⟨fun j hj h2 => ?_, fun h2 => ?_⟩⟩
  · rw [if_pos h1] at e; exact e.symm
  · rw [if_neg h1, if_pos] at e
    · exact e.symm
    · rw [List.any_eq_true]
      refine ⟨st.getD j stk0, by rw [List.getD_eq_getElem?_getD, List.getElem?_eq_getElem hj]; exact List.getElem_mem hj, ?_⟩
      unfold memS at h2
      rw [h2]; rfl
  · rw [if_neg h1, if_neg] at e
    · exact e
    · rw [Bool.not_eq_true, List.any_eq_false]
      intro y hy
      obtain ⟨j, hj, rfl⟩ := List.mem_iff_getElem.1 hy
      have := h2 j hj
      unfold memS at this
      rw [List.getD_eq_getElem?_getD, List.getElem?_eq_getElem hj] at this
      have : (q.take st.length).contains st[j] = true := this
      rw [this]; decide

set_option maxHeartbeats 8000000 in
set_option maxRecDepth 100000 in
theorem Accepts_any (n : Int) (l : List Stp) (a : Option Addr) (cap : Nat) (ws : List Stk) (wa : Option Addr) (wc : Nat) (w : World) (hl : l.length ≤ maxLen) (hc : CellsP w a l) (hwc : CellsK w wa ws) (hwr : ws.length ≤ wc ∧ wc ≤ maxLen) :
    Calls Tryz.prog 40 #[.agg #[.int .i64 n, .slice a l.length cap], .slice wa ws.length wc] w fun e w' => e = .returned (.tuple #[.bool (decide (ckSeq (n, l) = 0) && accL l ws), .int .i64 (ckSeq (n, l))]) ∧ Ext w w' := by
  have HC := Lib.hid hc
  have HL := Lib.hid hl
  have HW := Lib.hid hwc
  obtain ⟨er, her⟩ : ∃ er, er = ckSeq (n, l) := ⟨_, rfl⟩
  obtain ⟨R, hR⟩ : ∃ R, R = (decide (er = 0) && accL l ws) := ⟨_, rfl⟩
  rw [← her, ← hR]
  have HER := Lib.hid her
  have HR := Lib.hid hR
  obtain ⟨hw1, hw2⟩ := hwr
  unfold maxLen at hw2
  clear hc her hR hl hwc
  go_enter Tryz.func40, Tryz.ntmps40
  go_wp2_with fail
  have E1 : Ext w (w.alloc (.cells #[.int .i64 n, .slice a l.length cap] 24)) := (by repeat (first | with_reducible exact Ext.refl _ | with_reducible assumption | with_reducible apply Ext.drewN | with_reducible apply Ext.drew | with_reducible apply Ext.alloc | ((with_reducible refine Ext.set ?_ ?_ _); rotate_left; first | omega | (simp; omega)) | (with_reducible refine Ext.trans ?_ (by with_reducible assumption))))
  have c0 : ((w.alloc (.cells #[.int .i64 n, .slice a l.length cap] 24))).cell? ⟨w.heap.size, 0, none⟩ = some (.int .i64 n) := by go_simp
  have c1 : ((w.alloc (.cells #[.int .i64 n, .slice a l.length cap] 24))).cell? ⟨w.heap.size, 1, none⟩ = some (.slice a l.length cap) := by go_simp
  generalize (w.alloc (.cells #[.int .i64 n, .slice a l.length cap] 24)) = W at E1 c0 c1 ⊢
  refine (Check_any n l a cap _ HL.out (HC.out.ext E1)).mono ?_
  rintro e w1 ⟨rfl, hE⟩
  rw [← HER.out]
  have E2 := E1.trans hE
  have c0 := (hE).cell c0
  have c1 := (hE).cell c1
  clear hE
  by_cases h0 : er = 0
  · subst h0
    have hck := HER.out.symm
    obtain ⟨hN1, hN6, hl0, hl64, hwk, _, _⟩ := ckSeq_zero hck
    have HFI := Lib.hid (ckWalk_fine hwk)
    have hR := HR.out
    rw [decide_eq_true rfl, Bool.true_and] at hR
    have R0 : Hid (accL (l.drop 0) ws = R) := hR.symm
    have W0 : Hid (CellsK w1 wa ws) := HW.out.ext E2
    have zw := cell_lt c0
    dsimp only at zw
    clear hck hwk HER HR hR
    go_wp2
    go_loopw [20, 1] (fun i v wr => ∃ k : Nat, k ≤ l.length ∧ i = .int .i64 k ∧ (∃ (q : List Stk) (va : Option Addr) (vc : Nat), v = .slice va q.length vc ∧ q.length ≤ vc ∧ vc ≤ 2 ^ 63 - 1 ∧ Hid (CellsK w1 va q) ∧ Hid (accL (l.drop k) q = R)) ∧ Ext w1 wr) (fun i _ _ => l.length - (intOf i).toNat)
    case atStart => exact ⟨0, Nat.zero_le _, rfl, ⟨ws, wa, wc, rfl, hw1, hw2, W0, R0⟩, Ext.refl _⟩
    case round =>
      obtain ⟨k, hk, rfl, ⟨q, va, vc, rfl, hqv, hvm, hcq, hz⟩, he⟩ := hrel
      clear R0 W0
      have E3 := E2.trans he
      by_cases hlt : k < l.length
      · obtain ⟨b, off, v, ha, p1, hv, p2⟩ := HC.out k hlt
        subst ha
        have hst := ckStep_strokes (HFI.out k hlt).1
        have hst6 := hst.2.1
        have hst0 := hst.2.2.1
        have HZ := Lib.hid (accL_step hlt hz.out)
        obtain ⟨sa, sc, rfl, hcs, hls⟩ := hv
        have p1 := E3.cell p1
        have p2 := E3.cell p2
        generalize l.getD k stp0 = x at p1 p2 hcs hls HZ hst6 hst0
        obtain ⟨st, wj⟩ := x
        dsimp only at p1 p2 hcs hls HZ hst6 hst0
        have zb := cell_lt p1
        dsimp only at zb
        have HCS := Lib.hid hcs
        have EB : Ext wr (wr.alloc (.cells #[.slice sa st.length sc, .int .i64 wj] 87)) := (by repeat (first | with_reducible exact Ext.refl _ | with_reducible assumption | with_reducible apply Ext.drewN | with_reducible apply Ext.drew | with_reducible apply Ext.alloc | ((with_reducible refine Ext.set ?_ ?_ _); rotate_left; first | omega | (simp; omega)) | (with_reducible refine Ext.trans ?_ (by with_reducible assumption))))
        clear hcs hls hz hst
        by_cases hq : q.length < st.length
        · have hRf := HZ.out.1 hq
          have hqi : (q.length : Int) < (st.length : Int) := by omega
          subst hRf
          have E4 := E3.trans EB
          clear HZ EB
          go_wp2
          go_ret2
          exact ⟨rfl, E4⟩
        · have HZ2 := Lib.hid (HZ.out.2 hq)
          have hq0 : 0 < q.length := by omega
          obtain ⟨qb, qo, rfl, _, _⟩ := hcq.out 0 hq0
          have g0 : CellsK w1 (some ⟨qb, qo, none⟩) (q.take st.length) := hcq.out.take _
          have g1 : CellsK w1 (some ⟨qb, qo + st.length * 2, none⟩) (q.drop st.length) := hcq.out.drop _
          obtain ⟨T, hT⟩ : ∃ T, T = q.take st.length := ⟨_, rfl⟩
          obtain ⟨D, hD⟩ : ∃ D, D = q.drop st.length := ⟨_, rfl⟩
          have hTl : T.length = st.length := by rw [hT, List.length_take]; omega
          have hDl : D.length = q.length - st.length := by rw [hD, List.length_drop]
          rw [← hT] at g0
          rw [← hD] at g1
          rw [← hT, ← hD] at HZ2
          have G0 := Lib.hid g0
          have G1 := Lib.hid g1
          have HTL := Lib.hid hTl
          have HDL := Lib.hid hDl
          have hcap0 : st.length ≤ vc := by omega
          have hcv : ¬ vc = 0 := by omega
          clear g0 g1 hT hD hTl hDl HZ
          go_wp2
          have E4 := he.trans EB
          have q0 : (wr.alloc (.cells #[.slice sa st.length sc, .int .i64 wj] 87)).cell? ⟨wr.heap.size, 0, none⟩ = some (.slice sa st.length sc) := by go_simp
          generalize (wr.alloc (.cells #[.slice sa st.length sc, .int .i64 wj] 87)) = W5 at E4 q0 ⊢
          clear EB
          go_loopw [34] (fun i wx => ∃ j : Nat, j ≤ st.length ∧ i = .int .i64 j ∧ Hid (∀ i, i < j → memS T (st.getD i stk0) = true) ∧ Ext w1 wx) (fun i _ => st.length - (intOf i).toNat)
          case atStart => exact ⟨0, by omega, rfl, (fun i hi => by omega), E4⟩
          case round =>
            obtain ⟨j, hj, rfl, hm, hE5⟩ := hrel
            by_cases hjl : j < st.length
            · obtain ⟨kb, ko, ha, r1, r2⟩ := HCS.out j hjl
              subst ha
              have r1 := (E2.trans hE5).cell r1
              have r2 := (E2.trans hE5).cell r2
              have HBAD := Lib.hid (HZ2.out.1 j hjl)
              have HGO : Hid (memS T (st.getD j stk0) = true → ∀ i, i < j + 1 → memS T (st.getD i stk0) = true) := fun h i hi => by
                rcases Nat.lt_or_eq_of_le (Nat.le_of_lt_succ hi) with h2 | rfl
                · exact hm.out i h2
                · exact h
              generalize st.getD j stk0 = y at r1 r2 HBAD HGO
              have zk := cell_lt r1
              dsimp only at zk
              have EY : Ext wr (wr.alloc (.cells #[.int .i64 y.1, .bool y.2] 73)) := (by repeat (first | with_reducible exact Ext.refl _ | with_reducible assumption | with_reducible apply Ext.drewN | with_reducible apply Ext.drew | with_reducible apply Ext.alloc | ((with_reducible refine Ext.set ?_ ?_ _); rotate_left; first | omega | (simp; omega)) | (with_reducible refine Ext.trans ?_ (by with_reducible assumption))))
              have y0 : (wr.alloc (.cells #[.int .i64 y.1, .bool y.2] 73)).cell? ⟨wr.heap.size, 0, none⟩ = some (.int .i64 y.1) := by go_simp
              have y1 : (wr.alloc (.cells #[.int .i64 y.1, .bool y.2] 73)).cell? ⟨wr.heap.size, 1, none⟩ = some (.bool y.2) := by go_simp
              clear hm
              go_wp2
              have E6 := hE5.trans EY
              have HCT := Lib.hid (fun W h => ContainsS_any T y (some ⟨qb, qo, none⟩) vc W (by rw [HTL.out]; unfold maxLen; omega) h)
              rw [HTL.out] at HCT
              generalize (wr.alloc (.cells #[.int .i64 y.1, .bool y.2] 73)) = W6 at E6 y0 y1 ⊢
              clear EY
              have zy := cell_lt y0
              dsimp only at zy
              go_region_held3 (fun w' => Sees W6 w') ((repeat (first | exact Sees.refl _ | assumption | apply Sees.drew | apply Sees.alloc | (refine Sees.ext ?_ (by assumption))))) (first | (go_at_call 78; refine (HCT.out _ (G0.out.ext (E6.trans (by exact (show Sees W6 _ by assumption).2.2)))).mono ?_; rintro e w' ⟨rfl, hE⟩))
              have hSee : Sees W6 w' := by assumption
              have E7 : Ext w1 w' := E6.trans hSee.2.2
              clear hSee HCT
              cases hmm : memS T y
              · have hRf := HBAD.out hmm
                subst hRf
                clear HBAD HGO HZ2 hmm
                go_wp2
                go_ret2
                exact ⟨rfl, E2.trans E7⟩
              · have HN := Lib.hid (HGO.out hmm)
                clear HBAD HGO hmm
                go_wp2
                refine ⟨⟨j + 1, by omega, by go_num, HN, E7⟩, by simp [intOf]; omega⟩
            · have hje : j = st.length := by omega
              subst hje
              have HZ3 := Lib.hid (HZ2.out.2 hm.out)
              clear hm HZ2
              by_cases hvn : vc = st.length
              · have hD0 : D = [] := List.eq_nil_of_length_eq_zero (by have := HDL.out; omega)
                subst hD0
                have hql : q.length = st.length := by omega
                have HQL := Lib.hid hql
                have g2 : Hid (CellsK w1 (some ⟨qb, qo, none⟩) ([] : List Stk)) := CellsK.nil _ _
                have hqs : q.length - st.length = 0 := by omega
                have hvs : vc - st.length = 0 := by omega
                clear hql
                go_wp2
                refine ⟨⟨k + 1, by omega, by go_num, ⟨[], some ⟨qb, qo, none⟩, 0, ?_, by simp, by omega, g2, HZ3⟩, hE5⟩, by simp [intOf]; omega⟩
                simp
              · have hdl := HDL.out
                clear HDL
                go_wp2
                refine ⟨⟨k + 1, by omega, by go_num, ⟨D, some ⟨qb, qo + st.length * 2, none⟩, vc - st.length, ?_, by omega, by omega, G1, HZ3⟩, hE5⟩, by simp [intOf]; omega⟩
                simp [hdl]
      · have hke : k = l.length := by omega
        have hz2 := hz.out
        rw [List.drop_eq_nil_of_le (by omega)] at hz2
        have hz2 : (q.length == 0) = R := hz2
        have hz3 : ((q.length : Int) == 0) = R := by rw [← hz2]; rw [Bool.eq_iff_iff]; simp
        clear hz
        subst hz2
        go_wp2
        go_ret2
        exact ⟨by simp, E3⟩
  · have hn : (er != 0) = true := by simp [h0]
    have hR := HR.out
    rw [decide_eq_false h0, Bool.false_and] at hR
    subst hR
    clear h0 HER HR
    go_wp2
    go_ret2
    exact ⟨rfl, E2⟩
end Go.Proofs.YtnhbogmihnnpjaaGreat
/- slices.Backward over strokes. -/
namespace Go.Proofs.YtnhbogmihnnpjaaGreat
open Go.RowKit
attribute [local go_sem] Oper.semAt_some

theorem Backward_any (a : Option Addr) (n cap : Nat) (w : World) :
    Calls Tryz.prog 39 #[.slice a n cap] w fun e w' => e = .returned (.func (.func 77) #[] #[.pointer (some ⟨w.heap.size, 0, none⟩)]) ∧ w.alloc (.cells #[.slice a n cap] 66) = w' := by
  go_enter Tryz.func39, Tryz.ntmps39
  go_wp2
  go_ret
  exact ⟨rfl, rfl⟩
/-- the blocks that the iterator wants kept -/
def BwK (s n : Nat) (_ k : Nat) : Prop := k = s ∨ k < n
theorem Old.keptB {A B C : World} {s n : Nat} (h : Old A B) (k : Kept (BwK s A.heap.size n) n B C) : Old A C := fun i o hi ho => by
  have hlt := (Array.getElem?_eq_some_iff.1 hi).1
  exact k.2 i o (.inr hlt) (h i o hi ho) (.inl ho)
/-- the k-th from the end, with its index -/
def bwEnc (l : List Stk) (k : Nat) : Array Value := #[.int .i64 ((l.length : Int) - 1 - (k : Int)), .agg #[.int .i64 (l.getD (l.length - 1 - k) stk0).1, .bool (l.getD (l.length - 1 - k) stk0).2]]

set_option maxHeartbeats 4000000 in
set_option maxRecDepth 100000 in
theorem bw1_iter (l : List Stk) (a : Option Addr) (cap : Nat) (w0 w : World) (sb : Nat) (hl : l.length ≤ 10000)
    (hc : CellsK w0 a l) (E0 : Ext w0 w) (s2 : w.cell? ⟨sb, 0, none⟩ = some (.slice a l.length cap)) :
    Iter Tryz.prog 77 #[.pointer (some ⟨sb, 0, none⟩)] (bwEnc l) (List.range l.length) (fun _ A B => A = B) (BwK sb w0.heap.size) 0 w := by
  intro y J Jx W hW hJ hJx hY h0
  have HC := Lib.hid hc
  have s2 := hW.cell s2
  have HY := Lib.hid hY
  have O0 := Lib.hid (Old.ext (E0.trans hW))
  have hsz : w0.heap.size ≤ W.heap.size := (E0.trans hW).size
  have zs : sb < W.heap.size := cell_lt s2
  have J0 : Hid (J (List.range 0) W) := h0
  have hsub : IntKind.i64.wrap ((l.length : Int) - 1) = (l.length : Int) - 1 := IntWalk.i64_in _ (by omega)
  clear hc hY hJ hJx hW E0 h0
  refine callsIn_of_wp Tryz.func77 rfl trivial ?_ rfl
  simp only [Tryz.ntmps77, List.size_toArray, List.length_cons, List.length_nil, Nat.reduceAdd, Nat.reduceSub, Array.replicate_succ, Array.replicate_zero, List.push_toArray, List.append_toArray, List.nil_append, List.cons_append]
  gi_wp2
  gi_loopw [3] (fun i wr => ∃ (z : Int) (k : Nat), k ≤ l.length ∧ i = .int .i64 z ∧ Hid (z = (l.length : Int) - 1 - (k : Int)) ∧ Hid (J (List.range k) wr) ∧ W.heap.size ≤ wr.heap.size ∧ wr.cell? ⟨sb, 0, none⟩ = some (.slice a l.length cap) ∧ Hid (Old w0 wr)) (fun i _ => (intOf i + 1).toNat)
  case atStart => exact ⟨_, 0, by omega, rfl, by show _ = _; omega, J0, Nat.le_refl _, s2, O0⟩
  case round =>
    clear s2 J0 O0
    obtain ⟨z, k, hk, rfl, hz, hj, hzz, s2, O⟩ := hrel
    by_cases hlt : 0 ≤ z
    · obtain ⟨zn, rfl⟩ := Int.eq_ofNat_of_zero_le hlt
      have hzk : zn + 1 + k = l.length := by have := hz.out; omega
      have hzl : zn < l.length := by omega
      obtain ⟨b, off, ha, p1, p2⟩ := HC.out zn hzl
      subst ha
      have p1 := O.out.cell p1
      have p2 := O.out.cell p2
      have HENC : Hid (bwEnc l k = #[.int .i64 (zn : Int), .agg #[.int .i64 (l.getD zn stk0).1, .bool (l.getD zn stk0).2]]) := by
        show _ = _
        unfold bwEnc
        rw [show l.length - 1 - k = zn from by omega, show (l.length : Int) - 1 - (k : Int) = (zn : Int) from by omega]
      have HPRE : Hid (List.range k ++ [k] <+: List.range l.length) := range_prefix (by omega)
      have hyy := HY.out (List.range k) k wr HPRE.out (by omega) hj.out
      rw [HENC.out] at hyy
      have HYY := Lib.hid hyy
      have u4 : IntKind.i64.wrap ((zn : Int) - 1) = (zn : Int) - 1 := IntWalk.i64_in _ (by omega)
      generalize l.getD zn stk0 = x at p1 p2 HYY HENC
      have z1 := cell_lt p1
      have z2 := cell_lt s2
      dsimp only at z1 z2
      clear hyy hj
      gi_wp2_with fail
      obtain ⟨fn, tmps, assign, body, hy, hR⟩ := HYY.out
      rw [hy]
      gi_wp2
      refine ⟨rfl, hR.mono ?_⟩
      clear hy hR HYY
      rintro e w3 (⟨rfl, hj3, hk3⟩ | ⟨rfl, hj3, hk3⟩)
      · have HJ3 := Lib.hid hj3
        have O3 : Hid (Old w0 w3) := O.out.keptB hk3
        have s3 := hk3.cell (p := ⟨sb, 0, none⟩) (.inl rfl) s2
        have hz3 : W.heap.size ≤ w3.heap.size := by have := hk3.1; omega
        have hzN : Hid ((zn : Int) - 1 = (l.length : Int) - 1 - ((k + 1 : Nat) : Int)) := by show _ = _; omega
        have J5 : Hid (J (List.range (k + 1)) w3) := by show J _ _; rw [List.range_succ]; exact hj3
        clear hj3 hk3 s2 O p1 p2
        gi_wp2
        refine ⟨⟨_, k + 1, by omega, rfl, hzN, J5, hz3, s3, O3⟩, by simp [intOf]⟩
      · gi_wp2
        refine bodyPost_ret (results_none rfl _ _ _) rfl ?_
        exact ⟨⟨_, rfl⟩, .inr ⟨_, HPRE.out, hj3⟩⟩
    · have hke : k = l.length := by have := hz.out; omega
      have hj2 := hj.out
      rw [hke] at hj2
      have HJ2 := Lib.hid hj2
      clear hj hj2 hke
      gi_wp2
      go_end0
      exact ⟨⟨_, rfl⟩, .inl HJ2.out⟩
end Go.Proofs.YtnhbogmihnnpjaaGreat
/- The law VariantReturns: its loop over the word from the end. -/
namespace Go.Proofs.YtnhbogmihnnpjaaGreat
open Go.RowKit
attribute [local go_sem] Oper.semAt_some

theorem rowKeep {m : Nat} {A B : World} {e : TypeId} {s : Nat} {v : Value} {n : Nat} {xs : List Value} (h : A.ownsRow 0 e s v n xs) (k : Keep m A B) : B.ownsRow 0 e s v n xs := rowSame h (fun b hb => by
  rcases h.2 with ⟨hv, _⟩ | ⟨g, c, cur, hv, _, hg, _⟩
  · rw [hv] at hb; cases hb
  · rw [hv] at hb
    cases hb
    rw [hg]
    exact k.2 g _ hg rfl)
def bwL (wl : List Stk) (k : Nat) : List Stk := flipAll (wl.reverse.take k)
theorem bwL_len (wl : List Stk) (k : Nat) : (bwL wl k).length ≤ wl.length := by
  unfold bwL; rw [flipAll_len, List.length_take, List.length_reverse]; omega
theorem bwL_succ (wl : List Stk) {k : Nat} (h : k < wl.length) : bwL wl (k + 1) = bwL wl k ++ [((wl.getD (wl.length - 1 - k) stk0).1, !(wl.getD (wl.length - 1 - k) stk0).2)] := by
  unfold bwL
  have hk : k < wl.reverse.length := by rw [List.length_reverse]; exact h
  rw [flipAll_succ _ hk]
  have e : wl.reverse.getD k stk0 = wl.getD (wl.length - 1 - k) stk0 := by
    rw [List.getD_eq_getElem?_getD, List.getD_eq_getElem?_getD, List.getElem?_reverse h]
  rw [e]
theorem prefix_range {pre : List Nat} {x m : Nat} (h : pre ++ [x] <+: List.range m) : x = pre.length ∧ x < m := by
  obtain ⟨t, ht⟩ := h
  have hlen : pre.length < m := by
    have := congrArg List.length ht
    simp at this
    omega
  have h1 : (List.range m)[pre.length]? = some pre.length := List.getElem?_range hlen
  rw [← ht] at h1
  simp at h1
  exact ⟨h1, by omega⟩
/-- the memory of the loop -/
structure RetI (wl : List Stk) (kb : Nat) (w3 : World) (k : Nat) (W : World) : Prop where
  be : Below kb w3 W
  ch : Chg (fun i => i = kb) w3 W
  f : W.frozen? ⟨kb, 0, none⟩ = false
  v : ∃ v, W.cell? ⟨kb, 0, none⟩ = some v ∧ OwnsK W v (bwL wl k) ∧ ∀ b, v.ownBlock = some b → w3.heap.size ≤ b
theorem RetI.keep {wl : List Stk} {kb : Nat} {w3 : World} {k : Nat} {A B : World} (h : RetI wl kb w3 k A) (q : Keep w3.heap.size A B) (hk : kb ≤ w3.heap.size) : RetI wl kb w3 k B := by
  obtain ⟨v, h1, h2, h3⟩ := h.v
  exact ⟨h.be.trans (q.1.mono hk), ⟨Nat.le_trans h.ch.1 q.1.size, fun i hi hn => (Below.block q.1 i hi).trans (h.ch.2 i hi hn)⟩, (q.frozen h1).trans h.f, v, q.cell h1, rowKeep h2 q, h3⟩
theorem RetI.ext {wl : List Stk} {kb : Nat} {w3 : World} {k : Nat} {A B : World} (h : RetI wl kb w3 k A) (q : Ext A B) (hk : kb ≤ w3.heap.size) : RetI wl kb w3 k B :=
  h.keep (Keep.ext q h.ch.1) hk

set_option maxHeartbeats 4000000 in
set_option maxRecDepth 100000 in
theorem ret_range (cas cbd : Code) (hcode : rngOf (Tryz.f9.body.getD .skip) = [(cas, cbd)]) (wl : List Stk) (va : Option Addr) (vc : Nat) (w0 w3 : World) (sb kb : Nat) (hl : wl.length ≤ 1000)
    (hc : CellsK w0 va wl) (E0 : Ext w0 w3) (s0 : w3.cell? ⟨sb, 0, none⟩ = some (.slice va wl.length vc)) (k0 : w3.cell? ⟨kb, 0, none⟩ = some (.slice none 0 0)) (kf : w3.frozen? ⟨kb, 0, none⟩ = false) (hsk : sb ≠ kb) (hwk : w0.heap.size ≤ kb)
    (u0 u1 u2 u3 u4 u5 u6 u7 u9 u10 u11 u12 u13 u14 u15 u16 u17 u18 u19 u20 u21 u22 u23 u24 u25 u26 u27 u28 u29 u30 u31 u32 u33 u34 u35 u36 u37 u38 u39 u40 u41 u42 u43 u44 u45 u46 u47 u48 u50 u51 u52 u53 u54 u55 u56 u57 u58 u59 u60 u61 u62 u63 u64 u65 u66 u67 u68 u69 u70 u71 u72 u73 u74 : Value) (ds : List Deferred) (Q : Exit → Act → World → Prop)
    (hdone : ∀ (D : Nat) (W : World), w3.heap.size ≤ D → D < W.heap.size → RetI wl kb w3 wl.length W → W.heap[D]? = some (.deferred (some [])) → Q .normal { tmps := #[u0, u1, u2, u3, u4, u5, u6, u7, .pointer (some ⟨kb, 0, none⟩), u9, u10, u11, u12, u13, u14, u15, u16, u17, u18, u19, u20, u21, u22, u23, u24, u25, u26, u27, u28, u29, u30, u31, u32, u33, u34, u35, u36, u37, u38, u39, u40, u41, u42, u43, u44, u45, u46, u47, u48, .func (.func 77) #[] #[.pointer (some ⟨sb, 0, none⟩)], u50, u51, u52, u53, u54, u55, u56, u57, u58, u59, u60, u61, u62, u63, u64, u65, u66, u67, u68, u69, u70, u71, u72, u73, u74], defers := mark D :: ds } W) :
    (Code.rangeFunc (.tmp 49) #[50, 51] cas cbd).wp Tryz.prog Q { tmps := #[u0, u1, u2, u3, u4, u5, u6, u7, .pointer (some ⟨kb, 0, none⟩), u9, u10, u11, u12, u13, u14, u15, u16, u17, u18, u19, u20, u21, u22, u23, u24, u25, u26, u27, u28, u29, u30, u31, u32, u33, u34, u35, u36, u37, u38, u39, u40, u41, u42, u43, u44, u45, u46, u47, u48, .func (.func 77) #[] #[.pointer (some ⟨sb, 0, none⟩)], u50, u51, u52, u53, u54, u55, u56, u57, u58, u59, u60, u61, u62, u63, u64, u65, u66, u67, u68, u69, u70, u71, u72, u73, u74], defers := ds } w3 := by
  have HC := Lib.hid hcode
  have hkz : kb < w3.heap.size := cell_lt k0
  have hsz : sb < w3.heap.size := cell_lt s0
  have hwz := E0.size
  obtain ⟨i0, hi, hi0, hi1, hi2⟩ := info_parts infoStk
  refine wp_range (n := 0) (gf := 77) (lb := #[.pointer (some ⟨sb, 0, none⟩)]) rfl (enters_of Tryz.func77 (by kernel_rfl) rfl)
    (bw1_iter wl va vc w0 w3 sb (by omega) hc E0 s0) (fun q => rfl)
    (fun A B h k o hk ho => by rw [← h]; exact ho)
    (fun pre W => RetI wl kb w3 pre.length W) (fun _ _ _ => False)
    (fun pre A B h k => k ▸ h) (fun _ _ _ _ h _ => h.elim)
    (fun pre A B h k => h.keep k (Nat.le_of_lt hkz)) (fun _ _ _ _ h _ => h.elim)
    ⟨Below.refl _ _, Chg.refl _ _, kf, _, k0, OwnsK.nil _, fun b hb => by cases hb⟩
    (fun (x : Nat) a' W => ∃ qb, w3.heap.size + 2 ≤ qb ∧ W.cell? ⟨qb, 0, none⟩ = some (.int .i64 (wl.getD (wl.length - 1 - x) stk0).1) ∧ W.cell? ⟨qb, 1, none⟩ = some (.bool (wl.getD (wl.length - 1 - x) stk0).2) ∧ a' = { tmps := #[u0, u1, u2, u3, u4, u5, u6, u7, .pointer (some ⟨kb, 0, none⟩), u9, .pointer (some ⟨qb, 0, none⟩), u11, u12, u13, u14, u15, u16, u17, u18, u19, u20, u21, u22, u23, u24, u25, u26, u27, u28, u29, u30, u31, u32, u33, u34, u35, u36, u37, u38, u39, u40, u41, u42, u43, u44, u45, u46, u47, u48, .func (.func 77) #[] #[.pointer (some ⟨sb, 0, none⟩)], .int .i64 ((wl.length : Int) - 1 - (x : Int)), .agg #[.int .i64 (wl.getD (wl.length - 1 - x) stk0).1, .bool (wl.getD (wl.length - 1 - x) stk0).2], u52, u53, u54, u55, u56, u57, u58, u59, u60, u61, u62, u63, u64, u65, u66, u67, u68, u69, u70, u71, u72, u73, u74], defers := [] })
    ?hax ?assign ?body (fun pre A B h k => h.ext k (Nat.le_of_lt hkz)) ?done (fun _ _ _ _ _ _ _ h _ => h.elim)
  case hax =>
    rintro q a' A B ⟨qb, h1, h2, h3, h4⟩ hk
    exact ⟨qb, h1, hk.cell h2, hk.cell h3, h4⟩
  case assign =>
    simp only [Tryz.f9, rngOf, Option.getD, List.nil_append, List.append_nil] at hcode
    cases hcode
    intro l pre x W K hm hI hK
    clear HC
    unfold bwEnc
    gi_wp2
    exact hK _ _ ((Ext.refl _).alloc _) ⟨W.heap.size, by omega, by go_simp, by go_simp, rfl⟩
  case body =>
    simp only [Tryz.f9, rngOf, Option.getD, List.nil_append, List.append_nil] at hcode
    cases hcode
    rintro l pre x a' W hpre hm hI ⟨qb, hqb, q1, q2, rfl⟩
    obtain ⟨hx, hxm⟩ := prefix_range hpre
    have HPS := Lib.hid (bwL_succ wl (k := pre.length) (by omega))
    have hpl := bwL_len wl pre.length
    rw [← hx] at HPS hpl
    obtain ⟨v, c0, hO, hob⟩ := hI.v
    rw [← hx] at hO
    have HI := Lib.hid hI
    have HX := Lib.hid hx
    have HO := Lib.hid hO
    have HOB := Lib.hid hob
    have cf := hI.f
    generalize wl.getD (wl.length - 1 - x) stk0 = y at q1 q2 HPS ⊢
    obtain ⟨ya, yo⟩ := y
    dsimp only at q1 q2 HPS ⊢
    have z1 := cell_lt q1
    have z2 := cell_lt c0
    dsimp only at z1 z2
    generalize bwL wl x = P at HPS hpl HO
    clear HC hI hO hob hpre hx k0 s0 kf hc E0
    have EA : Ext W (W.alloc (.cells #[.int .i64 ya, .bool (!yo)] 73)) := (by repeat (first | with_reducible exact Ext.refl _ | with_reducible assumption | with_reducible apply Ext.drewN | with_reducible apply Ext.drew | with_reducible apply Ext.alloc | ((with_reducible refine Ext.set ?_ ?_ _); rotate_left; first | omega | (simp; omega)) | (with_reducible refine Ext.trans ?_ (by with_reducible assumption))))
    have hO5 := Lib.hid (HO.out.ext EA)
    gi_wp2_with (gi_at_builtin; refine wpListIn_append1 _ rfl _ _ 66 rfl 73 i0 (.agg #[.int .i64 0, .bool false]) 2 16 Tryz.underlying66 hi hi0 hi1 hi2 rfl (by decide) v P.length (flatK P) rfl hO5.out ⟨W.heap.size, 0, none⟩ 1 1 (by decide) [.int .i64 ya, .bool (!yo)] rfl rfl ?hn ?c1 ?c2 ?c3 ?c4)
    case c1 => first | exact ⟨rfl, rfl⟩ | (intro u hu; simp at hu; rcases hu with rfl | rfl <;> rfl)
    case c2 => unfold maxLen; omega
    case c3 => omega
    case c4 =>
      intro v' w5 hown5 hend5
      have O5 : Hid (OwnsK w5 v' (bwL wl (x + 1))) := by show OwnsK _ _ _; rw [HPS.out]; exact ownsK_succ hown5
      obtain ⟨va', vc', hvv, _⟩ := rowReads hown5
      subst hvv
      have C5 : Chg (fun b => b = kb ∨ v.ownBlock = some b) W w5 := (Chg.ext EA).trans (Chg.app hend5 (fun b hb => .inr hb))
      have B5 : Below kb W w5 := (EA.mono (by omega)).trans (hend5.below (n := kb) (by simp; omega) (fun b hb => by have := HOB.out b hb; omega))
      have hnk : ¬ v.ownBlock = some kb := fun e => by have := HOB.out _ e; omega
      have cA := EA.cell c0
      have hgr := hend5.chg
      have e5 := hgr.1 kb (cell_lt cA) hnk
      have c5 : w5.cell? ⟨kb, 0, none⟩ = some v := (World.cell?_of_block (w := (W.alloc (.cells #[.int .i64 ya, .bool (!yo)] 73))) e5).trans cA
      have f5 : w5.frozen? ⟨kb, 0, none⟩ = false := (World.frozen?_of_block (w := (W.alloc (.cells #[.int .i64 ya, .bool (!yo)] 73))) e5).trans ((Below.frozen (p := ⟨kb, 0, none⟩) EA z2).trans cf)
      have V5 := hend5.ge (n := w3.heap.size) (by have := HI.out.ch.1; simp; omega) HOB.out
      have HV5 := Lib.hid V5
      have C6 : Chg (fun b => b = kb ∨ v.ownBlock = some b) W (w5.setCell ⟨kb, 0, none⟩ (.slice va' (P.length + 1) vc')) := C5.trans (Chg.setCell (B := fun b => b = kb ∨ v.ownBlock = some b) ⟨kb, 0, none⟩ _ (.inl rfl))
      have HC6 := Lib.hid C6
      have HB6 := Lib.hid (B5.setCell (p := ⟨kb, 0, none⟩) (Nat.le_refl _) (.slice va' (P.length + 1) vc'))
      have HC0 := Lib.hid c0
      clear hown5 hend5 hgr e5 C5 B5 C6 V5 hO5 HPS cA
      gi_wp2
      refine ⟨HC6.out.kept ?_, (HC6.out.others ?_).from _, ?_⟩
      · rintro k (rfl | hk) _ hB
        · rcases hB with hB | hB
          · exact hsk hB
          · have := HOB.out _ hB; omega
        · rcases hB with hB | hB
          · omega
          · have := HOB.out _ hB; omega
      · rintro k hB o ho
        rcases hB with rfl | hB
        · exact isCells_of_cell HC0.out ho
        · rcases HO.out.2 with ⟨hv, _⟩ | ⟨g, c, cur, hv, _, hg, _⟩
          · rw [hv] at hB; cases hB
          · rw [hv] at hB
            cases hB
            rw [hg] at ho
            cases ho; rfl
      · show RetI wl kb w3 (pre ++ [x]).length _
        rw [List.length_append, List.length_singleton, ← HX.out]
        refine ⟨HI.out.be.trans HB6.out, ⟨Nat.le_trans HI.out.ch.1 HC6.out.1, fun i hi hn => (HC6.out.2 i (Nat.lt_of_lt_of_le hi HI.out.ch.1) (fun hB => ?_)).trans (HI.out.ch.2 i hi hn)⟩, by rw [World.frozen?_setCell]; exact f5, _, World.cell?_setCell_same _ _ _ c5, ?_, HV5.out⟩
        · rcases hB with hB | hB
          · exact hn hB
          · have := HOB.out _ hB; omega
        · exact rowSame O5.out (fun b hb => Below.heap_setCell _ _ _ _ (fun e => by have := HV5.out b hb; dsimp only at e; omega))
  case done =>
    rintro D W h1 h2 h3 h6
    rw [List.length_range] at h3
    exact hdone D W h1 h2 h3 h6
end Go.Proofs.YtnhbogmihnnpjaaGreat
