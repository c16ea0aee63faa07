/- Steps of the proof: QRenP, QBackS, QRight, QRnm, QWord, QLCan, QOpen. No conditions. -/
import Derived.ProofKit
import Derived.OpenShut
import Derived.Lib.SmallJoins
import Derived.Deep.Slices
import Derived.Test.YtnhbogmihnnpjaaGreatYB1
import Derived.Test.YtnhbogmihnnpjaaGreatYB2
import Derived.Test.YtnhbogmihnnpjaaGreatYB3
import Derived.Test.YtnhbogmihnnpjaaGreatYB4
import Derived.Test.YtnhbogmihnnpjaaGreatYB5
import Derived.Test.YtnhbogmihnnpjaaGreatYB6
import Derived.Test.YtnhbogmihnnpjaaGreatYB7
import Derived.Test.YtnhbogmihnnpjaaGreatYB8
import Derived.Test.YtnhbogmihnnpjaaGreatYB9
import Derived.Test.YtnhbogmihnnpjaaGreatYB10
/- Renaming sequences, in plain terms: what is renamed can be carried out, the opposite renaming cancels out, and the standard letters are the same. -/
namespace Go.Proofs.YtnhbogmihnnpjaaGreat
open Go.RowKit

/-- f takes what P tells to the first n numbers, g takes back -/
structure Bij (P : Int → Prop) (n : Int) (f g : Int → Int) : Prop where
  rng : ∀ a, P a → 0 ≤ f a ∧ f a < n
  gp : ∀ a, 0 ≤ a ∧ a < n → P (g a)
  gf : ∀ a, P a → g (f a) = a
  fg : ∀ a, 0 ≤ a ∧ a < n → f (g a) = a
theorem Bij.inj {P : Int → Prop} {n : Int} {f g : Int → Int} (h : Bij P n f g) {a b : Int} (ha : P a) (hb : P b) (e : f a = f b) : a = b := by
  rw [← h.gf a ha, ← h.gf b hb, e]
def In (n : Int) (a : Int) : Prop := 0 ≤ a ∧ a < n
/-- a step that is right by itself, with strokes of which P tells -/
def FineP (P : Int → Prop) (x : Stp) : Prop := ckStep x = 0 ∧ ∀ y ∈ x.1, P y.1
theorem FineP.asc {P : Int → Prop} {x : Stp} (h : FineP P x) : Asc x.1 := (ckStrokes_asc (ckStep_strokes h.1).1).1
theorem FineP.diff {P : Int → Prop} {x : Stp} (h : FineP P x) : Diff x.1 := h.asc.diff
theorem Fine.all {n : Int} {l : List Stp} (h : Fine n l) : ∀ x ∈ l, FineP (In n) x := fun x hx => by
  obtain ⟨k, hk, e⟩ := List.mem_iff_getElem.1 hx
  obtain ⟨h1, h2⟩ := h k hk
  rw [List.getD_eq_getElem?_getD, List.getElem?_eq_getElem hk] at h1 h2
  have h1 : ckStep l[k] = 0 := h1
  have h2 : ∀ j, j < (l[k]).1.length → 0 ≤ ((l[k]).1.getD j stk0).1 ∧ ((l[k]).1.getD j stk0).1 < n := h2
  rw [e] at h1 h2
  refine ⟨h1, fun y hy => ?_⟩
  obtain ⟨j, hj, e⟩ := List.mem_iff_getElem.1 hy
  have := h2 j hj
  rw [List.getD_eq_getElem?_getD, List.getElem?_eq_getElem hj] at this
  rw [← e]; exact this
theorem asc_ck {l : List Stk} {z : Int} (h : Asc l) (hz : ∀ y ∈ l, z < y.1) (hk : ∀ y ∈ l, 0 ≤ y.1 ∧ y.1 < 6) : ckStrokes z l = 0 := by
  induction l generalizing z with
  | nil => rfl
  | cons y l ih =>
    have h1 := hz y (List.mem_cons_self ..)
    have h2 := hk y (List.mem_cons_self ..)
    obtain ⟨p1, p2⟩ := List.pairwise_cons.1 h
    unfold ckStrokes
    rw [if_neg (by omega), if_neg (by omega), if_neg (by omega)]
    exact ih p2 p1 fun y hy => hk y (List.mem_cons_of_mem _ hy)
theorem ckStep_of {x : Stp} (h1 : 0 < x.1.length) (h2 : x.1.length ≤ 6) (h3 : ckStrokes (-1) x.1 = 0) (h4 : 0 ≤ x.2 ∧ x.2 ≤ 1000000) : ckStep x = 0 := by
  unfold ckStep
  rw [if_neg (by omega), if_neg (by omega), if_neg (by simp [h3]), if_neg (by omega)]
section
variable {P : Int → Prop} {n : Int} {f g : Int → Int}
theorem ren_diff (h : Bij P n f g) {x : Stp} (hx : FineP P x) : Diff (x.1.map fun y => (f y.1, y.2)) := by
  unfold Diff
  rw [List.pairwise_map]
  exact List.Pairwise.imp_of_mem (fun {a b} ha hb hab e => hab (h.inj (hx.2 a ha) (hx.2 b hb) e)) hx.diff
theorem ren_mem (h : Bij P n f g) (hn : n ≤ 6) {x : Stp} (hx : FineP P x) (z : Stk) : z ∈ (renStep f x).1 ↔ ∃ y ∈ x.1, (f y.1, y.2) = z := by
  show z ∈ ordered (x.1.map fun y => (f y.1, y.2)) ↔ _
  rw [ordered_mem, List.mem_map]
  refine ⟨fun h => h.1, fun h1 => ⟨h1, ?_⟩⟩
  obtain ⟨y, hy, rfl⟩ := h1
  have := h.rng _ (hx.2 y hy)
  dsimp only
  omega
theorem renStep_asc (h : Bij P n f g) {x : Stp} (hx : FineP P x) : Asc (renStep f x).1 := ordered_asc (ren_diff h hx)
theorem renStep_len (h : Bij P n f g) (hn : n ≤ 6) {x : Stp} (hx : FineP P x) : (renStep f x).1.length = x.1.length := by
  show (ordered (x.1.map fun y => (f y.1, y.2))).length = _
  rw [← isortK_ordered (ren_diff h hx), isortK_length, List.length_map]
  intro y hy
  obtain ⟨z, hz, rfl⟩ := List.mem_map.1 hy
  have := h.rng _ (hx.2 z hz)
  dsimp only
  omega
theorem renStep_fine (h : Bij P n f g) (hn : n ≤ 6) {x : Stp} (hx : FineP P x) : FineP (In n) (renStep f x) := by
  have hs := ckStep_strokes hx.1
  have hm : ∀ y ∈ (renStep f x).1, 0 ≤ y.1 ∧ y.1 < n := fun y hy => by
    obtain ⟨z, hz, rfl⟩ := (ren_mem h hn hx y).1 hy
    exact h.rng _ (hx.2 z hz)
  refine ⟨ckStep_of (by rw [renStep_len h hn hx]; omega) (by rw [renStep_len h hn hx]; omega) (asc_ck (renStep_asc h hx) (fun y hy => by have := hm y hy; omega) (fun y hy => by have := hm y hy; omega)) ⟨hs.2.2.2.1, hs.2.2.2.2⟩, hm⟩
theorem renStep_back (h : Bij (In n) n f g) (hn : n ≤ 6) {x : Stp} (hx : FineP (In n) x) : renStep g (renStep f x) = x := by
  have hb : Bij (In n) n g f := ⟨h.gp, h.rng, h.fg, h.gf⟩
  have hf := renStep_fine h hn hx
  refine Prod.ext ?_ rfl
  refine asc_ext (renStep_asc hb hf) hx.asc fun z => ?_
  rw [ren_mem hb hn hf]
  constructor
  · rintro ⟨y, hy, rfl⟩
    obtain ⟨z, hz, rfl⟩ := (ren_mem h hn hx y).1 hy
    dsimp only
    rw [h.gf _ (hx.2 z hz)]
    exact hz
  · intro hz
    exact ⟨(f z.1, z.2), (ren_mem h hn hx _).2 ⟨z, hz, rfl⟩, by dsimp only; rw [h.gf _ (hx.2 z hz)]⟩
theorem movesIn_iff (a : Int) (x : Stp) : movesIn a x = true ↔ ∃ y ∈ x.1, y.1 = a := by
  unfold movesIn
  rw [List.any_eq_true]
  constructor
  · rintro ⟨y, hy, e⟩; exact ⟨y, hy, by simpa using e⟩
  · rintro ⟨y, hy, e⟩; exact ⟨y, hy, by simpa using e⟩
theorem bool_iff {a b : Bool} (h : a = true ↔ b = true) : a = b := by cases a <;> cases b <;> simp_all
theorem movesIn_ren (h : Bij P n f g) (hn : n ≤ 6) {x : Stp} (hx : FineP P x) {a : Int} (ha : P a) : movesIn (f a) (renStep f x) = movesIn a x := by
  apply bool_iff
  rw [movesIn_iff, movesIn_iff]
  constructor
  · rintro ⟨y, hy, e⟩
    obtain ⟨z, hz, rfl⟩ := (ren_mem h hn hx y).1 hy
    exact ⟨z, hz, h.inj (hx.2 z hz) ha e⟩
  · rintro ⟨y, hy, rfl⟩
    exact ⟨_, (ren_mem h hn hx _).2 ⟨y, hy, rfl⟩, rfl⟩
theorem beh_cons (e : Int → Bool) (y : Stk) (l : List Stk) : beh e (y :: l) = beh (fun i => if i = y.1 then y.2 else e i) l := rfl
theorem beh_not {e : Int → Bool} {l : List Stk} {a : Int} (h : ∀ y ∈ l, y.1 ≠ a) : beh e l a = e a := by
  induction l generalizing e with
  | nil => rfl
  | cons y l ih =>
    rw [beh_cons, ih fun y hy => h y (List.mem_cons_of_mem _ hy)]
    exact if_neg fun e => h y (List.mem_cons_self ..) e.symm
theorem beh_mem {e : Int → Bool} {l : List Stk} (hd : Diff l) {y : Stk} (hy : y ∈ l) : beh e l y.1 = y.2 := by
  induction l generalizing e with
  | nil => cases hy
  | cons z l ih =>
    obtain ⟨h1, h2⟩ := List.pairwise_cons.1 hd
    rw [beh_cons]
    rcases List.mem_cons.1 hy with rfl | hy
    · rw [beh_not fun z hz e => h1 z hz e.symm]
      exact if_pos rfl
    · exact ih h2 hy
theorem beh_ren (h : Bij P n f g) (hn : n ≤ 6) {x : Stp} (hx : FineP P x) {e e' : Int → Bool} (he : ∀ a, P a → e' (f a) = e a) : ∀ a, P a → beh e' (renStep f x).1 (f a) = beh e x.1 a := fun a ha => by
  cases hm : movesIn a x
  · have h1 : ∀ y ∈ x.1, y.1 ≠ a := fun y hy e => by
      have := (movesIn_iff a x).2 ⟨y, hy, e⟩
      rw [hm] at this; cases this
    rw [beh_not h1, beh_not, he a ha]
    intro y hy e
    obtain ⟨z, hz, rfl⟩ := (ren_mem h hn hx y).1 hy
    exact h1 z hz (h.inj (hx.2 z hz) ha e)
  · obtain ⟨y, hy, rfl⟩ := (movesIn_iff a x).1 hm
    rw [beh_mem hx.diff hy]
    exact beh_mem (renStep_asc h hx).diff (y := (f y.1, y.2)) ((ren_mem h hn hx _).2 ⟨y, hy, rfl⟩)
theorem ckFit_iff {m : Int} {x : Stp} {e : Int → Bool} : ckFit m x e = 0 ↔ ckStep x = 0 ∧ (∀ y ∈ x.1, y.1 < m) ∧ ∀ y ∈ x.1, e y.1 = !y.2 := by
  unfold ckFit
  by_cases h1 : ckStep x = 0
  · rw [if_neg (by simp [h1])]
    cases h2 : anyHigh m x.1
    · have h2' : ∀ y ∈ x.1, y.1 < m := fun y hy => by
        have := (List.any_eq_false.1 h2) y hy
        simp at this; omega
      cases h3 : anySame e x.1
      · refine ⟨fun _ => ⟨h1, h2', fun y hy => ?_⟩, fun _ => rfl⟩
        have := (List.any_eq_false.1 h3) y hy
        cases ha : e y.1 <;> cases hb : y.2 <;> simp_all
      · refine ⟨fun h => by simp at h, fun ⟨_, _, h⟩ => ?_⟩
        obtain ⟨y, hy, hh⟩ := List.any_eq_true.1 h3
        rw [h y hy] at hh
        cases hb : y.2 <;> rw [hb] at hh <;> cases hh
    · refine ⟨fun h => by simp at h, fun ⟨_, h, _⟩ => ?_⟩
      obtain ⟨y, hy, hh⟩ := List.any_eq_true.1 h2
      have := h y hy
      simp at hh; omega
  · rw [if_pos h1]
    exact ⟨fun h => absurd h h1, fun h => absurd h.1 h1⟩
theorem ckWalk_iff {m : Int} {e : Int → Bool} {x : Stp} {l : List Stp} : ckWalk m e (x :: l) = 0 ↔ ckFit m x e = 0 ∧ ckWalk m (beh e x.1) l = 0 := by
  show (if ckFit m x e ≠ 0 then ckFit m x e else ckWalk m (beh e x.1) l) = 0 ↔ _
  by_cases h : ckFit m x e = 0
  · rw [if_neg (by simp [h])]; exact ⟨fun k => ⟨h, k⟩, fun k => k.2⟩
  · rw [if_pos h]; exact ⟨fun k => absurd k h, fun k => absurd k.1 h⟩
theorem ckWalk_ren (h : Bij P n f g) (hn : n ≤ 6) {m : Int} {l : List Stp} (hl : ∀ x ∈ l, FineP P x) {e e' : Int → Bool} (he : ∀ a, P a → e' (f a) = e a) (hk : ckWalk m e l = 0) : ckWalk n e' (l.map (renStep f)) = 0 := by
  induction l generalizing e e' with
  | nil => rfl
  | cons x l ih =>
    have hx := hl x (List.mem_cons_self ..)
    obtain ⟨h1, h2⟩ := ckWalk_iff.1 hk
    obtain ⟨_, _, h3⟩ := ckFit_iff.1 h1
    have hf := renStep_fine h hn hx
    rw [List.map_cons]
    refine ckWalk_iff.2 ⟨ckFit_iff.2 ⟨hf.1, fun y hy => (hf.2 y hy).2, fun y hy => ?_⟩, ih (fun x hx => hl x (List.mem_cons_of_mem _ hx)) (beh_ren h hn hx he) h2⟩
    obtain ⟨z, hz, rfl⟩ := (ren_mem h hn hx y).1 hy
    rw [he _ (hx.2 z hz)]
    exact h3 z hz
theorem behAll_cons (e : Int → Bool) (x : Stp) (l : List Stp) : behAll e (x :: l) = behAll (beh e x.1) l := rfl
theorem behAll_ren (h : Bij P n f g) (hn : n ≤ 6) {l : List Stp} (hl : ∀ x ∈ l, FineP P x) {e e' : Int → Bool} (he : ∀ a, P a → e' (f a) = e a) : ∀ a, P a → behAll e' (l.map (renStep f)) (f a) = behAll e l a := by
  induction l generalizing e e' with
  | nil => exact he
  | cons x l ih =>
    rw [List.map_cons, behAll_cons, behAll_cons]
    exact ih (fun x hx => hl x (List.mem_cons_of_mem _ hx)) (beh_ren h hn (hl x (List.mem_cons_self ..)) he)
theorem movedIn_iff (a : Int) (l : List Stp) : movedIn a l = true ↔ ∃ x ∈ l, movesIn a x = true := by
  unfold movedIn
  exact List.any_eq_true
theorem movedIn_ren (h : Bij P n f g) (hn : n ≤ 6) {l : List Stp} (hl : ∀ x ∈ l, FineP P x) {a : Int} (ha : P a) : movedIn (f a) (l.map (renStep f)) = movedIn a l := by
  apply bool_iff
  rw [movedIn_iff, movedIn_iff]
  constructor
  · rintro ⟨y, hy, e⟩
    obtain ⟨x, hx, rfl⟩ := List.mem_map.1 hy
    exact ⟨x, hx, by rw [← movesIn_ren h hn (hl x hx) ha]; exact e⟩
  · rintro ⟨x, hx, e⟩
    exact ⟨_, List.mem_map.2 ⟨x, hx, rfl⟩, by rw [movesIn_ren h hn (hl x hx) ha]; exact e⟩
theorem ints_all (p : Int → Bool) (m : Int) : (ints m).any p = false ↔ ∀ a, 0 ≤ a ∧ a < m → p a = false := by
  rw [List.any_eq_false]
  constructor
  · intro h a ha; have := h a (ints_mem.2 ha); simpa using this
  · intro h a ha; simp [h a (ints_mem.1 ha)]
theorem ckSeq_of {m : Int} {l : List Stp} (h1 : 1 ≤ m ∧ m ≤ 6) (h2 : 0 < l.length ∧ l.length ≤ 64) (h3 : ckWalk m none6 l = 0) (h4 : ∀ a, 0 ≤ a ∧ a < m → behAll none6 l a = false) (h5 : ∀ a, 0 ≤ a ∧ a < m → movedIn a l = true) : ckSeq (m, l) = 0 := by
  have h4' := (ints_all (behAll none6 l) m).2 h4
  have h5' : (ints m).any (fun a => !movedIn a l) = false := (ints_all _ m).2 fun a ha => by rw [h5 a ha]; rfl
  unfold ckSeq
  dsimp only
  rw [if_neg (by omega), if_neg (by omega), if_neg (by omega), if_neg (by simp [h3]), h4', h5']
  rfl
structure Right (m : Int) (l : List Stp) : Prop where
  act : 1 ≤ m ∧ m ≤ 6
  len : 0 < l.length ∧ l.length ≤ 64
  walk : ckWalk m none6 l = 0
  back : ∀ a, 0 ≤ a ∧ a < m → behAll none6 l a = false
  moved : ∀ a, 0 ≤ a ∧ a < m → movedIn a l = true
theorem ckSeq_right {m : Int} {l : List Stp} (h : ckSeq (m, l) = 0) : Right m l := by
  obtain ⟨h1, h2, h3, h4, h5, h6, h7⟩ := ckSeq_zero h
  refine ⟨⟨h1, h2⟩, ⟨h3, h4⟩, h5, (ints_all _ _).1 h6, fun a ha => ?_⟩
  have := (ints_all _ _).1 h7 a ha
  simpa using this
theorem Right.fine {m : Int} {l : List Stp} (h : Right m l) : ∀ x ∈ l, FineP (In m) x := (ckWalk_fine h.walk).all
/-- what is renamed can be carried out -/
theorem ckSeq_ren (h : Bij (In n) n f g) {l : List Stp} (hk : ckSeq (n, l) = 0) : ckSeq (ren f (n, l)) = 0 := by
  have hr := ckSeq_right hk
  have hn := hr.act.2
  show ckSeq (n, l.map (renStep f)) = 0
  refine ckSeq_of hr.act (by rw [List.length_map]; exact hr.len) (ckWalk_ren h hn hr.fine (fun _ _ => rfl) hr.walk) (fun a ha => ?_) (fun a ha => ?_)
  · rw [← h.fg a ha, behAll_ren h hn hr.fine (fun _ _ => rfl) _ (h.gp a ha)]
    exact hr.back _ (h.gp a ha)
  · rw [← h.fg a ha, movedIn_ren h hn hr.fine (h.gp a ha)]
    exact hr.moved _ (h.gp a ha)
/-- the opposite renaming cancels out -/
theorem ren_back (h : Bij (In n) n f g) {l : List Stp} (hk : ckSeq (n, l) = 0) : ren g (ren f (n, l)) = (n, l) := by
  have hr := ckSeq_right hk
  show (n, (l.map (renStep f)).map (renStep g)) = (n, l)
  rw [List.map_map]
  congr 1
  conv => rhs; rw [← List.map_id l]
  exact List.map_congr_left fun x hx => renStep_back h hr.act.2 (hr.fine x hx)
theorem ren_lens (h : Bij P n f g) (hn : n ≤ 6) {l : List Stp} (hl : ∀ x ∈ l, FineP P x) : (l.map (renStep f)).map (fun x => x.1.length) = l.map (fun x => x.1.length) := by
  rw [List.map_map]
  exact List.map_congr_left fun x hx => renStep_len h hn (hl x hx)
end
theorem sub_len {α : Type} [DecidableEq α] {l m : List α} (hd : l.Nodup) (h : ∀ x ∈ l, x ∈ m) : l.length ≤ m.length := by
  induction l generalizing m with
  | nil => simp
  | cons x l ih =>
    obtain ⟨h1, h2⟩ := List.nodup_cons.1 hd
    have hm := h x (List.mem_cons_self ..)
    have := ih (m := m.erase x) h2 fun y hy => (List.mem_erase_of_ne (fun e => by subst e; exact h1 hy)).2 (h y (List.mem_cons_of_mem _ hy))
    rw [List.length_erase_of_mem hm] at this
    have := List.length_pos_of_mem hm
    simp only [List.length_cons]
    omega
theorem ints_nodup (n : Int) : (ints n).Nodup := (ints_asc n).imp fun h e => by omega
/-- as many are told by p as by p behind f -/
theorem count_ren {n : Int} {f g : Int → Int} (h : Bij (In n) n f g) (p : Int → Bool) : ((ints n).filter fun b => p (f b)).length = ((ints n).filter p).length := by
  have key : ∀ (f g : Int → Int) (p : Int → Bool), Bij (In n) n f g → ((ints n).filter fun b => p (f b)).length ≤ ((ints n).filter p).length := fun f g p h => by
    rw [← List.length_map (f := f)]
    refine sub_len ?_ fun x hx => ?_
    · unfold List.Nodup
      rw [List.pairwise_map]
      refine List.Pairwise.imp_of_mem (fun {a b} ha hb hab e => hab (h.inj (ints_mem.1 (List.mem_filter.1 ha).1) (ints_mem.1 (List.mem_filter.1 hb).1) e)) ((ints_nodup n).filter _)
    · obtain ⟨b, hb, rfl⟩ := List.mem_map.1 hx
      obtain ⟨h1, h2⟩ := List.mem_filter.1 hb
      exact List.mem_filter.2 ⟨ints_mem.2 (h.rng b (ints_mem.1 h1)), h2⟩
  have hb : Bij (In n) n g f := ⟨h.gp, h.rng, h.fg, h.gf⟩
  have k1 := key f g p h
  have k2 := key g f (fun b => p (f b)) hb
  have e : ((ints n).filter fun b => p (f (g b))) = (ints n).filter p := List.filter_congr fun b hb => by rw [h.fg b (ints_mem.1 hb)]
  rw [e] at k2
  omega
theorem count_two {l : List Int} {p q r : Int → Bool} (hp : ∀ a ∈ l, p a = true → r a = true) (hq : ∀ a ∈ l, q a = true → r a = true) (hd : ∀ a ∈ l, p a = true → q a = false) : (l.filter p).length + (l.filter q).length ≤ (l.filter r).length := by
  induction l with
  | nil => simp
  | cons x l ih =>
    have := ih (fun a ha => hp a (List.mem_cons_of_mem _ ha)) (fun a ha => hq a (List.mem_cons_of_mem _ ha)) (fun a ha => hd a (List.mem_cons_of_mem _ ha))
    have h1 := hp x (List.mem_cons_self ..)
    have h2 := hq x (List.mem_cons_self ..)
    have h3 := hd x (List.mem_cons_self ..)
    rw [List.filter_cons, List.filter_cons, List.filter_cons]
    cases hx : p x <;> cases hy : q x <;> cases hz : r x <;> simp_all <;> omega
/-- actuators with the same letter, before and behind a renaming, move in the same steps -/
theorem letter_same {n : Int} {f g : Int → Int} (h : Bij (In n) n f g) {l m : List Stp} (hm : ∀ a, In n a → movesOf m (f a) = movesOf l a) {a b : Int} (ha : In n a) (hb : In n b) (e : letterOf (n, l) a = letterOf (n, m) (f b)) : movesOf l a = movesOf l b := by
  have hbb : letterOf (n, m) (f b) = (((ints n).filter fun c => lexLt (movesOf l c) (movesOf l b) || (decide (f c < f b) && (movesOf l c == movesOf l b))).length : Nat) := by
    unfold letterOf
    dsimp only
    rw [← count_ren h]
    congr 2
    exact List.filter_congr fun c hc => by rw [hm c (ints_mem.1 hc), hm b hb]
  have hlt : ∀ (u v : Int) (q : Int → Bool), In n u → q u = false → lexLt (movesOf l u) (movesOf l v) = true →
      ((ints n).filter fun c => lexLt (movesOf l c) (movesOf l u) || (q c && (movesOf l c == movesOf l u))).length < ((ints n).filter fun c => lexLt (movesOf l c) (movesOf l v)).length := fun u v q hu hq hl => by
    have h1 := count_two (l := ints n) (p := fun c => lexLt (movesOf l c) (movesOf l u) || (q c && (movesOf l c == movesOf l u))) (q := fun c => decide (c = u)) (r := fun c => lexLt (movesOf l c) (movesOf l v)) (fun c _ hc => ?_) (fun c _ hc => ?_) (fun c _ hc => ?_)
    · have h2 : 0 < ((ints n).filter fun c => decide (c = u)).length := List.length_pos_of_mem (List.mem_filter.2 ⟨ints_mem.2 hu, by simp⟩)
      omega
    · simp only [Bool.or_eq_true, Bool.and_eq_true, beq_iff_eq] at hc
      rcases hc with hc | ⟨_, hc⟩
      · exact lexLt_trans hc hl
      · rw [hc]; exact hl
    · have : c = u := by simpa using hc
      rw [this]; exact hl
    · by_cases hcu : c = u
      · subst hcu
        rw [lexLt_irrefl, hq] at hc
        simp at hc
      · simp [hcu]
  have hge : ∀ (v : Int) (q : Int → Bool), ((ints n).filter fun c => lexLt (movesOf l c) (movesOf l v)).length ≤ ((ints n).filter fun c => lexLt (movesOf l c) (movesOf l v) || (q c && (movesOf l c == movesOf l v))).length := fun v q => by
    have := count_two (l := ints n) (p := fun c => lexLt (movesOf l c) (movesOf l v)) (q := fun _ => false) (r := fun c => lexLt (movesOf l c) (movesOf l v) || (q c && (movesOf l c == movesOf l v))) (fun c _ hc => by rw [hc]; rfl) (fun c _ hc => by cases hc) (fun c _ _ => rfl)
    omega
  by_cases hne : movesOf l a = movesOf l b
  · exact hne
  exfalso
  rw [hbb] at e
  unfold letterOf at e
  dsimp only at e
  cases hl : lexLt (movesOf l a) (movesOf l b)
  · have hl := lexLt_total hl hne
    have h1 := hlt b a (fun c => decide (f c < f b)) hb (by simp) hl
    have h2 := hge a (fun c => decide (c < a))
    (try dsimp only at h1 h2)
    omega
  · have h1 := hlt a b (fun c => decide (c < a)) ha (by simp) hl
    have h2 := hge b (fun c => decide (f c < f b))
    (try dsimp only at h1 h2)
    omega
theorem movesOf_mem (l : List Stp) (a : Int) {k : Nat} (hk : k < l.length) : (k : Int) ∈ movesOf l a ↔ movesIn a (l.getD k stp0) = true := by
  unfold movesOf
  rw [List.mem_filter, ints_mem]
  constructor
  · intro h; exact h.2
  · intro h; exact ⟨⟨by omega, by omega⟩, h⟩
theorem movesOf_ren {P : Int → Prop} {n : Int} {f g : Int → Int} (h : Bij P n f g) (hn : n ≤ 6) {l : List Stp} (hl : ∀ x ∈ l, FineP P x) {a : Int} (ha : P a) : movesOf (l.map (renStep f)) (f a) = movesOf l a := by
  unfold movesOf
  rw [List.length_map]
  refine List.filter_congr fun k hk => ?_
  have hk := ints_mem.1 hk
  have hk' : k.toNat < l.length := by omega
  rw [List.getD_eq_getElem?_getD, List.getD_eq_getElem?_getD, List.getElem?_map, List.getElem?_eq_getElem hk']
  exact movesIn_ren h hn (hl _ (List.getElem_mem hk')) ha
/-- which way an actuator moves follows from the steps in which it moves -/
theorem dir_same {m : Int} {l : List Stp} {e : Int → Bool} (hw : ckWalk m e l = 0) {a b : Int} (he : e a = e b) (hm : ∀ k, k < l.length → movesIn a (l.getD k stp0) = movesIn b (l.getD k stp0)) :
    ∀ k, k < l.length → ∀ d, (a, d) ∈ (l.getD k stp0).1 → (b, d) ∈ (l.getD k stp0).1 := by
  induction l generalizing e with
  | nil => intro k hk; simp at hk
  | cons x l ih =>
    obtain ⟨h1, h2⟩ := ckWalk_iff.1 hw
    obtain ⟨c1, _, h3⟩ := ckFit_iff.1 h1
    have hd : Diff x.1 := (ckStrokes_asc (ckStep_strokes c1).1).1.diff
    have hm0 : movesIn a x = movesIn b x := hm 0 (by simp)
    have hdir : ∀ d, (a, d) ∈ x.1 → (b, d) ∈ x.1 := fun d hy => by
      have hb : movesIn b x = true := by rw [← hm0]; exact (movesIn_iff a x).2 ⟨_, hy, rfl⟩
      obtain ⟨y, hy2, rfl⟩ := (movesIn_iff b x).1 hb
      have e1 := h3 _ hy
      have e2 := h3 _ hy2
      dsimp only at e1
      have : y.2 = d := by rw [he, e2] at e1; cases hh : y.2 <;> cases d <;> simp_all
      rw [← this]; exact hy2
    have hbeh : beh e x.1 a = beh e x.1 b := by
      cases hma : movesIn a x
      · have hmb := hma; rw [hm0] at hmb
        rw [beh_not (fun y hy e => by have := (movesIn_iff a x).2 ⟨y, hy, e⟩; rw [hma] at this; cases this), beh_not (fun y hy e => by have := (movesIn_iff b x).2 ⟨y, hy, e⟩; rw [hmb] at this; cases this), he]
      · obtain ⟨y, hy, rfl⟩ := (movesIn_iff a x).1 hma
        rw [beh_mem hd hy]
        exact (beh_mem hd (y := (b, y.2)) (hdir y.2 hy)).symm
    intro k hk
    cases k with
    | zero => exact hdir
    | succ k => exact ih h2 hbeh (fun k hk => hm (k + 1) (by simpa using hk)) k (by simpa using hk)
theorem bij_letters (n : Int) (l : List Stp) : ∃ g, Bij (In n) n (listFn (lettersOf (n, l))) g := by
  have hsur : ∀ v, In n v → ∃ a, In n a ∧ letterOf (n, l) a = v := fun v hv => by
    have hj : v.toNat < (isortI (cmpM l) (ints n)).length := by rw [isortI_len]; have := hv.1; have := hv.2; omega
    refine ⟨_, isortI_rng n l (j := v.toNat) (by have := hv.1; have := hv.2; omega), ?_⟩
    rw [letterOf_at n l hj]; have := hv.1; omega
  classical
  refine ⟨fun v => if h : In n v then Classical.choose (hsur v h) else 0, fun a ha => ?_, fun a ha => ?_, fun a ha => ?_, fun a ha => ?_⟩
  · rw [listFn_letters n l ha]; exact letterOf_rng n l ha
  · (try dsimp only)
    rw [dif_pos (show In n a from ha)]; exact (Classical.choose_spec (hsur a ha)).1
  · have hr := letterOf_rng n l ha
    rw [listFn_letters n l ha]
    (try dsimp only)
    rw [dif_pos (show In n (letterOf (n, l) a) from hr)]
    have hs := Classical.choose_spec (hsur _ hr)
    exact letterOf_inj n l hs.1 ha hs.2
  · (try dsimp only)
    rw [dif_pos (show In n a from ha)]
    have hs := Classical.choose_spec (hsur a ha)
    rw [listFn_letters n l hs.1]; exact hs.2
/-- the standard letters of what is renamed are those of the sequence itself -/
theorem standard_ren {n : Int} {f g : Int → Int} (h : Bij (In n) n f g) {l : List Stp} (hk : ckSeq (n, l) = 0) : standard (ren f (n, l)) = standard (n, l) := by
  have hr := ckSeq_right hk
  have hn := hr.act.2
  obtain ⟨gs, hs⟩ := bij_letters n l
  obtain ⟨gt, ht⟩ := bij_letters n (l.map (renStep f))
  show (n, (l.map (renStep f)).map (renStep (listFn (lettersOf (n, l.map (renStep f)))))) = (n, l.map (renStep (listFn (lettersOf (n, l)))))
  congr 1
  rw [List.map_map]
  have hfr : ∀ x ∈ l, FineP (In n) (renStep f x) := fun x hx => renStep_fine h hn (hr.fine x hx)
  have hms : ∀ a, In n a → movesOf (l.map (renStep f)) (f a) = movesOf l a := fun a ha => movesOf_ren h hn hr.fine ha
  have hsame : ∀ a b, In n a → In n b → listFn (lettersOf (n, l)) a = listFn (lettersOf (n, l.map (renStep f))) (f b) → ∀ k, k < l.length → ∀ d, (a, d) ∈ (l.getD k stp0).1 ↔ (b, d) ∈ (l.getD k stp0).1 := fun a b ha hb e => by
    rw [listFn_letters n l ha, listFn_letters n _ (h.rng b hb)] at e
    have hmm := letter_same h hms ha hb e
    have hmk : ∀ k, k < l.length → movesIn a (l.getD k stp0) = movesIn b (l.getD k stp0) := fun k hk => by
      apply bool_iff
      rw [← movesOf_mem l a hk, ← movesOf_mem l b hk, hmm]
    exact fun k hk d => ⟨dir_same (a := a) (b := b) hr.walk rfl hmk k hk d, dir_same (a := b) (b := a) hr.walk rfl (fun k hk => (hmk k hk).symm) k hk d⟩
  refine list_ext_getD stp0 (by simp) fun k hk => ?_
  have hk' : k < l.length := by simpa using hk
  have hx : l.getD k stp0 ∈ l := by rw [List.getD_eq_getElem?_getD, List.getElem?_eq_getElem hk']; exact List.getElem_mem hk'
  have e1 : (l.map (renStep (listFn (lettersOf (n, l.map (renStep f)))) ∘ renStep f)).getD k stp0 = renStep (listFn (lettersOf (n, l.map (renStep f)))) (renStep f (l.getD k stp0)) := by
    simp [List.getD, hk']
  have e2 : (l.map (renStep (listFn (lettersOf (n, l))))).getD k stp0 = renStep (listFn (lettersOf (n, l))) (l.getD k stp0) := by
    simp [List.getD, hk']
  rw [e1, e2]
  have hfx := hr.fine _ hx
  have hffx := hfr _ hx
  have hsm := fun a b ha hb e => hsame a b ha hb e k hk'
  refine Prod.ext (asc_ext (renStep_asc ht hffx) (renStep_asc hs hfx) fun z => ?_) rfl
  rw [ren_mem ht hn hffx, ren_mem hs hn hfx]
  constructor
  · rintro ⟨y, hy, rfl⟩
    obtain ⟨u, hu, rfl⟩ := (ren_mem h hn hfx y).1 hy
    have hiu := hfx.2 u hu
    have hr1 := ht.rng _ (h.rng _ hiu)
    have ha := hs.gp _ hr1
    have he := hs.fg _ hr1
    exact ⟨(gs _, u.2), (hsm _ u.1 ha hiu he u.2).2 hu, by dsimp only; rw [he]⟩
  · rintro ⟨u, hu, rfl⟩
    have hiu := hfx.2 u hu
    have hr1 := hs.rng _ hiu
    have hb := ht.gp _ hr1
    have he := ht.fg _ hr1
    have hgb := h.gp _ hb
    have he2 := h.fg _ hb
    refine ⟨(gt (listFn (lettersOf (n, l)) u.1), u.2), (ren_mem h hn hfx _).2 ⟨(g (gt (listFn (lettersOf (n, l)) u.1)), u.2), (hsm u.1 _ hiu hgb (by rw [he2, he]) u.2).1 hu, by dsimp only; rw [he2]⟩, by dsimp only; rw [he]⟩
/-- a right renaming has an opposite -/
theorem renGo_zero {n : Int} : ∀ (l bef : List Int), renGo n bef l = 0 → (∀ x ∈ l, 0 ≤ x ∧ x < n) ∧ l.Nodup ∧ ∀ x ∈ l, x ∉ bef := by
  intro l
  induction l with
  | nil => intro bef _; exact ⟨by simp, List.Pairwise.nil, by simp⟩
  | cons y l ih =>
    intro bef h
    unfold renGo at h
    by_cases h1 : y < 0 ∨ n ≤ y
    · rw [if_pos h1] at h; cases h
    · rw [if_neg h1] at h
      by_cases h2 : bef.contains y = true
      · rw [if_pos h2] at h; cases h
      · rw [if_neg h2] at h
        obtain ⟨i1, i2, i3⟩ := ih _ h
        refine ⟨fun x hx => ?_, List.nodup_cons.2 ⟨fun hy => i3 y hy (by simp), i2⟩, fun x hx => ?_⟩
        · rcases List.mem_cons.1 hx with rfl | hx
          · omega
          · exact i1 x hx
        · rcases List.mem_cons.1 hx with rfl | hx
          · intro hb; exact h2 (by simpa using hb)
          · intro hb; exact i3 x hx (by simp [hb])
theorem listFn_at (t : List Int) {k : Nat} : listFn t (k : Int) = t.getD k 0 := by
  unfold listFn
  rw [if_neg (by omega)]; rfl
theorem bij_list {t b : List Int} {n : Int} (ht : renE t n = 0) (hb : ∀ k, k < t.length → b.getD (t.getD k 0).toNat 0 = (k : Int)) : Bij (In n) n (listFn t) (listFn b) := by
  unfold renE at ht
  by_cases hl : (t.length : Int) ≠ n
  · rw [if_pos hl] at ht; cases ht
  rw [if_neg hl] at ht
  have hl : (t.length : Int) = n := by omega
  obtain ⟨h1, h2, _⟩ := renGo_zero t [] ht
  have hrng : ∀ a, In n a → In n (listFn t a) := fun a ha => by
    obtain ⟨k, rfl⟩ := Int.eq_ofNat_of_zero_le ha.1
    have hk : k < t.length := by have := ha.2; omega
    rw [listFn_at]
    exact h1 _ (by rw [List.getD_eq_getElem?_getD, List.getElem?_eq_getElem hk]; exact List.getElem_mem hk)
  have hgf : ∀ a, In n a → listFn b (listFn t a) = a := fun a ha => by
    have hr := hrng a ha
    obtain ⟨k, rfl⟩ := Int.eq_ofNat_of_zero_le ha.1
    have hk : k < t.length := by have := ha.2; omega
    rw [listFn_at] at hr ⊢
    unfold listFn
    rw [if_neg (by have := hr.1; omega)]
    exact hb k hk
  have hsur : ∀ v, In n v → ∃ a, In n a ∧ listFn t a = v := fun v hv => by
    by_cases hm : v ∈ t
    · obtain ⟨k, hk, e⟩ := List.mem_iff_getElem.1 hm
      refine ⟨(k : Int), ⟨by omega, by omega⟩, ?_⟩
      rw [listFn_at, List.getD_eq_getElem?_getD, List.getElem?_eq_getElem hk]; exact e
    · exfalso
      have := sub_len (l := v :: t) (m := ints n) (List.nodup_cons.2 ⟨hm, h2⟩) (fun x hx => by
        rcases List.mem_cons.1 hx with rfl | hx
        · exact ints_mem.2 hv
        · exact ints_mem.2 (h1 x hx))
      rw [ints_length, List.length_cons] at this
      omega
  refine ⟨hrng, fun v hv => ?_, hgf, fun v hv => ?_⟩
  · obtain ⟨a, ha, rfl⟩ := hsur v hv
    rw [hgf a ha]; exact ha
  · obtain ⟨a, ha, rfl⟩ := hsur v hv
    rw [hgf a ha]
end Go.Proofs.YtnhbogmihnnpjaaGreat
/- Sequences backwards, from a pause on, in parts, joined and merged, in plain terms: all can be carried out. -/
namespace Go.Proofs.YtnhbogmihnnpjaaGreat
open Go.RowKit

theorem beh_pt {e e' : Int → Bool} {l : List Stk} {a : Int} (h : e a = e' a) : beh e l a = beh e' l a := by
  induction l generalizing e e' with
  | nil => exact h
  | cons y l ih =>
    rw [beh_cons, beh_cons]
    exact ih (by rw [h])
theorem behAll_pt {e e' : Int → Bool} {l : List Stp} {a : Int} (h : e a = e' a) : behAll e l a = behAll e' l a := by
  induction l generalizing e e' with
  | nil => exact h
  | cons x l ih => rw [behAll_cons, behAll_cons]; exact ih (beh_pt h)
theorem behAll_not {e : Int → Bool} {l : List Stp} {a : Int} (h : ∀ x ∈ l, movesIn a x = false) : behAll e l a = e a := by
  induction l generalizing e with
  | nil => rfl
  | cons x l ih =>
    rw [behAll_cons, ih fun y hy => h y (List.mem_cons_of_mem _ hy)]
    refine beh_not fun y hy ee => ?_
    have := (movesIn_iff a x).2 ⟨y, hy, ee⟩
    rw [h x (List.mem_cons_self ..)] at this; cases this
theorem behAll_append (e : Int → Bool) (l q : List Stp) : behAll e (l ++ q) = behAll (behAll e l) q := List.foldl_append
theorem ckWalk_append {m : Int} {e : Int → Bool} {l q : List Stp} : ckWalk m e (l ++ q) = 0 ↔ ckWalk m e l = 0 ∧ ckWalk m (behAll e l) q = 0 := by
  induction l generalizing e with
  | nil => exact ⟨fun h => ⟨rfl, h⟩, fun h => h.2⟩
  | cons x l ih =>
    rw [List.cons_append, ckWalk_iff, ckWalk_iff, ih, behAll_cons]
    exact ⟨fun h => ⟨⟨h.1, h.2.1⟩, h.2.2⟩, fun h => ⟨h.1.1, h.1.2, h.2⟩⟩
theorem ckWalk_mono {m m' : Int} (hm : m ≤ m') {e : Int → Bool} {l : List Stp} (h : ckWalk m e l = 0) : ckWalk m' e l = 0 := by
  induction l generalizing e with
  | nil => rfl
  | cons x l ih =>
    obtain ⟨h1, h2⟩ := ckWalk_iff.1 h
    obtain ⟨k1, k2, k3⟩ := ckFit_iff.1 h1
    exact ckWalk_iff.2 ⟨ckFit_iff.2 ⟨k1, fun y hy => by have := k2 y hy; omega, k3⟩, ih h2⟩
theorem ckWalk_none {m : Int} {e : Int → Bool} {l : List Stp} (he : ∀ a, In m a → e a = false) (h : ckWalk m e l = 0) : ckWalk m none6 l = 0 := by
  have key : ∀ (l : List Stp) (e e' : Int → Bool), (∀ a, In m a → e a = e' a) → ckWalk m e l = 0 → ckWalk m e' l = 0 := by
    intro l
    induction l with
    | nil => intro e e' _ _; rfl
    | cons x l ih =>
      intro e e' he h
      obtain ⟨h1, h2⟩ := ckWalk_iff.1 h
      obtain ⟨k1, k2, k3⟩ := ckFit_iff.1 h1
      have hk := ckStrokes_known (ckStep_strokes k1).1
      exact ckWalk_iff.2 ⟨ckFit_iff.2 ⟨k1, k2, fun y hy => by rw [← he y.1 ⟨(hk y hy).1, k2 y hy⟩]; exact k3 y hy⟩, ih _ _ (fun a ha => beh_pt (he a ha)) h2⟩
  exact key l e none6 (fun a ha => he a ha) h
theorem Right.notIn {m : Int} {l : List Stp} (h : Right m l) {a : Int} (ha : ¬ In m a) : ∀ x ∈ l, movesIn a x = false := fun x hx => by
  cases hm : movesIn a x
  · rfl
  · obtain ⟨y, hy, rfl⟩ := (movesIn_iff a x).1 hm
    exact absurd ((h.fine x hx).2 y hy) ha
theorem Right.none {m : Int} {l : List Stp} (h : Right m l) : behAll none6 l = none6 := by
  funext a
  by_cases ha : In m a
  · exact h.back a ha
  · exact behAll_not (h.notIn ha)
theorem Right.ck {m : Int} {l : List Stp} (h : Right m l) : ckSeq (m, l) = 0 := ckSeq_of h.act h.len h.walk h.back h.moved
theorem rests_none {m : Int} {l : List Stp} (h : Right m l) {k : Nat} : restsAt (m, l) k = true ↔ behAll none6 (l.take k) = none6 := by
  unfold restsAt
  rw [List.all_eq_true]
  constructor
  · intro hr
    funext a
    by_cases ha : In m a
    · have := hr a (ints_mem.2 ha)
      have h2 : behAll none6 (l.take k) a = false := by simpa using this
      exact h2
    · exact behAll_not fun x hx => h.notIn ha x (List.mem_of_mem_take hx)
  · intro hr a _
    dsimp only
    rw [hr]; rfl
/-- from a pause on a sequence can be carried out -/
theorem turned_right {m : Int} {l : List Stp} (h : Right m l) {k : Nat} (hk : behAll none6 (l.take k) = none6) : Right m (l.drop k ++ l.take k) := by
  have hw := h.walk
  rw [← List.take_append_drop k l] at hw
  obtain ⟨w1, w2⟩ := ckWalk_append.1 hw
  rw [hk] at w2
  have hn := h.none
  have hd : behAll none6 (l.drop k) = none6 := by
    rw [← List.take_append_drop k l, behAll_append, hk] at hn; exact hn
  refine ⟨h.act, by rw [List.length_append, List.length_drop, List.length_take]; have := h.len; omega, ckWalk_append.2 ⟨w2, by rw [hd]; exact w1⟩, fun a _ => by rw [behAll_append, hd, hk]; rfl, fun a ha => ?_⟩
  obtain ⟨x, hx, hm⟩ := (movedIn_iff a l).1 (h.moved a ha)
  refine (movedIn_iff a _).2 ⟨x, ?_, hm⟩
  rw [← List.take_append_drop k l] at hx
  rcases List.mem_append.1 hx with hx | hx
  · exact List.mem_append.2 (.inr hx)
  · exact List.mem_append.2 (.inl hx)
theorem drop_none {m : Int} {l : List Stp} (h : Right m l) {k : Nat} (hk : behAll none6 (l.take k) = none6) : behAll none6 (l.drop k) = none6 := by
  have hn := h.none
  rw [← List.take_append_drop k l, behAll_append, hk] at hn; exact hn
theorem turned_back (m : Int) (l : List Stp) {k : Nat} (hk : k < l.length) : turned (turned (m, l) k) ((l.length - k) % l.length) = (m, l) := by
  unfold turned
  dsimp only
  congr 1
  by_cases h0 : k = 0
  · subst h0
    rw [Nat.sub_zero, Nat.mod_self]
    simp
  · rw [Nat.mod_eq_of_lt (by omega)]
    have e1 : (l.drop k).length = l.length - k := List.length_drop
    rw [← e1, List.drop_left, List.take_left, List.take_append_drop]
theorem turned_rests {m : Int} {l : List Stp} (h : Right m l) {k : Nat} (hk : k < l.length) (hr : behAll none6 (l.take k) = none6) : fromE (turned (m, l) k) (((l.length - k) % l.length : Nat) : Int) = 0 := by
  have ht := turned_right h hr
  have hlen : (l.drop k ++ l.take k).length = l.length := by rw [List.length_append, List.length_drop, List.length_take]; omega
  unfold fromE turned
  dsimp only
  rw [hlen, if_neg (by simp [ht.ck]), if_neg (by have := Nat.mod_lt (l.length - k) (show 0 < l.length by omega); omega), if_pos]
  rw [rests_none ht]
  show behAll none6 ((l.drop k ++ l.take k).take ((l.length - k) % l.length)) = none6
  by_cases h0 : k = 0
  · subst h0
    rw [Nat.sub_zero, Nat.mod_self]; rfl
  · rw [Nat.mod_eq_of_lt (by omega)]
    have e1 : (l.drop k).length = l.length - k := List.length_drop
    rw [← e1, List.take_left]
    exact drop_none h hr
/- backwards -/
theorem flip_ck (z : Int) (l : List Stk) : ckStrokes z (flipAll l) = ckStrokes z l := by
  induction l generalizing z with
  | nil => rfl
  | cons y l ih =>
    show ckStrokes z ((y.1, !y.2) :: flipAll l) = _
    unfold ckStrokes
    rw [ih]
theorem flip_len (l : List Stk) : (flipAll l).length = l.length := by unfold flipAll; exact List.length_map ..
theorem flip_mem (z : Stk) (l : List Stk) : z ∈ flipAll l ↔ (z.1, !z.2) ∈ l := by
  unfold flipAll
  rw [List.mem_map]
  constructor
  · rintro ⟨y, hy, rfl⟩; simpa using hy
  · intro h; exact ⟨_, h, by simp⟩
theorem flip_flip (l : List Stk) : flipAll (flipAll l) = l := by
  unfold flipAll
  rw [List.map_map]
  conv => rhs; rw [← List.map_id l]
  exact List.map_congr_left fun y _ => by simp
theorem rev_split {l q : List Stp} {x : Stp} (h : q.map (·.1) = ((x :: l).map fun x => flipAll x.1).reverse) : ∃ q1 y, q = q1 ++ [y] ∧ q1.map (·.1) = (l.map fun x => flipAll x.1).reverse ∧ y.1 = flipAll x.1 := by
  rw [List.map_cons, List.reverse_cons] at h
  obtain ⟨q1, q2, rfl, h1, h2⟩ := List.map_eq_append_iff.1 h
  cases q2 with
  | nil => cases h2
  | cons y r =>
    cases r with
    | nil => exact ⟨q1, y, rfl, h1, by simpa using h2⟩
    | cons u r => simp at h2
theorem rev_walk {m : Int} {l : List Stp} : ∀ {e : Int → Bool} {q : List Stp}, ckWalk m e l = 0 → q.map (·.1) = (l.map fun x => flipAll x.1).reverse → (∀ x ∈ q, 0 ≤ x.2 ∧ x.2 ≤ 1000000) → ckWalk m (behAll e l) q = 0 ∧ ∀ a, behAll (behAll e l) q a = e a := by
  induction l with
  | nil =>
    intro e q _ hq _
    have : q = [] := by simpa using hq
    subst this
    exact ⟨rfl, fun a => rfl⟩
  | cons x l ih =>
    intro e q hw hq hz
    obtain ⟨q1, y, rfl, hq1, hy⟩ := rev_split hq
    obtain ⟨h1, h2⟩ := ckWalk_iff.1 hw
    obtain ⟨k1, k2, k3⟩ := ckFit_iff.1 h1
    have hs := ckStep_strokes k1
    have hd : Diff x.1 := (ckStrokes_asc hs.1).1.diff
    obtain ⟨i1, i2⟩ := ih (e := beh e x.1) h2 hq1 fun z hz' => hz z (List.mem_append.2 (.inl hz'))
    have hyw := hz y (List.mem_append.2 (.inr (List.mem_cons_self ..)))
    have hdy : Diff y.1 := by rw [hy]; unfold flipAll Diff; rw [List.pairwise_map]; exact hd
    rw [behAll_cons]
    refine ⟨ckWalk_append.2 ⟨i1, ckWalk_iff.2 ⟨ckFit_iff.2 ⟨ckStep_of (by rw [hy, flip_len]; omega) (by rw [hy, flip_len]; omega) (by rw [hy, flip_ck]; exact hs.1) hyw, fun z hz' => ?_, fun z hz' => ?_⟩, rfl⟩⟩, fun a => ?_⟩
    · rw [hy, flip_mem] at hz'
      exact k2 (z.1, !z.2) hz'
    · rw [hy, flip_mem] at hz'
      rw [i2]
      exact beh_mem hd (y := (z.1, !z.2)) hz'
    · rw [behAll_append]
      show beh _ y.1 a = e a
      cases hm : movesIn a x
      · have hna : ∀ z ∈ x.1, z.1 ≠ a := fun z hz' ee => by
          have := (movesIn_iff a x).2 ⟨z, hz', ee⟩; rw [hm] at this; cases this
        rw [beh_not, i2, beh_not hna]
        intro z hz' ee
        rw [hy, flip_mem] at hz'
        exact hna _ hz' ee
      · obtain ⟨z, hz', rfl⟩ := (movesIn_iff a x).1 hm
        have : (z.1, !z.2) ∈ y.1 := by rw [hy, flip_mem]; simpa using hz'
        rw [beh_mem hdy (y := (z.1, !z.2)) this, k3 z hz']
theorem back_strokes (m : Int) (l : List Stp) : (backwards (m, l)).2.map (·.1) = (l.map fun x => flipAll x.1).reverse := by
  unfold backwards
  rw [List.map_map]
  refine list_ext_getD ([] : List Stk) (by simp) fun k hk => ?_
  have hk' : k < l.length := by simpa using hk
  have e : l.length - 1 - k < l.length := by omega
  simp only [List.getD_eq_getElem?_getD]
  rw [List.getElem?_map, List.getElem?_range hk', List.getElem?_reverse (by simpa using hk'), List.length_map, List.getElem?_map, List.getElem?_eq_getElem e]
  simp [backStep, List.getElem?_eq_getElem e]
theorem back_len (m : Int) (l : List Stp) : (backwards (m, l)).2.length = l.length := by unfold backwards; simp
theorem back_at (m : Int) (l : List Stp) {k : Nat} (hk : k < l.length) : (backwards (m, l)).2.getD k stp0 = backStep (m, l) k := by
  unfold backwards
  simp [List.getD, hk]
theorem back_right {m : Int} {l : List Stp} (h : Right m l) : Right m (backwards (m, l)).2 := by
  have hz : ∀ x ∈ (backwards (m, l)).2, 0 ≤ x.2 ∧ x.2 ≤ 1000000 := fun x hx => by
    unfold backwards at hx
    obtain ⟨k, hk, rfl⟩ := List.mem_map.1 hx
    have hlt : (2 * l.length - 2 - k) % l.length < l.length := Nat.mod_lt _ h.len.1
    have hm : l.getD ((2 * l.length - 2 - k) % l.length) ([], 0) ∈ l := by rw [List.getD_eq_getElem?_getD, List.getElem?_eq_getElem hlt]; exact List.getElem_mem hlt
    have := ckStep_strokes (h.fine _ hm).1
    exact this.2.2.2
  obtain ⟨h1, h2⟩ := rev_walk h.walk (back_strokes m l) hz
  rw [h.none] at h1 h2
  refine ⟨h.act, by rw [back_len]; exact h.len, h1, fun a _ => h2 a, fun a ha => ?_⟩
  obtain ⟨x, hx, hm⟩ := (movedIn_iff a l).1 (h.moved a ha)
  have hmem : flipAll x.1 ∈ (backwards (m, l)).2.map (·.1) := by
    rw [back_strokes, List.mem_reverse]
    exact List.mem_map.2 ⟨x, hx, rfl⟩
  obtain ⟨y, hy, e⟩ := List.mem_map.1 hmem
  refine (movedIn_iff a _).2 ⟨y, hy, ?_⟩
  obtain ⟨z, hz', rfl⟩ := (movesIn_iff a x).1 hm
  refine (movesIn_iff _ y).2 ⟨(z.1, !z.2), ?_, rfl⟩
  show (z.1, !z.2) ∈ y.1
  rw [e, flip_mem]
  simpa using hz'
theorem back_back {m : Int} {l : List Stp} (h0 : 0 < l.length) : backwards (backwards (m, l)) = (m, l) := by
  refine Prod.ext rfl (list_ext_getD stp0 (by rw [show backwards (backwards (m, l)) = backwards (m, (backwards (m, l)).2) from rfl, back_len, back_len]) fun k hk => ?_)
  have hk' : k < l.length := by rw [show backwards (backwards (m, l)) = backwards (m, (backwards (m, l)).2) from rfl, back_len, back_len] at hk; exact hk
  rw [show backwards (backwards (m, l)) = backwards (m, (backwards (m, l)).2) from rfl, back_at m _ (by rw [back_len]; exact hk')]
  have hlt : (2 * l.length - 2 - k) % l.length < l.length := Nat.mod_lt _ h0
  show ((flipAll ((backwards (m, l)).2.getD ((backwards (m, l)).2.length - 1 - k) stp0).1, ((backwards (m, l)).2.getD ((2 * (backwards (m, l)).2.length - 2 - k) % (backwards (m, l)).2.length) stp0).2) : Stp) = l.getD k stp0
  rw [back_len, back_at m l (by omega), back_at m l hlt]
  show ((flipAll (flipAll (l.getD (l.length - 1 - (l.length - 1 - k)) stp0).1), (l.getD ((2 * l.length - 2 - (2 * l.length - 2 - k) % l.length) % l.length) stp0).2) : Stp) = l.getD k stp0
  rw [flip_flip, show l.length - 1 - (l.length - 1 - k) = k from by omega]
  have e : (2 * l.length - 2 - (2 * l.length - 2 - k) % l.length) % l.length = k := by
    by_cases h1 : k = l.length - 1
    · have e1 : 2 * l.length - 2 - k = l.length - 1 := by omega
      rw [e1, Nat.mod_eq_of_lt (show l.length - 1 < l.length by omega), show 2 * l.length - 2 - (l.length - 1) = l.length - 1 from by omega, Nat.mod_eq_of_lt (by omega)]
      omega
    · have e1 : 2 * l.length - 2 - k = (l.length - 2 - k) + l.length := by omega
      rw [e1, Nat.add_mod_right, Nat.mod_eq_of_lt (show l.length - 2 - k < l.length by omega), show 2 * l.length - 2 - (l.length - 2 - k) = k + l.length from by omega, Nat.add_mod_right, Nat.mod_eq_of_lt hk']
  rw [e]
/- words -/
def wordL (l : List Stp) : List Stk := l.flatMap (·.1)
def accL : List Stp → List Stk → Bool
  | [], w => w.length == 0
  | x :: l, w => if w.length < x.1.length then false else if x.1.any (fun y => !(w.take x.1.length).contains y) then false else accL l (w.drop x.1.length)
theorem accL_cons {x : Stp} {l : List Stp} {p w : List Stk} (hp : p.length = x.1.length) (hm : ∀ y ∈ x.1, y ∈ p) (hw : accL l w = true) : accL (x :: l) (p ++ w) = true := by
  unfold accL
  rw [if_neg (by rw [List.length_append]; omega), ← hp, List.take_left, List.drop_left, if_neg, hw]
  rw [Bool.not_eq_true, List.any_eq_false]
  intro y hy
  simp [hm y hy]
theorem accL_append {q r : List Stp} : ∀ {v w : List Stk}, accL q v = true → accL r w = true → accL (q ++ r) (v ++ w) = true := by
  induction q with
  | nil =>
    intro v w hv hw
    have : v = [] := by simpa [accL] using hv
    subst this
    exact hw
  | cons x q ih =>
    intro v w hv hw
    unfold accL at hv
    by_cases h1 : v.length < x.1.length
    · rw [if_pos h1] at hv; cases hv
    · rw [if_neg h1] at hv
      by_cases h2 : x.1.any (fun y => !(v.take x.1.length).contains y) = true
      · rw [if_pos h2] at hv; cases hv
      · rw [if_neg h2] at hv
        have h3 := ih hv hw
        rw [List.cons_append]
        have e : v ++ w = v.take x.1.length ++ (v.drop x.1.length ++ w) := by rw [← List.append_assoc, List.take_append_drop]
        rw [e]
        refine accL_cons (by rw [List.length_take]; omega) (fun y hy => ?_) h3
        rw [Bool.not_eq_true, List.any_eq_false] at h2
        have := h2 y hy
        simpa using this
theorem accL_word (l : List Stp) : accL l (wordL l) = true := by
  induction l with
  | nil => rfl
  | cons x l ih => exact accL_cons rfl (fun y hy => hy) ih
theorem accL_back {l : List Stp} : ∀ {q : List Stp}, q.map (·.1) = (l.map fun x => flipAll x.1).reverse → accL q (flipAll (wordL l).reverse) = true := by
  induction l with
  | nil =>
    intro q hq
    have : q = [] := by simpa using hq
    subst this; rfl
  | cons x l ih =>
    intro q hq
    obtain ⟨q1, y, rfl, hq1, hy⟩ := rev_split hq
    have e : flipAll (wordL (x :: l)).reverse = flipAll (wordL l).reverse ++ (flipAll x.1.reverse ++ []) := by
      show flipAll (x.1 ++ wordL l).reverse = _
      rw [List.reverse_append, List.append_nil]
      unfold flipAll; rw [List.map_append]
    rw [e]
    refine accL_append (ih hq1) (accL_cons (by rw [flip_len, List.length_reverse, hy, flip_len]) (fun z hz => ?_) rfl)
    rw [hy, flip_mem] at hz
    rw [flip_mem, List.mem_reverse]; exact hz
/- joined -/
theorem joined_right {m n : Int} {l q : List Stp} (h : Right m l) (k : Right n q) (hlen : l.length + q.length ≤ 64) : Right (max m n) (l ++ q) := by
  refine ⟨by have := h.act; have := k.act; omega, by rw [List.length_append]; have := h.len; omega, ckWalk_append.2 ⟨ckWalk_mono (by omega) h.walk, by rw [h.none]; exact ckWalk_mono (by omega) k.walk⟩, fun a _ => by rw [behAll_append, h.none, k.none]; rfl, fun a ha => ?_⟩
  rw [movedIn_iff]
  by_cases hm : a < m
  · obtain ⟨x, hx, hh⟩ := (movedIn_iff a l).1 (h.moved a ⟨ha.1, hm⟩)
    exact ⟨x, List.mem_append.2 (.inl hx), hh⟩
  · obtain ⟨x, hx, hh⟩ := (movedIn_iff a q).1 (k.moved a ⟨ha.1, by have := ha.2; omega⟩)
    exact ⟨x, List.mem_append.2 (.inr hx), hh⟩
/- merged -/
theorem diff_len {l : List Stk} (hd : Diff l) (hk : ∀ y ∈ l, 0 ≤ y.1 ∧ y.1 < 6) : l.length ≤ 6 := by
  have := sub_len (l := l.map (·.1)) (m := ints 6) (by unfold List.Nodup; rw [List.pairwise_map]; exact hd) (fun x hx => by
    obtain ⟨y, hy, rfl⟩ := List.mem_map.1 hx
    exact ints_mem.2 (hk y hy))
  rw [List.length_map, ints_length] at this
  exact this
theorem merged_right {m : Int} {l : List Stp} (h : Right m l) {k : Nat} (hk : mergeE (m, l) (k : Int) = 0) : Right m (merged (m, l) k).2 ∧ (merged (m, l) k).2.length = l.length - 1 ∧ k + 1 < l.length ∧ accL (merged (m, l) k).2 (wordL l) = true := by
  unfold mergeE at hk
  rw [if_neg (by simp [h.ck])] at hk
  dsimp only at hk
  by_cases h1 : (k : Int) < 0 ∨ (l.length : Int) - 2 < (k : Int)
  · rw [if_pos h1] at hk; cases hk
  rw [if_neg h1] at hk
  have hk1 : k + 1 < l.length := by omega
  have e2 : ((k : Int)).toNat = k := by omega
  rw [e2] at hk
  obtain ⟨x, hx⟩ : ∃ x, x = l.getD k stp0 := ⟨_, rfl⟩
  obtain ⟨y, hy⟩ : ∃ y, y = l.getD (k + 1) stp0 := ⟨_, rfl⟩
  have hsplit : l = l.take k ++ x :: y :: l.drop (k + 2) := by
    have e1 : l = l.take k ++ l.drop k := (List.take_append_drop k l).symm
    rw [drop_cons l stp0 (by omega : k < l.length), drop_cons l stp0 hk1] at e1
    rw [hx, hy]; exact e1
  have h3 : (apart (l.getD k ([], 0)) (l.getD (k + 1) ([], 0)) && (l.getD k ([], 0)).2 == 0) = true := by
    cases hq : (apart (l.getD k ([], 0)) (l.getD (k + 1) ([], 0)) && (l.getD k ([], 0)).2 == 0)
    · rw [hq] at hk; cases hk
    · rfl
  have h3 : (apart x y && x.2 == 0) = true := by rw [hx, hy]; exact h3
  clear hk
  have hap : apart x y = true := by rw [Bool.and_eq_true] at h3; exact h3.1
  have hxm : x ∈ l := by rw [hsplit]; simp
  have hym : y ∈ l := by rw [hsplit]; simp
  obtain ⟨z, hz⟩ : ∃ z : Stp, z = (ordered (x.1 ++ y.1), y.2) := ⟨_, rfl⟩
  have hmg : (merged (m, l) k).2 = l.take k ++ z :: l.drop (k + 2) := by rw [hz, hx, hy]; rfl
  have hdf : Diff (x.1 ++ y.1) := apart_diff (sa := x.1) (wa := x.2) (sb := y.1) (wb := y.2) (h.fine x hxm).1 (h.fine y hym).1 hap
  have hkn : ∀ u ∈ x.1 ++ y.1, 0 ≤ u.1 ∧ u.1 < 6 := fun u hu => by
    have ha := h.act
    rcases List.mem_append.1 hu with hu | hu
    · have h1 := (h.fine x hxm).2 u hu; have h2 := h1.1; have h3 := h1.2; omega
    · have h1 := (h.fine y hym).2 u hu; have h2 := h1.1; have h3 := h1.2; omega
  have hzm : ∀ u, u ∈ z.1 ↔ u ∈ x.1 ∨ u ∈ y.1 := fun u => by
    rw [hz]
    show u ∈ ordered (x.1 ++ y.1) ↔ _
    rw [ordered_mem, List.mem_append]
    exact ⟨fun h => h.1, fun h => ⟨h, hkn u (List.mem_append.2 h)⟩⟩
  have hzl : z.1.length = x.1.length + y.1.length := by
    rw [hz]
    show (ordered (x.1 ++ y.1)).length = _
    rw [← isortK_ordered hdf hkn, isortK_length, List.length_append]
  have hza : Asc z.1 := by rw [hz]; exact ordered_asc hdf
  have hzk : ∀ u ∈ z.1, 0 ≤ u.1 ∧ u.1 < 6 := fun u hu => hkn u (List.mem_append.2 ((hzm u).1 hu))
  have hne : ∀ u ∈ x.1, ∀ v ∈ y.1, u.1 ≠ v.1 := fun u hu v hv e => (List.pairwise_append.1 hdf).2.2 u hu v hv e
  have hw := h.walk
  rw [hsplit] at hw
  obtain ⟨w1, w2⟩ := ckWalk_append.1 hw
  obtain ⟨w3, w4⟩ := ckWalk_iff.1 w2
  obtain ⟨w5, w6⟩ := ckWalk_iff.1 w4
  obtain ⟨x1, x2, x3⟩ := ckFit_iff.1 w3
  obtain ⟨y1, y2, y3⟩ := ckFit_iff.1 w5
  have hsx := ckStep_strokes x1
  have hsy := ckStep_strokes y1
  have hbz : ∀ e, beh e z.1 = beh (beh e x.1) y.1 := fun e => by
    funext a
    cases hmy : movesIn a y
    · have ny : ∀ v ∈ y.1, v.1 ≠ a := fun v hv ee => by have := (movesIn_iff a y).2 ⟨v, hv, ee⟩; rw [hmy] at this; cases this
      rw [beh_not (l := y.1) ny]
      cases hmx : movesIn a x
      · have nx : ∀ v ∈ x.1, v.1 ≠ a := fun v hv ee => by have := (movesIn_iff a x).2 ⟨v, hv, ee⟩; rw [hmx] at this; cases this
        rw [beh_not (l := x.1) nx, beh_not]
        intro u hu ee
        rcases (hzm u).1 hu with hu | hu
        · exact nx u hu ee
        · exact ny u hu ee
      · obtain ⟨u, hu, rfl⟩ := (movesIn_iff a x).1 hmx
        rw [beh_mem (ckStrokes_asc hsx.1).1.diff hu, beh_mem hza.diff ((hzm u).2 (.inl hu))]
    · obtain ⟨u, hu, rfl⟩ := (movesIn_iff a y).1 hmy
      rw [beh_mem (ckStrokes_asc hsy.1).1.diff hu, beh_mem hza.diff ((hzm u).2 (.inr hu))]
  have hbl : ∀ e, behAll e (l.take k ++ z :: l.drop (k + 2)) = behAll e l := fun e => by
    conv => rhs; rw [hsplit]
    rw [behAll_append, behAll_append, behAll_cons, behAll_cons, behAll_cons, hbz]
  have hlen : (l.take k ++ z :: l.drop (k + 2)).length = l.length - 1 := by
    rw [List.length_append, List.length_take, List.length_cons, List.length_drop]; omega
  rw [hmg]
  refine ⟨⟨h.act, by rw [hlen]; have := h.len; omega, ckWalk_append.2 ⟨w1, ckWalk_iff.2 ⟨ckFit_iff.2 ⟨?_, fun u hu => ?_, fun u hu => ?_⟩, by rw [hbz]; exact w6⟩⟩, fun a ha => by rw [hbl]; exact h.back a ha, fun a ha => ?_⟩, hlen, hk1, ?_⟩
  · refine ckStep_of (by omega) ?_ (asc_ck hza (fun u hu => by have := hzk u hu; omega) hzk) (by rw [hz]; exact hsy.2.2.2)
    exact diff_len hza.diff hzk
  · rcases (hzm u).1 hu with hu | hu
    · exact x2 u hu
    · exact y2 u hu
  · rcases (hzm u).1 hu with hu | hu
    · exact x3 u hu
    · rw [← y3 u hu, beh_not]
      exact fun v hv => hne v hv u hu
  · obtain ⟨s, hs, hh⟩ := (movedIn_iff a l).1 (h.moved a ha)
    rw [hsplit] at hs
    rcases List.mem_append.1 hs with hs | hs
    · exact (movedIn_iff a _).2 ⟨s, List.mem_append.2 (.inl hs), hh⟩
    · rcases List.mem_cons.1 hs with rfl | hs
      · obtain ⟨u, hu, e⟩ := (movesIn_iff a _).1 hh
        exact (movedIn_iff a _).2 ⟨z, by simp, (movesIn_iff a z).2 ⟨u, (hzm u).2 (.inl hu), e⟩⟩
      · rcases List.mem_cons.1 hs with rfl | hs
        · obtain ⟨u, hu, e⟩ := (movesIn_iff a _).1 hh
          exact (movedIn_iff a _).2 ⟨z, by simp, (movesIn_iff a z).2 ⟨u, (hzm u).2 (.inr hu), e⟩⟩
        · exact (movedIn_iff a _).2 ⟨s, List.mem_append.2 (.inr (List.mem_cons_of_mem _ hs)), hh⟩
  · have e : wordL l = wordL (l.take k) ++ ((x.1 ++ y.1) ++ wordL (l.drop (k + 2))) := by
      conv => lhs; rw [hsplit]
      unfold wordL
      rw [List.flatMap_append, List.flatMap_cons, List.flatMap_cons, List.append_assoc]
    rw [e]
    exact accL_append (accL_word _) (accL_cons (by rw [hzl, List.length_append]) (fun u hu => List.mem_append.2 ((hzm u).1 hu)) (accL_word _))
/- parts -/
theorem partFn_sur (l : List Stp) (n : Nat) : ∀ v, 0 ≤ v → v < partFn l (n : Int) → ∃ a : Nat, a < n ∧ movedIn (a : Int) l = true ∧ partFn l (a : Int) = v := by
  induction n with
  | zero =>
    intro v h0 h
    have : partFn l ((0 : Nat) : Int) ≤ ((0 : Nat) : Int) := partFn_le l 0
    omega
  | succ n ih =>
    intro v h0 h
    rw [partFn_succ] at h
    by_cases hv : v < partFn l (n : Int)
    · obtain ⟨a, h1, h2, h3⟩ := ih v h0 hv
      exact ⟨a, by omega, h2, h3⟩
    · cases hm : movedIn (n : Int) l
      · rw [hm] at h; simp at h; omega
      · rw [hm] at h; simp at h
        exact ⟨n, by omega, hm, by omega⟩
theorem part_bij (n : Nat) (l : List Stp) : ∃ g, Bij (fun a => In (n : Int) a ∧ movedIn a l = true) (partFn l n) (partFn l) g := by
  classical
  refine ⟨fun v => if h : 0 ≤ v ∧ v < partFn l (n : Int) then ((Classical.choose (partFn_sur l n v h.1 h.2) : Nat) : Int) else 0, fun a ha => ⟨partFn_nonneg l a, partFn_lt l ha.1.1 ha.1.2 ha.2⟩, fun a ha => ?_, fun a ha => ?_, fun a ha => ?_⟩
  · (try dsimp only)
    rw [dif_pos ha]
    have hs := Classical.choose_spec (partFn_sur l n a ha.1 ha.2)
    exact ⟨⟨by omega, by omega⟩, hs.2.1⟩
  · have hr : 0 ≤ partFn l a ∧ partFn l a < partFn l (n : Int) := ⟨partFn_nonneg l a, partFn_lt l ha.1.1 ha.1.2 ha.2⟩
    (try dsimp only)
    rw [dif_pos hr]
    have hs := Classical.choose_spec (partFn_sur l n _ hr.1 hr.2)
    exact partFn_inj l (by omega) ha.1.1 hs.2.1 ha.2 hs.2.2
  · (try dsimp only)
    rw [dif_pos ha]
    exact (Classical.choose_spec (partFn_sur l n a ha.1 ha.2)).2.2
theorem part_right {n : Nat} {l : List Stp} (hn : (n : Int) ≤ 6) (h0 : 0 < l.length ∧ l.length ≤ 64) (hw : ckWalk (n : Int) none6 l = 0) (hb : behAll none6 l = none6) : Right (partOf (n : Int) l).1 (partOf (n : Int) l).2 := by
  obtain ⟨g, hg⟩ := part_bij n l
  have hf : ∀ x ∈ l, FineP (fun a => In (n : Int) a ∧ movedIn a l = true) x := fun x hx => by
    have := (ckWalk_fine hw).all x hx
    exact ⟨this.1, fun y hy => ⟨this.2 y hy, movedIn_mem hx hy⟩⟩
  have hle := partFn_le l n
  have hp6 : partFn l n ≤ 6 := by omega
  show Right (partFn l n) (l.map (renStep (partFn l)))
  refine ⟨⟨?_, hp6⟩, by rw [List.length_map]; exact h0, ckWalk_ren hg hp6 hf (fun _ _ => rfl) hw, fun a ha => ?_, fun a ha => ?_⟩
  · have hx : l.getD 0 stp0 ∈ l := getD_mem stp0 h0.1
    have h1 := hf _ hx
    have h2 := ckStep_strokes h1.1
    have hy : (l.getD 0 stp0).1.getD 0 stk0 ∈ (l.getD 0 stp0).1 := getD_mem stk0 h2.2.2.1
    have h3 := hg.rng _ (h1.2 _ hy)
    omega
  · rw [← hg.fg a ha, behAll_ren (e := none6) (e' := none6) hg hp6 hf (fun _ _ => rfl) _ (hg.gp a ha), hb]; rfl
  · rw [← hg.fg a ha, movedIn_ren hg hp6 hf (hg.gp a ha)]
    exact (hg.gp a ha).2
end Go.Proofs.YtnhbogmihnnpjaaGreat
/- The law's right: a sequence can be carried out, and is small. -/
namespace Go.Proofs.YtnhbogmihnnpjaaGreat
open Go.RowKit

def rightB (s : Sq) : Bool := !([s].any badQ) && decide (s.2.length ≤ 30) && decide (ckSeq s = 0)
theorem rightB_true {n : Int} {l : List Stp} (h : rightB (n, l) = true) : l.length ≤ 30 ∧ ckSeq (n, l) = 0 := by
  unfold rightB at h
  rw [Bool.and_eq_true, Bool.and_eq_true] at h
  exact ⟨of_decide_eq_true h.1.2, of_decide_eq_true h.2⟩

set_option maxHeartbeats 8000000 in
set_option maxRecDepth 100000 in
theorem right_any (n : Int) (l : List Stp) (a : Option Addr) (cap : Nat) (w : World) (hc : CellsP w a l) (hr : Room a l.length cap) :
    Calls Tryz.prog 26 #[.agg #[.int .i64 n, .slice a l.length cap]] w fun e w' => e = .returned (.bool (rightB (n, l))) ∧ Ext w w' := by
  have HC := Lib.hid hc
  have HR := Lib.hid hr
  obtain ⟨R, hR⟩ : ∃ R, R = rightB (n, l) := ⟨_, rfl⟩
  rw [← hR]
  have HRR : Hid (R = (!([(n, l)].any badQ) && decide (l.length ≤ 30) && decide (ckSeq (n, l) = 0))) := hR
  clear hc hr hR
  have E0 : Ext w (w.alloc (.cells #[.int .i64 n, .slice a l.length cap] 24)) := (by repeat (first | with_reducible exact Ext.refl _ | with_reducible assumption | with_reducible apply Ext.drewN | with_reducible apply Ext.drew | with_reducible apply Ext.alloc | ((with_reducible refine Ext.set ?_ ?_ _); rotate_left; first | omega | (simp; omega)) | (with_reducible refine Ext.trans ?_ (by with_reducible assumption))))
  have c0 : ((w.alloc (.cells #[.int .i64 n, .slice a l.length cap] 24))).cell? ⟨w.heap.size, 0, none⟩ = some (.int .i64 n) := by go_simp
  have c1 : ((w.alloc (.cells #[.int .i64 n, .slice a l.length cap] 24))).cell? ⟨w.heap.size, 1, none⟩ = some (.slice a l.length cap) := by go_simp
  go_enter Tryz.func26, Tryz.ntmps26
  go_wp2_with fail
  have E1 : Ext (w.alloc (.cells #[.int .i64 n, .slice a l.length cap] 24)) (((w.alloc (.cells #[.int .i64 n, .slice a l.length cap] 24))).alloc (.cells #[.int .i64 n, .slice a l.length cap] 24)) := (by repeat (first | with_reducible exact Ext.refl _ | with_reducible assumption | with_reducible apply Ext.drewN | with_reducible apply Ext.drew | with_reducible apply Ext.alloc | ((with_reducible refine Ext.set ?_ ?_ _); rotate_left; first | omega | (simp; omega)) | (with_reducible refine Ext.trans ?_ (by with_reducible assumption))))
  have E2 := E0.trans E1
  have c0 := (E1).cell c0
  have c1 := (E1).cell c1
  have HQ := Lib.hid (cellsQ_one (n := n) (c := cap) HR.out (HC.out.ext E0))
  refine (few_any [(n, l)] _ 1 _ (by unfold maxLen; simp) (by simpa using HQ.out)).mono ?_
  rintro e w1 ⟨rfl, hE⟩
  have F1 := E2.trans hE
  have c0 := (hE).cell c0
  have c1 := (hE).cell c1
  clear hE E1 E0 E2 HQ
  generalize (!([(n, l)] : List Sq).any badQ) = fw at HRR ⊢
  obtain ⟨bs, hbs⟩ : ∃ bs, bs = w.heap.size := ⟨_, rfl⟩
  rw [← hbs] at c0 c1 ⊢
  clear hbs
  cases fw
  · have h := HRR.out
    rw [Bool.false_and, Bool.false_and] at h
    subst h
    clear HRR
    go_wp2
    go_ret
    exact ⟨rfl, F1⟩
  by_cases h30 : l.length ≤ 30
  · have h := HRR.out
    rw [decide_eq_true h30, Bool.true_and, Bool.true_and] at h
    have H := Lib.hid h
    have h31 : (l.length : Int) ≤ 30 := by omega
    clear h HRR
    go_wp2_with fail
    refine (CheckR_any n l a cap _ HR.out (HC.out.ext F1)).mono ?_
    rintro e w2 ⟨rfl, hE⟩
    have F2 := F1.trans hE
    obtain ⟨er, her⟩ : ∃ er, er = ckSeq (n, l) := ⟨_, rfl⟩
    rw [← her] at H ⊢
    clear her hE F1
    by_cases h0 : er = 0
    · have h := H.out
      rw [decide_eq_true h0] at h
      subst h
      subst h0
      clear H
      go_wp2
      go_ret
      exact ⟨rfl, F2⟩
    · have h := H.out
      rw [decide_eq_false h0] at h
      subst h
      have h1 : (er == 0) = false := by simp [h0]
      clear H h0
      go_wp2
      go_ret
      exact ⟨rfl, F2⟩
  · have h := HRR.out
    rw [decide_eq_false h30, Bool.and_false, Bool.false_and] at h
    subst h
    have h31 : ¬ (l.length : Int) ≤ 30 := by omega
    clear HRR
    go_wp2
    go_ret
    exact ⟨rfl, F1⟩
end Go.Proofs.YtnhbogmihnnpjaaGreat
/- variant.Rename. -/
namespace Go.Proofs.YtnhbogmihnnpjaaGreat
open Go.RowKit
open Go.Maps

theorem renE_inj {t : List Int} {n : Int} (ht : renE t n = 0) : (t.length : Int) = n ∧ (∀ k, k < t.length → 0 ≤ t.getD k 0 ∧ t.getD k 0 < n) ∧ ∀ a b, In n a → In n b → listFn t a = listFn t b → a = b := by
  unfold renE at ht
  by_cases hl : (t.length : Int) ≠ n
  · rw [if_pos hl] at ht; cases ht
  rw [if_neg hl] at ht
  have hl : (t.length : Int) = n := by omega
  obtain ⟨h1, h2, _⟩ := renGo_zero t [] ht
  refine ⟨hl, fun k hk => h1 _ (by rw [List.getD_eq_getElem?_getD, List.getElem?_eq_getElem hk]; exact List.getElem_mem hk), fun a b ha hb e => ?_⟩
  obtain ⟨i, rfl⟩ := Int.eq_ofNat_of_zero_le ha.1
  obtain ⟨j, rfl⟩ := Int.eq_ofNat_of_zero_le hb.1
  have hi : i < t.length := by have := ha.2; omega
  have hj : j < t.length := by have := hb.2; omega
  rw [listFn_at, listFn_at, List.getD_eq_getElem?_getD, List.getD_eq_getElem?_getD, List.getElem?_eq_getElem hi, List.getElem?_eq_getElem hj] at e
  have e : t[i] = t[j] := e
  have hp := List.pairwise_iff_getElem.1 h2
  rcases Nat.lt_trichotomy i j with h | h | h
  · exact absurd e (hp i j hi hj h)
  · rw [h]
  · exact absurd e.symm (hp j i hj hi h)
theorem renOk_list {t : List Int} {n : Int} {l : List Stp} (ht : renE t n = 0) (hf : Fine n l) (hn : n ≤ 6) : RenOk (listFn t) l := by
  obtain ⟨h1, h2, h3⟩ := renE_inj ht
  refine renOk_inj hf (fun a b ha hb e => h3 a b ha hb e) (fun a ha => ?_)
  obtain ⟨k, rfl⟩ := Int.eq_ofNat_of_zero_le ha.1
  have := h2 k (by omega)
  rw [listFn_at]
  omega
/-- the error of Rename -/
def rnmE (s : Sq) (t : List Int) : Int := if ckSeq s ≠ 0 then ckSeq s else renE t s.1

set_option maxHeartbeats 8000000 in
set_option maxRecDepth 100000 in
theorem Rename_any (n : Int) (l : List Stp) (a : Option Addr) (cap : Nat) (t : List Int) (ta : Option Addr) (tc : Nat) (w : World) (hl : l.length ≤ maxLen) (hc : CellsP w a l) (htl : t.length ≤ tc) (htm : tc ≤ maxLen) (hct : CellsI w ta t) :
    Calls Tryz.prog 32 #[.agg #[.int .i64 n, .slice a l.length cap], .slice ta t.length tc] w (SeqErr (if rnmE (n, l) t = 0 then ren (listFn t) (n, l) else sq0) (rnmE (n, l) t) w) := by
  have HC := Lib.hid hc
  have HL := Lib.hid hl
  have HT := Lib.hid hct
  obtain ⟨er, her⟩ : ∃ er, er = rnmE (n, l) t := ⟨_, rfl⟩
  obtain ⟨s, hs⟩ : ∃ s, s = if er = 0 then ren (listFn t) (n, l) else sq0 := ⟨_, rfl⟩
  obtain ⟨ck, hck⟩ : ∃ ck, ck = ckSeq (n, l) := ⟨_, rfl⟩
  rw [← her, ← hs]
  replace her : er = if ck ≠ 0 then ck else renE t n := by rw [her, hck]; rfl
  have HER := Lib.hid her
  have HS := Lib.hid hs
  have HCK := Lib.hid hck
  unfold maxLen at hl htm
  have hzs : ∀ w, (zeroValue 24).run Tryz.prog w = .ok (.agg #[.int .i64 0, .slice none 0 0]) w := fun _ => by kernel_rfl
  clear hc her hs hck hct
  go_enter Tryz.func32, Tryz.ntmps32
  go_wp2_with fail
  have E1 : Ext w ((w.alloc (.cells #[.int .i64 n, .slice a l.length cap] 24)).alloc (.cells #[.int .i64 0, .slice none 0 0] 24)) := (by repeat (first | with_reducible exact Ext.refl _ | with_reducible assumption | with_reducible apply Ext.drewN | with_reducible apply Ext.drew | with_reducible apply Ext.alloc | ((with_reducible refine Ext.set ?_ ?_ _); rotate_left; first | omega | (simp; omega)) | (with_reducible refine Ext.trans ?_ (by with_reducible assumption))))
  have c0 : (((w.alloc (.cells #[.int .i64 n, .slice a l.length cap] 24)).alloc (.cells #[.int .i64 0, .slice none 0 0] 24))).cell? ⟨w.heap.size, 0, none⟩ = some (.int .i64 n) := by go_simp
  have c1 : (((w.alloc (.cells #[.int .i64 n, .slice a l.length cap] 24)).alloc (.cells #[.int .i64 0, .slice none 0 0] 24))).cell? ⟨w.heap.size, 1, none⟩ = some (.slice a l.length cap) := by go_simp
  have c2 : (((w.alloc (.cells #[.int .i64 n, .slice a l.length cap] 24)).alloc (.cells #[.int .i64 0, .slice none 0 0] 24))).cell? ⟨w.heap.size + 1, 0, none⟩ = some (.int .i64 0) := by go_simp
  have c3 : (((w.alloc (.cells #[.int .i64 n, .slice a l.length cap] 24)).alloc (.cells #[.int .i64 0, .slice none 0 0] 24))).cell? ⟨w.heap.size + 1, 1, none⟩ = some (.slice none 0 0) := by go_simp
  have d2 : (((w.alloc (.cells #[.int .i64 n, .slice a l.length cap] 24)).alloc (.cells #[.int .i64 0, .slice none 0 0] 24))).frozen? ⟨w.heap.size + 1, 0, none⟩ = false := by go_simp
  have d3 : (((w.alloc (.cells #[.int .i64 n, .slice a l.length cap] 24)).alloc (.cells #[.int .i64 0, .slice none 0 0] 24))).frozen? ⟨w.heap.size + 1, 1, none⟩ = false := by go_simp
  generalize ((w.alloc (.cells #[.int .i64 n, .slice a l.length cap] 24)).alloc (.cells #[.int .i64 0, .slice none 0 0] 24)) = W at E1 c0 c1 c2 c3 d2 d3 ⊢
  refine (Check_any n l a cap _ HL.out (HC.out.ext E1)).mono ?_
  rintro e w1 ⟨rfl, hE⟩
  rw [← HCK.out]
  have E2 := E1.trans hE
  have d2 := (Below.frozen (p := ⟨w.heap.size + 1, 0, none⟩) hE (cell_lt c2)).trans d2
  have d3 := (Below.frozen (p := ⟨w.heap.size + 1, 1, none⟩) hE (cell_lt c3)).trans d3
  have c0 := (hE).cell c0
  have c1 := (hE).cell c1
  have c2 := (hE).cell c2
  have c3 := (hE).cell c3
  clear hE
  by_cases h0 : ck = 0
  · subst h0
    have hck := HCK.out.symm
    obtain ⟨hN1, hN6, hl0, hl64, hwk, _, _⟩ := ckSeq_zero hck
    have HFI := Lib.hid (ckWalk_fine hwk)
    have her := HER.out
    rw [if_neg (by decide)] at her
    clear hck hwk HER
    by_cases hn : (t.length : Int) = n
    · subst hn
      have her2 : renGo (t.length : Int) [] t = er := by rw [her]; unfold renE; rw [if_neg (by simp)]
      have HR := Lib.hid her2
      have HRE := Lib.hid her
      have hnn : ((t.length : Int) != (t.length : Int)) = false := by simp
      clear her her2
      go_wp2
      go_loopw [23] (fun i wr => ∃ k : Nat, k ≤ t.length ∧ i = .int .i64 k ∧ Hid (renGo (t.length : Int) (t.take k) (t.drop k) = er) ∧ Ext w1 wr) (fun i _ => t.length - (intOf i).toNat)
      case atStart => exact ⟨0, Nat.zero_le _, rfl, HR, Ext.refl _⟩
      case round =>
        obtain ⟨k, hk, rfl, hz, he⟩ := hrel
        have E3 := E2.trans he
        have d2 := (Below.frozen (p := ⟨w.heap.size + 1, 0, none⟩) he (cell_lt c2)).trans d2
        have d3 := (Below.frozen (p := ⟨w.heap.size + 1, 1, none⟩) he (cell_lt c3)).trans d3
        have c0 := (he).cell c0
        have c1 := (he).cell c1
        have c2 := (he).cell c2
        have c3 := (he).cell c3
        by_cases hlt : k < t.length
        · obtain ⟨b, off, rfl, e1⟩ := HT.out k hlt
          have e1 := (E2.trans he).cell e1
          have HZ := Lib.hid (renGo_drop (t.length : Int) t k hlt _ hz.out)
          have HTK : Hid (CellsI wr (some ⟨b, off, none⟩) (t.take k)) := (HT.out.ext E3).take k
          clear hz
          generalize t.getD k 0 = x at e1 HZ
          have z1 := cell_lt e1
          have z0 := cell_lt c0
          dsimp only at z1 z0
          by_cases hb : x < 0 ∨ (t.length : Int) ≤ x
          · have hee := HZ.out.1 hb
            have hs := HS.out
            rw [hee, if_neg (by decide)] at hs
            subst hee
            subst hs
            have EF : Ext w ((wr.setCell ⟨w.heap.size + 1, 0, none⟩ (.int .i64 0)).setCell ⟨w.heap.size + 1, 1, none⟩ (.slice none 0 0)) := (E3.set (by omega) _).set (by omega) _
            clear HZ HRE HS HR
            by_cases h2 : x < 0
            · go_wp2
              exact bodyPost_ret (v := .tuple #[.agg #[.int .i64 0, .slice none 0 0], .int .i64 2]) (by rw [results_cell_tmp1 rfl]; go_simp) rfl ⟨_, rfl, seqV_zero _, EF⟩
            · have h3 : (t.length : Int) ≤ x := by omega
              go_wp2
              exact bodyPost_ret (v := .tuple #[.agg #[.int .i64 0, .slice none 0 0], .int .i64 2]) (by rw [results_cell_tmp1 rfl]; go_simp) rfl ⟨_, rfl, seqV_zero _, EF⟩
          · have HZ2 := Lib.hid (HZ.out.2 hb)
            have h2 : ¬ x < 0 := by omega
            have h3 : ¬ (t.length : Int) ≤ x := by omega
            have hkc : k ≤ tc := by omega
            obtain ⟨T, hT⟩ : ∃ T, T = t.take k := ⟨_, rfl⟩
            have hTl : T.length = k := by rw [hT, List.length_take]; omega
            rw [← hT] at HTK HZ2
            have HPL := Lib.hid (ContainsI_any T x (some ⟨b, off, none⟩) tc wr (by unfold maxLen; omega) HTK.out)
            rw [hTl] at HPL
            have HTL := Lib.hid hTl
            clear hT hTl HZ hb
            go_wp2_with fail
            refine HPL.out.mono ?_
            rintro e w5 ⟨rfl, hE⟩
            have E5 := he.trans hE
            have E6 := E3.trans hE
            have d2 := (Below.frozen (p := ⟨w.heap.size + 1, 0, none⟩) hE (cell_lt c2)).trans d2
            have d3 := (Below.frozen (p := ⟨w.heap.size + 1, 1, none⟩) hE (cell_lt c3)).trans d3
            have c0 := (hE).cell c0
            have c1 := (hE).cell c1
            have c2 := (hE).cell c2
            have c3 := (hE).cell c3
            clear hE HPL
            cases hm : mem1 T x
            · have HZ3 := Lib.hid (HZ2.out.2 hm)
              clear HZ2 hm
              go_wp2
              refine ⟨⟨k + 1, by omega, by go_num, HZ3, E5⟩, by simp [intOf]; omega⟩
            · have hee := HZ2.out.1 hm
              have hs := HS.out
              rw [hee, if_neg (by decide)] at hs
              subst hee
              subst hs
              have EF : Ext w ((w5.setCell ⟨w.heap.size + 1, 0, none⟩ (.int .i64 0)).setCell ⟨w.heap.size + 1, 1, none⟩ (.slice none 0 0)) := (E6.set (by omega) _).set (by omega) _
              clear HZ2 hm HRE HS HR
              go_wp2
              exact bodyPost_ret (v := .tuple #[.agg #[.int .i64 0, .slice none 0 0], .int .i64 7]) (by rw [results_cell_tmp1 rfl]; go_simp) rfl ⟨_, rfl, seqV_zero _, EF⟩
        · have hz2 := hz.out
          rw [drop_end t (k := k) (by omega)] at hz2
          have hz3 : (0 : Int) = er := by rw [← hz2]; rfl
          subst hz3
          have hs := HS.out
          rw [if_pos rfl] at hs
          have HSS := Lib.hid hs
          have HRZ := Lib.hid HRE.out.symm
          clear hz hz2 hs HS HR HRE
          go_wp2
          refine wp_region_heldE 4 (fun w' => w'.cell? ⟨w.heap.size, 0, none⟩ = some (.int .i64 (t.length : Int)) ∧ w'.cell? ⟨w.heap.size, 1, none⟩ = some (.slice a l.length cap)) (by kernel_rfl) ?_
          have ED : Ext wr wr.drew := (by repeat (first | with_reducible exact Ext.refl _ | with_reducible assumption | with_reducible apply Ext.drewN | with_reducible apply Ext.drew | with_reducible apply Ext.alloc | ((with_reducible refine Ext.set ?_ ?_ _); rotate_left; first | omega | (simp; omega)) | (with_reducible refine Ext.trans ?_ (by with_reducible assumption))))
          have d2 := (Below.frozen (p := ⟨w.heap.size + 1, 0, none⟩) ED (cell_lt c2)).trans d2
          have d3 := (Below.frozen (p := ⟨w.heap.size + 1, 1, none⟩) ED (cell_lt c3)).trans d3
          have c0 := (ED).cell c0
          have c1 := (ED).cell c1
          have c2 := (ED).cell c2
          have c3 := (ED).cell c3
          have E8 := E3.trans ED
          generalize wr.drew = W8 at E8 c0 c1 c2 c3 d2 d3 ⊢
          have hS : W8.cell? ⟨w.heap.size, 0, none⟩ = some (.int .i64 (t.length : Int)) ∧ W8.cell? ⟨w.heap.size, 1, none⟩ = some (.slice a l.length cap) := ⟨c0, c1⟩
          have hc2 := c2
          have hc3 := c3
          have HLE := Lib.hid (letters_any t ta tc W8 (by omega) (HT.out.ext E8) (fun k hk => by have := (renE_inj HRZ.out).2.1 k hk; omega))
          ((refine wpAnyE_take (i := 0) (oi := ?_) (v := ?_) ?_ (by kernel_rfl) ?_ ?_ (by assumption) ?_; rotate_left 2; (focus ((simp only [List.getElem?_toArray, List.getElem?_cons_zero]; exact rfl))); (focus (exact fun _ _ _ h => h)); (focus (refine Or.inl ⟨by rfl, ?_⟩; intro w hSw; (try dsimp only at hSw); (first | (go_simp; done) | (go_simp; with_reducible rfl)))); (try simp only [Act.put, List.setIfInBounds_toArray, List.set_cons_zero, List.set_cons_succ]))); (refine wpAnyE_pure (i := 1) (oi := ?_) (v := ?_) ?_ (by kernel_rfl) ?_ ?_ ?_ ?_; rotate_left 2; (focus ((simp only [List.getElem?_toArray, List.getElem?_cons_succ, List.getElem?_cons_zero]; exact rfl))); (focus (exact fun _ _ _ h => h)); (focus (refine Or.inl ⟨by rfl, ?_⟩; intro w hSw; clear hSw; (first | (go_simp; done) | (go_simp; with_reducible rfl)))); (focus (first | exact (fun _ => by assumption) | (intro hlst; exact absurd hlst (by kernel_rfl)) | (intro hlst; cases hlst))); (try simp only [Act.put, List.setIfInBounds_toArray, List.set_cons_zero, List.set_cons_succ]))
          (refine wpAnyE_one (i := 2) (o := ?_) ?_ (by kernel_rfl) (fun K hK => ?_); rotate_left; (focus ((simp only [List.getElem?_toArray, List.getElem?_cons_succ, List.getElem?_cons_zero]; exact rfl))); go_simp; refine HLE.out.mono ?_; rintro e w9 ⟨mb, rfl, hma, hmz, hE⟩; have HMA := Lib.hid hma; clear hma; go_wp2_with fail; refine hK.out _ _ ?_ (fun hHeld => ?_); rotate_left; clear hK K; (try simp only [Act.put, List.setIfInBounds_toArray, List.set_cons_zero, List.set_cons_succ]))
          rotate_left
          · exact ⟨hE.cell hS.1, hE.cell hS.2⟩
          clear hHeld HLE
          have c2 := hE.cell c2
          have c3 := hE.cell c3
          have HRN := Lib.hid (renamed_own (t.length : Int) l a cap mb t.length (listFn t) w9 (by omega) (renOk_list HRZ.out HFI.out hN6) (HC.out.ext (E8.trans hE)) (by omega) HMA.out)
          obtain ⟨P, hP⟩ : ∃ P, P = l.map (renStep (listFn t)) := ⟨_, rfl⟩
          have hren : ren (listFn t) ((t.length : Int), l) = ((t.length : Int), P) := by rw [hP]; rfl
          rw [hren] at HRN HSS
          clear hP hren
          (refine wpAnyE_one (i := 3) (o := ?_) ?_ (by kernel_rfl) (fun K hK => ?_); rotate_left; (focus ((simp only [List.getElem?_toArray, List.getElem?_cons_succ, List.getElem?_cons_zero]; exact rfl))); go_simp; refine HRN.out.mono ?_; rintro e w10 ⟨o, ov, ho, rfl, hO, hob, hE2⟩; dsimp only at hO; have HO := Lib.hid hO; have HOB := Lib.hid hob; obtain ⟨ua, uc, rfl, _, _⟩ := hO.reads; clear hO hob; go_wp2_with fail; refine hK.out _ _ ?_ (fun hHeld => ?_); rotate_left; clear hK K; (try simp only [Act.put, List.setIfInBounds_toArray, List.set_cons_zero, List.set_cons_succ]))
          rotate_left
          · exact ⟨hE2.cell (hE.cell hS.1), hE2.cell (hE.cell hS.2)⟩
          clear hHeld HRN
          have z8 : w.heap.size + 1 < W8.heap.size := cell_lt hc2
          have z10 := hE.size
          have d2 := (Below.frozen (p := ⟨w.heap.size + 1, 0, none⟩) (hE.trans hE2) (cell_lt hc2)).trans d2
          have d3 := (Below.frozen (p := ⟨w.heap.size + 1, 1, none⟩) (hE.trans hE2) (cell_lt hc3)).trans d3
          have c2 := hE2.cell c2
          have c3 := hE2.cell c3
          have E10 := (E8.trans hE).trans hE2
          clear hE hE2
          (refine wpAnyE_free (i := 4) (o := ?_) ?_ (by kernel_rfl) (by kernel_rfl) (fun K hK => ?_); rotate_left; (focus ((simp only [List.getElem?_toArray, List.getElem?_cons_succ, List.getElem?_cons_zero]; exact rfl))); go_simp; refine hK.out _ _ ?_; clear hK K; (try simp only [Act.put, List.setIfInBounds_toArray, List.set_cons_zero, List.set_cons_succ]))
          (refine wpAnyE_pure (i := 5) (oi := ?_) (v := ?_) ?_ (by kernel_rfl) ?_ ?_ ?_ ?_; rotate_left 2; (focus ((simp only [List.getElem?_toArray, List.getElem?_cons_succ, List.getElem?_cons_zero]; exact rfl))); (focus (exact fun _ _ _ h => h)); (focus (refine Or.inl ⟨by rfl, ?_⟩; intro w hSw; clear hSw; (first | (go_simp; done) | (go_simp; with_reducible rfl)))); (focus (first | exact (fun _ => by assumption) | (intro hlst; exact absurd hlst (by kernel_rfl)) | (intro hlst; cases hlst))); (try simp only [Act.put, List.setIfInBounds_toArray, List.set_cons_zero, List.set_cons_succ]))
          refine wpAnyE_done (by kernel_rfl) ?_ _
          have EF : Ext w ((w10.setCell ⟨w.heap.size + 1, 0, none⟩ (.int .i64 (t.length : Int))).setCell ⟨w.heap.size + 1, 1, none⟩ (.slice ua P.length uc)) := (E10.set (by omega) _).set (by omega) _
          have HSV : Hid (SeqV ((w10.setCell ⟨w.heap.size + 1, 0, none⟩ (.int .i64 (t.length : Int))).setCell ⟨w.heap.size + 1, 1, none⟩ (.slice ua P.length uc)) (.agg #[.int .i64 (t.length : Int), .slice ua P.length uc]) s) := by
            have cc : Chg (fun b => b ≤ o) w10 ((w10.setCell ⟨w.heap.size + 1, 0, none⟩ (.int .i64 (t.length : Int))).setCell ⟨w.heap.size + 1, 1, none⟩ (.slice ua P.length uc)) :=
              (Chg.setCell (B := fun b => b ≤ o) ⟨w.heap.size + 1, 0, none⟩ _ (by show w.heap.size + 1 ≤ o; omega)).trans (Chg.setCell (B := fun b => b ≤ o) ⟨w.heap.size + 1, 1, none⟩ _ (by show w.heap.size + 1 ≤ o; omega))
            have h1 := (HO.out.chg cc (fun b' hb' e => by have := HOB.out b' hb'; omega)).reads
            show SeqV _ _ _
            rw [HSS.out]
            exact ⟨_, rfl, h1⟩
          go_wp2
          exact bodyPost_ret (v := .tuple #[.agg #[.int .i64 (t.length : Int), .slice ua P.length uc], .int .i64 0]) (by rw [results_cell_tmp1 rfl]; go_simp) rfl ⟨_, rfl, HSV.out, EF⟩
    · have hnn : ((t.length : Int) != n) = true := by simpa using hn
      have hre : er = 8 := by rw [her]; unfold renE; rw [if_pos hn]
      have hs := HS.out
      rw [hre, if_neg (by decide)] at hs
      subst hre
      subst hs
      have EF : Ext w ((w1.setCell ⟨w.heap.size + 1, 0, none⟩ (.int .i64 0)).setCell ⟨w.heap.size + 1, 1, none⟩ (.slice none 0 0)) := (E2.set (by omega) _).set (by omega) _
      clear hn HS her
      go_wp2
      exact bodyPost_ret (v := .tuple #[.agg #[.int .i64 0, .slice none 0 0], .int .i64 8]) (by rw [results_cell_tmp1 rfl]; go_simp) rfl ⟨_, rfl, seqV_zero _, EF⟩
  · have hn : (ck != 0) = true := by simp [h0]
    have hee := HER.out
    rw [if_pos h0] at hee
    subst hee
    have hs := HS.out
    rw [if_neg h0] at hs
    subst hs
    have EF : Ext w ((w1.setCell ⟨w.heap.size + 1, 0, none⟩ (.int .i64 0)).setCell ⟨w.heap.size + 1, 1, none⟩ (.slice none 0 0)) := (E2.set (by omega) _).set (by omega) _
    clear h0 HS HER HCK
    go_wp2
    exact bodyPost_ret (v := .tuple #[.agg #[.int .i64 0, .slice none 0 0], .int .i64 er]) (by rw [results_cell_tmp1 rfl]; go_simp) rfl ⟨_, rfl, seqV_zero _, EF⟩
end Go.Proofs.YtnhbogmihnnpjaaGreat
/- sequence.Word and sequence.Words. -/
namespace Go.Proofs.YtnhbogmihnnpjaaGreat
open Go.RowKit

theorem wordL_succ {l : List Stp} {k : Nat} (h : k < l.length) : wordL (l.take (k + 1)) = wordL (l.take k) ++ (l.getD k stp0).1 := by
  unfold wordL
  rw [List.take_succ_eq_append_getElem h, List.flatMap_append, List.getD_eq_getElem?_getD, List.getElem?_eq_getElem h]
  simp
theorem wordL_len {n : Int} {l : List Stp} (h : Fine n l) : ∀ k, k ≤ l.length → (wordL (l.take k)).length ≤ 6 * k := by
  intro k
  induction k with
  | zero => intro _; simp [wordL]
  | succ k ih =>
    intro hk
    have := ih (by omega)
    have h2 := (ckStep_strokes (h k (by omega)).1).2.1
    rw [wordL_succ (by omega), List.length_append]
    omega
theorem ownsK_app {w : World} {v : Value} {l m : List Stk} (h : w.ownsRow 0 73 2 v (l.length + m.length) (flatK l ++ flatK m)) : OwnsK w v (l ++ m) := by
  unfold OwnsK
  rw [List.length_append, flatK_append]; exact h

set_option maxHeartbeats 8000000 in
set_option maxRecDepth 100000 in
theorem Word_any (n : Int) (l : List Stp) (a : Option Addr) (cap : Nat) (w : World) (hl : l.length ≤ maxLen) (hc : CellsP w a l) :
    Calls Tryz.prog 38 #[.agg #[.int .i64 n, .slice a l.length cap]] w fun e w' => ∃ v, e = .returned (.tuple #[v, .int .i64 (ckSeq (n, l))]) ∧ OwnsK w' v (if ckSeq (n, l) = 0 then wordL l else []) ∧ (∀ b, v.ownBlock = some b → w.heap.size ≤ b) ∧ Ext w w' := by
  have HC := Lib.hid hc
  have HL := Lib.hid hl
  obtain ⟨er, her⟩ : ∃ er, er = ckSeq (n, l) := ⟨_, rfl⟩
  obtain ⟨R, hR⟩ : ∃ R, R = if er = 0 then wordL l else [] := ⟨_, rfl⟩
  rw [← her, ← hR]
  have HER := Lib.hid her
  have HR := Lib.hid hR
  clear hc her hR hl
  obtain ⟨i0, hi, hi0, hi1, hi2⟩ := info_parts infoStk
  go_enter Tryz.func38, Tryz.ntmps38
  go_wp2_with fail
  have E1 : Ext w (w.alloc (.cells #[.int .i64 n, .slice a l.length cap] 24)) := (by repeat (first | with_reducible exact Ext.refl _ | with_reducible assumption | with_reducible apply Ext.drewN | with_reducible apply Ext.drew | with_reducible apply Ext.alloc | ((with_reducible refine Ext.set ?_ ?_ _); rotate_left; first | omega | (simp; omega)) | (with_reducible refine Ext.trans ?_ (by with_reducible assumption))))
  have c0 : ((w.alloc (.cells #[.int .i64 n, .slice a l.length cap] 24))).cell? ⟨w.heap.size, 0, none⟩ = some (.int .i64 n) := by go_simp
  have c1 : ((w.alloc (.cells #[.int .i64 n, .slice a l.length cap] 24))).cell? ⟨w.heap.size, 1, none⟩ = some (.slice a l.length cap) := by go_simp
  generalize (w.alloc (.cells #[.int .i64 n, .slice a l.length cap] 24)) = W at E1 c0 c1 ⊢
  refine (Check_any n l a cap _ HL.out (HC.out.ext E1)).mono ?_
  rintro e w1 ⟨rfl, hE⟩
  rw [← HER.out]
  have E2 := E1.trans hE
  have c0 := (hE).cell c0
  have c1 := (hE).cell c1
  clear hE
  by_cases h0 : er = 0
  · subst h0
    have hck := HER.out.symm
    obtain ⟨hN1, hN6, hl0, hl64, hwk, _, _⟩ := ckSeq_zero hck
    have HFI := Lib.hid (ckWalk_fine hwk)
    have hR := HR.out
    rw [if_pos rfl] at hR
    have HRR : Hid (wordL (l.take l.length) = R) := by show _ = _; rw [List.take_length]; exact hR.symm
    have zw := cell_lt c0
    dsimp only at zw
    clear hck hwk HER HR hR
    go_wp2
    go_loopw [16, 5] (fun i v wr => ∃ k : Nat, k ≤ l.length ∧ i = .int .i64 k ∧ (∃ vv, v = vv ∧ Hid (OwnsK wr vv (wordL (l.take k)) ∧ ∀ b, vv.ownBlock = some b → w1.heap.size ≤ b)) ∧ Ext w1 wr) (fun i _ _ => l.length - (intOf i).toNat)
    case atStart => exact ⟨0, Nat.zero_le _, rfl, ⟨_, rfl, OwnsK.nil _, fun b hb => by cases hb⟩, Ext.refl _⟩
    case round =>
      obtain ⟨k, hk, rfl, ⟨vv, hvv, hO⟩, he⟩ := hrel
      obtain rfl := hvv.symm
      have E3 := E2.trans he
      by_cases hlt : k < l.length
      · obtain ⟨b, off, v, ha, p1, hv, p2⟩ := HC.out k hlt
        subst ha
        have HFK := HFI.out k hlt
        have hst := ckStep_strokes HFK.1
        have hst6 := hst.2.1
        have hst0 := hst.2.2.1
        have HWS := Lib.hid (wordL_succ hlt)
        have hwl := wordL_len HFI.out k (by omega)
        obtain ⟨sa, sc, rfl, hcs, hls⟩ := hv
        have p1 := E3.cell p1
        have p2 := E3.cell p2
        generalize l.getD k stp0 = x at p1 p2 hcs hls HWS hst6 hst0
        obtain ⟨st, wj⟩ := x
        dsimp only at p1 p2 hcs hls HWS hst6 hst0
        obtain ⟨kb, ko, ha, _, _⟩ := hcs 0 hst0
        subst ha
        have HCS := Lib.hid hcs
        have O2 := Lib.hid hO.out.1
        have OB := Lib.hid hO.out.2
        have hsz := he.size
        have zb := cell_lt p1
        dsimp only at zb
        clear hcs hls hO HFK hst
        generalize wordL (l.take k) = P at O2 HWS hwl
        have ES : Ext wr (wr.alloc (.cells #[.slice (some ⟨kb, ko, none⟩) st.length sc, .int .i64 wj] 87)) := (by repeat (first | with_reducible exact Ext.refl _ | with_reducible assumption | with_reducible apply Ext.drewN | with_reducible apply Ext.drew | with_reducible apply Ext.alloc | ((with_reducible refine Ext.set ?_ ?_ _); rotate_left; first | omega | (simp; omega)) | (with_reducible refine Ext.trans ?_ (by with_reducible assumption))))
        have hO5 : Hid (OwnsK (wr.alloc (.cells #[.slice (some ⟨kb, ko, none⟩) st.length sc, .int .i64 wj] 87)) vv P) := O2.out.ext ES
        have hfl : Hid (∀ j u, (flatK st)[j]? = some u → (wr.alloc (.cells #[.slice (some ⟨kb, ko, none⟩) st.length sc, .int .i64 wj] 87)).cell? ((⟨kb, ko, none⟩ : Addr).add j) = some u) := fun j u hu => (HCS.out.ext (E3.trans ES)).flat j u hu
        go_wp2_with (at_builtin; refine wpList_append1 _ rfl _ _ 66 rfl 73 i0 (.agg #[.int .i64 0, .bool false]) 2 16 Tryz.underlying66 hi hi0 hi1 hi2 rfl (by decide) vv P.length (flatK P) rfl hO5.out ⟨kb, ko, none⟩ st.length sc hst0 (flatK st) rfl (flatK_length st) hfl.out (flatK_one st) ?c2 ?c3 ?c4)
        case c2 => unfold maxLen; omega
        case c3 => omega
        case c4 =>
          intro v' w5 hown5 hend5
          have O5 : Hid (OwnsK w5 v' (wordL (l.take (k + 1)))) := by show OwnsK _ _ _; rw [HWS.out]; exact ownsK_app hown5
          have B5 : Ext w1 w5 := (he.trans ES).trans' (hend5.below (n := w1.heap.size) (by simp; omega) OB.out) (Nat.le_refl _)
          have OB5 : Hid (∀ b, v'.ownBlock = some b → w1.heap.size ≤ b) := hend5.ge (n := w1.heap.size) (by simp; omega) OB.out
          clear hown5 hend5 O2 OB HWS hO5 hfl
          go_wp2
          refine ⟨⟨k + 1, by omega, by go_num, ⟨v', rfl, O5.out, OB5.out⟩, B5⟩, by simp [intOf]; omega⟩
      · have hke : k = l.length := by omega
        subst hke
        have hO1 := hO.out.1
        rw [HRR.out] at hO1
        have HO1 := Lib.hid hO1
        have HO2 := Lib.hid hO.out.2
        have hsz := E2.size
        clear hO hO1
        go_wp2
        go_ret2
        exact ⟨_, rfl, HO1.out, fun b hb => by have := HO2.out b hb; omega, E3⟩
  · have hn : (er != 0) = true := by simp [h0]
    have hR := HR.out
    rw [if_neg h0] at hR
    subst hR
    clear h0 HER HR
    go_wp2
    go_ret2
    exact ⟨.slice none 0 0, rfl, OwnsK.nil _, (fun b hb => by cases hb), E2⟩
/-- the product with the factors behind k, or 0 if it is too great -/
def facGo (o : Int) (k : Nat) : Nat → Int
  | 0 => o
  | r + 1 => if 1048576 < o * ((k : Int) + 1) then 0 else facGo (o * ((k : Int) + 1)) (k + 1) r
def wordsGo (o : Int) : List Nat → Int
  | [] => o
  | m :: ms => if facGo o 0 m = 0 then 0 else wordsGo (facGo o 0 m) ms
def lens (l : List Stp) : List Nat := l.map fun x => x.1.length
def wordsN (s : Sq) : Int := if ckSeq s = 0 then wordsGo 1 (lens s.2) else 0
def wordsE (s : Sq) : Int := if ckSeq s = 0 then (if wordsGo 1 (lens s.2) = 0 then 12 else 0) else ckSeq s
theorem facGo_succ {o : Int} {j m : Nat} (h : j < m) {P : Int} (e : facGo o j (m - j) = P) : (1048576 < o * ((j : Int) + 1) → P = 0) ∧ (¬ 1048576 < o * ((j : Int) + 1) → facGo (o * ((j : Int) + 1)) (j + 1) (m - (j + 1)) = P) := by
  rw [show m - j = (m - (j + 1)) + 1 from by omega] at e
  unfold facGo at e
  refine ⟨fun h1 => ?_, fun h1 => ?_⟩
  · rw [if_pos h1] at e; exact e.symm
  · rw [if_neg h1] at e; exact e
theorem wordsGo_drop {o : Int} {l : List Stp} {k : Nat} (h : k < l.length) {R : Int} (e : wordsGo o (lens (l.drop k)) = R) : (facGo o 0 (l.getD k stp0).1.length = 0 → R = 0) ∧ (facGo o 0 (l.getD k stp0).1.length ≠ 0 → wordsGo (facGo o 0 (l.getD k stp0).1.length) (lens (l.drop (k + 1))) = R) := by
  rw [drop_cons l stp0 h] at e
  unfold lens at e ⊢
  rw [List.map_cons] at e
  unfold wordsGo at e
  refine ⟨fun h1 => ?_, fun h1 => ?_⟩
  · rw [if_pos h1] at e; exact e.symm
  · rw [if_neg h1] at e; exact e

set_option maxHeartbeats 8000000 in
set_option maxRecDepth 100000 in
theorem Words_any (n : Int) (l : List Stp) (a : Option Addr) (cap : Nat) (w : World) (hl : l.length ≤ maxLen) (hc : CellsP w a l) :
    Calls Tryz.prog 37 #[.agg #[.int .i64 n, .slice a l.length cap]] w fun e w' => e = .returned (.tuple #[.int .i64 (wordsN (n, l)), .int .i64 (wordsE (n, l))]) ∧ Ext w w' := by
  have HC := Lib.hid hc
  have HL := Lib.hid hl
  obtain ⟨er, her⟩ : ∃ er, er = ckSeq (n, l) := ⟨_, rfl⟩
  obtain ⟨wn, hwn⟩ : ∃ wn, wn = wordsN (n, l) := ⟨_, rfl⟩
  obtain ⟨we, hwe⟩ : ∃ we, we = wordsE (n, l) := ⟨_, rfl⟩
  rw [← hwn, ← hwe]
  have HER := Lib.hid her
  have HWN := Lib.hid (And.intro hwn hwe)
  clear hc her hwn hwe hl
  go_enter Tryz.func37, Tryz.ntmps37
  go_wp2_with fail
  have E1 : Ext w (w.alloc (.cells #[.int .i64 n, .slice a l.length cap] 24)) := (by repeat (first | with_reducible exact Ext.refl _ | with_reducible assumption | with_reducible apply Ext.drewN | with_reducible apply Ext.drew | with_reducible apply Ext.alloc | ((with_reducible refine Ext.set ?_ ?_ _); rotate_left; first | omega | (simp; omega)) | (with_reducible refine Ext.trans ?_ (by with_reducible assumption))))
  have c0 : ((w.alloc (.cells #[.int .i64 n, .slice a l.length cap] 24))).cell? ⟨w.heap.size, 0, none⟩ = some (.int .i64 n) := by go_simp
  have c1 : ((w.alloc (.cells #[.int .i64 n, .slice a l.length cap] 24))).cell? ⟨w.heap.size, 1, none⟩ = some (.slice a l.length cap) := by go_simp
  generalize (w.alloc (.cells #[.int .i64 n, .slice a l.length cap] 24)) = W at E1 c0 c1 ⊢
  refine (Check_any n l a cap _ HL.out (HC.out.ext E1)).mono ?_
  rintro e w1 ⟨rfl, hE⟩
  rw [← HER.out]
  have E2 := E1.trans hE
  have c0 := (hE).cell c0
  have c1 := (hE).cell c1
  clear hE
  by_cases h0 : er = 0
  · subst h0
    have hck := HER.out.symm
    obtain ⟨hN1, hN6, hl0, hl64, hwk, _, _⟩ := ckSeq_zero hck
    have HFI := Lib.hid (ckWalk_fine hwk)
    obtain ⟨R, hR⟩ : ∃ R, R = wordsGo 1 (lens l) := ⟨_, rfl⟩
    have hn1 : wn = R := by rw [HWN.out.1]; unfold wordsN; rw [if_pos hck, hR]
    have he1 : we = if R = 0 then 12 else 0 := by rw [HWN.out.2]; unfold wordsE; rw [if_pos hck, hR]
    subst hn1
    have HWE := Lib.hid he1
    have R0 : Hid (wordsGo 1 (lens (l.drop 0)) = wn) := hR.symm
    have zw := cell_lt c0
    dsimp only at zw
    clear hck hwk HER HWN hR he1
    go_wp2
    go_loopw [17, 5] (fun i v wr => ∃ k : Nat, k ≤ l.length ∧ i = .int .i64 k ∧ (∃ o : Int, v = .int .i64 o ∧ 1 ≤ o ∧ o ≤ 1048576 ∧ Hid (wordsGo o (lens (l.drop k)) = wn)) ∧ Ext w1 wr) (fun i _ _ => l.length - (intOf i).toNat)
    case atStart => exact ⟨0, Nat.zero_le _, rfl, ⟨1, rfl, by omega, by omega, R0⟩, Ext.refl _⟩
    case round =>
      obtain ⟨k, hk, rfl, ⟨o, rfl, ho1, ho2, hz⟩, he⟩ := hrel
      clear R0
      have E3 := E2.trans he
      by_cases hlt : k < l.length
      · obtain ⟨b, off, v, ha, p1, hv, p2⟩ := HC.out k hlt
        subst ha
        have hst6 := (ckStep_strokes (HFI.out k hlt).1).2.1
        have HZ := Lib.hid (wordsGo_drop hlt hz.out)
        obtain ⟨sa, sc, rfl, hcs, hls⟩ := hv
        have p1 := E3.cell p1
        have p2 := E3.cell p2
        generalize l.getD k stp0 = x at p1 p2 hcs hls HZ hst6
        obtain ⟨st, wj⟩ := x
        dsimp only at p1 p2 hcs hls HZ hst6
        have zb := cell_lt p1
        dsimp only at zb
        obtain ⟨P, hP⟩ : ∃ P, P = facGo o 0 st.length := ⟨_, rfl⟩
        rw [← hP] at HZ
        have F0 : Hid (facGo o 0 (st.length - 0) = P) := hP.symm
        have EB : Ext wr (wr.alloc (.cells #[.slice sa st.length sc, .int .i64 wj] 87)) := (by repeat (first | with_reducible exact Ext.refl _ | with_reducible assumption | with_reducible apply Ext.drewN | with_reducible apply Ext.drew | with_reducible apply Ext.alloc | ((with_reducible refine Ext.set ?_ ?_ _); rotate_left; first | omega | (simp; omega)) | (with_reducible refine Ext.trans ?_ (by with_reducible assumption))))
        clear hcs hls hz hP
        go_wp2
        have E4 := he.trans EB
        generalize (wr.alloc (.cells #[.slice sa st.length sc, .int .i64 wj] 87)) = W5 at E4 ⊢
        clear EB
        go_loopw [24, 5] (fun i v wr => ∃ j : Nat, j ≤ st.length ∧ i = .int .i64 j ∧ (∃ o : Int, v = .int .i64 o ∧ 1 ≤ o ∧ o ≤ 1048576 ∧ Hid (facGo o j (st.length - j) = P)) ∧ wr = W5) (fun i _ _ => st.length - (intOf i).toNat)
        case atStart => exact ⟨0, by omega, rfl, ⟨o, rfl, ho1, ho2, F0⟩, rfl⟩
        case round =>
          obtain ⟨j, hj, rfl, ⟨q, rfl, hq1, hq2, hf⟩, rfl⟩ := hrel
          clear F0
          by_cases hjl : j < st.length
          · have HS := Lib.hid (facGo_succ hjl hf.out)
            have hpos : 1 ≤ q * ((j : Int) + 1) := by
              have : q * 1 ≤ q * ((j : Int) + 1) := Int.mul_le_mul_of_nonneg_left (by omega) (by omega)
              omega
            have hup : q * ((j : Int) + 1) ≤ 1048576 * 7 := by
              have h1 : q * ((j : Int) + 1) ≤ q * 7 := Int.mul_le_mul_of_nonneg_left (by omega) (by omega)
              omega
            have g1 : IntKind.i64.wrap ((j : Int) + 1) = (j : Int) + 1 := IntWalk.i64_in _ (by omega)
            have g2 : IntKind.i64.wrap (q * ((j : Int) + 1)) = q * ((j : Int) + 1) := IntWalk.i64_in _ (by omega)
            obtain ⟨r, hr⟩ : ∃ r, r = q * ((j : Int) + 1) := ⟨_, rfl⟩
            rw [← hr] at HS hpos hup
            have g2 : IntKind.i64.wrap (q * ((j : Int) + 1)) = r := by rw [g2, hr]
            have HRQ := Lib.hid hr
            clear hf hr
            by_cases hov : 1048576 < r
            · have hP := HS.out.1 hov
              have hw := HZ.out.1 hP
              have hwe := HWE.out
              rw [if_pos hw] at hwe
              subst hw
              subst hwe
              clear HZ HS HWE hP
              go_wp2
              go_ret2
              exact ⟨rfl, E2.trans E4⟩
            · have HS2 := Lib.hid (HS.out.2 hov)
              have hov2 : r ≤ 1048576 := by omega
              clear HS
              go_wp2
              refine ⟨⟨j + 1, by omega, by go_num, ⟨r, by rw [HRQ.out], hpos, hov2, HS2⟩, trivial⟩, by simp [intOf]; omega⟩
          · have hje : j = st.length := by omega
            have hfo := hf.out
            rw [hje, Nat.sub_self] at hfo
            have hfo : q = P := hfo
            subst hfo
            have HZ2 := Lib.hid (HZ.out.2 (by omega))
            clear hf HZ
            go_wp2
            refine ⟨⟨k + 1, by omega, by go_num, ⟨q, rfl, hq1, hq2, HZ2⟩, E4⟩, by simp [intOf]; omega⟩
      · have hke : k = l.length := by omega
        have hz2 := hz.out
        rw [List.drop_eq_nil_of_le (by omega)] at hz2
        have hz2 : o = wn := hz2
        subst hz2
        have hwe := HWE.out
        rw [if_neg (by omega)] at hwe
        subst hwe
        clear hz HWE
        go_wp2
        go_ret2
        exact ⟨rfl, E3⟩
  · have hn : (er != 0) = true := by simp [h0]
    have h2 : ¬ ckSeq (n, l) = 0 := fun h => h0 (HER.out.trans h)
    have hn1 : wn = 0 := by rw [HWN.out.1]; unfold wordsN; rw [if_neg h2]
    have he1 : we = er := by rw [HWN.out.2]; unfold wordsE; rw [if_neg h2]; exact HER.out.symm
    subst hn1
    subst he1
    clear h0 h2 HER HWN
    go_wp2
    go_ret2
    exact ⟨rfl, E2⟩
end Go.Proofs.YtnhbogmihnnpjaaGreat
/- The law VariantCancels: its walk. -/
namespace Go.Proofs.YtnhbogmihnnpjaaGreat
open Go.RowKit

theorem renGo_of {n : Int} : ∀ (l bef : List Int), (∀ x ∈ l, 0 ≤ x ∧ x < n) → l.Nodup → (∀ x ∈ l, x ∉ bef) → renGo n bef l = 0 := by
  intro l
  induction l with
  | nil => intro bef _ _ _; rfl
  | cons y l ih =>
    intro bef h1 h2 h3
    obtain ⟨n1, n2⟩ := List.nodup_cons.1 h2
    have hy := h1 y (List.mem_cons_self ..)
    have hb : ¬ bef.contains y = true := by
      intro h
      exact h3 y (List.mem_cons_self ..) (by simpa using h)
    unfold renGo
    rw [if_neg (by omega), if_neg hb]
    refine ih _ (fun x hx => h1 x (List.mem_cons_of_mem _ hx)) n2 fun x hx hb => ?_
    rcases List.mem_append.1 hb with hb | hb
    · exact h3 x (List.mem_cons_of_mem _ hx) hb
    · rw [List.mem_singleton] at hb
      subst hb
      exact n1 hx
theorem renE_back {t b : List Int} {n : Int} (ht : renE t n = 0) (hl : b.length = t.length) (hb : ∀ k, k < t.length → b.getD (t.getD k 0).toNat 0 = (k : Int)) : renE b n = 0 := by
  have hbij := bij_list ht hb
  obtain ⟨hln, _, _⟩ := renE_inj ht
  have hat : ∀ k, (hk : k < b.length) → b[k] = listFn b (k : Int) := fun k hk => by
    rw [listFn_at, List.getD_eq_getElem?_getD, List.getElem?_eq_getElem hk]; rfl
  unfold renE
  rw [if_neg (by omega)]
  refine renGo_of b [] (fun x hx => ?_) ?_ (fun x _ => by simp)
  · obtain ⟨k, hk, rfl⟩ := List.mem_iff_getElem.1 hx
    rw [hat k hk]
    exact hbij.gp _ ⟨by omega, by omega⟩
  · refine List.pairwise_iff_getElem.2 fun i j hi hj hij e => ?_
    rw [hat i hi, hat j hj] at e
    have h1 := hbij.fg (i : Int) ⟨by omega, by omega⟩
    have h2 := hbij.fg (j : Int) ⟨by omega, by omega⟩
    rw [e, h2] at h1
    omega
theorem cancels_plain {n : Int} {l : List Stp} {t : List Int} (hk : ckSeq (n, l) = 0) (ht : renE t n = 0) {A : List Stp} (hA : A = l.map (renStep (listFn t))) :
    rnmE (n, l) t = 0 ∧ ckSeq (n, A) = 0 ∧ alikeE (n, l) (n, A) = 0 ∧ alikeB (n, l) (n, A) = true ∧ wordsN (n, A) = wordsN (n, l) ∧ wordsE (n, A) = wordsE (n, l) ∧
      ∀ b : List Int, b.length = t.length → (∀ k, k < t.length → b.getD (t.getD k 0).toNat 0 = (k : Int)) → rnmE (n, A) b = 0 ∧ ren (listFn b) (n, A) = (n, l) := by
  subst hA
  obtain ⟨hln, hrng, hinj⟩ := renE_inj ht
  obtain ⟨b0, hb0, hb1⟩ : ∃ b : List Int, b.length = t.length ∧ ∀ k, k < t.length → b.getD (t.getD k 0).toNat 0 = (k : Int) := by
    classical
    refine ⟨(List.range t.length).map fun (v : Nat) => if h : ∃ k : Nat, k < t.length ∧ t.getD k 0 = (v : Int) then ((Classical.choose h : Nat) : Int) else 0, by simp, fun k hk => ?_⟩
    have h0 := hrng k hk
    have hlt : (t.getD k 0).toNat < t.length := by omega
    have hex : ∃ j : Nat, j < t.length ∧ t.getD j 0 = ((t.getD k 0).toNat : Int) := ⟨k, hk, by omega⟩
    rw [List.getD_eq_getElem?_getD, List.getElem?_map, List.getElem?_range hlt]
    show (if h : ∃ j : Nat, j < t.length ∧ t.getD j 0 = ((t.getD k 0).toNat : Int) then ((Classical.choose h : Nat) : Int) else 0) = (k : Int)
    rw [dif_pos hex]
    obtain ⟨c1, c2⟩ := Classical.choose_spec hex
    have := hinj _ (k : Int) ⟨by omega, by omega⟩ ⟨by omega, by omega⟩ (show listFn t ((Classical.choose hex : Nat) : Int) = listFn t (k : Int) by rw [listFn_at, listFn_at, c2]; omega)
    omega
  have hbij := bij_list ht hb1
  have hr := ckSeq_right hk
  have hck : ckSeq (n, l.map (renStep (listFn t))) = 0 := ckSeq_ren hbij hk
  have hst : standard (n, l.map (renStep (listFn t))) = standard (n, l) := standard_ren hbij hk
  have hln2 : lens (l.map (renStep (listFn t))) = lens l := ren_lens hbij hr.act.2 hr.fine
  refine ⟨by unfold rnmE; rw [if_neg (by simp [hk])]; exact ht, hck, by unfold alikeE; rw [if_neg (by simp [hk])]; exact hck, ?_, ?_, ?_, fun b h1 h2 => ⟨?_, ren_back (bij_list ht h2) hk⟩⟩
  · unfold alikeB
    rw [decide_eq_true ⟨hk, hck⟩, decide_eq_true hst.symm]; rfl
  · unfold wordsN
    rw [if_pos hk, if_pos hck]
    dsimp only
    rw [hln2]
  · unfold wordsE
    rw [if_pos hk, if_pos hck]
    dsimp only
    rw [hln2]
  · unfold rnmE
    rw [if_neg (by simp [hck])]
    exact renE_back ht h1 h2

set_option maxHeartbeats 8000000 in
set_option maxRecDepth 100000 in
theorem VariantCancels_any (n : Int) (l : List Stp) (a : Option Addr) (cap : Nat) (t : List Int) (ta : Option Addr) (tc : Nat) (w : World) (hc : CellsP w a l) (hr : Room a l.length cap) (htl : t.length ≤ tc) (htm : tc ≤ maxLen) (hct : CellsI w ta t) :
    Calls Tryz.prog 8 #[.agg #[.int .i64 n, .slice a l.length cap], .slice ta t.length tc] w fun e w' => e = .returned (.bool true) ∧ Ext w w' := by
  have HC := Lib.hid hc
  have HR := Lib.hid hr
  have HT := Lib.hid hct
  have HTL := Lib.hid (And.intro htl htm)
  clear hc hr hct htl htm
  have E0 : Ext w (w.alloc (.cells #[.int .i64 n, .slice a l.length cap] 24)) := (by repeat (first | with_reducible exact Ext.refl _ | with_reducible assumption | with_reducible apply Ext.drewN | with_reducible apply Ext.drew | with_reducible apply Ext.alloc | ((with_reducible refine Ext.set ?_ ?_ _); rotate_left; first | omega | (simp; omega)) | (with_reducible refine Ext.trans ?_ (by with_reducible assumption))))
  have c0 : ((w.alloc (.cells #[.int .i64 n, .slice a l.length cap] 24))).cell? ⟨w.heap.size, 0, none⟩ = some (.int .i64 n) := by go_simp
  have c1 : ((w.alloc (.cells #[.int .i64 n, .slice a l.length cap] 24))).cell? ⟨w.heap.size, 1, none⟩ = some (.slice a l.length cap) := by go_simp
  go_enter Tryz.func8, Tryz.ntmps8
  go_wp2_with fail
  generalize (w.alloc (.cells #[.int .i64 n, .slice a l.length cap] 24)) = W at E0 c0 c1 ⊢
  refine (right_any n l a cap _ (HC.out.ext E0) HR.out).mono ?_
  rintro e w1 ⟨rfl, hE⟩
  have F1 := E0.trans hE
  have c0 := (hE).cell c0
  have c1 := (hE).cell c1
  clear hE E0
  have HRB := Lib.hid (fun h => rightB_true (n := n) (l := l) h)
  generalize rightB (n, l) = fw at HRB ⊢
  obtain ⟨bs, hbs⟩ : ∃ bs, bs = w.heap.size := ⟨_, rfl⟩
  have hbs0 : bs < w1.heap.size := by rw [hbs]; exact cell_lt c0
  have HBS := Lib.hid hbs
  rw [← hbs] at c0 c1 ⊢
  clear hbs
  cases fw
  · go_wp2_with fail
    refine (awake_any _).mono ?_
    rintro e w2 ⟨rfl, hE⟩
    go_wp2
    go_ret
    exact ⟨rfl, F1.trans hE⟩
  obtain ⟨re, hre⟩ : ∃ re, re = renE t n := ⟨_, rfl⟩
  have HRE := Lib.hid hre
  have HRN := Lib.hid (RenamingR_any t n ta tc w1 (Nat.le_trans HTL.out.1 HTL.out.2) HTL.out.1 HTL.out.2 (HT.out.ext F1))
  rw [← hre] at HRN
  clear hre
  go_wp2_with fail
  refine HRN.out.mono ?_
  rintro e w2 ⟨rfl, hE⟩
  have F2 := F1.trans hE
  have hbs2 : bs < w2.heap.size := Nat.lt_of_lt_of_le hbs0 hE.size
  have c0 := (hE).cell c0
  have c1 := (hE).cell c1
  clear hE F1 HRN
  by_cases h0 : re ≠ 0
  · have hn : (re != 0) = true := by simp [h0]
    clear HRE h0
    go_wp2_with fail
    refine (awake_any _).mono ?_
    rintro e w3 ⟨rfl, hE⟩
    go_wp2
    go_ret
    exact ⟨rfl, F2.trans hE⟩
  have h0 : re = 0 := by omega
  subst h0
  have hk := (HRB.out (by first | trivial | rfl)).2
  obtain ⟨hln, hrng, hinj⟩ := renE_inj HRE.out.symm
  have HRNG : Hid (∀ k, k < t.length → 0 ≤ t.getD k 0 ∧ t.getD k 0 < (t.length : Int)) := fun k hk => by have := hrng k hk; omega
  have HINJ : Hid (∀ i j, i < t.length → j < t.length → i ≠ j → (t.getD i 0).toNat ≠ (t.getD j 0).toNat) := fun i j hi hj hij e => by
    have h1 := hrng i hi
    have h2 := hrng j hj
    have := hinj (i : Int) (j : Int) ⟨by omega, by omega⟩ ⟨by omega, by omega⟩ (by rw [listFn_at, listFn_at]; omega)
    omega
  have hN6 := (ckSeq_zero hk).2.1
  obtain ⟨A, hA⟩ : ∃ A, A = l.map (renStep (listFn t)) := ⟨_, rfl⟩
  obtain ⟨p1, p2, p3, p4, p5, p6, p7⟩ := cancels_plain hk HRE.out.symm hA
  have hren : ren (listFn t) (n, l) = (n, A) := by rw [hA]; rfl
  have HX1 := Lib.hid (And.intro p1 hren)
  have HX2 := Lib.hid p2
  have HX3 := Lib.hid (And.intro p3 p4)
  have HX4 := Lib.hid (And.intro p5 p6)
  have HX5 := Lib.hid p7
  have ht6 : t.length ≤ 6 := by omega
  have hmk := makeInts t.length (by omega) w2
  clear hk hA p1 p2 p3 p4 p5 p6 p7 hren hrng hinj hln HRB HRE
  go_wp2
  have EM : Ext w2 (w2.alloc (.cells (madeCells #[.int .i64 0] t.length) 3)) := (by repeat (first | with_reducible exact Ext.refl _ | with_reducible assumption | with_reducible apply Ext.drewN | with_reducible apply Ext.drew | with_reducible apply Ext.alloc | ((with_reducible refine Ext.set ?_ ?_ _); rotate_left; first | omega | (simp; omega)) | (with_reducible refine Ext.trans ?_ (by with_reducible assumption))))
  have hT0 := madeInts w2 t.length 3 rfl
  obtain ⟨tb, htb⟩ : ∃ tb, tb = w2.heap.size := ⟨_, rfl⟩
  have F3 := F2.trans EM
  have c0 := (EM).cell c0
  have c1 := (EM).cell c1
  have hb6 : tb < (w2.alloc (.cells (madeCells #[.int .i64 0] t.length) 3)).heap.size := by rw [htb]; show _ < (w2.heap.push _).size; rw [Array.size_push]; omega
  rw [← htb] at hT0 ⊢
  clear hmk
  generalize w2.alloc (.cells (madeCells #[.int .i64 0] t.length) 3) = W6 at EM hT0 F3 c0 c1 hb6 ⊢
  have hbtb : bs < tb := by omega
  have HTB := Lib.hid htb
  clear htb EM
  have M0 : Hid (IntsAt W6 tb (List.replicate t.length 0) ∧ Own1 tb W6 W6 ∧ ∀ j, j < 0 → (List.replicate t.length (0 : Int)).getD (t.getD j 0).toNat 0 = (j : Int)) := ⟨hT0, Own1.ext (Ext.refl _) (Nat.le_of_lt hb6), fun j hj => by omega⟩
  clear hT0
  have HTW : Hid (CellsI W6 ta t ∧ ∀ b off, ta = some ⟨b, off, none⟩ → 0 < t.length → b ≠ tb) := ⟨HT.out.ext F3, fun b off hb h0 e => by
    obtain ⟨b', off', hh, hcell⟩ := (HT.out.ext F2) 0 h0
    rw [hb] at hh
    cases hh
    have := cell_lt hcell
    dsimp only at this
    have := HTB.out
    omega⟩
  go_loopw [34] (fun i wx => ∃ q : Nat, q ≤ t.length ∧ i = .int .i64 q ∧ ∃ bk : List Int, bk.length = t.length ∧ Hid (IntsAt wx tb bk ∧ Own1 tb W6 wx ∧ ∀ j, j < q → bk.getD (t.getD j 0).toNat 0 = (j : Int))) (fun i _ => t.length - (intOf i).toNat)
  case atStart => exact ⟨0, Nat.zero_le _, rfl, List.replicate t.length 0, List.length_replicate, M0⟩
  case round =>
    obtain ⟨q, hq, rfl, bk, hbl, M⟩ := hrel
    clear M0
    by_cases hqt : q < t.length
    · obtain ⟨tbk, toff, rfl, e1⟩ := HTW.out.1 q hqt
      have hne := HTW.out.2 tbk toff rfl (by omega)
      have e1 := M.out.2.1.cell (p := ⟨tbk, toff + q, none⟩) hne e1
      obtain ⟨hx0, hx1⟩ := HRNG.out q hqt
      have HNX : Hid (∀ b : List Int, (∀ j, j < q → b.getD (t.getD j 0).toNat 0 = (j : Int)) → b.length = t.length → ∀ j, j < q + 1 → (b.set (t.getD q 0).toNat (q : Int)).getD (t.getD j 0).toNat 0 = (j : Int)) := fun b hb hl j hj => by
        by_cases hjq : j = q
        · subst hjq
          rw [List.getD_eq_getElem?_getD, List.getElem?_set, if_pos rfl, if_pos (by omega)]; rfl
        · have h1 := HINJ.out j q (by omega) hqt hjq
          have h2 := hb j (by omega)
          rw [List.getD_eq_getElem?_getD, List.getElem?_set, if_neg (Ne.symm h1), ← List.getD_eq_getElem?_getD]
          exact h2
      generalize t.getD q 0 = x at e1 hx0 hx1 HNX
      obtain ⟨xn, rfl⟩ := Int.eq_ofNat_of_zero_le hx0
      have hxn : xn < t.length := by omega
      have e2 := (M.out.1 xn (by omega)).1
      have e3 := (M.out.1 xn (by omega)).2
      have zg : tbk < wr.heap.size := cell_lt e1
      clear hx0 hx1
      go_wp2
      have MN : Hid (IntsAt (wr.setCell ⟨tb, xn, none⟩ (.int .i64 (q : Int))) tb (bk.set xn (q : Int)) ∧ Own1 tb W6 (wr.setCell ⟨tb, xn, none⟩ (.int .i64 (q : Int))) ∧ ∀ j, j < q + 1 → (bk.set xn (q : Int)).getD (t.getD j 0).toNat 0 = (j : Int)) :=
        ⟨M.out.1.set (by omega) _, M.out.2.1.trans (Own1.setCell _ _), HNX.out bk M.out.2.2 hbl⟩
      refine ⟨⟨q + 1, by omega, by go_num, _, by rw [List.length_set]; exact hbl, MN⟩, by simp [intOf]; omega⟩
    · have hqk : q = t.length := by omega
      have hbk := HX5.out bk hbl (fun j hj => M.out.2.2 j (by omega))
      have HBK := Lib.hid hbk
      have HIB := Lib.hid M.out.1.cells
      have F7 : Ext w wr := F3.trans' M.out.2.1.1 (by have := F2.size; have := HTB.out; omega)
      have OW := M.out.2.1
      have c0 := OW.cell (p := ⟨bs, 0, none⟩) (by show bs ≠ tb; omega) c0
      have c1 := OW.cell (p := ⟨bs, 1, none⟩) (by show bs ≠ tb; omega) c1
      have HBL := Lib.hid hbl
      clear hqk hbk M OW HX5 HRNG HINJ HTW hbl F3 F2
      have HR1 := Lib.hid (Rename_any n l a cap t ta tc wr HR.out (HC.out.ext F7) HTL.out.1 HTL.out.2 (HT.out.ext F7))
      rw [HX1.out.1, if_pos rfl, HX1.out.2] at HR1
      have z4 := cell_lt c0
      dsimp only at z4
      go_wp2_with fail
      refine HR1.out.mono ?_
      rintro e w4 h
      obtain ⟨xa, xc, rfl, hf, hfl, hE⟩ := h.at
      dsimp only at hf hfl ⊢
      have X := Lib.hid hf
      have XL := Lib.hid hfl
      have HIB := Lib.hid (HIB.out.ext hE)
      have F8 := F7.trans hE
      have c0 := (hE).cell c0
      have c1 := (hE).cell c1
      have z5 := cell_lt c0
      dsimp only at z5
      clear hf hfl hE F7 h HR1 z4
      go_wp2_with fail
      have E5 : Ext w4 (w4.alloc (.cells #[.int .i64 n, .slice xa A.length xc] 24)) := (by repeat (first | with_reducible exact Ext.refl _ | with_reducible assumption | with_reducible apply Ext.drewN | with_reducible apply Ext.drew | with_reducible apply Ext.alloc | ((with_reducible refine Ext.set ?_ ?_ _); rotate_left; first | omega | (simp; omega)) | (with_reducible refine Ext.trans ?_ (by with_reducible assumption))))
      have BX := Lib.hid (Box.new w4 n xa A.length xc)
      have X := Lib.hid (X.out.ext E5)
      have HIB := Lib.hid (HIB.out.ext E5)
      have F9 := F8.trans E5
      have c0 := (E5).cell c0
      have c1 := (E5).cell c1
      obtain ⟨b1, hb1⟩ : ∃ b, b = w4.heap.size := ⟨_, rfl⟩
      rw [← hb1] at BX z5 ⊢
      clear hb1 E5 F8
      generalize (w4.alloc (.cells #[.int .i64 n, .slice xa A.length xc] 24)) = W5 at BX X HIB F9 c0 c1 ⊢
      have HR2 := Lib.hid (Rename_any n A xa xc bk (some ⟨tb, 0, none⟩) t.length W5 XL.out X.out (by rw [HBL.out]; exact Nat.le_refl _) (by unfold maxLen; omega) HIB.out)
      rw [HBK.out.1, if_pos rfl, HBK.out.2, HBL.out] at HR2
      refine HR2.out.mono ?_
      rintro e w6 h
      obtain ⟨ya, yc, rfl, hf, hfl, hE⟩ := h.at
      dsimp only at hf hfl ⊢
      have Y := Lib.hid hf
      have YL := Lib.hid hfl
      have X := Lib.hid (X.out.ext hE)
      have FA := F9.trans hE
      have BX := Lib.hid (BX.out.ext hE)
      have c0 := (hE).cell c0
      have c1 := (hE).cell c1
      have p0 := BX.out.c0
      have p1 := BX.out.c1
      have z5 := cell_lt c0
      have z6 := cell_lt p0
      dsimp only at z5 z6
      clear hf hfl hE F9 h HR2 HIB HBK HBL
      go_wp2_with fail
      clear p0 p1
      have E5 : Ext w6 (w6.alloc (.cells #[.int .i64 n, .slice ya l.length yc] 24)) := (by repeat (first | with_reducible exact Ext.refl _ | with_reducible assumption | with_reducible apply Ext.drewN | with_reducible apply Ext.drew | with_reducible apply Ext.alloc | ((with_reducible refine Ext.set ?_ ?_ _); rotate_left; first | omega | (simp; omega)) | (with_reducible refine Ext.trans ?_ (by with_reducible assumption))))
      have BY := Lib.hid (Box.new w6 n ya l.length yc)
      have X := Lib.hid (X.out.ext E5)
      have Y := Lib.hid (Y.out.ext E5)
      have BX := Lib.hid (BX.out.ext E5)
      have FB := FA.trans E5
      have c0 := (E5).cell c0
      have c1 := (E5).cell c1
      obtain ⟨b2, hb2⟩ : ∃ b, b = w6.heap.size := ⟨_, rfl⟩
      rw [← hb2] at BY z5 z6 ⊢
      clear hb2 E5 FA
      generalize (w6.alloc (.cells #[.int .i64 n, .slice ya l.length yc] 24)) = W7 at BX BY X Y FB c0 c1 ⊢
      have HAK := Lib.hid (Alike_any n n l A a xa cap xc W7 HR.out (HC.out.ext FB) XL.out X.out)
      rw [HX3.out.1, HX3.out.2] at HAK
      refine HAK.out.mono ?_
      rintro e w8 ⟨rfl, hE⟩
      have FC := FB.trans hE
      have X := Lib.hid (X.out.ext hE)
      have Y := Lib.hid (Y.out.ext hE)
      have BX := Lib.hid (BX.out.ext hE)
      have BY := Lib.hid (BY.out.ext hE)
      have c0 := (hE).cell c0
      have c1 := (hE).cell c1
      clear hE FB HAK
      obtain ⟨wn, hwn⟩ : ∃ wn, wn = wordsN (n, l) := ⟨_, rfl⟩
      obtain ⟨we, hwe⟩ : ∃ we, we = wordsE (n, l) := ⟨_, rfl⟩
      have HW1 := Lib.hid (Words_any n l a cap w8 HR.out (HC.out.ext FC))
      rw [← hwn, ← hwe] at HW1 HX4
      clear hwn hwe
      go_wp2_with fail
      refine HW1.out.mono ?_
      rintro e w9 ⟨rfl, hE⟩
      have FD := FC.trans hE
      have X := Lib.hid (X.out.ext hE)
      have Y := Lib.hid (Y.out.ext hE)
      have BX := Lib.hid (BX.out.ext hE)
      have BY := Lib.hid (BY.out.ext hE)
      have c0 := (hE).cell c0
      have c1 := (hE).cell c1
      clear hE FC HW1
      have HW2 := Lib.hid (Words_any n A xa xc w9 XL.out X.out)
      rw [HX4.out.1, HX4.out.2] at HW2
      have p0 := BX.out.c0
      have p1 := BX.out.c1
      go_wp2_with fail
      clear p0 p1
      refine HW2.out.mono ?_
      rintro e w10 ⟨rfl, hE⟩
      have FE := FD.trans hE
      have X := Lib.hid (X.out.ext hE)
      have Y := Lib.hid (Y.out.ext hE)
      have BX := Lib.hid (BX.out.ext hE)
      have BY := Lib.hid (BY.out.ext hE)
      have c0 := (hE).cell c0
      have c1 := (hE).cell c1
      clear hE FD HW2
      have HCH := Lib.hid (Check_any n A xa xc w10 XL.out X.out)
      rw [HX2.out] at HCH
      have p0 := BX.out.c0
      have p1 := BX.out.c1
      go_wp2_with fail
      clear p0 p1
      refine HCH.out.mono ?_
      rintro e w11 ⟨rfl, hE⟩
      have FF := FE.trans hE
      have Y := Lib.hid (Y.out.ext hE)
      have BY := Lib.hid (BY.out.ext hE)
      have c0 := (hE).cell c0
      have c1 := (hE).cell c1
      clear hE FE HCH X BX
      have p0 := BY.out.c0
      have p1 := BY.out.c1
      go_wp2_with fail
      clear p0 p1
      refine (SameQ_any n n l l ya a yc cap _ YL.out Y.out HR.out (HC.out.ext FF)).mono ?_
      rintro e w12 ⟨rfl, hE⟩
      rw [show decide ((n, l) = (n, l)) = true from by simp]
      have FG := FF.trans hE
      clear hE FF Y BY
      go_wp2_with fail
      refine (awake_any _).mono ?_
      rintro e w13 ⟨rfl, hE⟩
      go_wp2
      go_ret
      exact ⟨rfl, FG.trans hE⟩
end Go.Proofs.YtnhbogmihnnpjaaGreat
/- The arguments of the laws of sequences, opened. -/
namespace Go.Proofs.YtnhbogmihnnpjaaGreat
open Go.RowKit Go.ChangeShapes Go.WideShapes Go.Joins Go.Deep

theorem list2 {α : Type} {l : List α} (h : l.length = 2) : ∃ a b, l = [a, b] := by
  match l, h with
  | [a, b], _ => exact ⟨a, b, rfl⟩
theorem laidOut : laidOutB Tryz.prog = true := by kernel_rfl
theorem cellsOfStk : Tryz.prog.cellsOf 73 = 2 := by kernel_rfl
theorem cellsOfStp : Tryz.prog.cellsOf 87 = 2 := by kernel_rfl
theorem cellsOfInt : Tryz.prog.cellsOf 3 = 1 := by kernel_rfl
theorem cellsOfBool : Tryz.prog.cellsOf 4 = 1 := by kernel_rfl
theorem cellsOfSlk : Tryz.prog.cellsOf 66 = 1 := by kernel_rfl

section
variable {H : Type} {enc : TypeId × Value → H} {w : World} {base : Nat} {spare : Nat → Bool} {held : Bool}
theorem open_stk {fuel : Nat} {cs : List Value} {x : DataW H × List MemPlace} (h : DataW.trod enc Tryz.prog w base spare held fuel 73 cs = some x) : ∃ y : Stk, cs = [.int .i64 y.1, .bool y.2] := by
  obtain ⟨y0, y1, n, _, hl, h0, h1⟩ := trod_struct2 Tryz.underlying73 h
  rw [cellsOfStk] at hl
  obtain ⟨a, b, rfl⟩ := list2 hl
  rw [cellsOfInt] at h0
  rw [cellsOfBool] at h1
  obtain ⟨i, e0, _, w0⟩ := DataW.trod_int Tryz.underlying3 h0
  obtain ⟨j, e1, _⟩ := DataW.trod_bool Tryz.underlying4 h1
  simp at e0 e1
  subst e0; subst e1
  exact ⟨(i, j), rfl⟩
theorem open_stks {a : Addr} {len : Nat} (h : ∀ i, i < len → ∃ cs' n x, w.cells? base (a.add (i * 2)) 2 = some cs' ∧ DataW.trod enc Tryz.prog w base spare held n 73 cs' = some x) : ∃ l : List Stk, l.length = len ∧ CellsK w (some a) l := by
  have key : ∀ i, i < len → ∃ y : Stk, w.cell? (a.add (i * 2)) = some (.int .i64 y.1) ∧ w.cell? ((a.add (i * 2)).add 1) = some (.bool y.2) := fun i hi => by
    obtain ⟨cs', n, x, h1, h2⟩ := h i hi
    obtain ⟨y, rfl⟩ := open_stk h2
    obtain ⟨_, _, hc⟩ := World.cells?_some h1
    have c0 := hc 0 (by omega)
    have c1 := hc 1 (by omega)
    refine ⟨y, ?_, c1⟩
    have e : (a.add (i * 2)).add 0 = a.add (i * 2) := by simp [Addr.add]
    rw [e] at c0
    exact c0
  obtain ⟨f, hf⟩ := choose_lt (α := Stk) key
  refine ⟨(List.range len).map f, by simp, fun i hi => ?_⟩
  have hi' : i < len := by simpa using hi
  obtain ⟨h1, h2⟩ := hf i hi'
  have hp : ((List.range len).map f).getD i stk0 = f i := by simp [List.getD, hi']
  rw [hp]
  obtain ⟨b, off, spot⟩ := a
  have hs : spot = none := by
    have h0 := World.cell?_spot (hf 0 (by omega)).1
    simpa [Addr.add] using h0
  subst hs
  rw [Addr.add_lit] at h1 h2
  rw [Addr.add_lit] at h2
  exact ⟨b, off, rfl, h1, h2⟩
theorem open_slk {fuel : Nat} {v : Value} {x : DataW H × List MemPlace} (h : DataW.trod enc Tryz.prog w base spare held fuel 66 [v] = some x) : ∃ l : List Stk, SliceK w v l := by
  rcases open_slice Tryz.underlying66 h with ⟨h1, _⟩ | ⟨a, len, cap, m, n, D, Pl, h1, hb, hl, hm, hmm, _, hx⟩
  · simp at h1
    exact ⟨[], none, 0, h1, fun i hi => by simp at hi, by simp⟩
  · simp at h1
    rw [cellsOfStk] at hx
    have hlm : len ≤ m := by rw [hmm]; split <;> omega
    obtain ⟨l, hll, hc⟩ := open_stks (enc := enc) (spare := spare) (held := held) (w := w) (base := base) (a := a) (len := len) (fun i hi => by
      obtain ⟨cs', h2, h3⟩ := hx i (by omega)
      exact ⟨cs', n, _, h2, h3⟩)
    exact ⟨l, some a, cap, by rw [h1, hll], hc, by rw [hll]; omega⟩
theorem open_stp {fuel : Nat} {cs : List Value} {x : DataW H × List MemPlace} (h : DataW.trod enc Tryz.prog w base spare held fuel 87 cs = some x) : ∃ (v : Value) (y : Stp), cs = [v, .int .i64 y.2] ∧ SliceK w v y.1 := by
  obtain ⟨y0, y1, n, _, hl, h0, h1⟩ := trod_struct2 Tryz.underlying87 h
  rw [cellsOfStp] at hl
  obtain ⟨a, b, rfl⟩ := list2 hl
  rw [cellsOfInt] at h1
  rw [cellsOfSlk] at h0
  obtain ⟨i, e1, _, w0⟩ := DataW.trod_int Tryz.underlying3 h1
  obtain ⟨l, hv⟩ := open_slk (v := a) (by simpa using h0)
  simp at e1
  subst e1
  exact ⟨a, (l, i), rfl, hv⟩
theorem open_stps {a : Addr} {len : Nat} (h : ∀ i, i < len → ∃ cs' n x, w.cells? base (a.add (i * 2)) 2 = some cs' ∧ DataW.trod enc Tryz.prog w base spare held n 87 cs' = some x) : ∃ l : List Stp, l.length = len ∧ CellsP w (some a) l ∧ (0 < len → a.spot = none) := by
  have key : ∀ i, i < len → ∃ y : Value × Stp, w.cell? (a.add (i * 2)) = some y.1 ∧ w.cell? ((a.add (i * 2)).add 1) = some (.int .i64 y.2.2) ∧ SliceK w y.1 y.2.1 := fun i hi => by
    obtain ⟨cs', n, x, h1, h2⟩ := h i hi
    obtain ⟨v, y, rfl, hv⟩ := open_stp h2
    obtain ⟨_, _, hc⟩ := World.cells?_some h1
    have c0 := hc 0 (by omega)
    have c1 := hc 1 (by omega)
    refine ⟨(v, y), ?_, c1, hv⟩
    have e : (a.add (i * 2)).add 0 = a.add (i * 2) := by simp [Addr.add]
    rw [e] at c0
    exact c0
  obtain ⟨f, hf⟩ := choose_lt (α := Value × Stp) key
  have hs : 0 < len → a.spot = none := fun h0 => by
    have h0 := World.cell?_spot (hf 0 h0).1
    simpa [Addr.add] using h0
  refine ⟨(List.range len).map fun i => (f i).2, by simp, fun i hi => ?_, hs⟩
  have hi' : i < len := by simpa using hi
  obtain ⟨h1, h2, h3⟩ := hf i hi'
  have hp : ((List.range len).map fun i => (f i).2).getD i stp0 = (f i).2 := by simp [List.getD, hi']
  rw [hp]
  obtain ⟨b, off, spot⟩ := a
  have hs := hs (by omega)
  dsimp only at hs
  subst hs
  rw [Addr.add_lit] at h1 h2
  rw [Addr.add_lit] at h2
  exact ⟨b, off, _, rfl, h1, h3, h2⟩
theorem open_slp {fuel : Nat} {v : Value} {x : DataW H × List MemPlace} (h : DataW.trod enc Tryz.prog w base spare held fuel 22 [v] = some x) :
    ∃ (l : List Stp) (a : Option Addr) (cap : Nat), v = .slice a l.length cap ∧ CellsP w a l ∧ l.length ≤ maxLen ∧ Room a l.length cap := by
  rcases open_slice Tryz.underlying22 h with ⟨h1, _⟩ | ⟨a, len, cap, m, n, D, Pl, h1, hb, hl, hm, hmm, _, hx⟩
  · simp at h1
    exact ⟨[], none, 0, h1, fun i hi => by simp at hi, by simp, by simp, by simp, fun h0 => by simp at h0⟩
  · simp at h1
    rw [cellsOfStp] at hx
    have hlm : len ≤ m := by rw [hmm]; split <;> omega
    obtain ⟨l, hll, hc, hs⟩ := open_stps (enc := enc) (spare := spare) (held := held) (w := w) (base := base) (a := a) (len := len) (fun i hi => by
      obtain ⟨cs', h2, h3⟩ := hx i (by omega)
      exact ⟨cs', n, _, h2, h3⟩)
    refine ⟨l, some a, cap, by rw [h1, hll], hc, by rw [hll]; omega, by rw [hll]; exact hl, hm, fun h0 => ?_⟩
    obtain ⟨b, off, spot⟩ := a
    have := hs (by omega)
    dsimp only at this
    subst this
    exact ⟨b, off, rfl⟩
set_option maxRecDepth 100000 in
theorem open_seq {r : Reach} {b0 : Nat} {v : Value} {d : DataW H} {p : List MemPlace} (hv : Value.okWide Tryz.prog w r b0 24 v) (h : DataW.Trod enc Tryz.prog w base spare held 24 v d p) :
    ∃ (n : Int) (l : List Stp) (a : Option Addr) (cap : Nat), v = .agg #[.int .i64 n, .slice a l.length cap] ∧ CellsP w a l ∧ l.length ≤ maxLen ∧ Room a l.length cap ∧ (Lit.int .i64 n).wf = true := by
  obtain ⟨c0, c1, y0, y1, n, rfl, _, _, h0, h1⟩ := open_agg2 Tryz.underlying24 (by kernel_rfl) (by kernel_rfl) hv h
  obtain ⟨i, e0, _, w0⟩ := DataW.trod_int Tryz.underlying3 h0
  obtain ⟨l, a, cap, e1, hc, hl, hr⟩ := open_slp h1
  simp at e0
  subst e0; subst e1
  exact ⟨i, l, a, cap, rfl, hc, hl, hr, w0⟩
end
end Go.Proofs.YtnhbogmihnnpjaaGreat
