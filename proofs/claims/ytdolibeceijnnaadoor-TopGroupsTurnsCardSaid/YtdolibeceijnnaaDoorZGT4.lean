/- Steps of the proof: QBackP, QLetters, QRen1, QRen, QStdW, QRenP, QAloneP, QAlone, QOwnQ, QBackS, QRestS, Grp6, GOnc, GLng, GNed, GRn1, GRn2, GRng, QCut, QTextS. No conditions. -/
import Derived.Maps.OwnOps
import Derived.Maps.Views
import Derived.Maps.OwnSet
import Derived.Laws.EntriesVeiled
import Derived.Test.YtdolibeceijnnaaDoorZGT1
import Derived.Test.YtdolibeceijnnaaDoorZGT2
import Derived.Test.YtdolibeceijnnaaDoorZGT3
namespace Go.Proofs.YtdolibeceijnnaaDoor
open Go.RowKit
set_option maxHeartbeats 8000000 in
set_option maxRecDepth 100000 in
theorem Backwards_any (n : Int) (l : List Stp) (a : Option Addr) (cap : Nat) (w : World) (hl : l.length ≤ maxLen) (hc : CellsP w a l) :
    Calls Tryd.prog 10 #[.agg #[.int .i64 n, .slice a l.length cap]] w (SeqErr (if ckSeq (n, l) = 0 then backwards (n, l) else sq0) (ckSeq (n, l)) w) := by
  have HC := Lib.hid hc
  have HL := Lib.hid hl
  obtain ⟨er, her⟩ : ∃ er, er = ckSeq (n, l) := ⟨_, rfl⟩
  obtain ⟨s, hs⟩ : ∃ s, s = if er = 0 then backwards (n, l) else sq0 := ⟨_, rfl⟩
  rw [← her, ← hs]
  have HER := Lib.hid her
  have HS := Lib.hid hs
  unfold maxLen at hl
  have hzs : ∀ w, (zeroValue 24).run Tryd.prog w = .ok (.agg #[.int .i64 0, .slice none 0 0]) w := fun _ => by kernel_rfl
  clear hc her hs
  go_enter Tryd.func10, Tryd.ntmps10
  go_wp2_with fail
  have E1 : Ext w ((w.alloc (.cells #[.int .i64 n, .slice a l.length cap] 24)).alloc (.cells #[.int .i64 0, .slice none 0 0] 24)) := extA
  have c0 : ((w.alloc (.cells #[.int .i64 n, .slice a l.length cap] 24)).alloc (.cells #[.int .i64 0, .slice none 0 0] 24)).cell? ⟨w.heap.size, 0, none⟩ = some (.int .i64 n) := by go_simp
  have c1 : ((w.alloc (.cells #[.int .i64 n, .slice a l.length cap] 24)).alloc (.cells #[.int .i64 0, .slice none 0 0] 24)).cell? ⟨w.heap.size, 1, none⟩ = some (.slice a l.length cap) := by go_simp
  have c2 : ((w.alloc (.cells #[.int .i64 n, .slice a l.length cap] 24)).alloc (.cells #[.int .i64 0, .slice none 0 0] 24)).cell? ⟨w.heap.size + 1, 0, none⟩ = some (.int .i64 0) := by go_simp
  have c3 : ((w.alloc (.cells #[.int .i64 n, .slice a l.length cap] 24)).alloc (.cells #[.int .i64 0, .slice none 0 0] 24)).cell? ⟨w.heap.size + 1, 1, none⟩ = some (.slice none 0 0) := by go_simp
  have d2 : ((w.alloc (.cells #[.int .i64 n, .slice a l.length cap] 24)).alloc (.cells #[.int .i64 0, .slice none 0 0] 24)).frozen? ⟨w.heap.size + 1, 0, none⟩ = false := by go_simp
  have d3 : ((w.alloc (.cells #[.int .i64 n, .slice a l.length cap] 24)).alloc (.cells #[.int .i64 0, .slice none 0 0] 24)).frozen? ⟨w.heap.size + 1, 1, none⟩ = false := by go_simp
  generalize ((w.alloc (.cells #[.int .i64 n, .slice a l.length cap] 24)).alloc (.cells #[.int .i64 0, .slice none 0 0] 24)) = W at E1 c0 c1 c2 c3 d2 d3 ⊢
  refine (Check_any n l a cap _ HL.out (HC.out.ext E1)).mono ?_
  rintro e w1 ⟨rfl, hE⟩
  rw [← HER.out]
  have E2 := E1.trans hE
  have d2 := (Below.frozen (p := ⟨w.heap.size + 1, 0, none⟩) hE (cell_lt c2)).trans d2
  have d3 := (Below.frozen (p := ⟨w.heap.size + 1, 1, none⟩) hE (cell_lt c3)).trans d3
  have c0 := hE.cell c0
  have c1 := hE.cell c1
  have c2 := hE.cell c2
  have c3 := hE.cell c3
  clear hE
  by_cases h0 : er = 0
  · subst h0
    have hck := HER.out.symm
    have hl64 := (ckSeq_zero hck).2.2.2.1
    have HFU := Lib.hid (ckSeq_full hck)
    have hs := HS.out
    rw [if_pos rfl] at hs
    have HS2 := Lib.hid hs
    have zw := cell_lt c0
    dsimp only at zw
    clear hck hs HS
    go_wp2_with fail
    have EN : Ext w1 (w1.alloc (.cells #[.int .i64 (l.length : Int)] 3)) := extA
    have n0 : (w1.alloc (.cells #[.int .i64 (l.length : Int)] 3)).cell? ⟨w1.heap.size, 0, none⟩ = some (.int .i64 (l.length : Int)) := by go_simp
    have f0 := EN.cell c1
    generalize w1.alloc (.cells #[.int .i64 (l.length : Int)] 3) = w2 at EN n0 f0 ⊢
    refine (mapped_own n l a cap w2 32 #[.pointer (some ⟨w.heap.size, 0, none⟩), .pointer (some ⟨w1.heap.size, 0, none⟩)] (fun k _ => backStep (n, l) k) (by omega) HFU.out (HC.out.ext (E2.trans EN)) (enters_of Tryd.func32 (by kernel_rfl) rfl) (fun k v w' hk hE ho _ => back1_any n l k v _ a cap w.heap.size w1.heap.size w' hl64 hk HFU.out (HC.out.ext ((E2.trans EN).trans hE)) (hE.cell f0) (hE.cell n0))).mono ?_
    rintro e w3 ⟨o, ov, ho, rfl, hv, hob, hE⟩
    obtain ⟨ML, hML⟩ : ∃ ML, ML = mapK (fun k _ => backStep (n, l) k) l l.length := ⟨_, rfl⟩
    dsimp only at hv ⊢
    rw [← hML] at hv
    obtain ⟨ua, uc, rfl, _, _⟩ := hv.reads
    have HV := Lib.hid hv
    have HOB := Lib.hid hob
    have HML := Lib.hid hML
    have E3 := EN.trans hE
    have d2 := (Below.frozen (p := ⟨w.heap.size + 1, 0, none⟩) E3 (cell_lt c2)).trans d2
    have d3 := (Below.frozen (p := ⟨w.heap.size + 1, 1, none⟩) E3 (cell_lt c3)).trans d3
    have z2 : w.heap.size + 1 < w2.heap.size := cell_lt (EN.cell c2)
    have c2 := E3.cell c2
    have c3 := E3.cell c3
    clear hv hob hML
    have EF : Ext w ((w3.setCell ⟨w.heap.size + 1, 0, none⟩ (.int .i64 n)).setCell ⟨w.heap.size + 1, 1, none⟩ (.slice ua ML.length uc)) := ((E2.trans E3).set (by omega) _).set (by omega) _
    have HSV : Hid (SeqV ((w3.setCell ⟨w.heap.size + 1, 0, none⟩ (.int .i64 n)).setCell ⟨w.heap.size + 1, 1, none⟩ (.slice ua ML.length uc)) (.agg #[.int .i64 n, .slice ua ML.length uc]) s) := by
      have cc : Chg (fun b => b ≤ o) w3 ((w3.setCell ⟨w.heap.size + 1, 0, none⟩ (.int .i64 n)).setCell ⟨w.heap.size + 1, 1, none⟩ (.slice ua ML.length uc)) :=
        (Chg.setCell (B := fun b => b ≤ o) ⟨w.heap.size + 1, 0, none⟩ _ (by show w.heap.size + 1 ≤ o; omega)).trans (Chg.setCell (B := fun b => b ≤ o) ⟨w.heap.size + 1, 1, none⟩ _ (by show w.heap.size + 1 ≤ o; omega))
      have h1 := (HV.out.chg cc (fun b' hb' e => by have := HOB.out b' hb'; omega)).reads
      show SeqV _ _ _
      rw [HS2.out, show backwards (n, l) = (n, ML) from by rw [HML.out]; rfl]
      exact ⟨_, rfl, h1⟩
    go_wp2
    exact bodyPost_ret (v := .tuple #[.agg #[.int .i64 n, .slice ua ML.length uc], .int .i64 0]) (by rw [results_cell_tmp1 rfl]; go_simp) rfl ⟨_, rfl, HSV.out, EF⟩
  · have hn : (er != 0) = true := by simp [h0]
    have hs := HS.out
    rw [if_neg h0] at hs
    subst hs
    have EF : Ext w ((w1.setCell ⟨w.heap.size + 1, 0, none⟩ (.int .i64 0)).setCell ⟨w.heap.size + 1, 1, none⟩ (.slice none 0 0)) := (E2.set (by omega) _).set (by omega) _
    clear h0 HS
    go_wp2
    exact bodyPost_ret (v := .tuple #[.agg #[.int .i64 0, .slice none 0 0], .int .i64 er]) (by rw [results_cell_tmp1 rfl]; go_simp) rfl ⟨_, rfl, seqV_zero _, EF⟩
end Go.Proofs.YtdolibeceijnnaaDoor
namespace Go.Proofs.YtdolibeceijnnaaDoor
open Go.RowKit
open Go.Maps
def MapAt (w : World) (b m : Nat) (f : Int → Int) : Prop :=
  ∃ D : DataW Unit, w.ownsMap Tryd.prog 3 (plainElem Tryd.prog 3) b m D ∧ IsMap D ∧ ∀ a : Int, D.atKey (.int .i64 a) (.lit (.int .i64 0)) = .lit (.int .i64 (f a))
theorem MapAt.new (w : World) : MapAt (w.alloc (.map #[] 0)) w.heap.size 0 (listFn []) :=
  ⟨.map [], World.ownsMap_made w _ _ _, ⟨[], rfl⟩, fun a => by
    have : listFn [] a = 0 := by unfold listFn; simp
    rw [this]; rfl⟩
end Go.Proofs.YtdolibeceijnnaaDoor
namespace Go.Proofs.YtdolibeceijnnaaDoor
open Go.RowKit
open Go.Maps
theorem MapAt.same {A B : World} {b m : Nat} {f : Int → Int} (h : MapAt A b m f) (e : B.heap[b]? = A.heap[b]?) : MapAt B b m f := by
  obtain ⟨D, ⟨es, ck, h1, h2, h3, h4⟩, h5, h6⟩ := h
  exact ⟨D, ⟨es, ck, e.trans h1, h2, h3, h4⟩, h5, h6⟩
theorem MapAt.lt {A : World} {b m : Nat} {f : Int → Int} (h : MapAt A b m f) : b < A.heap.size := by
  obtain ⟨D, h1, _⟩ := h
  exact h1.lt
theorem MapAt.ext {A B : World} {b m : Nat} {f : Int → Int} (h : MapAt A b m f) (k : Ext A B) : MapAt B b m f := h.same (Below.block k b h.lt)
theorem Own1.cell {n : Nat} {A B : World} (h : Own1 n A B) {p : Addr} {v : Value} (hp : p.block ≠ n) (hc : A.cell? p = some v) : B.cell? p = some v :=
  (World.cell?_of_block (h.2 p.block (cell_lt hc) hp)).trans hc
theorem Own1.frozen {n : Nat} {A B : World} (h : Own1 n A B) {p : Addr} {v : Value} (hp : p.block ≠ n) (hc : A.cell? p = some v) : B.frozen? p = A.frozen? p :=
  World.frozen?_of_block (h.2 p.block (cell_lt hc) hp)
end Go.Proofs.YtdolibeceijnnaaDoor
namespace Go.Proofs.YtdolibeceijnnaaDoor
open Go.RowKit
open Go.Maps
end Go.Proofs.YtdolibeceijnnaaDoor
namespace Go.Proofs.YtdolibeceijnnaaDoor
open Go.RowKit
open Go.Maps
theorem IntsAt.cells {A : World} {b : Nat} {l : List Int} (h : IntsAt A b l) : CellsI A (some ⟨b, 0, none⟩) l := fun i hi => ⟨b, 0, rfl, by rw [Nat.zero_add]; exact (h i hi).1⟩
theorem IntsAt.own1 {n b : Nat} {A B : World} {d : List Int} (h : IntsAt A b d) (k : Own1 n A B) (hb : b ≠ n) : IntsAt B b d := fun i hi => by
  obtain ⟨h1, h2⟩ := h i hi
  exact ⟨k.cell (p := ⟨b, i, none⟩) hb h1, (k.frozen (p := ⟨b, i, none⟩) hb h1).trans h2⟩
end Go.Proofs.YtdolibeceijnnaaDoor
namespace Go.Proofs.YtdolibeceijnnaaDoor
open Go.RowKit
structure Bij (P : Int → Prop) (n : Int) (f g : Int → Int) : Prop where
  rng : ∀ a, P a → 0 ≤ f a ∧ f a < n
  gp : ∀ a, 0 ≤ a ∧ a < n → P (g a)
  gf : ∀ a, P a → g (f a) = a
  fg : ∀ a, 0 ≤ a ∧ a < n → f (g a) = a
theorem Bij.inj {P : Int → Prop} {n : Int} {f g : Int → Int} (h : Bij P n f g) {a b : Int} (ha : P a) (hb : P b) (e : f a = f b) : a = b := by
  rw [← h.gf a ha, ← h.gf b hb, e]
def In (n : Int) (a : Int) : Prop := 0 ≤ a ∧ a < n
def FineP (P : Int → Prop) (x : Stp) : Prop := ckStep x = 0 ∧ ∀ y ∈ x.1, P y.1
theorem FineP.asc {P : Int → Prop} {x : Stp} (h : FineP P x) : Asc x.1 := (ckStrokes_asc (ckStep_strokes h.1).1).1
theorem FineP.diff {P : Int → Prop} {x : Stp} (h : FineP P x) : Diff x.1 := h.asc.diff
theorem Fine.all {n : Int} {l : List Stp} (h : Fine n l) : ∀ x ∈ l, FineP (In n) x := fun x hx => by
  obtain ⟨k, hk, e⟩ := List.mem_iff_getElem.1 hx
  obtain ⟨h1, h2⟩ := h k hk
  rw [List.getD_eq_getElem?_getD, List.getElem?_eq_getElem hk] at h1 h2
  have h1 : ckStep l[k] = 0 := h1
  have h2 : ∀ j, j < (l[k]).1.length → 0 ≤ ((l[k]).1.getD j stk0).1 ∧ ((l[k]).1.getD j stk0).1 < n := h2
  rw [e] at h1 h2
  refine ⟨h1, fun y hy => ?_⟩
  obtain ⟨j, hj, e⟩ := List.mem_iff_getElem.1 hy
  have := h2 j hj
  rw [List.getD_eq_getElem?_getD, List.getElem?_eq_getElem hj] at this
  rw [← e]; exact this
theorem ckStep_of {x : Stp} (h1 : 0 < x.1.length) (h2 : x.1.length ≤ 6) (h3 : ckStrokes (-1) x.1 = 0) (h4 : 0 ≤ x.2 ∧ x.2 ≤ 1000000) : ckStep x = 0 := by
  unfold ckStep
  rw [if_neg (by omega), if_neg (by omega), if_neg (by simp [h3]), if_neg (by omega)]
section
variable {P : Int → Prop} {n : Int} {f g : Int → Int}
theorem movesIn_iff (a : Int) (x : Stp) : movesIn a x = true ↔ ∃ y ∈ x.1, y.1 = a := by
  unfold movesIn
  rw [List.any_eq_true]
  constructor
  · rintro ⟨y, hy, e⟩; exact ⟨y, hy, by simpa using e⟩
  · rintro ⟨y, hy, e⟩; exact ⟨y, hy, by simpa using e⟩
theorem bool_iff {a b : Bool} (h : a = true ↔ b = true) : a = b := by cases a <;> cases b <;> simp_all
theorem beh_cons (e : Int → Bool) (y : Stk) (l : List Stk) : beh e (y :: l) = beh (fun i => if i = y.1 then y.2 else e i) l := rfl
theorem beh_not {e : Int → Bool} {l : List Stk} {a : Int} (h : ∀ y ∈ l, y.1 ≠ a) : beh e l a = e a := by
  induction l generalizing e with
  | nil => rfl
  | cons y l ih =>
    rw [beh_cons, ih fun y hy => h y (List.mem_cons_of_mem _ hy)]
    exact if_neg fun e => h y (List.mem_cons_self ..) e.symm
theorem beh_mem {e : Int → Bool} {l : List Stk} (hd : Diff l) {y : Stk} (hy : y ∈ l) : beh e l y.1 = y.2 := by
  induction l generalizing e with
  | nil => cases hy
  | cons z l ih =>
    obtain ⟨h1, h2⟩ := List.pairwise_cons.1 hd
    rw [beh_cons]
    rcases List.mem_cons.1 hy with rfl | hy
    · rw [beh_not fun z hz e => h1 z hz e.symm]
      exact if_pos rfl
    · exact ih h2 hy
theorem ckFit_iff {m : Int} {x : Stp} {e : Int → Bool} : ckFit m x e = 0 ↔ ckStep x = 0 ∧ (∀ y ∈ x.1, y.1 < m) ∧ ∀ y ∈ x.1, e y.1 = !y.2 := by
  unfold ckFit
  by_cases h1 : ckStep x = 0
  · rw [if_neg (by simp [h1])]
    cases h2 : anyHigh m x.1
    · have h2' : ∀ y ∈ x.1, y.1 < m := fun y hy => by
        have := (List.any_eq_false.1 h2) y hy
        simp at this; omega
      cases h3 : anySame e x.1
      · refine ⟨fun _ => ⟨h1, h2', fun y hy => ?_⟩, fun _ => rfl⟩
        have := (List.any_eq_false.1 h3) y hy
        cases ha : e y.1 <;> cases hb : y.2 <;> simp_all
      · refine ⟨fun h => by simp at h, fun ⟨_, _, h⟩ => ?_⟩
        obtain ⟨y, hy, hh⟩ := List.any_eq_true.1 h3
        rw [h y hy] at hh
        cases hb : y.2 <;> rw [hb] at hh <;> cases hh
    · refine ⟨fun h => by simp at h, fun ⟨_, h, _⟩ => ?_⟩
      obtain ⟨y, hy, hh⟩ := List.any_eq_true.1 h2
      have := h y hy
      simp at hh; omega
  · rw [if_pos h1]
    exact ⟨fun h => absurd h h1, fun h => absurd h.1 h1⟩
theorem ckWalk_iff {m : Int} {e : Int → Bool} {x : Stp} {l : List Stp} : ckWalk m e (x :: l) = 0 ↔ ckFit m x e = 0 ∧ ckWalk m (beh e x.1) l = 0 := by
  show (if ckFit m x e ≠ 0 then ckFit m x e else ckWalk m (beh e x.1) l) = 0 ↔ _
  by_cases h : ckFit m x e = 0
  · rw [if_neg (by simp [h])]; exact ⟨fun k => ⟨h, k⟩, fun k => k.2⟩
  · rw [if_pos h]; exact ⟨fun k => absurd k h, fun k => absurd k.1 h⟩
theorem behAll_cons (e : Int → Bool) (x : Stp) (l : List Stp) : behAll e (x :: l) = behAll (beh e x.1) l := rfl
theorem movedIn_iff (a : Int) (l : List Stp) : movedIn a l = true ↔ ∃ x ∈ l, movesIn a x = true := by
  unfold movedIn
  exact List.any_eq_true
theorem ints_all (p : Int → Bool) (m : Int) : (ints m).any p = false ↔ ∀ a, 0 ≤ a ∧ a < m → p a = false := by
  rw [List.any_eq_false]
  constructor
  · intro h a ha; have := h a (ints_mem.2 ha); simpa using this
  · intro h a ha; simp [h a (ints_mem.1 ha)]
theorem ckSeq_of {m : Int} {l : List Stp} (h1 : 1 ≤ m ∧ m ≤ 6) (h2 : 0 < l.length ∧ l.length ≤ 64) (h3 : ckWalk m none6 l = 0) (h4 : ∀ a, 0 ≤ a ∧ a < m → behAll none6 l a = false) (h5 : ∀ a, 0 ≤ a ∧ a < m → movedIn a l = true) : ckSeq (m, l) = 0 := by
  have h4' := (ints_all (behAll none6 l) m).2 h4
  have h5' : (ints m).any (fun a => !movedIn a l) = false := (ints_all _ m).2 fun a ha => by rw [h5 a ha]; rfl
  unfold ckSeq
  dsimp only
  rw [if_neg (by omega), if_neg (by omega), if_neg (by omega), if_neg (by simp [h3]), h4', h5']
  rfl
structure Right (m : Int) (l : List Stp) : Prop where
  act : 1 ≤ m ∧ m ≤ 6
  len : 0 < l.length ∧ l.length ≤ 64
  walk : ckWalk m none6 l = 0
  back : ∀ a, 0 ≤ a ∧ a < m → behAll none6 l a = false
  moved : ∀ a, 0 ≤ a ∧ a < m → movedIn a l = true
theorem ckSeq_right {m : Int} {l : List Stp} (h : ckSeq (m, l) = 0) : Right m l := by
  obtain ⟨h1, h2, h3, h4, h5, h6, h7⟩ := ckSeq_zero h
  refine ⟨⟨h1, h2⟩, ⟨h3, h4⟩, h5, (ints_all _ _).1 h6, fun a ha => ?_⟩
  have := (ints_all _ _).1 h7 a ha
  simpa using this
theorem Right.fine {m : Int} {l : List Stp} (h : Right m l) : ∀ x ∈ l, FineP (In m) x := (ckWalk_fine h.walk).all
end
end Go.Proofs.YtdolibeceijnnaaDoor
namespace Go.Proofs.YtdolibeceijnnaaDoor
open Go.RowKit
def aloneFn (l : List Stp) (k : Nat) (a : Int) : Int := if (0 ≤ a ∧ a < (k : Int)) ∧ movedIn a l = true then partFn l a else 0
theorem aloneFn_zero (l : List Stp) (a : Int) : aloneFn l 0 a = 0 := by unfold aloneFn; rw [if_neg (by omega)]
theorem getD_mem {α : Type} {l : List α} {k : Nat} (d : α) (h : k < l.length) : l.getD k d ∈ l := by
  rw [List.getD_eq_getElem?_getD, List.getElem?_eq_getElem h]; exact List.getElem_mem h
theorem mem_getD {α : Type} {l : List α} {x : α} (d : α) (h : x ∈ l) : ∃ k, k < l.length ∧ l.getD k d = x := by
  obtain ⟨k, hk, e⟩ := List.mem_iff_getElem.1 h
  exact ⟨k, hk, by rw [List.getD_eq_getElem?_getD, List.getElem?_eq_getElem hk]; exact e⟩
end Go.Proofs.YtdolibeceijnnaaDoor
namespace Go.Proofs.YtdolibeceijnnaaDoor
open Go.RowKit
open Go.Maps
def AlMap (w : World) (b : Nat) (l : List Stp) (k : Nat) : Prop :=
  ∃ D : DataW Unit, w.ownsMap Tryd.prog 3 (plainElem Tryd.prog 3) b k D ∧ Tidy D ∧ (Maps.size D : Int) = partFn l (k : Int) ∧ (∀ a : Int, (k : Int) ≤ a → has D (.int .i64 a) = false) ∧ ∀ a : Int, D.atKey (.int .i64 a) (.lit (.int .i64 0)) = .lit (.int .i64 (aloneFn l k a))
theorem AlMap.new (w : World) (l : List Stp) : AlMap (w.alloc (.map #[] 0)) w.heap.size l 0 :=
  ⟨.map [], World.ownsMap_made w _ _ _, tidy_empty, rfl, fun _ _ => rfl, fun a => by rw [aloneFn_zero]; rfl⟩
theorem AlMap.same {A B : World} {b k : Nat} {l : List Stp} (h : AlMap A b l k) (e : B.heap[b]? = A.heap[b]?) : AlMap B b l k := by
  obtain ⟨D, ⟨es, ck, h1, h2, h3, h4⟩, h5⟩ := h
  exact ⟨D, ⟨es, ck, e.trans h1, h2, h3, h4⟩, h5⟩
theorem AlMap.lt {A : World} {b k : Nat} {l : List Stp} (h : AlMap A b l k) : b < A.heap.size := by
  obtain ⟨D, h1, _⟩ := h
  exact h1.lt
theorem AlMap.ext {A B : World} {b m : Nat} {l : List Stp} (h : AlMap A b l m) (k : Ext A B) : AlMap B b l m := h.same (Below.block k b h.lt)
theorem AlMap.map {A : World} {b k : Nat} {l : List Stp} (h : AlMap A b l k) : MapAt A b k (aloneFn l k) := by
  obtain ⟨D, h1, h2, _, _, h5⟩ := h
  exact ⟨D, h1, h2.isMap, h5⟩
end Go.Proofs.YtdolibeceijnnaaDoor
namespace Go.Proofs.YtdolibeceijnnaaDoor
open Go.RowKit
def QU (X : Nat → Prop) (w : World) (u : Value) (l : List Stp) : Prop := OwnsP X w u l ∧ ∀ b, u.ownBlock = some b → ¬ X b
theorem QU.chg {X : Nat → Prop} {A B : World} {u : Value} {l : List Stp} (h : QU X A u l) (c : Chg X A B) : QU X B u l := ⟨h.1.chg c h.2, h.2⟩
theorem QU.mono {X Y : Nat → Prop} {A : World} {u : Value} {l : List Stp} (h : QU X A u l) (k : ∀ b, Y b → X b) : QU Y A u l := ⟨h.1.mono k, fun b hb hy => h.2 b hb (k b hy)⟩
theorem OwnsP.lt {X : Nat → Prop} {A : World} {u : Value} {l : List Stp} (h : OwnsP X A u l) {b : Nat} (hb : u.ownBlock = some b) : b < A.heap.size := by
  obtain ⟨ps, h1, h2, h3⟩ := h
  exact rowLt h2 hb
theorem QU.up {X : Nat → Prop} {A : World} {u : Value} {l : List Stp} (h : QU X A u l) : QU (fun b => X b ∨ A.heap.size ≤ b) A u l :=
  ⟨h.1.up, fun b hb hx => by
    rcases hx with hx | hx
    · exact h.2 b hb hx
    · have := h.1.lt hb; omega⟩
def pairQ (ps : List (Value × Sq)) : List (Value × Value) := ps.map fun p => (.int .i64 p.2.1, p.1)
def OwnsQ (w : World) (v : Value) (ys : List Sq) : Prop :=
  ∃ ps : List (Value × Sq), ps.map (·.2) = ys ∧ w.ownsRow 0 24 2 v ys.length (flat2 (pairQ ps)) ∧ ∀ p ∈ ps, QU (fun b => v.ownBlock = some b) w p.1 p.2.2
theorem OwnsQ.nil (w : World) : OwnsQ w (.slice none 0 0) [] := ⟨[], rfl, World.ownsRow_nil w 0 _ _, fun p hp => by cases hp⟩
theorem OwnsQ.ext {A B : World} {v : Value} {ys : List Sq} (h : OwnsQ A v ys) (k : Ext A B) : OwnsQ B v ys := by
  obtain ⟨ps, h1, h2, h3⟩ := h
  exact ⟨ps, h1, rowExt h2 k, fun p hp => (h3 p hp).chg (Chg.ext k)⟩
theorem OwnsQ.reads {A : World} {v : Value} {ys : List Sq} (h : OwnsQ A v ys) : ∃ a cap, v = .slice a ys.length cap ∧ CellsQ A a ys ∧ ys.length ≤ maxLen := by
  obtain ⟨ps, h1, h2, h3⟩ := h
  obtain ⟨a, cap, hv, hm, hr⟩ := rowReads h2
  refine ⟨a, cap, hv, fun i hi => ?_, hm⟩
  have hl : ps.length = ys.length := by rw [← h1]; simp
  have hi' : i < (pairQ ps).length := by simp [pairQ]; omega
  have hip : i < ps.length := by omega
  have hg := flat2_get (pairQ ps) i hi'
  have e1 : (pairQ ps)[i].1 = .int .i64 ps[i].2.1 := by simp [pairQ]
  have e2 : (pairQ ps)[i].2 = ps[i].1 := by simp [pairQ]
  rw [e1, e2] at hg
  have ey : ys.getD i sq0 = ps[i].2 := by rw [← h1]; simp [List.getD, hip]
  obtain ⟨b, hb, _, g1, _⟩ := hr _ _ hg.1
  obtain ⟨b', hb', _, g2, _⟩ := hr _ _ hg.2
  rw [hb] at hb'
  cases hb'
  refine ⟨b, 0, ps[i].1, hb, ?_, ?_, ?_⟩
  · rw [ey, Nat.zero_add]; exact g1
  · rw [Nat.zero_add]; exact g2
  · rw [ey]; exact (h3 _ (List.getElem_mem hip)).1.reads
theorem OwnsQ.app {A B : World} {v v' : Value} {ys : List Sq} {u : Value} {y : Sq} (h : OwnsQ A v ys) (hu : QU (fun b => v.ownBlock = some b) A u y.2)
    (hown : B.ownsRow 0 24 2 v' (ys.length + 1) (flat2 (pairQ (Classical.choose h)) ++ [.int .i64 y.1, u])) (he : AppEnd A B v v') : OwnsQ B v' (ys ++ [y]) := by
  obtain ⟨h1, h2, h3⟩ := Classical.choose_spec h
  refine ⟨Classical.choose h ++ [(u, y)], by rw [List.map_append, h1]; rfl, ?_, ?_⟩
  · unfold pairQ at hown ⊢
    rw [List.length_append, List.map_append, flat2_append]
    exact hown
  · have c : Chg (fun b => v.ownBlock = some b ∨ A.heap.size ≤ b) A B := (Chg.app (B := fun b => v.ownBlock = some b) he (fun b hb => hb)).mono (fun b h => .inl h)
    have hy : ∀ b, v'.ownBlock = some b → v.ownBlock = some b ∨ A.heap.size ≤ b := he.chg.2.2
    intro p hp
    rcases List.mem_append.1 hp with hp | hp
    · exact ((h3 p hp).up.chg c).mono hy
    · rcases List.mem_singleton.1 hp with rfl
      exact (hu.up.chg c).mono hy
theorem CellsQ.nil (w : World) (a : Option Addr) : CellsQ w a [] := fun i hi => by simp at hi
theorem pauses_in {s : Sq} {k : Nat} (h : k < (pauses s).length) : 0 ≤ (pauses s).getD k 0 ∧ (pauses s).getD k 0 < (s.2.length : Int) := by
  have := getD_mem 0 h
  unfold pauses at this
  exact ints_mem.1 (List.mem_filter.1 this).1
theorem pauses_le (s : Sq) : (pauses s).length ≤ s.2.length := by
  unfold pauses
  refine Nat.le_trans (List.length_filter_le _ _) ?_
  rw [ints_length]; omega
theorem Fine.of_mem {n : Int} {l m : List Stp} (h : Fine n l) (k : ∀ x ∈ m, x ∈ l) : Fine n m := fun i hi => by
  have hm := k _ (getD_mem stp0 hi)
  obtain ⟨j, hj, e⟩ := mem_getD stp0 hm
  rw [← e]
  exact h j hj
theorem Fine.part {n : Int} {l : List Stp} (h : Fine n l) (e k : Nat) : Fine n ((l.take e).drop k) := h.of_mem fun _x hx => List.mem_of_mem_take (List.mem_of_mem_drop hx)
end Go.Proofs.YtdolibeceijnnaaDoor
namespace Go.Proofs.YtdolibeceijnnaaDoor
open Go.RowKit
theorem behAll_not {e : Int → Bool} {l : List Stp} {a : Int} (h : ∀ x ∈ l, movesIn a x = false) : behAll e l a = e a := by
  induction l generalizing e with
  | nil => rfl
  | cons x l ih =>
    rw [behAll_cons, ih fun y hy => h y (List.mem_cons_of_mem _ hy)]
    refine beh_not fun y hy ee => ?_
    have := (movesIn_iff a x).2 ⟨y, hy, ee⟩
    rw [h x (List.mem_cons_self ..)] at this; cases this
theorem behAll_append (e : Int → Bool) (l q : List Stp) : behAll e (l ++ q) = behAll (behAll e l) q := List.foldl_append
theorem ckWalk_append {m : Int} {e : Int → Bool} {l q : List Stp} : ckWalk m e (l ++ q) = 0 ↔ ckWalk m e l = 0 ∧ ckWalk m (behAll e l) q = 0 := by
  induction l generalizing e with
  | nil => exact ⟨fun h => ⟨rfl, h⟩, fun h => h.2⟩
  | cons x l ih =>
    rw [List.cons_append, ckWalk_iff, ckWalk_iff, ih, behAll_cons]
    exact ⟨fun h => ⟨⟨h.1, h.2.1⟩, h.2.2⟩, fun h => ⟨h.1.1, h.1.2, h.2⟩⟩
theorem Right.notIn {m : Int} {l : List Stp} (h : Right m l) {a : Int} (ha : ¬ In m a) : ∀ x ∈ l, movesIn a x = false := fun x hx => by
  cases hm : movesIn a x
  · rfl
  · obtain ⟨y, hy, rfl⟩ := (movesIn_iff a x).1 hm
    exact absurd ((h.fine x hx).2 y hy) ha
theorem Right.none {m : Int} {l : List Stp} (h : Right m l) : behAll none6 l = none6 := by
  funext a
  by_cases ha : In m a
  · exact h.back a ha
  · exact behAll_not (h.notIn ha)
theorem Right.ck {m : Int} {l : List Stp} (h : Right m l) : ckSeq (m, l) = 0 := ckSeq_of h.act h.len h.walk h.back h.moved
theorem rests_none {m : Int} {l : List Stp} (h : Right m l) {k : Nat} : restsAt (m, l) k = true ↔ behAll none6 (l.take k) = none6 := by
  unfold restsAt
  rw [List.all_eq_true]
  constructor
  · intro hr
    funext a
    by_cases ha : In m a
    · have := hr a (ints_mem.2 ha)
      have h2 : behAll none6 (l.take k) a = false := by simpa using this
      exact h2
    · exact behAll_not fun x hx => h.notIn ha x (List.mem_of_mem_take hx)
  · intro hr a _
    dsimp only
    rw [hr]; rfl
theorem turned_right {m : Int} {l : List Stp} (h : Right m l) {k : Nat} (hk : behAll none6 (l.take k) = none6) : Right m (l.drop k ++ l.take k) := by
  have hw := h.walk
  rw [← List.take_append_drop k l] at hw
  obtain ⟨w1, w2⟩ := ckWalk_append.1 hw
  rw [hk] at w2
  have hn := h.none
  have hd : behAll none6 (l.drop k) = none6 := by
    rw [← List.take_append_drop k l, behAll_append, hk] at hn; exact hn
  refine ⟨h.act, by rw [List.length_append, List.length_drop, List.length_take]; have := h.len; omega, ckWalk_append.2 ⟨w2, by rw [hd]; exact w1⟩, fun a _ => by rw [behAll_append, hd, hk]; rfl, fun a ha => ?_⟩
  obtain ⟨x, hx, hm⟩ := (movedIn_iff a l).1 (h.moved a ha)
  refine (movedIn_iff a _).2 ⟨x, ?_, hm⟩
  rw [← List.take_append_drop k l] at hx
  rcases List.mem_append.1 hx with hx | hx
  · exact List.mem_append.2 (.inr hx)
  · exact List.mem_append.2 (.inl hx)
theorem drop_none {m : Int} {l : List Stp} (h : Right m l) {k : Nat} (hk : behAll none6 (l.take k) = none6) : behAll none6 (l.drop k) = none6 := by
  have hn := h.none
  rw [← List.take_append_drop k l, behAll_append, hk] at hn; exact hn
theorem turned_back (m : Int) (l : List Stp) {k : Nat} (hk : k < l.length) : turned (turned (m, l) k) ((l.length - k) % l.length) = (m, l) := by
  unfold turned
  dsimp only
  congr 1
  by_cases h0 : k = 0
  · subst h0
    rw [Nat.sub_zero, Nat.mod_self]
    simp
  · rw [Nat.mod_eq_of_lt (by omega)]
    have e1 : (l.drop k).length = l.length - k := List.length_drop
    rw [← e1, List.drop_left, List.take_left, List.take_append_drop]
theorem turned_rests {m : Int} {l : List Stp} (h : Right m l) {k : Nat} (hk : k < l.length) (hr : behAll none6 (l.take k) = none6) : fromE (turned (m, l) k) (((l.length - k) % l.length : Nat) : Int) = 0 := by
  have ht := turned_right h hr
  have hlen : (l.drop k ++ l.take k).length = l.length := by rw [List.length_append, List.length_drop, List.length_take]; omega
  unfold fromE turned
  dsimp only
  rw [hlen, if_neg (by simp [ht.ck]), if_neg (by have := Nat.mod_lt (l.length - k) (show 0 < l.length by omega); omega), if_pos]
  rw [rests_none ht]
  show behAll none6 ((l.drop k ++ l.take k).take ((l.length - k) % l.length)) = none6
  by_cases h0 : k = 0
  · subst h0
    rw [Nat.sub_zero, Nat.mod_self]; rfl
  · rw [Nat.mod_eq_of_lt (by omega)]
    have e1 : (l.drop k).length = l.length - k := List.length_drop
    rw [← e1, List.take_left]
    exact drop_none h hr
theorem flip_ck (z : Int) (l : List Stk) : ckStrokes z (flipAll l) = ckStrokes z l := by
  induction l generalizing z with
  | nil => rfl
  | cons y l ih =>
    show ckStrokes z ((y.1, !y.2) :: flipAll l) = _
    unfold ckStrokes
    rw [ih]
theorem flip_len (l : List Stk) : (flipAll l).length = l.length := by unfold flipAll; exact List.length_map ..
theorem flip_mem (z : Stk) (l : List Stk) : z ∈ flipAll l ↔ (z.1, !z.2) ∈ l := by
  unfold flipAll
  rw [List.mem_map]
  constructor
  · rintro ⟨y, hy, rfl⟩; simpa using hy
  · intro h; exact ⟨_, h, by simp⟩
theorem rev_split {l q : List Stp} {x : Stp} (h : q.map (·.1) = ((x :: l).map fun x => flipAll x.1).reverse) : ∃ q1 y, q = q1 ++ [y] ∧ q1.map (·.1) = (l.map fun x => flipAll x.1).reverse ∧ y.1 = flipAll x.1 := by
  rw [List.map_cons, List.reverse_cons] at h
  obtain ⟨q1, q2, rfl, h1, h2⟩ := List.map_eq_append_iff.1 h
  cases q2 with
  | nil => cases h2
  | cons y r =>
    cases r with
    | nil => exact ⟨q1, y, rfl, h1, by simpa using h2⟩
    | cons u r => simp at h2
theorem rev_walk {m : Int} {l : List Stp} : ∀ {e : Int → Bool} {q : List Stp}, ckWalk m e l = 0 → q.map (·.1) = (l.map fun x => flipAll x.1).reverse → (∀ x ∈ q, 0 ≤ x.2 ∧ x.2 ≤ 1000000) → ckWalk m (behAll e l) q = 0 ∧ ∀ a, behAll (behAll e l) q a = e a := by
  induction l with
  | nil =>
    intro e q _ hq _
    have : q = [] := by simpa using hq
    subst this
    exact ⟨rfl, fun a => rfl⟩
  | cons x l ih =>
    intro e q hw hq hz
    obtain ⟨q1, y, rfl, hq1, hy⟩ := rev_split hq
    obtain ⟨h1, h2⟩ := ckWalk_iff.1 hw
    obtain ⟨k1, k2, k3⟩ := ckFit_iff.1 h1
    have hs := ckStep_strokes k1
    have hd : Diff x.1 := (ckStrokes_asc hs.1).1.diff
    obtain ⟨i1, i2⟩ := ih (e := beh e x.1) h2 hq1 fun z hz' => hz z (List.mem_append.2 (.inl hz'))
    have hyw := hz y (List.mem_append.2 (.inr (List.mem_cons_self ..)))
    have hdy : Diff y.1 := by rw [hy]; unfold flipAll Diff; rw [List.pairwise_map]; exact hd
    rw [behAll_cons]
    refine ⟨ckWalk_append.2 ⟨i1, ckWalk_iff.2 ⟨ckFit_iff.2 ⟨ckStep_of (by rw [hy, flip_len]; omega) (by rw [hy, flip_len]; omega) (by rw [hy, flip_ck]; exact hs.1) hyw, fun z hz' => ?_, fun z hz' => ?_⟩, rfl⟩⟩, fun a => ?_⟩
    · rw [hy, flip_mem] at hz'
      exact k2 (z.1, !z.2) hz'
    · rw [hy, flip_mem] at hz'
      rw [i2]
      exact beh_mem hd (y := (z.1, !z.2)) hz'
    · rw [behAll_append]
      show beh _ y.1 a = e a
      cases hm : movesIn a x
      · have hna : ∀ z ∈ x.1, z.1 ≠ a := fun z hz' ee => by
          have := (movesIn_iff a x).2 ⟨z, hz', ee⟩; rw [hm] at this; cases this
        rw [beh_not, i2, beh_not hna]
        intro z hz' ee
        rw [hy, flip_mem] at hz'
        exact hna _ hz' ee
      · obtain ⟨z, hz', rfl⟩ := (movesIn_iff a x).1 hm
        have : (z.1, !z.2) ∈ y.1 := by rw [hy, flip_mem]; simpa using hz'
        rw [beh_mem hdy (y := (z.1, !z.2)) this, k3 z hz']
theorem back_strokes (m : Int) (l : List Stp) : (backwards (m, l)).2.map (·.1) = (l.map fun x => flipAll x.1).reverse := by
  unfold backwards
  rw [List.map_map]
  refine list_ext_getD ([] : List Stk) (by simp) fun k hk => ?_
  have hk' : k < l.length := by simpa using hk
  have e : l.length - 1 - k < l.length := by omega
  simp only [List.getD_eq_getElem?_getD]
  rw [List.getElem?_map, List.getElem?_range hk', List.getElem?_reverse (by simpa using hk'), List.length_map, List.getElem?_map, List.getElem?_eq_getElem e]
  simp [backStep, List.getElem?_eq_getElem e]
theorem back_len (m : Int) (l : List Stp) : (backwards (m, l)).2.length = l.length := by unfold backwards; simp
theorem back_at (m : Int) (l : List Stp) {k : Nat} (hk : k < l.length) : (backwards (m, l)).2.getD k stp0 = backStep (m, l) k := by
  unfold backwards
  simp [List.getD, hk]
theorem back_right {m : Int} {l : List Stp} (h : Right m l) : Right m (backwards (m, l)).2 := by
  have hz : ∀ x ∈ (backwards (m, l)).2, 0 ≤ x.2 ∧ x.2 ≤ 1000000 := fun x hx => by
    unfold backwards at hx
    obtain ⟨k, hk, rfl⟩ := List.mem_map.1 hx
    have hlt : (2 * l.length - 2 - k) % l.length < l.length := Nat.mod_lt _ h.len.1
    have hm : l.getD ((2 * l.length - 2 - k) % l.length) ([], 0) ∈ l := by rw [List.getD_eq_getElem?_getD, List.getElem?_eq_getElem hlt]; exact List.getElem_mem hlt
    have := ckStep_strokes (h.fine _ hm).1
    exact this.2.2.2
  obtain ⟨h1, h2⟩ := rev_walk h.walk (back_strokes m l) hz
  rw [h.none] at h1 h2
  refine ⟨h.act, by rw [back_len]; exact h.len, h1, fun a _ => h2 a, fun a ha => ?_⟩
  obtain ⟨x, hx, hm⟩ := (movedIn_iff a l).1 (h.moved a ha)
  have hmem : flipAll x.1 ∈ (backwards (m, l)).2.map (·.1) := by
    rw [back_strokes, List.mem_reverse]
    exact List.mem_map.2 ⟨x, hx, rfl⟩
  obtain ⟨y, hy, e⟩ := List.mem_map.1 hmem
  refine (movedIn_iff a _).2 ⟨y, hy, ?_⟩
  obtain ⟨z, hz', rfl⟩ := (movesIn_iff a x).1 hm
  refine (movesIn_iff _ y).2 ⟨(z.1, !z.2), ?_, rfl⟩
  show (z.1, !z.2) ∈ y.1
  rw [e, flip_mem]
  simpa using hz'
end Go.Proofs.YtdolibeceijnnaaDoor
namespace Go.Proofs.YtdolibeceijnnaaDoor
open Go.RowKit
theorem pause_rests {s : Sq} {k : Nat} (h : k < (pauses s).length) : restsAt s ((pauses s).getD k 0).toNat = true := by
  have hm : (pauses s).getD k 0 ∈ pauses s := getD_mem 0 h
  unfold pauses at hm
  exact (List.mem_filter.1 hm).2
theorem pauses_first {n : Int} {l : List Stp} (h : Right n l) : 0 < (pauses (n, l)).length ∧ (pauses (n, l)).getD 0 0 = 0 := by
  have h0 : restsAt (n, l) 0 = true := by rw [rests_none h]; rfl
  obtain ⟨m, hm⟩ : ∃ m, l.length = m + 1 := ⟨l.length - 1, by have := h.len; omega⟩
  have e : ints (l.length : Int) = 0 :: (List.range m).map (fun k => ((k + 1 : Nat) : Int)) := by
    unfold ints
    rw [show ((l.length : Int)).toNat = m + 1 by omega, List.range_succ_eq_map, List.map_cons, List.map_map]
    rfl
  unfold pauses
  rw [e, List.filter_cons, if_pos (by exact h0)]
  exact ⟨by simp, rfl⟩
theorem rests_pause {n : Int} {l : List Stp} (h : Right n l) {k : Nat} (hk : k < (pauses (n, l)).length) {xn : Nat} (hx : (pauses (n, l)).getD k 0 = (xn : Int)) :
    xn < l.length ∧ fromE (n, l) (xn : Int) = 0 ∧ ckSeq (turned (n, l) xn) = 0 ∧ fromE (turned (n, l) xn) (((l.length - xn) % l.length : Nat) : Int) = 0 ∧ turned (turned (n, l) xn) ((l.length - xn) % l.length) = (n, l) ∧ (turned (n, l) xn).2.length = l.length := by
  have h1 := pauses_in hk
  have h2 := pause_rests hk
  rw [hx] at h1 h2
  dsimp only at h1
  have hlt : xn < l.length := by omega
  have hn := (rests_none h).1 h2
  refine ⟨hlt, ?_, (turned_right h hn).ck, turned_rests h hlt hn, turned_back n l hlt, ?_⟩
  · unfold fromE
    dsimp only
    rw [if_neg (by simp [h.ck]), if_neg (by omega), if_pos h2]
  · show (l.drop xn ++ l.take xn).length = l.length
    rw [List.length_append, List.length_drop, List.length_take]; omega
end Go.Proofs.YtdolibeceijnnaaDoor
namespace Go.Proofs.YtdolibeceijnnaaDoor
def okF (f : Nat → Stp) (i j : Nat) : Bool := (List.range j).all fun q => (List.range q).all fun p => decide (p < i) || apart (f p) (f q)
theorem okF_iff {f : Nat → Stp} {i j : Nat} : okF f i j = true ↔ ∀ p q, i ≤ p → p < q → q < j → apart (f p) (f q) = true := by
  unfold okF
  rw [List.all_eq_true]
  refine ⟨fun h p q h1 h2 h3 => ?_, fun h q hq => ?_⟩
  · have := h q (List.mem_range.2 h3)
    rw [List.all_eq_true] at this
    have := this p (List.mem_range.2 h2)
    rw [Bool.or_eq_true, decide_eq_true_eq] at this
    rcases this with h4 | h4
    · omega
    · exact h4
  · rw [List.all_eq_true]
    intro p hp
    rw [Bool.or_eq_true, decide_eq_true_eq]
    by_cases hi : p < i
    · exact .inl hi
    · exact .inr (h p q (by omega) (List.mem_range.1 hp) (List.mem_range.1 hq))
theorem okF_her (f : Nat → Stp) : Her (okF f) :=
  ⟨fun i => okF_iff.2 fun p q h1 h2 h3 => by omega, fun i j i' j' h1 h2 _ h => okF_iff.2 fun p q g1 g2 g3 => okF_iff.1 h p q (by omega) g2 (by omega)⟩
theorem okF_shift {f g : Nat → Stp} {t : Nat} (h : ∀ p, g p = f (p + t)) (i j : Nat) : okF g i j = okF f (i + t) (j + t) := by
  refine bool_iff ?_
  rw [okF_iff, okF_iff]
  refine ⟨fun e p q h1 h2 h3 => ?_, fun e p q h1 h2 h3 => ?_⟩
  · have := e (p - t) (q - t) (by omega) (by omega) (by omega)
    rw [h, h, show p - t + t = p by omega, show q - t + t = q by omega] at this
    exact this
  · rw [h, h]; exact e _ _ (by omega) (by omega) (by omega)
theorem apart_iff {a b : Stp} : apart a b = true ↔ ∀ y ∈ a.1, ∀ z ∈ b.1, z.1 ≠ y.1 := by
  unfold apart
  rw [List.all_eq_true]
  refine ⟨fun h y hy z hz e => ?_, fun h y hy => ?_⟩
  · have := h y hy
    rw [Bool.not_eq_true'] at this
    rw [(movesIn_iff _ _).2 ⟨z, hz, e⟩] at this
    cases this
  · rw [Bool.not_eq_true']
    cases hm : movesIn y.1 b
    · rfl
    · obtain ⟨z, hz, e⟩ := (movesIn_iff _ _).1 hm
      exact absurd e (h y hy z hz)
theorem apart_symm (a b : Stp) : apart a b = apart b a := by
  refine bool_iff ?_
  rw [apart_iff, apart_iff]
  exact ⟨fun h y hy z hz e => h z hz y hy e.symm, fun h y hy z hz e => h z hz y hy e.symm⟩
def cyc (l : List Stp) (p : Nat) : Stp := l.getD (p % l.length) stp0
theorem cyc_per (l : List Stp) : Per (okF (cyc l)) l.length := fun i j => (okF_shift (fun p => by unfold cyc; rw [Nat.add_mod_right]) i j).symm
theorem Greedy.congr {ok ok' : Nat → Nat → Bool} {a b k n : Nat} (h : Greedy ok a b k) (hb : b ≤ n) (e : ∀ i j, i ≤ n → j ≤ n → ok i j = ok' i j) : Greedy ok' a b k := by
  induction h with
  | nil => exact .nil _
  | cons h1 h2 h3 h4 ih =>
    rename_i a c b k
    have hcb := h4.div.le
    refine .cons h1 (by rw [← e _ _ (by omega) (by omega)]; exact h2) ?_ (ih hb)
    rcases h3 with h3 | ⟨h3, h5⟩
    · exact .inl h3
    · exact .inr ⟨h3, by rw [← e _ _ (by omega) (by omega)]; exact h5⟩
theorem Greedy.up {ok ok' : Nat → Nat → Bool} {t a b k : Nat} (e : ∀ i j, ok' i j = ok (i + t) (j + t)) (h : Greedy ok' a b k) : Greedy ok (a + t) (b + t) k := by
  induction h with
  | nil => exact .nil _
  | cons h1 h2 h3 _ ih =>
    refine .cons (by omega) (by rw [← e]; exact h2) ?_ ih
    rcases h3 with h3 | ⟨h3, h5⟩
    · exact .inl (by omega)
    · exact .inr ⟨by omega, by rw [e] at h5; rw [← h5]; congr 1; omega⟩
def grpN (l : List Stp) : Nat := (longS (okF (cyc l)) l.length 0).length
def rngN (l : List Stp) : Nat := (ringS (okF (cyc l)) l.length).length
theorem rng_min {l : List Stp} (h : 0 < l.length) : RingMin (okF (cyc l)) l.length (rngN l) := by
  unfold rngN
  rw [ring_len (okF_her _) (cyc_per l) h]
  exact min_ring (okF_her _) h
theorem turned_cyc (m : Int) (l : List Stp) {t : Nat} (ht : t ≤ l.length) (p : Nat) : cyc (turned (m, l) t).2 p = cyc l (p + t) := by
  have hlen : (turned (m, l) t).2.length = l.length := by unfold turned; rw [List.length_append, List.length_drop, List.length_take]; dsimp only; omega
  unfold cyc
  rw [hlen]
  by_cases h0 : l.length = 0
  · have : l = [] := List.eq_nil_of_length_eq_zero h0
    subst this
    unfold turned
    simp
  have hr : p % l.length < l.length := Nat.mod_lt _ (by omega)
  have hpt : (p + t) % l.length = (p % l.length + t) % l.length := (Nat.mod_add_mod ..).symm
  rw [hpt]
  generalize p % l.length = r at hr
  unfold turned
  dsimp only
  rw [List.getD_eq_getElem?_getD, List.getD_eq_getElem?_getD]
  by_cases hc : r + t < l.length
  · rw [List.getElem?_append_left (by rw [List.length_drop]; omega), List.getElem?_drop, Nat.mod_eq_of_lt hc, Nat.add_comm]
  · rw [List.getElem?_append_right (by rw [List.length_drop]; omega), List.length_drop, List.getElem?_take_of_lt (by omega)]
    rw [Nat.mod_eq_sub_mod (by omega), Nat.mod_eq_of_lt (by omega)]
    congr 2
    omega
theorem turned_line (m : Int) {l : List Stp} {t : Nat} (ht : t < l.length) : grpN (turned (m, l) t).2 ≤ grpN l + 1 ∧ grpN l ≤ grpN (turned (m, l) t).2 + 1 := by
  have hlen : (turned (m, l) t).2.length = l.length := by unfold turned; rw [List.length_append, List.length_drop, List.length_take]; dsimp only; omega
  have hp := okF_shift (turned_cyc m l (by omega : t ≤ l.length))
  have h1 := long_greedy (okF_her (cyc l)) (n := l.length) (b := 0) (by omega)
  have h2 := (long_greedy (okF_her (cyc (turned (m, l) t).2)) (n := l.length) (b := 0) (by omega)).up hp
  rw [Nat.zero_add] at h1 h2
  rw [Nat.zero_add, Nat.add_comm] at h2
  have := line_turned (okF_her _) (cyc_per l) ht h1 h2
  unfold grpN
  rw [hlen]
  exact this
theorem turned_ring (m : Int) {l : List Stp} {t : Nat} (ht : t < l.length) : rngN (turned (m, l) t).2 = rngN l := by
  have hlen : (turned (m, l) t).2.length = l.length := by unfold turned; rw [List.length_append, List.length_drop, List.length_take]; dsimp only; omega
  have hp := turned_cyc m l (by omega : t ≤ l.length)
  have h1 := rng_min (l := l) (by omega)
  have h2 := rng_min (l := (turned (m, l) t).2) (by omega)
  have hper := cyc_per (turned (m, l) t).2
  rw [hlen] at h2 hper
  refine (ring_turned (t := t) (okF_her _) (okF_her _) (cyc_per l) hper (by omega) h1 h2 (okF_shift hp) ?_).symm
  refine okF_shift fun p => ?_
  rw [hp, Nat.mod_eq_of_lt ht, show p + (l.length - t) + t = p + l.length by omega]
  unfold cyc
  rw [Nat.add_mod_right]
theorem flip_apart {a b : Stp} (x y : Int) : apart (flipAll a.1, x) (flipAll b.1, y) = apart a b := by
  refine bool_iff ?_
  rw [apart_iff, apart_iff]
  dsimp only
  refine ⟨fun h y hy z hz => ?_, fun h y hy z hz => ?_⟩
  · have := h (y.1, !y.2) ((flip_mem _ _).2 (by simpa using hy)) (z.1, !z.2) ((flip_mem _ _).2 (by simpa using hz))
    exact this
  · have h1 := h _ ((flip_mem _ _).1 hy) _ ((flip_mem _ _).1 hz)
    exact h1
theorem back_apart (m : Int) {l : List Stp} (h0 : 0 < l.length) (p q : Nat) (hp : p < 2 * l.length) (hq : q < 2 * l.length) : apart (cyc (backwards (m, l)).2 p) (cyc (backwards (m, l)).2 q) = apart (cyc l (2 * l.length - 1 - p)) (cyc l (2 * l.length - 1 - q)) := by
  have hb : ∀ p, p < 2 * l.length → (cyc (backwards (m, l)).2 p).1 = flipAll (cyc l (2 * l.length - 1 - p)).1 := by
    intro p hp
    unfold cyc
    rw [back_len]
    have hr : p % l.length < l.length := Nat.mod_lt _ h0
    rw [back_at m l hr]
    unfold backStep
    dsimp only
    have : (2 * l.length - 1 - p) % l.length = l.length - 1 - p % l.length := by
      by_cases hc : p < l.length
      · rw [Nat.mod_eq_of_lt hc, Nat.mod_eq_sub_mod (by omega), Nat.mod_eq_of_lt (by omega)]; omega
      · rw [Nat.mod_eq_of_lt (by omega : 2 * l.length - 1 - p < l.length), Nat.mod_eq_sub_mod (by omega : p ≥ l.length), Nat.mod_eq_of_lt (by omega)]; omega
    rw [this]
    rfl
  have e1 : ∀ a b : Stp, apart a b = apart (a.1, 0) (b.1, 0) := fun a b => rfl
  rw [e1, hb p hp, hb q hq, flip_apart]
theorem back_okF (m : Int) {l : List Stp} (h0 : 0 < l.length) (i j : Nat) (hi : i ≤ 2 * l.length) (hj : j ≤ 2 * l.length) : okF (cyc (backwards (m, l)).2) i j = okF (cyc l) (2 * l.length - j) (2 * l.length - i) := by
  refine bool_iff ?_
  rw [okF_iff, okF_iff]
  refine ⟨fun e p q h1 h2 h3 => ?_, fun e p q h1 h2 h3 => ?_⟩
  · have := e (2 * l.length - 1 - q) (2 * l.length - 1 - p) (by omega) (by omega) (by omega)
    rw [back_apart m h0 _ _ (by omega) (by omega), show 2 * l.length - 1 - (2 * l.length - 1 - q) = q by omega, show 2 * l.length - 1 - (2 * l.length - 1 - p) = p by omega, apart_symm] at this
    exact this
  · rw [back_apart m h0 _ _ (by omega) (by omega), apart_symm]
    exact e _ _ (by omega) (by omega) (by omega)
theorem back_line (m : Int) {l : List Stp} (h0 : 0 < l.length) : grpN (backwards (m, l)).2 = grpN l := by
  have h1 := long_greedy (okF_her (cyc l)) (n := l.length) (b := 0) h0
  have h2 := long_greedy (okF_her (cyc (backwards (m, l)).2)) (n := l.length) (b := 0) h0
  rw [Nat.zero_add] at h1 h2
  have := h1.back (okF_her _) (okF_her _) h2 fun i j hi hj => by
    rw [back_okF m h0 i j (by omega) (by omega), show 2 * l.length - j = l.length - j + l.length by omega, show 2 * l.length - i = l.length - i + l.length by omega]
    exact cyc_per l _ _
  unfold grpN
  rw [back_len]
  exact this.symm
theorem back_ring (m : Int) {l : List Stp} (h0 : 0 < l.length) : rngN (backwards (m, l)).2 = rngN l := by
  have h1 := rng_min (l := l) h0
  have h2 := rng_min (l := (backwards (m, l)).2) (by rw [back_len]; exact h0)
  have hper := cyc_per (backwards (m, l)).2
  rw [back_len] at h2 hper
  exact (ring_back (okF_her _) (okF_her _) (cyc_per l) hper h0 h1 h2 (back_okF m h0)).symm
end Go.Proofs.YtdolibeceijnnaaDoor
namespace Go.Proofs.YtdolibeceijnnaaDoor
open Go.RowKit
def mskF (f : Nat → Stp) (i : Nat) : Nat → Nat
  | 0 => 0
  | k + 1 => mskF f i k ||| mskK (f (i + k)).1
theorem mskF_bit (f : Nat → Stp) (i b : Nat) : ∀ k, (mskF f i k).testBit b = true ↔ ∃ t, t < k ∧ ∃ y ∈ (f (i + t)).1, y.1.toNat = b := by
  intro k
  induction k with
  | zero => unfold mskF; simp
  | succ k ih =>
    unfold mskF
    rw [Nat.testBit_or, Bool.or_eq_true, ih, msk_bit, List.any_eq_true]
    constructor
    · rintro (⟨t, h1, h2⟩ | ⟨y, h1, h2⟩)
      · exact ⟨t, by omega, h2⟩
      · exact ⟨k, by omega, y, h1, of_decide_eq_true h2⟩
    · rintro ⟨t, h1, y, h2, h3⟩
      by_cases ht : t = k
      · subst ht; exact .inr ⟨y, h2, decide_eq_true h3⟩
      · exact .inl ⟨t, by omega, y, h2, h3⟩
def RngF (f : Nat → Stp) : Prop := ∀ p, ∀ y ∈ (f p).1, 0 ≤ y.1 ∧ y.1 < 6
theorem mskF_lt {f : Nat → Stp} (h : RngF f) (i : Nat) : ∀ k, mskF f i k < 64 := by
  intro k
  induction k with
  | zero => unfold mskF; omega
  | succ k ih =>
    unfold mskF
    exact Nat.or_lt_two_pow (n := 6) ih (msk_lt (h _))
theorem and_zero (a b : Nat) : a &&& b = 0 ↔ ∀ i, a.testBit i = true → b.testBit i = false := by
  constructor
  · intro h i hi
    have := Nat.testBit_and a b i
    rw [h, Nat.zero_testBit, hi, Bool.true_and] at this
    exact this.symm
  · intro h
    refine Nat.eq_of_testBit_eq fun i => ?_
    rw [Nat.testBit_and, Nat.zero_testBit]
    cases hx : a.testBit i
    · rfl
    · rw [h i hx]; rfl
theorem once_step {f : Nat → Stp} (hr : RngF f) {i k : Nat} (h : okF f i (i + k) = true) : (mskF f i k &&& mskK (f (i + k)).1 = 0) ↔ okF f i (i + (k + 1)) = true := by
  rw [okF_iff] at h ⊢
  rw [and_zero]
  constructor
  · intro e p q h1 h2 h3
    by_cases hq : q = i + k
    · subst hq
      rw [apart_iff]
      intro y hy z hz hyz
      have h4 := e y.1.toNat ((mskF_bit f i _ k).2 ⟨p - i, by omega, y, by rw [show i + (p - i) = p by omega]; exact hy, rfl⟩)
      rw [msk_bit, List.any_eq_false] at h4
      exact h4 z hz (by simp [hyz])
    · exact h p q h1 h2 (by omega)
  · intro e b hb
    obtain ⟨t, ht, y, hy, hyb⟩ := (mskF_bit f i b k).1 hb
    rw [msk_bit, List.any_eq_false]
    intro z hz hzb
    have hzb := of_decide_eq_true hzb
    have h4 := apart_iff.1 (e (i + t) (i + k) (by omega) (by omega) (by omega)) y hy z hz
    have := hr _ y hy
    have := hr _ z hz
    omega
theorem rng_cyc {l : List Stp} (h : ∀ x ∈ l, ∀ y ∈ x.1, 0 ≤ y.1 ∧ y.1 < 6) : RngF (cyc l) := fun p y hy => by
  unfold cyc at hy
  by_cases hp : p % l.length < l.length
  · exact h _ (getD_inn hp) y hy
  · rw [List.getD_eq_getElem?_getD, List.getElem?_eq_none (by omega)] at hy
    simp [stp0] at hy
structure SeqG (w : World) (a : Option Addr) (l : List Stp) : Prop where
  cells : CellsP w a l
  rng : ∀ x ∈ l, ∀ y ∈ x.1, 0 ≤ y.1 ∧ y.1 < 6
  pos : 0 < l.length
  len : l.length ≤ 64
  bits : GBits w
theorem SeqG.ext {w w' : World} {a : Option Addr} {l : List Stp} (h : SeqG w a l) (e : Ext w w') : SeqG w' a l := ⟨h.cells.ext e, h.rng, h.pos, h.len, h.bits.ext e⟩
set_option maxHeartbeats 8000000 in
set_option maxRecDepth 100000 in
theorem once_any (n : Int) (l : List Stp) (a : Option Addr) (cap : Nat) (i c : Nat) (w : World) (hi : i ≤ 1000) (hcn : c ≤ 1000) (h : SeqG w a l) :
    Calls Tryd.prog 40 #[.agg #[.int .i64 n, .slice a l.length cap], .int .i64 i, .int .i64 c] w fun r w' => (∃ m : Int, r = .returned (.tuple #[.int .u64 m, .bool (okF (cyc l) i (i + c))])) ∧ Ext w w' := by
  have HH := Lib.hid h
  have hl0 := h.pos
  have hl := h.len
  have HR := Lib.hid (rng_cyc h.rng)
  clear h
  go_enter Tryd.func40, Tryd.ntmps40
  go_wp2_with fail
  have E1 : Ext w (w.alloc (.cells #[.int .i64 n, .slice a l.length cap] 24)) := extA
  have c1 : ((w.alloc (.cells #[.int .i64 n, .slice a l.length cap] 24))).cell? ⟨w.heap.size, 1, none⟩ = some (.slice a l.length cap) := by go_simp
  obtain ⟨bs, hbs⟩ : ∃ bs, bs = w.heap.size := ⟨_, rfl⟩
  rw [← hbs] at c1 ⊢
  clear hbs
  generalize (w.alloc (.cells #[.int .i64 n, .slice a l.length cap] 24)) = W at E1 c1 ⊢
  replace HH := Lib.hid (HH.out.ext E1)
  go_wp2
  go_loopw [12, 8] (fun x v wr => ∃ k : Nat, k ≤ c ∧ x = .int .i64 k ∧ v = .int .u64 ((mskF (cyc l) i k : Nat) : Int) ∧ Hid (okF (cyc l) i (i + k) = true) ∧ Ext W wr) (fun x _ _ => c - (intOf x).toNat)
  case atStart => exact ⟨0, Nat.zero_le _, rfl, rfl, okF_iff.2 fun p q h1 h2 h3 => by omega, Ext.refl _⟩
  case round =>
    obtain ⟨k, hk, rfl, rfl, hok, he⟩ := hrel
    have d1 := he.cell c1
    by_cases hlt : k < c
    · obtain ⟨r, hr⟩ : ∃ r, r = (i + k) % l.length := ⟨_, rfl⟩
      have hrl : r < l.length := by rw [hr]; exact Nat.mod_lt _ hl0
      obtain ⟨b, off, v, ha, e1, e2, e3⟩ := HH.out.cells.ext he r hrl
      subst ha
      obtain ⟨sa, sc, rfl, hsc, hsm⟩ := e2
      have hmod : ((i : Int) + (k : Int)).tmod (l.length : Int) = (r : Int) := by
        rw [Int.tmod_eq_emod_of_nonneg (by omega), hr]; rfl
      have hcy : cyc l (i + k) = l.getD r stp0 := by unfold cyc; rw [hr]
      have hst := once_step HR.out hok.out
      rw [hcy] at hst
      have hrg := HR.out (i + k)
      rw [hcy] at hrg
      have hml := msk_lt hrg
      have hfl := mskF_lt HR.out i k
      have hsucc : mskF (cyc l) i (k + 1) = mskF (cyc l) i k ||| mskK (l.getD r stp0).1 := by rw [← hcy]; rfl
      have HMV := Lib.hid (fun W' hG hC => moving_any (l.getD r stp0).1 (l.getD r stp0).2 sa sc W' hsm hrg hG hC)
      have HX := Lib.hid hsc
      clear hcy hr hrg
      generalize l.getD r stp0 = x at e1 e3 HMV HX hst hml hsucc hsm
      obtain ⟨st, wt⟩ := x
      dsimp only at e1 e3 HMV HX hst hml hsucc hsm
      have u1 : IntKind.i64.wrap ((i : Int) + (k : Int)) = (i : Int) + (k : Int) := IntWalk.i64_in _ (by omega)
      have u2 : IntKind.i64.wrap (r : Int) = (r : Int) := IntWalk.i64_in _ (by omega)
      have u3 : ((l.length : Int) == 0) = false := beq_eq_false_iff_ne.2 (by omega)
      have u4 : ¬ (l = []) := fun h => by rw [h] at hl0; simp at hl0
      have HA := bits_and_u64_nat (mskF (cyc l) i k) (mskK st) (by omega) (by omega)
      have HO := bits_or_u64_nat (mskF (cyc l) i k) (mskK st) (by omega) (by omega)
      rw [← hsucc] at HO
      have HST := Lib.hid hst
      have z1 := cell_lt d1
      have z2 := cell_lt e1
      dsimp only at z1 z2
      clear hsucc hml hfl hst hsm
      obtain ⟨m2, hm2⟩ : ∃ m, m = mskF (cyc l) i (k + 1) := ⟨_, rfl⟩
      rw [← hm2] at HO
      have HM2 := Lib.hid hm2
      clear hm2
      generalize mskF (cyc l) i k = m1 at HA HO HST ⊢
      generalize mskK st = ms at HA HO HST HMV ⊢
      go_wp2
      go_region_held3 (fun w' => Sees wr w') ((repeat (first | exact Sees.refl _ | assumption | apply Sees.drew | apply Sees.alloc | (refine Sees.ext ?_ (by assumption))))) (first | (go_at_call 46; refine (HMV.out _ (HH.out.bits.ext (he.trans (by exact (show Sees wr _ by assumption).2.2))) (HX.out.ext (by exact (show Sees wr _ by assumption).2.2))).mono ?_; rintro e w' ⟨rfl, hE⟩))
      have F := he.trans (show Sees wr _ by assumption).2.2
      by_cases hz : m1 &&& ms = 0
      · have HZ : Hid (okF (cyc l) i (i + (k + 1)) = true) := HST.out.1 hz
        have hz2 : (((m1 &&& ms : Nat) : Int) != 0) = false := by rw [hz]; rfl
        clear HST hz
        go_wp2
        refine ⟨⟨k + 1, by omega, by go_num, by rw [HM2.out], HZ, F⟩, by simp [intOf]; omega⟩
      · have hz2 : (((m1 &&& ms : Nat) : Int) != 0) = true := by rw [bne_iff_ne]; omega
        have hno : okF (cyc l) i (i + c) = false := by
          cases hx : okF (cyc l) i (i + c)
          · rfl
          · exact absurd (HST.out.2 ((okF_her _).part i (i + c) i (i + (k + 1)) (Nat.le_refl _) (by omega) (by omega) hx)) hz
        have HN := Lib.hid hno
        clear HST hz hno
        go_wp2
        go_ret2
        exact ⟨⟨(m1 : Int), by rw [HN.out]; rfl⟩, E1.trans F⟩
    · have : k = c := by omega
      subst this
      go_wp2
      go_ret2
      exact ⟨⟨((mskF (cyc l) i k : Nat) : Int), by rw [hok.out]; rfl⟩, E1.trans he⟩
end Go.Proofs.YtdolibeceijnnaaDoor
namespace Go.Proofs.YtdolibeceijnnaaDoor
open Go.RowKit
def intsN (l : List Nat) : List Int := l.map fun (n : Nat) => (n : Int)
theorem intsN_len (l : List Nat) : (intsN l).length = l.length := List.length_map ..
theorem intsN_get (l : List Nat) (k : Nat) : (intsN l).getD k 0 = ((l.getD k 0 : Nat) : Int) := by
  unfold intsN
  rw [List.getD_eq_getElem?_getD, List.getD_eq_getElem?_getD, List.getElem?_map]
  cases l[k]? <;> rfl
theorem ownsI_one (w : World) (x : Int) : OwnsI (w.alloc (.cells #[.int .i64 x] 3)) (.slice (some ⟨w.heap.size, 0, none⟩) 1 1) [x] :=
  ⟨by simp, .inr ⟨w.heap.size, 1, #[.int .i64 x], rfl, Nat.zero_le _, heap_alloc_new w _, Nat.le_refl _, by decide, rfl, rfl⟩⟩
def OwnNatPost (l : List Nat) (w : World) (e : Ending) (w' : World) : Prop := ∃ v, e = .returned v ∧ OwnsI w' v (intsN l) ∧ (∀ b, v.ownBlock = some b → w.heap.size ≤ b) ∧ Ext w w'
theorem lng_succ_yes {ok : Nat → Nat → Bool} {b n k last : Nat} (hk : k < n) (h : ok last (b + k + 1) = true) : lngS ok b (n - k) k last = lngS ok b (n - (k + 1)) (k + 1) last := by
  rw [show n - k = n - (k + 1) + 1 by omega]
  conv => lhs; unfold lngS
  rw [if_pos h]
theorem lng_succ_no {ok : Nat → Nat → Bool} {b n k last : Nat} (hk : k < n) (h : ok last (b + k + 1) = false) : lngS ok b (n - k) k last = (b + k) :: lngS ok b (n - (k + 1)) (k + 1) (b + k) := by
  rw [show n - k = n - (k + 1) + 1 by omega]
  conv => lhs; unfold lngS
  rw [if_neg (by simp [h])]
set_option maxHeartbeats 8000000 in
set_option maxRecDepth 100000 in
theorem longest_any (n : Int) (l : List Stp) (a : Option Addr) (cap : Nat) (b : Nat) (w : World) (hb : b ≤ 64) (h : SeqG w a l) :
    Calls Tryd.prog 36 #[.agg #[.int .i64 n, .slice a l.length cap], .int .i64 b] w (OwnNatPost (longS (okF (cyc l)) l.length b) w) := by
  have HH := Lib.hid h
  have hl0 := h.pos
  have hl := h.len
  clear h
  obtain ⟨i0, hi, hi0, hi1, hi2⟩ := info_parts infoInt
  go_enter Tryd.func36, Tryd.ntmps36
  go_wp2_with fail
  have E0 : Ext w (w.alloc (.cells #[.int .i64 n, .slice a l.length cap] 24)) := extA
  have E1 : Ext (w.alloc (.cells #[.int .i64 n, .slice a l.length cap] 24)) ((w.alloc (.cells #[.int .i64 n, .slice a l.length cap] 24)).alloc (.cells #[.int .i64 (b : Int)] 3)) := extA
  have c0 : ((w.alloc (.cells #[.int .i64 n, .slice a l.length cap] 24))).cell? ⟨w.heap.size, 0, none⟩ = some (.int .i64 n) := by go_simp
  have c1 : ((w.alloc (.cells #[.int .i64 n, .slice a l.length cap] 24))).cell? ⟨w.heap.size, 1, none⟩ = some (.slice a l.length cap) := by go_simp
  have hvs : ((w.alloc (.cells #[.int .i64 n, .slice a l.length cap] 24))).heap.size = w.heap.size + 1 := Array.size_push _
  have O0 : Hid (OwnsI ((w.alloc (.cells #[.int .i64 n, .slice a l.length cap] 24)).alloc (.cells #[.int .i64 (b : Int)] 3)) (.slice (some ⟨w.heap.size + 1, 0, none⟩) 1 1) [(b : Int)]) := by
    have h9 := ownsI_one (w.alloc (.cells #[.int .i64 n, .slice a l.length cap] 24)) (b : Int)
    rw [hvs] at h9
    exact h9
  replace HH := Lib.hid (HH.out.ext E0)
  generalize ((w.alloc (.cells #[.int .i64 n, .slice a l.length cap] 24)).alloc (.cells #[.int .i64 (b : Int)] 3)) = W at E1 O0 ⊢
  generalize (w.alloc (.cells #[.int .i64 n, .slice a l.length cap] 24)) = V at E0 E1 c0 c1 HH hvs
  obtain ⟨bs, hbs⟩ : ∃ bs, bs = w.heap.size := ⟨_, rfl⟩
  rw [← hbs] at c0 c1 O0 hvs ⊢
  have HVS := Lib.hid hvs
  clear hbs hvs
  go_wp2
  go_loopw [7, 5, 6] (fun x v z wr => ∃ (k last : Nat) (pre : List Nat), k ≤ l.length ∧ last ≤ b + k ∧ x = .int .i64 k ∧ (∃ vv, v = vv ∧ Hid (OwnsI wr vv (intsN (pre ++ [last])) ∧ (∀ g, vv.ownBlock = some g → V.heap.size ≤ g) ∧ pre.length ≤ k ∧ pre ++ last :: lngS (okF (cyc l)) b (l.length - k) k last = longS (okF (cyc l)) l.length b)) ∧ z = .int .i64 ((b : Int) + (k : Int) - (last : Int)) ∧ Ext V wr) (fun x _ _ _ => l.length - (intOf x).toNat)
  case atStart => exact ⟨0, b, [], Nat.zero_le _, by omega, rfl, ⟨_, rfl, O0.out, fun g hg => by cases hg; have := HVS.out; exact Nat.le_of_eq this, Nat.le_refl _, rfl⟩, by simp, E1⟩
  case round =>
    obtain ⟨k, last, pre, hk, hlast, rfl, ⟨vv, hvv, hO⟩, rfl, he⟩ := hrel
    obtain rfl := hvv.symm
    have d0 := he.cell c0
    have d1 := he.cell c1
    by_cases hlt : k < l.length
    · obtain ⟨va, vc, hv, hvc, hvr⟩ := hO.out.1.reads
      have hplen : (intsN (pre ++ [last])).length = pre.length + 1 := by rw [intsN_len, List.length_append]; rfl
      have hp := hO.out.2.2.1
      obtain ⟨vb, vo, rfl, e1⟩ := hvc pre.length (by omega)
      rw [intsN_get, show (pre ++ [last]).getD pre.length 0 = last by simp] at e1
      obtain ⟨L, hL⟩ : ∃ L, L = pre.length + 1 := ⟨_, rfl⟩
      rw [hplen, ← hL] at hv
      obtain ⟨p, hp2⟩ : ∃ p, p = pre.length := ⟨_, rfl⟩
      have hpL : p < L := by omega
      have hL64 : L ≤ 65 := by omega
      have z0 := cell_lt d0
      have z1 := cell_lt e1
      dsimp only at z0 z1
      have HON := Lib.hid (fun W' hs => once_any n l a cap last (b + k + 1 - last) W' (by omega) (by omega) hs)
      rw [show last + (b + k + 1 - last) = b + k + 1 by omega] at HON
      have hcs : ((b + k + 1 - last : Nat) : Int) = (b : Int) + (k : Int) - (last : Int) + 1 := by omega
      rw [hcs] at HON
      have u1 : IntKind.i64.wrap ((b : Int) + (k : Int) - (last : Int) + 1) = (b : Int) + (k : Int) - (last : Int) + 1 := IntWalk.i64_in _ (by omega)
      have u2 : IntKind.i64.wrap ((L : Int) - 1) = (p : Int) := by rw [IntWalk.i64_in _ (by omega)]; omega
      rw [← hp2] at e1
      subst hv
      have HLP := Lib.hid (And.intro hL hp2)
      clear hvc hvr hplen hL hp2 hp
      have hcond : ∃ q, okF (cyc l) last (b + k + 1) = q := ⟨_, rfl⟩
      obtain ⟨q, hq⟩ := hcond
      rw [hq] at HON
      have HQ := Lib.hid hq
      clear hq hcs
      go_wp2
      go_region_held3 (fun w' => Sees wr w') ((repeat (first | exact Sees.refl _ | assumption | apply Sees.drew | apply Sees.alloc | (refine Sees.ext ?_ (by assumption))))) (first | (go_at_call 40; refine (HON.out _ (HH.out.ext (he.trans (by exact (show Sees wr _ by assumption).2.2)))).mono ?_; rintro e w' ⟨⟨m, rfl⟩, hE⟩))
      have F := (show Sees wr _ by assumption).2.2
      have O2 := Lib.hid (hO.out.1.ext F)
      have OB := Lib.hid hO.out.2.1
      have OE := Lib.hid hO.out.2.2
      clear hO
      have G := he.trans F
      generalize w' = w2 at G O2 ⊢
      cases q
      · have hnx := lng_succ_no (ok := okF (cyc l)) (b := b) hlt HQ.out
        have u3 : IntKind.i64.wrap ((b : Int) + (k : Int)) = ((b + k : Nat) : Int) := by rw [IntWalk.i64_in _ (by omega)]; omega
        have hsz2 := G.size
        have HNX := Lib.hid hnx
        clear hnx
        go_wp2_with (at_builtin; refine wpList_append1 _ rfl _ _ 27 rfl 3 i0 (.int .i64 0) 1 8 Tryd.underlying27 hi hi0 hi1 hi2 rfl (by decide) (.slice (some ⟨vb, vo, none⟩) L vc) (intsN (pre ++ [last])).length ((intsN (pre ++ [last])).map (Value.int .i64)) rfl ?ho ⟨w2.heap.size, 0, none⟩ 1 1 (by decide) [.int .i64 ((b + k : Nat) : Int)] rfl rfl ?hn ?c1 ?c2 ?c3 ?c4)
        case ho => exact O2.out.ext ((Ext.refl _).alloc _)
        case hn => exact cells_one _ _ _
        case c1 => intro u hu; simp at hu; subst hu; rfl
        case c2 => have := HLP.out; have := OE.out.1; rw [intsN_len, List.length_append, List.length_singleton]; unfold maxLen; omega
        case c3 => have := HLP.out; have := OE.out.1; rw [intsN_len, List.length_append, List.length_singleton]; omega
        case c4 =>
          intro v' w5 hown5 hend5
          have O5 : Hid (OwnsI w5 v' (intsN ((pre ++ [last]) ++ [b + k]))) := by
            show OwnsI _ _ _
            have h9 := ownsI_succ hown5
            unfold intsN at h9 ⊢
            rw [List.map_append]
            exact h9
          have B5 : Ext V w5 := (G.trans ((Ext.refl _).alloc _)).trans' (hend5.below (n := V.heap.size) (by simp; omega) OB.out) (Nat.le_refl _)
          have OB5 : Hid (∀ b, v'.ownBlock = some b → V.heap.size ≤ b) := hend5.ge (n := V.heap.size) (by simp; omega) OB.out
          clear hown5 hend5 O2 OB
          go_wp2
          refine ⟨⟨k + 1, b + k, pre ++ [last], by omega, by omega, by go_num, ⟨v', rfl, O5.out, OB5.out, by have := OE.out.1; rw [List.length_append, List.length_singleton]; omega, ?_⟩, by simp; omega, B5⟩, by simp [intOf]; omega⟩
          have h9 := OE.out.2
          rw [HNX.out] at h9
          rw [List.append_assoc]
          exact h9
      · have hnx := lng_succ_yes (ok := okF (cyc l)) (b := b) hlt HQ.out
        have HNX := Lib.hid hnx
        clear hnx
        go_wp2
        refine ⟨⟨k + 1, last, pre, by omega, by omega, by go_num, ⟨_, rfl, O2.out, OB.out, by have := OE.out.1; omega, ?_⟩, by simp; omega, G⟩, by simp [intOf]; omega⟩
        have h9 := OE.out.2
        rw [HNX.out] at h9
        exact h9
    · have hke : k = l.length := by omega
      subst hke
      have h9 := hO.out.2.2.2
      rw [Nat.sub_self] at h9
      have H9 := Lib.hid h9
      clear h9
      go_wp2
      go_ret
      have HVS2 := HVS.out
      have h0 := E0.size
      refine ⟨vv, rfl, ?_, fun g hg => Nat.le_trans h0 (hO.out.2.1 g hg), E0.trans he⟩
      have h8 := hO.out.1
      rw [show pre ++ [last] = longS (okF (cyc l)) l.length b from H9.out] at h8
      exact h8
end Go.Proofs.YtdolibeceijnnaaDoor
namespace Go.Proofs.YtdolibeceijnnaaDoor
open Go.RowKit
set_option maxHeartbeats 8000000 in
set_option maxRecDepth 100000 in
theorem needed_any (n : Int) (l : List Stp) (a : Option Addr) (cap : Nat) (x y : Nat) (w : World) (hxy : x ≤ y) (hy : y ≤ 200) (h : SeqG w a l) :
    Calls Tryd.prog 38 #[.agg #[.int .i64 n, .slice a l.length cap], .int .i64 x, .int .i64 y] w fun r w' => r = .returned (.int .i64 ((needS (okF (cyc l)) y (y - x) x : Nat) : Int)) ∧ Ext w w' := by
  have HH := Lib.hid h
  have HOK := Lib.hid (okF_her (cyc l))
  clear h
  generalize hokd : okF (cyc l) = ok at HOK
  have HD := Lib.hid hokd
  clear hokd
  go_enter Tryd.func38, Tryd.ntmps38
  go_wp2_with fail
  have E1 : Ext w (w.alloc (.cells #[.int .i64 n, .slice a l.length cap] 24)) := extA
  have c0 : ((w.alloc (.cells #[.int .i64 n, .slice a l.length cap] 24))).cell? ⟨w.heap.size, 0, none⟩ = some (.int .i64 n) := by go_simp
  have c1 : ((w.alloc (.cells #[.int .i64 n, .slice a l.length cap] 24))).cell? ⟨w.heap.size, 1, none⟩ = some (.slice a l.length cap) := by go_simp
  obtain ⟨bs, hbs⟩ : ∃ bs, bs = w.heap.size := ⟨_, rfl⟩
  rw [← hbs] at c0 c1 ⊢
  clear hbs
  replace HH := Lib.hid (HH.out.ext E1)
  generalize (w.alloc (.cells #[.int .i64 n, .slice a l.length cap] 24)) = W at E1 c0 c1 HH ⊢
  go_wp2
  go_loopw [1, 7] (fun f v wr => ∃ c k : Nat, x ≤ c ∧ c ≤ y ∧ k ≤ c ∧ f = .int .i64 c ∧ v = .int .i64 k ∧ Hid (∀ m, Greedy ok c y m → Greedy ok x y (k + m)) ∧ Ext W wr) (fun f _ _ => y - (intOf f).toNat)
  case atStart => exact ⟨x, 0, Nat.le_refl _, hxy, Nat.zero_le _, rfl, rfl, fun m hm => by rw [Nat.zero_add]; exact hm, Ext.refl _⟩
  case round =>
    obtain ⟨c, k, hxc, hcy, hkc, rfl, rfl, hg, he⟩ := hrel
    by_cases hlt : c < y
    · go_wp2
      go_loopw [8] (fun s w2 => ∃ e : Nat, 1 ≤ e ∧ c + e ≤ y ∧ s = .int .i64 e ∧ Hid (ok c (c + e) = true) ∧ Ext wr w2) (fun s _ => y - (c + (intOf s).toNat))
      case atStart => exact ⟨1, Nat.le_refl _, by omega, rfl, HOK.out.one c, Ext.refl _⟩
      case round =>
        obtain ⟨e, he1, hey, rfl, hoke, he2⟩ := hrel
        have F := he.trans he2
        have u1 : IntKind.i64.wrap ((c : Int) + (e : Int)) = ((c + e : Nat) : Int) := by rw [IntWalk.i64_in _ (by omega)]; omega
        by_cases hl2 : c + e < y
        · have d0 := F.cell c0
          have d1 := F.cell c1
          have u2 : IntKind.i64.wrap ((e : Int) + 1) = ((e + 1 : Nat) : Int) := by rw [IntWalk.i64_in _ (by omega)]; omega
          have HON := Lib.hid (fun W' hs => once_any n l a cap c (e + 1) W' (by omega) (by omega) hs)
          rw [HD.out] at HON
          obtain ⟨q, hq⟩ : ∃ q, ok c (c + (e + 1)) = q := ⟨_, rfl⟩
          rw [hq] at HON
          have HQ := Lib.hid hq
          clear hq
          go_wp2_with fail
          refine (HON.out _ (HH.out.ext F)).mono ?_
          rintro r w3 ⟨⟨m, rfl⟩, hE⟩
          have F3 := F.trans hE
          cases q
          · go_wp2
            have u3 : IntKind.i64.wrap ((k : Int) + 1) = ((k + 1 : Nat) : Int) := by rw [IntWalk.i64_in _ (by omega)]; omega
            refine ⟨⟨c + e, k + 1, by omega, hey, by omega, by first | rfl | exact congrArg _ (by first | exact u1 | omega), by first | rfl | exact congrArg _ (by first | exact u3 | omega), fun m2 hm2 => ?_, F3⟩, by simp [intOf]; omega⟩
            have := hg.out (m2 + 1) (.cons (by omega) hoke.out (.inr ⟨hl2, HQ.out⟩) hm2)
            rwa [show k + (m2 + 1) = k + 1 + m2 by omega] at this
          · go_wp2
            refine ⟨⟨e + 1, by omega, by omega, by first | rfl | exact congrArg _ (by first | exact u2 | omega), HQ.out, he2.trans hE⟩, by simp [intOf]; omega⟩
        · have hce : c + e = y := by omega
          have u3 : IntKind.i64.wrap ((k : Int) + 1) = ((k + 1 : Nat) : Int) := by rw [IntWalk.i64_in _ (by omega)]; omega
          go_wp2
          refine ⟨⟨c + e, k + 1, by omega, hey, by omega, by first | rfl | exact congrArg _ (by first | exact u1 | omega), by first | rfl | exact congrArg _ (by first | exact u3 | omega), fun m2 hm2 => ?_, F⟩, by simp [intOf]; omega⟩
          have := hg.out (m2 + 1) (.cons (by omega) hoke.out (.inl hce) hm2)
          rwa [show k + (m2 + 1) = k + 1 + m2 by omega] at this
    · have hce : c = y := by omega
      subst hce
      have h1 := hg.out 0 (.nil _)
      have h2 := (need_greedy HOK.out (c - x) x (Nat.le_refl _) hxy).same HOK.out h1
      have HN := Lib.hid h2
      clear h1 h2
      go_wp2
      go_ret
      refine ⟨?_, E1.trans he⟩
      rw [HN.out, Nat.add_zero]
      rfl
end Go.Proofs.YtdolibeceijnnaaDoor
namespace Go.Proofs.YtdolibeceijnnaaDoor
open Go.RowKit
set_option maxHeartbeats 2000000 in
set_option maxRecDepth 100000 in
theorem CloneI_any (l : List Int) (eb eo ec : Nat) (w : World) (hn : l.length ≤ 100) (h0 : 0 < l.length) (he : CellsI w (some ⟨eb, eo, none⟩) l) :
    Calls Tryd.prog 39 #[.slice (some ⟨eb, eo, none⟩) l.length ec] w fun e w' => ∃ v, e = .returned v ∧ OwnsI w' v l ∧ (∀ b, v.ownBlock = some b → w.heap.size ≤ b) ∧ Ext w w' := by
  have HE := Lib.hid he
  clear he
  obtain ⟨i0, hi, hi0, hi1, hi2⟩ := info_parts infoInt
  have heq : ∀ w' : World, (binOp .eql 27 (.slice (some ⟨eb, eo, none⟩) l.length ec) (.slice none 0 0)).run Tryd.prog w' = .ok (.bool false) w' := fun w' => Lib.run_eql_slice_nil (P := Tryd.prog) w' 27 3 (some ⟨eb, eo, none⟩) l.length ec 0 0 Tryd.underlying27
  go_enter Tryd.func39, Tryd.ntmps39
  have E1 : Ext w (w.alloc (.cells #[] 3)) := extA
  have hown : (w.alloc (.cells #[] 3)).ownsRow 0 3 1 (.slice (some ⟨w.heap.size, 0, none⟩) 0 0) 0 [] :=
    World.ownsRow_made (w := w) (base := 0) (e := 3) (size := 1) #[] 0 (Nat.zero_le _) (Nat.zero_le _) rfl
  have ez : (w.alloc (.cells #[] 3)).heap.size = w.heap.size + 1 := by simp
  go_wp2_with (at_builtin; refine wpList_append1 _ rfl _ _ 27 rfl 3 i0 (.int .i64 0) 1 8 Tryd.underlying27 hi hi0 hi1 hi2 rfl (by decide) (.slice (some ⟨w.heap.size, 0, none⟩) 0 0) 0 [] rfl hown ⟨eb, eo, none⟩ l.length ec h0 (l.map (Value.int .i64)) rfl ?c0 ?c1 ?c2 ?c3 ?c4 ?c5)
  case c0 => simp
  case c1 =>
    intro j u hu
    have hj : j < l.length := by have := (List.getElem?_eq_some_iff.1 hu).1; simpa using this
    obtain ⟨b, off, h1, h2⟩ := HE.out.ext E1 j hj
    cases h1
    rw [Addr.add_lit, h2]
    simp [hj] at hu
    simp [List.getD, hj, hu]
  case c2 => intro u hu; simp at hu; obtain ⟨x, _, rfl⟩ := hu; rfl
  case c3 => unfold maxLen; omega
  case c4 => omega
  case c5 =>
    intro v' w5 hown5 hend5
    have O5 : Hid (OwnsI w5 v' l) := by
      show OwnsI _ _ _
      unfold OwnsI
      simpa using hown5
    have F5 : Ext w w5 := E1.trans' (hend5.below (n := w.heap.size) (by rw [ez]; omega) (fun b hb => by cases hb; exact Nat.le_refl _)) (Nat.le_refl _)
    have G5 : Hid (∀ b, v'.ownBlock = some b → w.heap.size ≤ b) := hend5.ge (n := w.heap.size) (by rw [ez]; omega) (fun b hb => by cases hb; exact Nat.le_refl _)
    clear hown5 hend5 hown E1 ez
    go_wp2
    go_ret
    exact ⟨_, rfl, O5.out, G5.out, F5⟩
theorem run_appI (w : World) (v : Value) (N : List Int) (x : Int) (hO : OwnsI w v N) (hl : N.length ≤ 100) (a : Addr) (c : Nat) (hx : w.cell? a = some (.int .i64 x)) :
    ∃ v' w', (Builtin.append_ #[27, 27] 27 #[v, .slice (some a) 1 c]).run Tryd.prog w = .ok v' w' ∧ OwnsI w' v' (N ++ [x]) ∧ AppEnd w w' v v' ∧ (∀ C, v'.ownBlock = v.ownBlock → OwnsI C v' (N ++ [x]) → OwnsI C v N) := by
  obtain ⟨i, hi, hz, hsize, hby⟩ := info_parts infoInt
  have hnews : ∀ j u, ([.int .i64 x] : List Value)[j]? = some u → w.cell? (a.add j) = some u := fun j u hu => by
    cases j with
    | zero => simp at hu; subst hu; rw [← hx]; cases a; simp [Addr.add]
    | succ j => simp at hu
  have h1 : ∀ u ∈ ([.int .i64 x] : List Value), u.oneCell' = true := fun u hu => by simp at hu; subst hu; rfl
  obtain ⟨v', w', hr, h2, h3⟩ := run_append1 (P := Tryd.prog) w 27 27 3 i (.int .i64 0) 1 8 Tryd.underlying27 hi hz hsize hby rfl (by decide) v N.length _ hO a 1 c (by decide) [.int .i64 x] rfl hnews h1 (by unfold maxLen; omega) (by omega)
  refine ⟨v', w', hr, ownsI_succ h2, h3, fun C hb hC => ?_⟩
  rcases hO.2 with ⟨rfl, h0⟩ | ⟨g, cap, cur, rfl, hbg, hg, hnc, hcm, hcs, htake⟩
  · 
    have hN : N = [] := List.eq_nil_of_length_eq_zero h0
    subst hN
    exact OwnsI.nil C
  · by_cases hroom : N.length + 1 ≤ cap
    · have hfit : N.length * i.size + ([.int .i64 x] : List Value).length ≤ cur.size := by rw [hsize, hcs]; simp; omega
      have hq := run_append_room (P := Tryd.prog) w 27 27 3 i Tryd.underlying27 hi g N.length cap cur hg a 1 c [.int .i64 x] (by rw [hsize]; rfl) hnews h1 hroom hfit
      rw [hr] at hq
      injection hq with e1 e2
      subst e1
      obtain ⟨c1, c2⟩ := hC
      refine ⟨by simp, ?_⟩
      rcases c2 with ⟨hv, _⟩ | ⟨g', cap', cur', hv, hbg', hg', hnc', hcm', hcs', ht'⟩
      · cases hv
      · injection hv with q1 q2 q3
        subst q3
        injection q1 with q1
        injection q1 with q1
        subst q1
        refine .inr ⟨g, cap, cur', rfl, Nat.zero_le _, hg', hnc, hcm', hcs', ?_⟩
        have h9 : (cur'.toList.take (N.length + 1)).take N.length = ((N ++ [x]).map (Value.int .i64)).take N.length := by
          rw [← ht']
          simp
        rw [List.take_take, Nat.min_eq_left (Nat.le_succ _), List.map_append, List.take_left' (by simp)] at h9
        simpa using h9
    · exfalso
      rcases h3 with ⟨_, _, hgr⟩ | ⟨hb2, _⟩
      · have holds : ∀ j u, (N.map (Value.int .i64))[j]? = some u → w.cell? ((⟨g, 0, none⟩ : Addr).add j) = some u := World.ownsRow.cells hO (g := g) rfl
        have hq := run_append_grow (P := Tryd.prog) w 27 27 3 i (.int .i64 0) Tryd.underlying27 hi hz ⟨g, 0, none⟩ N.length cap (N.map (Value.int .i64)) (by rw [hsize]; simp) holds a 1 c [.int .i64 x] (by rw [hsize]; rfl) hnews (by omega) (by omega) (growslice_fits (by omega) (by rw [hby]; omega))
        rw [hr] at hq
        injection hq with e1 e2
        subst e1
        have hlt := rowLt hO (b := g) rfl
        simp [Value.ownBlock] at hb
        omega
      · rw [hb2] at hb
        have hlt := rowLt hO (b := g) rfl
        simp [Value.ownBlock] at hb
        omega
end Go.Proofs.YtdolibeceijnnaaDoor
namespace Go.Proofs.YtdolibeceijnnaaDoor
open Go.RowKit
def walkV (sb nb fb bb kb : Nat) : Value := .func (.func 37) #[] #[.pointer (some ⟨sb, 0, none⟩), .pointer (some ⟨nb, 0, none⟩), .pointer (some ⟨fb, 0, none⟩), .pointer (some ⟨bb, 0, none⟩), .pointer (some ⟨kb, 0, none⟩)]
structure EnvR (V : World) (n : Int) (l : List Stp) (a : Option Addr) (cap r sb nb fb bb kb : Nat) : Prop where
  s0 : V.cell? ⟨sb, 0, none⟩ = some (.int .i64 n)
  s1 : V.cell? ⟨sb, 1, none⟩ = some (.slice a l.length cap)
  n0 : V.cell? ⟨nb, 0, none⟩ = some (.int .i64 l.length)
  f0 : V.cell? ⟨fb, 0, none⟩ = some (.int .i64 r)
  seq : SeqG V a l
  top : V.heap.size ≤ bb
  kb : bb < kb
  r64 : r ≤ 64
structure StR (V w : World) (sb nb fb bb kb : Nat) : Prop where
  ext : Ext V w
  kk : w.cell? ⟨kb, 0, none⟩ = some (walkV sb nb fb bb kb)
  bc : ∃ u, w.cell? ⟨bb, 0, none⟩ = some u
  bf : w.frozen? ⟨bb, 0, none⟩ = false
theorem StR.below {V A B : World} {sb nb fb bb kb m : Nat} (h : StR V A sb nb fb bb kb) (hV : V.heap.size ≤ bb) (hb : bb < kb) (k : Below m A B) (hm : kb < m) : StR V B sb nb fb bb kb := by
  obtain ⟨u, hu⟩ := h.bc
  exact ⟨h.ext.trans' k (by omega), cellB k hm h.kk, ⟨u, cellB k (by show bb < m; omega) hu⟩, by
    rw [← h.bf]; exact World.frozen?_of_block (w := A) (a := ⟨bb, 0, none⟩) (Below.block k bb (by omega))⟩
theorem StR.put {V A : World} {sb nb fb bb kb : Nat} (h : StR V A sb nb fb bb kb) (hV : V.heap.size ≤ bb) (hb : bb < kb) (v : Value) : StR V (A.setCell ⟨bb, 0, none⟩ v) sb nb fb bb kb := by
  obtain ⟨u, hu⟩ := h.bc
  refine ⟨h.ext.set hV _, ?_, ⟨v, ?_⟩, by rw [World.frozen?_setCell]; exact h.bf⟩
  · rw [World.cell?_setCell_other _ _ _ _ (fun e => by simp only [Addr.mk.injEq] at e; omega)]; exact h.kk
  · rw [World.cell?_setCell_same _ _ _ hu]
def BestAt (w : World) (bb kb : Nat) (xs : List Nat) : Prop := ∃ v, w.cell? ⟨bb, 0, none⟩ = some v ∧ OwnsI w v (intsN xs) ∧ ∀ g, v.ownBlock = some g → kb < g
theorem BestAt.ext {A B : World} {bb kb : Nat} {xs : List Nat} (h : BestAt A bb kb xs) (k : Ext A B) : BestAt B bb kb xs := by
  obtain ⟨v, h1, h2, h3⟩ := h
  exact ⟨v, k.cell h1, h2.ext k, h3⟩
def WPost (V : World) (sb nb fb bb kb : Nat) (v : Value) (xs : List Nat) (R : Option (List Nat)) (w : World) (e : Ending) (w' : World) : Prop :=
  e = .returned (.bool R.isSome) ∧ StR V w' sb nb fb bb kb ∧ OwnsI w' v (intsN xs) ∧ (∀ ys, R = some ys → BestAt w' bb kb ys) ∧ Chg (fun g => g = bb ∨ v.ownBlock = some g) w w'
theorem wpost_none {V : World} {sb nb fb bb kb : Nat} {v : Value} {xs : List Nat} {R : Option (List Nat)} {w w' : World} (hR : R = none) (h1 : StR V w' sb nb fb bb kb) (h2 : OwnsI w' v (intsN xs)) (h3 : Chg (fun g => g = bb ∨ v.ownBlock = some g) w w') : WPost V sb nb fb bb kb v xs R w (.returned (.bool false)) w' :=
  ⟨by rw [hR]; rfl, h1, h2, fun ys hy => (by rw [hR] at hy; cases hy), h3⟩
theorem wpost_some {V : World} {sb nb fb bb kb : Nat} {v : Value} {xs ys : List Nat} {R : Option (List Nat)} {w w' : World} (hR : R = some ys) (h1 : StR V w' sb nb fb bb kb) (h2 : OwnsI w' v (intsN xs)) (hb : BestAt w' bb kb ys) (h3 : Chg (fun g => g = bb ∨ v.ownBlock = some g) w w') : WPost V sb nb fb bb kb v xs R w (.returned (.bool true)) w' :=
  ⟨by rw [hR]; rfl, h1, h2, fun zs hy => (by rw [hR] at hy; cases hy; exact hb), h3⟩
theorem chg_app {w A B C : World} {v v4 : Value} {bb : Nat} (h : Ext w A) (k : AppEnd A B v v4) (c : Chg (fun g => g = bb ∨ v4.ownBlock = some g) B C) : Chg (fun g => g = bb ∨ v.ownBlock = some g) w C := by
  obtain ⟨k1, k2, k3⟩ := k.chg
  refine ⟨Nat.le_trans h.size (Nat.le_trans k2 c.1), fun g hg hn => ?_⟩
  have hgA : g < A.heap.size := Nat.lt_of_lt_of_le hg h.size
  rw [c.2 g (Nat.lt_of_lt_of_le hgA k2) (fun e => ?_), k1 g hgA (fun e => hn (.inr e)), Below.block h g hg]
  rcases e with e | e
  · exact hn (.inl e)
  · rcases k3 g e with e | e
    · exact hn (.inr e)
    · omega
theorem own_back {A B C : World} {v v4 : Value} {N M : List Int} {bb : Nat} (hO : OwnsI A v N) (k : AppEnd A B v v4) (hb : ∀ g, v.ownBlock = some g → bb < g) (hold : v4.ownBlock = v.ownBlock → OwnsI C v4 M → OwnsI C v N) (h4 : OwnsI C v4 M) (c : Chg (fun g => g = bb ∨ v4.ownBlock = some g) B C) : OwnsI C v N := by
  by_cases he : v4.ownBlock = v.ownBlock
  · exact hold he h4
  · obtain ⟨k1, k2, k3⟩ := k.chg
    rcases k with ⟨h1, _, _⟩ | ⟨h1, hE⟩
    · exact absurd h1 he
    · refine rowSame (hO.ext hE) fun g hg => c.2 g (Nat.lt_of_lt_of_le (rowLt hO hg) hE.size) (fun e => ?_)
      have h2 := rowLt hO hg
      have h3 := hb g hg
      rcases e with e | e
      · omega
      · rw [h1] at e; cases e; omega
set_option maxHeartbeats 16000000 in
set_option maxRecDepth 100000 in
theorem walk_any {V : World} {n : Int} {l : List Stp} {a : Option Addr} {cap r sb nb fb bb kb : Nat} (hE : EnvR V n l a cap r sb nb fb bb kb) : ∀ (f : Nat) (xs : List Nat) (v : Value) (w : World),
    StR V w sb nb fb bb kb → OwnsI w v (intsN xs) → (∀ g, v.ownBlock = some g → kb < g) → 0 < xs.length → xs.length ≤ xs.getLastD 0 + 1 → xs.headD 0 ≤ xs.getLastD 0 → xs.getLastD 0 < l.length → l.length - xs.getLastD 0 ≤ f →
    Calls Tryd.prog 37 #[v, .pointer (some ⟨sb, 0, none⟩), .pointer (some ⟨nb, 0, none⟩), .pointer (some ⟨fb, 0, none⟩), .pointer (some ⟨bb, 0, none⟩), .pointer (some ⟨kb, 0, none⟩)] w
      (WPost V sb nb fb bb kb v xs (wlkS (okF (cyc l)) l.length r f xs) w) := by
  intro f
  induction f with
  | zero => intro xs v w _ _ _ _ _ _ h1 h2; omega
  | succ f ih =>
    intro xs v w hs ho hvb hx0 hxl hhd hlt hf
    have IH := Lib.hid ih
    have HE := Lib.hid hE
    have HS := Lib.hid hs
    have HO := Lib.hid ho
    have HVB := Lib.hid hvb
    obtain ⟨R, hR⟩ : ∃ R, R = wlkS (okF (cyc l)) l.length r (f + 1) xs := ⟨_, rfl⟩
    rw [← hR]
    have HOK := Lib.hid (okF_her (cyc l))
    generalize hokd : okF (cyc l) = ok at HOK hR
    have HD := Lib.hid hokd
    unfold wlkS at hR
    have HR := Lib.hid hR
    have hl64 := hE.seq.len
    have hl0 := hE.seq.pos
    clear ih hs ho hvb hR hokd
    obtain ⟨last, hla⟩ : ∃ last, last = xs.getLastD 0 := ⟨_, rfl⟩
    obtain ⟨hd, hhdd⟩ : ∃ hd, hd = xs.headD 0 := ⟨_, rfl⟩
    rw [← hla] at hlt hf hhd hxl HR
    rw [← hhdd] at hhd HR
    obtain ⟨i0, hi, hi0, hi1, hi2⟩ := info_parts infoInt
    obtain ⟨va, vc, hv, hvc, hvr⟩ := HO.out.reads
    rw [intsN_len] at hv
    obtain ⟨L, hL⟩ : ∃ L, L = xs.length := ⟨_, rfl⟩
    rw [← hL] at hv hx0 hxl HR
    obtain ⟨p, hp⟩ : ∃ p, p + 1 = L := ⟨L - 1, by omega⟩
    have hpL : p < L := by omega
    have hL64 : L ≤ 64 := by omega
    obtain ⟨vb, vo, hva, e1⟩ := hvc p (by rw [intsN_len]; omega)
    obtain ⟨_, _, hva2, e0⟩ := hvc 0 (by rw [intsN_len]; omega)
    rw [hva] at hva2
    cases hva2
    have hxe : xs.getD p 0 = last := by
      rw [hla, show p = xs.length - 1 by omega, List.getLastD_eq_getLast?, List.getLast?_eq_getElem?, List.getD_eq_getElem?_getD]
    have hxh : xs.getD 0 0 = hd := by rw [hhdd]; cases xs <;> rfl
    rw [intsN_get, hxe] at e1
    rw [intsN_get, hxh, Nat.add_zero] at e0
    have HV := Lib.hid hv
    have HLA := Lib.hid hla
    have HHD := Lib.hid hhdd
    have HL := Lib.hid hL
    subst hv
    subst hva
    clear hvc hvr hxe hxh hla hhdd hL
    have s0 := HS.out.ext.cell HE.out.s0
    have s1 := HS.out.ext.cell HE.out.s1
    have n0 := HS.out.ext.cell HE.out.n0
    have f0 := HS.out.ext.cell HE.out.f0
    have z0 := cell_lt s0
    have z1 := cell_lt n0
    have z2 := cell_lt f0
    have z3 := cell_lt e1
    dsimp only at z0 z1 z2 z3
    have u2 : IntKind.i64.wrap ((L : Int) - 1) = (p : Int) := by rw [IntWalk.i64_in _ (by omega)]; omega
    have u3 : IntKind.i64.wrap ((hd : Int) + (l.length : Int)) = ((hd + l.length : Nat) : Int) := by rw [IntWalk.i64_in _ (by omega)]; omega
    have HND := Lib.hid (fun W' hs => needed_any n l a cap last (hd + l.length) W' (by omega) (by omega) hs)
    rw [HD.out] at HND
    obtain ⟨N, hN⟩ : ∃ N, N = needS ok (hd + l.length) (hd + l.length - last) last := ⟨_, rfl⟩
    rw [← hN] at HND HR
    have hN2 : N ≤ 200 := by
      have h1 := need_greedy HOK.out (b := hd + l.length) (hd + l.length - last) last (Nat.le_refl _) (by omega)
      have h2 : ∀ {a b k : Nat}, Greedy ok a b k → k ≤ b - a := by
        intro a b k h
        induction h with
        | nil => omega
        | cons g1 g2 g3 g4 ih => have := g4.div.le; omega
      have := h2 h1
      omega
    clear hN
    have u4 : IntKind.i64.wrap ((p : Int) + (N : Int)) = ((p + N : Nat) : Int) := by rw [IntWalk.i64_in _ (by omega)]; omega
    go_enter Tryd.func37, Tryd.ntmps37
    go_wp2
    go_region_held3 (fun w' => Sees w w') ((repeat (first | exact Sees.refl _ | assumption | apply Sees.drew | apply Sees.alloc | (refine Sees.ext ?_ (by assumption))))) (first | (go_at_call 38; refine (HND.out _ (HE.out.seq.ext (HS.out.ext.trans (by exact (show Sees w _ by assumption).2.2)))).mono ?_; rintro e w' ⟨rfl, hE⟩))
    have F := (show Sees w _ by assumption).2.2
    generalize w' = w1 at F ⊢
    by_cases hrn : r < p + N
    · have HRN : Hid (R = none) := by show _ = _; rw [HR.out, if_pos (by omega)]
      go_wp2
      go_ret
      exact wpost_none HRN.out (HS.out.below HE.out.top HE.out.kb F (cell_lt HS.out.kk)) (HO.out.ext F) (Chg.ext F)
    have HR2 : Hid (R = if xs.length = r then some xs else tryS ok last (fun k => wlkS ok l.length r f (xs ++ [k])) (l.length - (last + 1)) (last + 1)) := by
      show _ = _
      rw [HR.out, if_neg (by omega), HL.out]
    clear HR
    have S1 : Hid (StR V w1 sb nb fb bb kb) := HS.out.below HE.out.top HE.out.kb F (cell_lt HS.out.kk)
    have O1 := Lib.hid (HO.out.ext F)
    have f0 := F.cell f0
    have n0 := F.cell n0
    have e1 := F.cell e1
    by_cases hLr : L = r
    · have HRS : Hid (R = some xs) := by show _ = _; rw [HR2.out, if_pos (by have := HL.out; omega)]
      subst hLr
      obtain ⟨u, hu⟩ := S1.out.bc
      have hbf := S1.out.bf
      have hcl := CloneI_any (intsN xs) vb vo vc w1 (by rw [intsN_len]; have := HL.out; omega) (by rw [intsN_len]; have := HL.out; omega)
      rw [intsN_len, ← HL.out] at hcl
      have HCL := Lib.hid hcl
      clear hcl
      obtain ⟨_, _, hq, hqc, _⟩ := O1.out.reads
      injection hq with q1 q2 q3
      subst q1
      have HQC := Lib.hid hqc
      have z4 := cell_lt hu
      clear hqc q2 q3
      go_wp2_with fail
      refine (HCL.out HQC.out).mono ?_
      rintro e w2 ⟨v2, rfl, hO2, hb2, hE2⟩
      have hu2 := hE2.cell hu
      have hbf2 := (Below.frozen (p := ⟨bb, 0, none⟩) hE2 (cell_lt hu)).trans hbf
      have z5 := cell_lt hu2
      dsimp only at z5
      have HO2 := Lib.hid hO2
      have HB2 := Lib.hid hb2
      obtain ⟨wa, wc, rfl, _, _⟩ := hO2.reads
      clear hO2 hb2 hu hbf
      go_wp2
      go_ret
      have S2 : StR V w2 sb nb fb bb kb := S1.out.below HE.out.top HE.out.kb hE2 (cell_lt S1.out.kk)
      have hc2 : Chg (fun g => g = bb) w2 (w2.setCell ⟨bb, 0, none⟩ (.slice wa (intsN xs).length wc)) := Chg.setCell (B := fun g => g = bb) ⟨bb, 0, none⟩ _ rfl
      have hkk := cell_lt S1.out.kk
      have hbk := HE.out.kb
      refine wpost_some HRS.out (S2.put HE.out.top HE.out.kb _) ?_ ⟨.slice wa (intsN xs).length wc, World.cell?_setCell_same _ _ _ hu2, ?_, ?_⟩ ?_
      · exact rowSame (O1.out.ext hE2) fun g hg => hc2.2 g (rowLt (O1.out.ext hE2) hg) (by have := HVB.out g hg; omega)
      · exact rowSame HO2.out fun g hg => hc2.2 g (rowLt HO2.out hg) (by have := HB2.out g hg; dsimp only at hkk; omega)
      · intro g hg; have := HB2.out g hg; dsimp only at hkk; omega
      · exact (Chg.ext (F.trans hE2)).trans (hc2.mono fun g hg => .inl hg)
    have HT : Hid (R = tryS ok last (fun k => wlkS ok l.length r f (xs ++ [k])) (l.length - (last + 1)) (last + 1)) := by
      show _ = _
      rw [HR2.out, if_neg (by have := HL.out; omega)]
    clear HR2
    obtain ⟨G, hG⟩ : ∃ G, G = fun k => wlkS ok l.length r f (xs ++ [k]) := ⟨_, rfl⟩
    rw [← hG] at HT
    have HG := Lib.hid hG
    clear hG
    have hne : ((L : Int) == (r : Int)) = false := beq_eq_false_iff_ne.2 (by omega)
    have u5 : IntKind.i64.wrap ((last : Int) + 1) = ((last + 1 : Nat) : Int) := by rw [IntWalk.i64_in _ (by omega)]; omega
    go_wp2
    go_loopw [9] (fun s wr => ∃ k : Nat, last + 1 ≤ k ∧ k ≤ l.length ∧ s = .int .i64 k ∧ Hid (R = tryS ok last G (l.length - k) k ∧ StR V wr sb nb fb bb kb ∧ OwnsI wr (.slice (some ⟨vb, vo, none⟩) L vc) (intsN xs) ∧ Chg (fun g => g = bb ∨ (Value.slice (some ⟨vb, vo, none⟩) L vc).ownBlock = some g) w wr)) (fun s _ => l.length - (intOf s).toNat)
    case atStart => exact ⟨last + 1, Nat.le_refl _, by omega, rfl, HT.out, S1.out, O1.out, Chg.ext F⟩
    case round =>
      clear s0 s1 n0 f0 e0 e1 z0 z1 z2 z3 u2 u3 u4 hne
      obtain ⟨k, hk1, hk2, rfl, hst⟩ := hrel
      have n0 := hst.out.2.1.ext.cell HE.out.n0
      by_cases hk : k < l.length
      · have s0 := hst.out.2.1.ext.cell HE.out.s0
        have s1 := hst.out.2.1.ext.cell HE.out.s1
        have HON := Lib.hid (fun W' hs => once_any n l a cap last (k - last) W' (by omega) (by omega) hs)
        rw [show last + (k - last) = k by omega, HD.out] at HON
        have u6 : IntKind.i64.wrap ((k : Int) - (last : Int)) = ((k - last : Nat) : Int) := by rw [IntWalk.i64_in _ (by omega)]; omega
        obtain ⟨q, hq⟩ : ∃ q, ok last k = q := ⟨_, rfl⟩
        rw [hq] at HON
        have HQ := Lib.hid hq
        clear hq
        go_wp2_with fail
        refine (HON.out _ (HE.out.seq.ext hst.out.2.1.ext)).mono ?_
        rintro e w2 ⟨⟨m, rfl⟩, hE2⟩
        have ST : Hid (R = tryS ok last G (l.length - k) k ∧ StR V w2 sb nb fb bb kb ∧ OwnsI w2 (.slice (some ⟨vb, vo, none⟩) L vc) (intsN xs) ∧ Chg (fun g => g = bb ∨ (Value.slice (some ⟨vb, vo, none⟩) L vc).ownBlock = some g) w w2) :=
          ⟨hst.out.1, hst.out.2.1.below HE.out.top HE.out.kb hE2 (cell_lt hst.out.2.1.kk), hst.out.2.2.1.ext hE2, hst.out.2.2.2.trans (Chg.ext hE2)⟩
        clear s0 s1 n0 hst hE2 HON
        cases q
        · have HRN : Hid (R = none) := by
            show _ = _
            rw [ST.out.1, show l.length - k = (l.length - k - 1) + 1 by omega]
            unfold tryS
            rw [if_neg (by rw [HQ.out]; simp)]
          go_wp2
          go_ret
          exact wpost_none HRN.out ST.out.2.1 ST.out.2.2.1 ST.out.2.2.2
        · have htry : R = match G k with | some x => some x | none => tryS ok last G (l.length - (k + 1)) (k + 1) := by
            rw [ST.out.1, show l.length - k = (l.length - (k + 1)) + 1 by omega]
            conv => lhs; unfold tryS
            rw [if_pos HQ.out]
            cases G k <;> rfl
          obtain ⟨R2, hR2⟩ : ∃ R2, R2 = G k := ⟨_, rfl⟩
          rw [← hR2] at htry
          have HTY := Lib.hid htry
          have HIH : Hid (∀ (v4 : Value) (w4 : World), StR V w4 sb nb fb bb kb → OwnsI w4 v4 (intsN (xs ++ [k])) → (∀ g, v4.ownBlock = some g → kb < g) → Calls Tryd.prog 37 #[v4, .pointer (some ⟨sb, 0, none⟩), .pointer (some ⟨nb, 0, none⟩), .pointer (some ⟨fb, 0, none⟩), .pointer (some ⟨bb, 0, none⟩), .pointer (some ⟨kb, 0, none⟩)] w4 (WPost V sb nb fb bb kb v4 (xs ++ [k]) R2 w4)) := by
            intro v4 w4 h1 h2 h3
            have hgl : (xs ++ [k]).getLastD 0 = k := by simp
            have hgh : (xs ++ [k]).headD 0 = hd := by
              rw [HHD.out]
              cases hxs : xs with
              | nil => have := HL.out; rw [hxs] at this; simp at this; omega
              | cons => rfl
            have := IH.out (xs ++ [k]) v4 w4 h1 h2 h3 (by simp) (by rw [hgl, List.length_append, List.length_singleton]; have := HL.out; omega) (by rw [hgl, hgh]; omega) (by rw [hgl]; exact hk) (by rw [hgl]; omega)
            rw [hR2, HG.out]
            rwa [HD.out] at this
          clear htry hR2
          go_wp2
          refine wp_region_heldE 5 (fun w' => w'.cell? ⟨kb, 0, none⟩ = some (walkV sb nb fb bb kb)) (by kernel_rfl) ?_
          have ED : Ext w2 w2.drew := extA
          have hS : w2.drew.cell? ⟨kb, 0, none⟩ = some (walkV sb nb fb bb kb) := ED.cell ST.out.2.1.kk
          have zk := cell_lt hS
          dsimp only at zk
          generalize w2.drew = W2 at ED hS zk ⊢
          (refine eTk 0 ?_)
          ((refine ePu 1 ?_); (refine ePu 2 ?_))
          have E3 : Ext W2 (W2.alloc (.cells #[.int .i64 (k : Int)] 3)) := extA
          (refine wpAnyE_one (i := 3) (o := ?_) ?_ (by kernel_rfl) (fun K hK => ?_); rotate_left; (focus ((simp only [List.getElem?_toArray, List.getElem?_cons_succ, List.getElem?_cons_zero]; exact rfl))); go_simp; refine hK.out _ _ ?_ (fun hHeld => ?_); rotate_left; clear hK K; (try simp only [Act.put, List.setIfInBounds_toArray, List.set_cons_zero, List.set_cons_succ]))
          rotate_left
          · exact E3.cell hS
          have hkk := cell_lt ST.out.2.1.kk
          dsimp only at hkk
          have hbk := HE.out.kb
          have EW : Ext w2 (W2.alloc (.cells #[.int .i64 (k : Int)] 3)) := ED.trans E3
          have OW := ST.out.2.2.1.ext EW
          have hcx : (W2.alloc (.cells #[.int .i64 (k : Int)] 3)).cell? ⟨W2.heap.size, 0, none⟩ = some (.int .i64 (k : Int)) := by go_simp
          obtain ⟨v4, w4, hr4, hO4, hend4, hold4⟩ := run_appI _ _ (intsN xs) (k : Int) OW (by rw [intsN_len]; have := HL.out; omega) ⟨W2.heap.size, 0, none⟩ 1 hcx
          have hO4' : OwnsI w4 v4 (intsN (xs ++ [k])) := by unfold intsN at hO4 ⊢; rw [List.map_append]; exact hO4
          have hesz := EW.size
          have B4 := hend4.below (n := kb + 1) (by omega) (fun g hg => HVB.out g hg)
          have hge4 := hend4.ge (n := kb + 1) (by omega) (fun g hg => HVB.out g hg)
          have S4 : StR V w4 sb nb fb bb kb := (ST.out.2.1.below HE.out.top HE.out.kb EW (cell_lt ST.out.2.1.kk)).below HE.out.top HE.out.kb B4 (Nat.lt_succ_self _)
          have HR4 := Lib.hid hr4
          have HO4 := Lib.hid hO4'
          have HW4 := Lib.hid (And.intro OW (And.intro hend4 hold4))
          have HS4 := Lib.hid S4
          have HGE := Lib.hid hge4
          have HEW := Lib.hid EW
          clear hr4 hO4 hO4' hend4 hold4 OW S4 hge4 B4 hcx hesz
          (refine wpAnyE_one (i := 4) (o := ?_) ?_ (by kernel_rfl) (fun K hK => ?_); rotate_left; (focus ((simp only [List.getElem?_toArray, List.getElem?_cons_succ, List.getElem?_cons_zero]; exact rfl))); refine step_append_run rfl _ _ 27 27 rfl (.slice (some ⟨vb, vo, none⟩) L vc) (.slice (some ⟨W2.heap.size, 0, none⟩) 1 1) rfl rfl _ _ HR4.out ?_; refine hK.out _ _ ?_ (fun hHeld => ?_); rotate_left; clear hK K; (try simp only [Act.put, List.setIfInBounds_toArray, List.set_cons_zero, List.set_cons_succ]))
          rotate_left
          · exact HS4.out.kk
          (refine wpAnyE_free (i := 5) (o := ?_) ?_ (by kernel_rfl) (by kernel_rfl) (fun K hK => ?_); rotate_left; (focus ((simp only [List.getElem?_toArray, List.getElem?_cons_succ, List.getElem?_cons_zero]; exact rfl))); go_simp; refine (HIH.out _ _ HS4.out HO4.out (fun g hg => HGE.out g hg)).mono ?_; rintro e w5 ⟨rfl, hs5, ho5, hb5, hc5⟩; go_wp2_with fail; refine hK.out _ _ ?_; clear hK K; (try simp only [Act.put, List.setIfInBounds_toArray, List.set_cons_zero, List.set_cons_succ]))
          refine wpAnyE_done (by kernel_rfl) ?_ _
          have S5 := Lib.hid hs5
          have OB := Lib.hid (own_back HW4.out.1 HW4.out.2.1 (bb := bb) (fun g hg => by have := HVB.out g hg; omega) (fun h1 h2 => HW4.out.2.2 w5 h1 (by have h3 := h2; unfold intsN at h3 ⊢; rw [List.map_append] at h3; exact h3)) ho5 hc5)
          have HB5 := Lib.hid hb5
          have HC5 := Lib.hid (ST.out.2.2.2.trans (chg_app HEW.out HW4.out.2.1 hc5))
          clear hs5 ho5 hb5 hc5
          cases R2 with
          | none =>
            go_wp2
            refine ⟨⟨k + 1, by omega, by omega, by go_num, HTY.out, S5.out, OB.out, HC5.out⟩, by simp [intOf]; omega⟩
          | some ys =>
            have HRS : Hid (R = some ys) := HTY
            go_wp2
            go_ret
            exact wpost_some HRS.out S5.out OB.out (HB5.out ys rfl) HC5.out
      · have HRN : Hid (R = none) := by
          show _ = _
          rw [hst.out.1, show l.length - k = 0 by omega]
          rfl
        go_wp2
        go_ret
        exact wpost_none HRN.out hst.out.2.1 hst.out.2.2.1 hst.out.2.2.2
end Go.Proofs.YtdolibeceijnnaaDoor
namespace Go.Proofs.YtdolibeceijnnaaDoor
open Go.RowKit
theorem seqG_of {w : World} {n : Int} {l : List Stp} {a : Option Addr} (hk : ckSeq (n, l) = 0) (hc : CellsP w a l) (hG : GBits w) : SeqG w a l := by
  have h := ckSeq_right hk
  refine ⟨hc, fun x hx y hy => ?_, h.len.1, h.len.2, hG⟩
  have h1 := (h.fine x hx).2 y hy
  have h2 := h.act
  unfold In at h1
  omega
def elseO (R S : Option (List Nat)) : Option (List Nat) := match R with
  | some x => some x
  | none => S
theorem first_succ (g : Nat → Option (List Nat)) (c k : Nat) : firstS g (c + 1) k = elseO (g k) (firstS g c (k + 1)) := by
  conv => lhs; unfold firstS
  cases g k <;> rfl
set_option maxHeartbeats 8000000 in
set_option maxRecDepth 100000 in
theorem Fewest_any (n : Int) (l : List Stp) (a : Option Addr) (cap : Nat) (w : World) (hk : ckSeq (n, l) = 0) (hG : GBits w) (hc : CellsP w a l) :
    Calls Tryd.prog 12 #[.agg #[.int .i64 n, .slice a l.length cap]] w (IntsPost (intsN (longS (okF (cyc l)) l.length 0)) 0 w) := by
  have HS := Lib.hid (seqG_of hk hc hG)
  have HCK := Lib.hid (fun W h => Check_any n l a cap W (by have := (ckSeq_right hk).len; unfold maxLen; omega) h)
  rw [hk] at HCK
  have HLN := Lib.hid (fun W h => longest_any n l a cap 0 W (by omega) h)
  clear hk hG hc
  generalize longS (okF (cyc l)) l.length 0 = L at HLN ⊢
  go_enter Tryd.func12, Tryd.ntmps12
  go_wp2_with fail
  have E1 : Ext w (w.alloc (.cells #[.int .i64 n, .slice a l.length cap] 24)) := extA
  have c0 : ((w.alloc (.cells #[.int .i64 n, .slice a l.length cap] 24))).cell? ⟨w.heap.size, 0, none⟩ = some (.int .i64 n) := by go_simp
  have c1 : ((w.alloc (.cells #[.int .i64 n, .slice a l.length cap] 24))).cell? ⟨w.heap.size, 1, none⟩ = some (.slice a l.length cap) := by go_simp
  obtain ⟨bs, hbs⟩ : ∃ bs, bs = w.heap.size := ⟨_, rfl⟩
  rw [← hbs] at c0 c1 ⊢
  clear hbs
  generalize (w.alloc (.cells #[.int .i64 n, .slice a l.length cap] 24)) = W at E1 c0 c1 ⊢
  refine (HCK.out _ (HS.out.ext E1).cells).mono ?_
  rintro e w1 ⟨rfl, hE⟩
  have F1 := E1.trans hE
  have c0 := hE.cell c0
  have c1 := hE.cell c1
  go_wp2_with fail
  refine (HLN.out _ (HS.out.ext F1)).mono ?_
  rintro e w2 ⟨v, rfl, hO, hb, hE2⟩
  obtain ⟨ra, rc, rfl, hrc, hrl⟩ := hO.reads
  go_wp2
  go_ret2
  exact ⟨ra, rc, rfl, hrc, hrl, F1.trans hE2⟩
set_option maxHeartbeats 16000000 in
set_option maxRecDepth 100000 in
theorem Ring_any (n : Int) (l : List Stp) (a : Option Addr) (cap : Nat) (w : World) (hk : ckSeq (n, l) = 0) (hG : GBits w) (hc : CellsP w a l) :
    Calls Tryd.prog 13 #[.agg #[.int .i64 n, .slice a l.length cap]] w (IntsPost (intsN (ringS (okF (cyc l)) l.length)) 0 w) := by
  have HS := Lib.hid (seqG_of hk hc hG)
  have HCK := Lib.hid (fun W h => Check_any n l a cap W (by have := (ckSeq_right hk).len; unfold maxLen; omega) h)
  rw [hk] at HCK
  have hl0 := HS.out.pos
  have hl64 := HS.out.len
  obtain ⟨RS, hRS⟩ : ∃ RS, RS = ringS (okF (cyc l)) l.length := ⟨_, rfl⟩
  rw [← hRS]
  have HRS := Lib.hid hRS
  clear hk hG hc hRS
  go_enter Tryd.func13, Tryd.ntmps13
  go_wp2_with fail
  have E1 : Ext w (w.alloc (.cells #[.int .i64 n, .slice a l.length cap] 24)) := extA
  have c0 : ((w.alloc (.cells #[.int .i64 n, .slice a l.length cap] 24))).cell? ⟨w.heap.size, 0, none⟩ = some (.int .i64 n) := by go_simp
  have c1 : ((w.alloc (.cells #[.int .i64 n, .slice a l.length cap] 24))).cell? ⟨w.heap.size, 1, none⟩ = some (.slice a l.length cap) := by go_simp
  obtain ⟨bs, hbs⟩ : ∃ bs, bs = w.heap.size := ⟨_, rfl⟩
  rw [← hbs] at c0 c1 ⊢
  clear hbs
  generalize (w.alloc (.cells #[.int .i64 n, .slice a l.length cap] 24)) = W at E1 c0 c1 ⊢
  refine (HCK.out _ (HS.out.ext E1).cells).mono ?_
  rintro e w1 ⟨rfl, hE⟩
  have F1 := E1.trans hE
  have c0 := hE.cell c0
  have c1 := hE.cell c1
  have z1 := cell_lt c1
  dsimp only at z1
  clear hE E1 HCK
  go_wp2
  have E2 : Ext w1 (w1.alloc (.cells #[.int .i64 l.length] 3)) := extA
  have E3 : Ext (w1.alloc (.cells #[.int .i64 l.length] 3)) ((w1.alloc (.cells #[.int .i64 l.length] 3)).alloc (.cells #[.int .i64 l.length] 3)) := extA
  have n0 : ((w1.alloc (.cells #[.int .i64 l.length] 3))).cell? ⟨w1.heap.size, 0, none⟩ = some (.int .i64 l.length) := by go_simp
  have f0 : (((w1.alloc (.cells #[.int .i64 l.length] 3)).alloc (.cells #[.int .i64 l.length] 3))).cell? ⟨w1.heap.size + 1, 0, none⟩ = some (.int .i64 l.length) := by go_simp
  have ff : (((w1.alloc (.cells #[.int .i64 l.length] 3)).alloc (.cells #[.int .i64 l.length] 3))).frozen? ⟨w1.heap.size + 1, 0, none⟩ = false := by go_simp
  have hva : ((w1.alloc (.cells #[.int .i64 l.length] 3))).heap.size = w1.heap.size + 1 := Array.size_push _
  obtain ⟨nb, hnb⟩ : ∃ nb, nb = w1.heap.size := ⟨_, rfl⟩
  obtain ⟨fb, hfb⟩ : ∃ fb, fb = nb + 1 := ⟨_, rfl⟩
  rw [← hnb, ← hfb] at hva f0 ff
  rw [← hnb] at n0
  rw [← hnb, ← hfb]
  generalize ((w1.alloc (.cells #[.int .i64 l.length] 3)).alloc (.cells #[.int .i64 l.length] 3)) = VB at E3 f0 ff ⊢
  generalize (w1.alloc (.cells #[.int .i64 l.length] 3)) = VA at E2 E3 n0 hva ⊢
  have F2 := F1.trans E2
  have s0 := E2.cell c0
  have s1 := E2.cell c1
  have HVA := Lib.hid (Nat.le_of_eq hva)
  have HS2 := Lib.hid (HS.out.ext F2)
  clear c0 c1 z1 hva E2 F1 hnb hfb
  go_loopw [21] (fun s wr => ∃ k m : Nat, k ≤ l.length ∧ s = .int .i64 k ∧ m ≤ 64 ∧ Hid (fewS (okF (cyc l)) l.length (l.length - k) k m = minS (okF (cyc l)) l.length) ∧ Ext VA wr ∧ wr.cell? ⟨fb, 0, none⟩ = some (.int .i64 m) ∧ wr.frozen? ⟨fb, 0, none⟩ = false) (fun s _ => l.length - (intOf s).toNat)
  case atStart => exact ⟨0, l.length, Nat.zero_le _, rfl, hl64, rfl, E3, f0, ff⟩
  case round =>
    clear f0 ff E3
    obtain ⟨k, m, hk, rfl, hm, hfw, he, f0, ff⟩ := hrel
    have d0 := he.cell s0
    have d1 := he.cell s1
    have zf := cell_lt f0
    have zs := cell_lt d0
    dsimp only at zf zs
    by_cases hlt : k < l.length
    · have hfw2 : fewS (okF (cyc l)) l.length (l.length - (k + 1)) (k + 1) (min m (longS (okF (cyc l)) l.length k).length) = minS (okF (cyc l)) l.length := by
        have h1 := hfw.out
        rw [show l.length - k = (l.length - (k + 1)) + 1 by omega] at h1
        exact h1
      have HLN := Lib.hid (fun W h => longest_any n l a cap k W (by omega) h)
      have hlen : (longS (okF (cyc l)) l.length k).length ≤ 64 := Nat.le_trans (long_len (okF_her _) hl0) hl64
      obtain ⟨L, hL⟩ : ∃ L, L = longS (okF (cyc l)) l.length k := ⟨_, rfl⟩
      rw [← hL] at HLN hfw2 hlen
      have HFW := Lib.hid hfw2
      clear hL hfw hfw2
      go_wp2
      refine wp_region_heldE 6 (fun w' => w'.cell? ⟨fb, 0, none⟩ = some (.int .i64 m) ∧ w'.frozen? ⟨fb, 0, none⟩ = false ∧ w'.cell? ⟨bs, 0, none⟩ = some (.int .i64 n) ∧ w'.cell? ⟨bs, 1, none⟩ = some (.slice a l.length cap)) (by kernel_rfl) ?_
      have ED : Ext wr wr.drew := extA
      have hS : wr.drew.cell? ⟨fb, 0, none⟩ = some (.int .i64 m) ∧ wr.drew.frozen? ⟨fb, 0, none⟩ = false ∧ wr.drew.cell? ⟨bs, 0, none⟩ = some (.int .i64 n) ∧ wr.drew.cell? ⟨bs, 1, none⟩ = some (.slice a l.length cap) := ⟨ED.cell f0, by rw [← ff]; rfl, ED.cell d0, ED.cell d1⟩
      have zf := cell_lt hS.1
      dsimp only at zf
      clear f0 ff d0 d1 zs
      generalize wr.drew = W2 at ED hS zf ⊢
      ((refine eTk 0 ?_); (refine eTk 1 ?_))
      (refine ePu 2 ?_)
      (refine wpAnyE_one (i := 3) (o := ?_) ?_ (by kernel_rfl) (fun K hK => ?_); rotate_left; (focus ((simp only [List.getElem?_toArray, List.getElem?_cons_succ, List.getElem?_cons_zero]; exact rfl))); go_simp; refine (HLN.out _ (HS2.out.ext (he.trans ED))).mono ?_; rintro e w3 ⟨v, rfl, hO, hvb, hE3⟩; obtain ⟨ra, rc, rfl, _, _⟩ := hO.reads; rw [intsN_len]; go_wp2_with fail; refine hK.out _ _ ?_ (fun hHeld => ?_); rotate_left; clear hK K; (try simp only [Act.put, List.setIfInBounds_toArray, List.set_cons_zero, List.set_cons_succ]))
      rotate_left
      · exact ⟨hE3.cell hS.1, (Below.frozen (p := ⟨fb, 0, none⟩) hE3 zf).trans hS.2.1, hE3.cell hS.2.2.1, hE3.cell hS.2.2.2⟩
      have F3 := he.trans (ED.trans hE3)
      ((refine ePu 4 ?_); (refine ePu 5 ?_))
      have hH : w3.cell? ⟨fb, 0, none⟩ = some (.int .i64 m) ∧ w3.frozen? ⟨fb, 0, none⟩ = false ∧ w3.cell? ⟨bs, 0, none⟩ = some (.int .i64 n) ∧ w3.cell? ⟨bs, 1, none⟩ = some (.slice a l.length cap) := by assumption
      have zf3 := cell_lt hH.1
      dsimp only at zf3
      (refine wpAnyE_free (i := 6) (o := ?_) ?_ (by kernel_rfl) (by kernel_rfl) (fun K hK => ?_); rotate_left; (focus ((simp only [List.getElem?_toArray, List.getElem?_cons_succ, List.getElem?_cons_zero]; exact rfl))); go_simp; refine hK.out _ _ ?_; clear hK K; (try simp only [Act.put, List.setIfInBounds_toArray, List.set_cons_zero, List.set_cons_succ]))
      refine wpAnyE_done (by kernel_rfl) ?_ _
      go_wp2
      refine ⟨⟨k + 1, min m L.length, by omega, by go_num, by omega, HFW.out, F3.set (by have := HVA.out; omega) _, ?_, by rw [World.frozen?_setCell]; exact hH.2.1⟩, by simp [intOf]; omega⟩
      rw [World.cell?_setCell_same _ _ _ hH.1]
      congr 2
      (try split) <;> omega
    · have hke : k = l.length := by omega
      subst hke
      have hm0 : m = minS (okF (cyc l)) l.length := by
        have h1 := hfw.out
        rw [Nat.sub_self] at h1
        exact h1
      have HM := Lib.hid hm0
      clear hfw hm0 hlt
      have HSV := Lib.hid (HS2.out.ext he)
      have n0 := he.cell n0
      have F2 := F2.trans he
      have hkb : wr.heap.size < wr.heap.size + 1 := Nat.lt_succ_self _
      have HEN : Hid (∀ V bb kb, Ext wr V → V.heap.size ≤ bb → bb < kb → EnvR V n l a cap m bs nb fb bb kb) := fun V bb kb hV h1 h2 =>
        ⟨hV.cell d0, hV.cell d1, hV.cell n0, hV.cell f0, HSV.out.ext hV, h1, h2, hm⟩
      have zn := cell_lt n0
      dsimp only at zn
      clear he HS2 s0 s1 HVA HS
      go_wp2
      have EW : Ext wr ((wr.alloc (.cells #[.slice none 0 0] 27)).alloc (.cells #[walkV bs nb fb wr.heap.size (wr.heap.size + 1)] 73)) := extA
      have SW : Hid (StR wr ((wr.alloc (.cells #[.slice none 0 0] 27)).alloc (.cells #[walkV bs nb fb wr.heap.size (wr.heap.size + 1)] 73)) bs nb fb wr.heap.size (wr.heap.size + 1)) := ⟨EW, by go_simp, ⟨.slice none 0 0, by go_simp⟩, by go_simp⟩
      unfold walkV at SW
      obtain ⟨bb, hbb⟩ : ∃ bb, bb = wr.heap.size := ⟨_, rfl⟩
      rw [← hbb] at SW ⊢
      have HEV := Lib.hid (HEN.out wr bb (bb + 1) (Ext.refl _) (Nat.le_of_eq hbb.symm) (Nat.lt_succ_self _))
      have HBB := Lib.hid hbb
      clear hbb EW HEN f0 ff d0 d1 n0 zf zs zn hkb
      generalize ((wr.alloc (.cells #[.slice none 0 0] 27)).alloc (.cells #[.func (.func 37) #[] #[.pointer (some ⟨bs, 0, none⟩), .pointer (some ⟨nb, 0, none⟩), .pointer (some ⟨fb, 0, none⟩), .pointer (some ⟨bb, 0, none⟩), .pointer (some ⟨bb + 1, 0, none⟩)]] 73)) = VW at SW ⊢
      obtain ⟨G, hG⟩ : ∃ G, G = fun x => wlkS (okF (cyc l)) l.length m l.length [x] := ⟨_, rfl⟩
      have hfs : ∃ ys, firstS G l.length 0 = some ys ∧ RS = ys := by
        have h1 := HRS.out
        unfold ringS at h1
        rw [← HM.out, ← hG] at h1
        cases hx : firstS G l.length 0 with
        | some ys => rw [hx] at h1; exact ⟨ys, rfl, h1⟩
        | none =>
          rw [hx] at h1
          have h2 := ring_len (okF_her (cyc l)) (cyc_per l) hl0
          rw [← HRS.out, h1] at h2
          have h3 := (min_pos (okF_her (cyc l)) hl0).1
          simp at h2
          omega
      have HFS := Lib.hid hfs
      have HG := Lib.hid hG
      clear hfs hG
      generalize wr = W9 at *
      go_loopw [33] (fun s w2 => ∃ k : Nat, k ≤ l.length ∧ s = .int .i64 k ∧ Hid (firstS G (l.length - k) k = firstS G l.length 0 ∧ StR W9 w2 bs nb fb bb (bb + 1))) (fun s _ => l.length - (intOf s).toNat)
      case atStart => exact ⟨0, Nat.zero_le _, rfl, rfl, SW.out⟩
      case round =>
        obtain ⟨k, hk, rfl, hst⟩ := hrel
        clear SW
        by_cases hlt : k < l.length
        · have hkk := hst.out.2.kk
          have zk := cell_lt hkk
          dsimp only at zk
          unfold walkV at hkk
          have E3 : Ext wr (wr.alloc (.cells #[.int .i64 (k : Int)] 3)) := extA
          have O3 := Lib.hid (ownsI_one wr (k : Int))
          have S3 := Lib.hid (hst.out.2.below HEV.out.top HEV.out.kb E3 (cell_lt hst.out.2.kk))
          have hwk := walk_any HEV.out l.length [k] (.slice (some ⟨wr.heap.size, 0, none⟩) 1 1) _ S3.out O3.out (fun g hg => by cases hg; exact zk) (by simp) (by simp) (by simp) (by simpa using hlt) (by simp)
          obtain ⟨R, hR⟩ : ∃ R, R = G k := ⟨_, rfl⟩
          have hwR : wlkS (okF (cyc l)) l.length m l.length [k] = R := by rw [hR, HG.out]
          rw [hwR] at hwk
          have hfk : firstS G l.length 0 = elseO R (firstS G (l.length - (k + 1)) (k + 1)) := by
            rw [← hst.out.1, show l.length - k = (l.length - (k + 1)) + 1 by omega, first_succ, ← hR]
          have HFK := Lib.hid hfk
          have HWK := Lib.hid hwk
          clear hfk hwk hwR hR E3 O3 S3 hst
          go_wp2_with fail
          refine HWK.out.mono ?_
          rintro e w5 ⟨rfl, hs5, _, hb5, _⟩
          have S5 := Lib.hid hs5
          have HB5 := Lib.hid hb5
          clear hs5 hb5 HWK hkk zk
          cases R with
          | none =>
            go_wp2
            refine ⟨⟨k + 1, by omega, by go_num, HFK.out.symm, S5.out⟩, by simp [intOf]; omega⟩
          | some ys =>
            obtain ⟨zs, hz1, hz2⟩ := HFS.out
            have hzy : zs = ys := by have h1 := HFK.out; rw [hz1] at h1; exact Option.some.inj h1
            subst hzy
            obtain ⟨v, hv1, hv2, _⟩ := HB5.out zs rfl
            obtain ⟨ra, rc, rfl, hrc, hrl⟩ := hv2.reads
            have HRC := Lib.hid hrc
            have HX5 := Lib.hid (F2.trans S5.out.ext)
            clear hv2 hrc
            go_wp2
            go_ret2
            rw [hz2]
            exact ⟨ra, rc, rfl, HRC.out, hrl, HX5.out⟩
        · exfalso
          obtain ⟨zs, hz1, _⟩ := HFS.out
          have h1 := hst.out.1
          rw [hz1, show l.length - k = 0 by omega] at h1
          cases h1
end Go.Proofs.YtdolibeceijnnaaDoor
namespace Go.Proofs.YtdolibeceijnnaaDoor
open Go.RowKit
def cutGo (s by' : ByteArray) : Nat → Nat → Nat → List ByteArray
  | 0, _, f => [s.extract f s.size]
  | n + 1, i, f => if i + by'.size ≤ s.size then
      (if f ≤ i then (if (s.extract i (i + by'.size)).toList == by'.toList then s.extract f i :: cutGo s by' n (i + 1) (i + by'.size) else cutGo s by' n (i + 1) f) else cutGo s by' n (i + 1) f)
      else [s.extract f s.size]
def cutS (s by' : ByteArray) : List ByteArray := cutGo s by' (s.size + 1) 0 0
theorem infoStr : (Tryd.prog.info? 9).map (fun i => (i.zero, i.size, i.bytes)) = some (some (.string ByteArray.empty), 1, 16) := by kernel_rfl
def OwnsS (w : World) (v : Value) (l : List ByteArray) : Prop := w.ownsRow 0 9 1 v l.length (l.map Value.string)
theorem OwnsS.nil (w : World) : OwnsS w (.slice none 0 0) [] := World.ownsRow_nil w 0 _ _
theorem OwnsS.ext {A B : World} {v : Value} {l : List ByteArray} (h : OwnsS A v l) (k : Ext A B) : OwnsS B v l := rowExt h k
def str0 : ByteArray := ByteArray.empty
def CellsS (w : World) (a : Option Addr) (l : List ByteArray) : Prop := ∀ i, i < l.length → ∃ b off, a = some ⟨b, off, none⟩ ∧ w.cell? ⟨b, off + i, none⟩ = some (.string (l.getD i str0))
theorem CellsS.ext {w w' : World} {a : Option Addr} {l : List ByteArray} (h : CellsS w a l) (he : Ext w w') : CellsS w' a l := fun i hi => by
  obtain ⟨b, off, h1, h2⟩ := h i hi
  exact ⟨b, off, h1, he.cell h2⟩
theorem OwnsS.reads {A : World} {v : Value} {l : List ByteArray} (h : OwnsS A v l) : ∃ a cap, v = .slice a l.length cap ∧ CellsS A a l ∧ l.length ≤ maxLen ∧ ∀ b off, a = some ⟨b, off, none⟩ → l ≠ [] → v.ownBlock = some b := by
  obtain ⟨a, cap, hv, hm, hr⟩ := rowReads h
  refine ⟨a, cap, hv, fun i hi => ?_, hm, fun b off hb hne => ?_⟩
  rotate_left
  · have h0 : 0 < l.length := List.length_pos_iff.2 hne
    obtain ⟨b', hb', h3, _, _⟩ := hr 0 (.string (l.getD 0 str0)) (by rw [List.getElem?_map, List.getD_eq_getElem?_getD, List.getElem?_eq_getElem h0]; rfl)
    rw [hb] at hb'
    cases hb'
    exact h3
  obtain ⟨b, hb, _, h1, _⟩ := hr i (.string (l.getD i str0)) (by rw [List.getElem?_map, List.getD_eq_getElem?_getD, List.getElem?_eq_getElem hi]; rfl)
  exact ⟨b, 0, hb, by rw [Nat.zero_add]; exact h1⟩
theorem ownsS_succ {w : World} {v : Value} {l : List ByteArray} {x : ByteArray} (h : w.ownsRow 0 9 1 v (l.length + 1) (l.map Value.string ++ [.string x])) : OwnsS w v (l ++ [x]) := by
  unfold OwnsS
  rw [List.length_append, List.map_append]; exact h
def StrsPost (l : List ByteArray) (w : World) (e : Ending) (w' : World) : Prop := ∃ a c, e = .returned (.slice a l.length c) ∧ CellsS w' a l ∧ l.length ≤ maxLen ∧ (∀ b off, a = some ⟨b, off, none⟩ → l ≠ [] → w.heap.size ≤ b) ∧ Ext w w'
set_option maxHeartbeats 4000000 in
set_option maxRecDepth 100000 in
theorem Cut_any (s by' : ByteArray) (w : World) (hs : s.size ≤ 5000) (h0 : 0 < by'.size) (hb : by'.size ≤ 10) :
    Calls Tryd.prog 88 #[.string s, .string by'] w (StrsPost (cutS s by') w) := by
  obtain ⟨L, hL⟩ : ∃ L, L = cutS s by' := ⟨_, rfl⟩
  rw [← hL]
  have HL : Hid (cutGo s by' (s.size + 1) 0 0 = L) := hL.symm
  clear hL
  obtain ⟨i0, hi, hi0, hi1, hi2⟩ := info_parts infoStr
  go_enter Tryd.func88, Tryd.ntmps88
  go_wp2
  go_loopw [7, 5, 6] (fun i v fr wr => ∃ k f : Nat, k ≤ s.size ∧ f ≤ s.size ∧ i = .int .i64 k ∧ fr = .int .i64 f ∧ (∃ vv, v = vv ∧ ∃ P : List ByteArray, P.length ≤ k ∧ Hid (P ++ cutGo s by' (s.size - k + 1) k f = L) ∧ Hid (OwnsS wr vv P ∧ ∀ b, vv.ownBlock = some b → w.heap.size ≤ b)) ∧ Ext w wr) (fun i _ _ _ => s.size + 1 - (intOf i).toNat)
  case atStart => exact ⟨0, 0, by omega, by omega, rfl, rfl, ⟨_, rfl, [], by simp, HL, OwnsS.nil _, fun b hb => by cases hb⟩, Ext.refl _⟩
  case round =>
    obtain ⟨k, f, hk, hf, rfl, rfl, ⟨vv, hvv, P, hP, hz, hO⟩, he⟩ := hrel
    obtain rfl := hvv.symm
    have hsz := he.size
    have hz1 := hz.out
    unfold cutGo at hz1
    clear hz HL
    have hw1 : IntKind.i64.wrap ((k : Int) + (by'.size : Int)) = (k : Int) + (by'.size : Int) := IntWalk.i64_in _ (by omega)
    have hf2 : (f : Int) ≤ (s.size : Int) := by omega
    have hf3 : (0 : Int) ≤ (f : Int) := by omega
    have O2 := Lib.hid hO.out.1
    have OB := Lib.hid hO.out.2
    clear hO
    by_cases hle : k + by'.size ≤ s.size
    · have hle2 : (k : Int) + (by'.size : Int) ≤ (s.size : Int) := by omega
      have hfu : s.size - k = s.size - (k + 1) + 1 := by omega
      rw [if_pos hle, hfu] at hz1
      have ht2 : ((k : Int) + (by'.size : Int)).toNat = k + by'.size := by omega
      have hp2 : (0 : Int) ≤ (k : Int) + (by'.size : Int) := by omega
      have hp3 : (k : Int) ≤ (k : Int) + (by'.size : Int) := by omega
      by_cases hfk : f ≤ k
      · have hfk2 : (f : Int) ≤ (k : Int) := by omega
        rw [if_pos hfk] at hz1
        cases hq : ((s.extract k (k + by'.size)).toList == by'.toList)
        · rw [hq] at hz1
          simp only [Bool.false_eq_true, if_false] at hz1
          have HZ := Lib.hid hz1
          clear hz1
          go_wp2
          refine ⟨⟨k + 1, f, by omega, hf, by go_num, rfl, ⟨_, rfl, P, by omega, HZ, ⟨O2.out, OB.out⟩⟩, he⟩, by simp [intOf]; omega⟩
        · rw [hq] at hz1
          simp only [if_true] at hz1
          have HZ : Hid ((P ++ [s.extract f k]) ++ cutGo s by' (s.size - (k + 1) + 1) (k + 1) (k + by'.size) = L) := by show _ = _; rw [List.append_assoc]; exact hz1
          clear hz1
          have hks : (k : Int) ≤ (s.size : Int) := by omega
          go_wp2_with (at_builtin; refine wpList_append1 _ rfl _ _ 126 rfl 9 i0 (.string ByteArray.empty) 1 16 Tryd.underlying126 hi hi0 hi1 hi2 rfl (by decide) vv P.length (P.map Value.string) rfl ?ho ⟨wr.heap.size, 0, none⟩ 1 1 (by decide) [.string (s.extract f k)] rfl rfl ?hn ?c1 ?c2 ?c3 ?c4)
          case ho => exact O2.out.ext ((Ext.refl _).alloc _)
          case c1 => rfl
          case c2 => unfold maxLen; omega
          case c3 => omega
          case c4 =>
            intro v' w5 hown5 hend5
            have O5 : Hid (OwnsS w5 v' (P ++ [s.extract f k])) := ownsS_succ hown5
            have B5 : Ext w w5 := (he.trans ((Ext.refl _).alloc _)).trans' (hend5.below (n := w.heap.size) (by simp; omega) OB.out) (Nat.le_refl _)
            have OB5 : Hid (∀ b, v'.ownBlock = some b → w.heap.size ≤ b) := hend5.ge (n := w.heap.size) (by simp; omega) OB.out
            clear hown5 hend5 O2 OB
            go_wp2
            refine ⟨⟨k + 1, k + by'.size, by omega, by omega, by go_num, by go_num, ⟨v', rfl, P ++ [s.extract f k], by rw [List.length_append]; simp; omega, HZ, ⟨O5.out, OB5.out⟩⟩, B5⟩, by simp [intOf]; omega⟩
      · have hfk2 : ¬ ((f : Int) ≤ (k : Int)) := by omega
        rw [if_neg hfk] at hz1
        have HZ := Lib.hid hz1
        clear hz1
        go_wp2
        refine ⟨⟨k + 1, f, by omega, hf, by go_num, rfl, ⟨_, rfl, P, by omega, HZ, ⟨O2.out, OB.out⟩⟩, he⟩, by simp [intOf]; omega⟩
    · have hle2 : ¬ ((k : Int) + (by'.size : Int) ≤ (s.size : Int)) := by omega
      rw [if_neg hle] at hz1
      have HZ := Lib.hid hz1
      clear hz1
      go_wp2_with (at_builtin; refine wpList_append1 _ rfl _ _ 126 rfl 9 i0 (.string ByteArray.empty) 1 16 Tryd.underlying126 hi hi0 hi1 hi2 rfl (by decide) vv P.length (P.map Value.string) rfl ?ko ⟨wr.heap.size, 0, none⟩ 1 1 (by decide) [.string (s.extract f s.size)] rfl rfl ?kn ?k1 ?k2 ?k3 ?k4)
      case ko => exact O2.out.ext ((Ext.refl _).alloc _)
      case k1 => rfl
      case k2 => unfold maxLen; omega
      case k3 => omega
      case k4 =>
        intro v' w5 hown5 hend5
        have O5 : Hid (OwnsS w5 v' L) := by show OwnsS _ _ _; rw [← HZ.out]; exact ownsS_succ hown5
        have B5 : Ext w w5 := (he.trans ((Ext.refl _).alloc _)).trans' (hend5.below (n := w.heap.size) (by simp; omega) OB.out) (Nat.le_refl _)
        have OB5 : Hid (∀ b, v'.ownBlock = some b → w.heap.size ≤ b) := hend5.ge (n := w.heap.size) (by simp; omega) OB.out
        clear hown5 hend5 O2 OB
        obtain ⟨ra, rc, rfl, hrc, hrl, hrb⟩ := O5.out.reads
        have HRC := Lib.hid hrc
        have HRB := Lib.hid hrb
        clear hrc hrb
        go_wp2
        go_ret
        exact ⟨ra, rc, rfl, HRC.out, hrl, (fun b off hb hne => OB5.out b (HRB.out b off hb hne)), B5⟩
end Go.Proofs.YtdolibeceijnnaaDoor
namespace Go.Proofs.YtdolibeceijnnaaDoor
open Go.RowKit
abbrev Bts := List UInt8
def wrB (x : Int) (o : Bool) : Bts := [(65 + x.toNat).toUInt8, if o then 43 else 45]
def allStk : List Stk := [(0, false), (0, true), (1, false), (1, true), (2, false), (2, true), (3, false), (3, true), (4, false), (4, true), (5, false), (5, true)]
def readL (s : Bts) : Option Stk := allStk.find? fun x => wrB x.1 x.2 == s
def numGo : Bts → Int → Option Int
  | [], n => some n
  | c :: l, n => if c < 48 ∨ 57 < c then none else numGo l (10 * n + ((c.toNat : Int) - 48))
def numL (s : Bts) : Option Int := if s.length < 2 ∨ 7 < s.length ∨ s.getD 0 0 = 48 then none else numGo s 0
def stepW : List Bts → List Stk → Option Stp
  | [], P => some (P, 0)
  | y :: ys, P => match readL y with
    | some x => stepW ys (P ++ [x])
    | none => if ys.length = 0 ∧ P.length ≠ 0 then (match numL y with | some n => if n = 0 then none else some (P, n) | none => none) else none
def cutL (s b : Bts) : Nat → Nat → Nat → List Bts
  | 0, _, f => [(s.drop f).take (s.length - f)]
  | n + 1, i, f => if i + b.length ≤ s.length then
      (if f ≤ i then (if ((s.drop i).take b.length == b) then (s.drop f).take (i - f) :: cutL s b n (i + 1) (i + b.length) else cutL s b n (i + 1) f) else cutL s b n (i + 1) f)
      else [(s.drop f).take (s.length - f)]
def cutB (s b : Bts) : List Bts := cutL s b (s.length + 1) 0 0
def stepL (s : Bts) : Option Stp := (stepW (cutB s [32]) []).filter fun x => ckStep x = 0
def allSome {α : Type} : List (Option α) → Option (List α)
  | [] => some []
  | none :: _ => none
  | some x :: l => (allSome l).map (x :: ·)
def stepsL (l : List Bts) : Option (List Stp) := allSome (l.map stepL)
def parseL (s : Bts) : Option (List Stp) := (stepsL (cutB s [59, 32])).filter fun l => l.length ≤ 64 ∧ s.length ≤ 4096 ∧ s.length ≠ 0
def ofGo (l : List Stp) (m : Int) : Int := l.foldl (fun m x => x.1.foldl (fun m y => max m (y.1 + 1)) m) m
def ofS (l : List Stp) : Sq := (ofGo l 0, l)
def sqL (s : Bts) : Option Sq := ((parseL s).map ofS).filter fun q => ckSeq q = 0
theorem toL_len (s : ByteArray) : s.toList.length = s.size := by rw [ByteArray.toList_eq]; rfl
theorem toL_extract (s : ByteArray) (i j : Nat) : (s.extract i j).toList = (s.toList.drop i).take (j - i) := by
  rw [ByteArray.toList_eq, ByteArray.toList_eq]
  simp [ByteArray.data_extract, Array.toList_extract]
theorem cutGo_map (s b : ByteArray) (n i f : Nat) : (cutGo s b n i f).map ByteArray.toList = cutL s.toList b.toList n i f := by
  induction n generalizing i f with
  | zero => simp [cutGo, cutL, toL_extract, toL_len]
  | succ n ih =>
    unfold cutGo cutL
    rw [toL_len, toL_len]
    by_cases h1 : i + b.size ≤ s.size
    · rw [if_pos h1, if_pos h1]
      by_cases h2 : f ≤ i
      · rw [if_pos h2, if_pos h2, toL_extract, show i + b.size - i = b.size by omega]
        cases h3 : ((s.toList.drop i).take b.size == b.toList)
        · simp only [Bool.false_eq_true, if_false]; exact ih _ _
        · simp only [if_true, List.map_cons, toL_extract]; rw [ih]
      · rw [if_neg h2, if_neg h2]; exact ih _ _
    · rw [if_neg h1, if_neg h1]; simp [toL_extract]
theorem cutS_map (s b : ByteArray) : (cutS s b).map ByteArray.toList = cutB s.toList b.toList := by
  unfold cutS cutB; rw [cutGo_map, toL_len]
def rdGo (s : Bts) (n : Nat) : Option Stk := (allStk.drop n).find? fun x => wrB x.1 x.2 == s
theorem rd_step (s : Bts) (k j : Nat) (hk : k < 6) (hj : j < 2) : rdGo s (2 * k + j) = if (wrB k (decide (j = 1)) == s) = true then some ((k : Int), decide (j = 1)) else rdGo s (2 * k + j + 1) := by
  have hk' : k = 0 ∨ k = 1 ∨ k = 2 ∨ k = 3 ∨ k = 4 ∨ k = 5 := by omega
  have hj' : j = 0 ∨ j = 1 := by omega
  rcases hk' with rfl | rfl | rfl | rfl | rfl | rfl <;> rcases hj' with rfl | rfl <;>
  · show List.find? _ (_ :: _) = _
    rw [List.find?_cons]
    split
    · next h => exact (if_pos h).symm
    · next h => exact (if_neg (fun e => Bool.false_ne_true (h.symm.trans e))).symm
theorem rd_end (s : Bts) : rdGo s 12 = none := rfl
theorem stepW_len {ws : List Bts} {P : List Stk} {x : Stp} (h : stepW ws P = some x) : P.length ≤ x.1.length ∧ x.1.length ≤ P.length + ws.length := by
  induction ws generalizing P with
  | nil => simp only [stepW, Option.some.injEq] at h; subst h; simp
  | cons y ys ih =>
    unfold stepW at h
    split at h
    · have := ih h; simp at this ⊢; omega
    · split at h
      · split at h
        · split at h
          · cases h
          · cases h; simp
        · cases h
      · cases h
theorem allSome_get {α : Type} {l : List (Option α)} {m : List α} (h : allSome l = some m) : l = m.map some := by
  induction l generalizing m with
  | nil => simp only [allSome, Option.some.injEq] at h; subst h; rfl
  | cons x l ih =>
    cases x with
    | none => cases h
    | some x =>
      unfold allSome at h
      cases h2 : allSome l with
      | none => rw [h2] at h; cases h
      | some m' => rw [h2] at h; cases h; rw [List.map_cons, ih h2]
end Go.Proofs.YtdolibeceijnnaaDoor
