/- Steps of the proof: QSort, QSortW, QSortF, QConcatK, QHas, QDel, QMergeM, QMerge, QOrdR, QIntsR, QStepR, QRenE, QMoves, QMovesP, QCmpL, QStd1, QSortI, QStable, QStdP, QAppP, QMergeR, QJoinR, QJoin, QBack, QBackP, QLetters, QRen1, QRen, QStdW, QRenP, ATop, TCon, USpec, UMem, ULaw, UNext, UStk, USpec2, UTask. No conditions. -/
import Derived.Lib.BitFns
import Derived.Deep.RegionLaw
import Derived.Lib.SlicesDelete
import Derived.Deep.DeepCutAuto
import Derived.Maps.OwnOps
import Derived.Maps.Views
import Derived.Lib.Hide
import Derived.Test.YtbpjbhbbkonjlaaGreatDoorZTB1
import Derived.Test.YtbpjbhbbkonjlaaGreatDoorZTB2
import Derived.Test.YtbpjbhbbkonjlaaGreatDoorZTB3
import Derived.Test.YtbpjbhbbkonjlaaGreatDoorZTB4
import Derived.Test.YtbpjbhbbkonjlaaGreatDoorZTB5
import Derived.Test.YtbpjbhbbkonjlaaGreatDoorZTB6
import Derived.Test.YtbpjbhbbkonjlaaGreatDoorZTB7
import Derived.Test.YtbpjbhbbkonjlaaGreatDoorZTB8
import Derived.Test.YtbpjbhbbkonjlaaGreatDoorZTB9
import Derived.Test.YtbpjbhbbkonjlaaGreatDoorZTB10
namespace Go.Proofs.YtbpjbhbbkonjlaaGreatDoor
open Go.RowKit
def cmpI (a b : Int) : Int := if a < b then -1 else if b < a then 1 else 0
theorem isNaN_any (x : Int) (w : World) : Calls Tryz.prog 111 #[.int .i64 x] w fun e w' => e = .returned (.bool false) ∧ w = w' := by
  have h : (x != x) = false := by simp
  go_enter Tryz.func111, Tryz.ntmps111
  go_wp2
  go_ret
  exact ⟨rfl, rfl⟩
theorem Compare_any (a b : Int) (w : World) : Calls Tryz.prog 88 #[.int .i64 a, .int .i64 b] w fun e w' => e = .returned (.int .i64 (cmpI a b)) ∧ w = w' := by
  unfold cmpI
  by_cases h1 : a < b
  · have h2 : ¬ b < a := by omega
    go_enter Tryz.func88, Tryz.ntmps88
    go_wp2_with (go_at_call 111; (with_reducible refine (isNaN_any _ _).mono ?_); rintro e w' ⟨rfl, rfl⟩)
    all_goals go_ret
    all_goals exact ⟨ret_int (by first | (simp; done) | (simp; omega)), rfl⟩
  · by_cases h2 : b < a
    · go_enter Tryz.func88, Tryz.ntmps88
      go_wp2_with (go_at_call 111; (with_reducible refine (isNaN_any _ _).mono ?_); rintro e w' ⟨rfl, rfl⟩)
      all_goals go_ret
      all_goals exact ⟨ret_int (by first | (simp; done) | (simp; omega)), rfl⟩
    · go_enter Tryz.func88, Tryz.ntmps88
      go_wp2_with (go_at_call 111; (with_reducible refine (isNaN_any _ _).mono ?_); rintro e w' ⟨rfl, rfl⟩)
      all_goals go_ret
      all_goals exact ⟨ret_int (by first | (simp; done) | (simp; omega)), rfl⟩
theorem sorted1_any (x y : Stk) (w : World) : Calls Tryz.prog 87 #[.agg #[.int .i64 x.1, .bool x.2], .agg #[.int .i64 y.1, .bool y.2]] w fun e w' => e = .returned (.int .i64 (cmpI x.1 y.1)) ∧ Ext w w' := by
  go_enter Tryz.func87, Tryz.ntmps87
  go_wp2_with fail
  refine (Compare_any x.1 y.1 _).mono ?_
  rintro e w1 ⟨rfl, rfl⟩
  go_wp2
  go_ret
  exact ⟨rfl, extA⟩
def StksAt (w : World) (b : Nat) (d : List Stk) : Prop := ∀ i, i < d.length → (w.cell? ⟨b, i * 2, none⟩ = some (.int .i64 (d.getD i stk0).1) ∧ w.cell? ⟨b, i * 2 + 1, none⟩ = some (.bool (d.getD i stk0).2)) ∧ w.frozen? ⟨b, i * 2, none⟩ = false ∧ w.frozen? ⟨b, i * 2 + 1, none⟩ = false
theorem StksAt.ext {A B : World} {b : Nat} {d : List Stk} (h : StksAt A b d) (k : Ext A B) : StksAt B b d := fun i hi => by
  obtain ⟨⟨h1, h2⟩, h3, h4⟩ := h i hi
  exact ⟨⟨k.cell h1, k.cell h2⟩, (Below.frozen (p := ⟨b, _, none⟩) k (cell_lt h1)).trans h3, (Below.frozen (p := ⟨b, _, none⟩) k (cell_lt h2)).trans h4⟩
theorem getD_set (d : List Stk) (i j : Nat) (x : Stk) (hi : i < d.length) : (d.set i x).getD j stk0 = if i = j then x else d.getD j stk0 := by
  rw [List.getD_eq_getElem?_getD, List.getD_eq_getElem?_getD, List.getElem?_set]
  by_cases h : i = j
  · subst h; rw [if_pos rfl, if_pos rfl, if_pos hi]; rfl
  · rw [if_neg h, if_neg h]
theorem StksAt.set {w : World} {b : Nat} {d : List Stk} (h : StksAt w b d) {i : Nat} (hi : i < d.length) (x : Stk) : StksAt ((w.setCell ⟨b, i * 2, none⟩ (.int .i64 x.1)).setCell ⟨b, i * 2 + 1, none⟩ (.bool x.2)) b (d.set i x) := fun j hj => by
  rw [List.length_set] at hj
  obtain ⟨⟨h1, h2⟩, h3, h4⟩ := h j hj
  obtain ⟨⟨k1, k2⟩, _, _⟩ := h i hi
  refine ⟨?_, by rw [World.frozen?_setCell, World.frozen?_setCell]; exact h3, by rw [World.frozen?_setCell, World.frozen?_setCell]; exact h4⟩
  rw [getD_set d i j x hi]
  by_cases e : i = j
  · subst e
    rw [if_pos rfl]
    refine ⟨?_, ?_⟩
    · rw [World.cell?_setCell_other _ _ _ _ (fun h => by simp only [Addr.mk.injEq] at h; omega), World.cell?_setCell_same _ _ _ k1]
    · rw [World.cell?_setCell_same _ _ (.bool x.2) (by rw [World.cell?_setCell_other _ _ _ _ (fun h => by simp only [Addr.mk.injEq] at h; omega)]; exact k2)]
  · rw [if_neg e]
    refine ⟨?_, ?_⟩
    · rw [World.cell?_setCell_other _ _ _ _ (fun h => by simp only [Addr.mk.injEq] at h; omega), World.cell?_setCell_other _ _ _ _ (fun h => by simp only [Addr.mk.injEq] at h; omega)]; exact h1
    · rw [World.cell?_setCell_other _ _ _ _ (fun h => by simp only [Addr.mk.injEq] at h; omega), World.cell?_setCell_other _ _ _ _ (fun h => by simp only [Addr.mk.injEq] at h; omega)]; exact h2
def insR (x : Stk) : List Stk → List Stk
  | [] => [x]
  | y :: r => if x.1 < y.1 then y :: insR x r else x :: y :: r
def sortQR : List Stk → List Stk
  | [] => []
  | x :: r => insR x (sortQR r)
def isortK (l : List Stk) : List Stk := (sortQR l.reverse).reverse
theorem insR_length (x : Stk) (r : List Stk) : (insR x r).length = r.length + 1 := by
  induction r with
  | nil => rfl
  | cons y r ih => unfold insR; split <;> simp [ih]
theorem sortR_length (r : List Stk) : (sortQR r).length = r.length := by
  induction r with
  | nil => rfl
  | cons x r ih => unfold sortQR; rw [insR_length, ih]; rfl
theorem insR_mem (x z : Stk) (r : List Stk) : z ∈ insR x r ↔ z = x ∨ z ∈ r := by
  induction r with
  | nil => simp [insR]
  | cons y r ih =>
    unfold insR
    split
    · rw [List.mem_cons, ih, List.mem_cons]
      exact ⟨fun h => by rcases h with h | h | h <;> simp [h], fun h => by rcases h with h | h | h <;> simp [h]⟩
    · simp
theorem sortR_mem (z : Stk) (r : List Stk) : z ∈ sortQR r ↔ z ∈ r := by
  induction r with
  | nil => rfl
  | cons x r ih => unfold sortQR; rw [insR_mem, ih, List.mem_cons]
theorem isortK_mem (z : Stk) (l : List Stk) : z ∈ isortK l ↔ z ∈ l := by unfold isortK; rw [List.mem_reverse, sortR_mem, List.mem_reverse]
theorem isortK_length (l : List Stk) : (isortK l).length = l.length := by unfold isortK; rw [List.length_reverse, sortR_length, List.length_reverse]
def Desc (r : List Stk) : Prop := r.Pairwise fun a b => b.1 < a.1
theorem insR_desc {x : Stk} {r : List Stk} (h : Desc r) (hx : ∀ y ∈ r, y.1 ≠ x.1) : Desc (insR x r) := by
  induction r with
  | nil => exact List.pairwise_singleton _ _
  | cons y r ih =>
    obtain ⟨h1, h2⟩ := List.pairwise_cons.1 h
    unfold insR
    by_cases c : x.1 < y.1
    · rw [if_pos c]
      refine List.pairwise_cons.2 ⟨fun z hz => ?_, ih h2 (fun z hz => hx z (List.mem_cons_of_mem _ hz))⟩
      rcases (insR_mem x z r).1 hz with rfl | hz
      · exact c
      · exact h1 z hz
    · rw [if_neg c]
      refine List.pairwise_cons.2 ⟨fun z hz => ?_, h⟩
      have := hx y (List.mem_cons_self ..)
      rcases List.mem_cons.1 hz with rfl | hz
      · omega
      · have := h1 z hz; omega
def Diff (l : List Stk) : Prop := l.Pairwise fun a b => a.1 ≠ b.1
theorem sortR_desc {r : List Stk} (h : Diff r) : Desc (sortQR r) := by
  induction r with
  | nil => exact List.Pairwise.nil
  | cons x r ih =>
    obtain ⟨h1, h2⟩ := List.pairwise_cons.1 h
    exact insR_desc (ih h2) (fun y hy => fun e => h1 y ((sortR_mem y r).1 hy) e.symm)
def Asc (l : List Stk) : Prop := l.Pairwise fun a b => a.1 < b.1
theorem isortK_asc {l : List Stk} (h : Diff l) : Asc (isortK l) := by
  unfold isortK Asc
  rw [List.pairwise_reverse]
  exact sortR_desc (List.pairwise_reverse.2 (h.imp fun hab e => hab e.symm))
theorem asc_ext {l m : List Stk} (hl : Asc l) (hm : Asc m) (h : ∀ z, z ∈ l ↔ z ∈ m) : l = m := by
  induction l generalizing m with
  | nil =>
    cases m with
    | nil => rfl
    | cons y m => exact absurd ((h y).2 (List.mem_cons_self ..)) (by simp)
  | cons x l ih =>
    cases m with
    | nil => exact absurd ((h x).1 (List.mem_cons_self ..)) (by simp)
    | cons y m =>
      obtain ⟨l1, l2⟩ := List.pairwise_cons.1 hl
      obtain ⟨m1, m2⟩ := List.pairwise_cons.1 hm
      have hxy : x = y := by
        rcases List.mem_cons.1 ((h x).1 (List.mem_cons_self ..)) with e | hx
        · exact e
        · rcases List.mem_cons.1 ((h y).2 (List.mem_cons_self ..)) with e | hy
          · exact e.symm
          · have a1 := m1 x hx
            have a2 := l1 y hy
            omega
      subst hxy
      congr 1
      refine ih l2 m2 (fun z => ⟨fun hz => ?_, fun hz => ?_⟩)
      · rcases List.mem_cons.1 ((h z).1 (List.mem_cons_of_mem _ hz)) with e | hz'
        · have := l1 z hz; rw [e] at this; omega
        · exact hz'
      · rcases List.mem_cons.1 ((h z).2 (List.mem_cons_of_mem _ hz)) with e | hz'
        · have := m1 z hz; rw [e] at this; omega
        · exact hz'
theorem ordered_mem (z : Stk) (l : List Stk) : z ∈ ordered l ↔ z ∈ l ∧ 0 ≤ z.1 ∧ z.1 < 6 := by
  unfold ordered
  rw [List.mem_flatMap]
  refine ⟨fun ⟨a, ha, hz⟩ => ?_, fun ⟨h1, h2, h3⟩ => ⟨z.1, ?_, List.mem_filter.2 ⟨h1, by simp⟩⟩⟩
  · obtain ⟨h1, h2⟩ := List.mem_filter.1 hz
    have h2 : z.1 = a := by simpa using h2
    unfold ints at ha
    obtain ⟨i, hi, rfl⟩ := List.mem_map.1 ha
    have := List.mem_range.1 hi
    have e : z.1 = (i : Int) := h2
    exact ⟨h1, by omega, by omega⟩
  · unfold ints
    exact List.mem_map.2 ⟨z.1.toNat, List.mem_range.2 (by show z.1.toNat < 6; omega), by show ((z.1.toNat : Nat) : Int) = z.1; omega⟩
theorem ordered_asc {l : List Stk} (h : Diff l) : Asc (ordered l) := by
  have h1 : ∀ (ls : List Int), ls.Pairwise (· < ·) → Asc (ls.flatMap fun a => l.filter fun y => y.1 == a) := by
    intro ls
    induction ls with
    | nil => intro _; exact List.Pairwise.nil
    | cons a ls ih =>
      intro hp
      obtain ⟨p1, p2⟩ := List.pairwise_cons.1 hp
      rw [List.flatMap_cons]
      refine List.pairwise_append.2 ⟨?_, ih p2, fun x hx y hy => ?_⟩
      · have hd : Diff (l.filter fun y => y.1 == a) := h.sublist (List.filter_sublist)
        refine hd.imp_of_mem (fun {x y} hx hy hne => ?_)
        have e1 : x.1 = a := by simpa using (List.mem_filter.1 hx).2
        have e2 : y.1 = a := by simpa using (List.mem_filter.1 hy).2
        exact absurd (e1.trans e2.symm) hne
      · have e1 : x.1 = a := by simpa using (List.mem_filter.1 hx).2
        obtain ⟨c, hc, hy2⟩ := List.mem_flatMap.1 hy
        have e2 : y.1 = c := by simpa using (List.mem_filter.1 hy2).2
        have := p1 c hc
        omega
  exact h1 _ (by decide)
theorem isortK_ordered {l : List Stk} (h : Diff l) (hk : ∀ y ∈ l, 0 ≤ y.1 ∧ y.1 < 6) : isortK l = ordered l :=
  asc_ext (isortK_asc h) (ordered_asc h) fun z => by
    rw [isortK_mem, ordered_mem]
    exact ⟨fun hz => ⟨hz, hk z hz⟩, fun hz => hz.1⟩
end Go.Proofs.YtbpjbhbbkonjlaaGreatDoor
namespace Go.Proofs.YtbpjbhbbkonjlaaGreatDoor
open Go.RowKit
def sortedTo (l : List Stk) (i : Nat) : List Stk := (sortQR (l.take i).reverse).reverse ++ l.drop i
theorem sortedTo_length (l : List Stk) (i : Nat) : (sortedTo l i).length = l.length := by
  unfold sortedTo
  rw [List.length_append, List.length_reverse, sortR_length, List.length_reverse, List.length_take, List.length_drop]; omega
theorem sortedTo_end (l : List Stk) : sortedTo l l.length = isortK l := by unfold sortedTo isortK; rw [List.take_length, List.drop_length, List.append_nil]
theorem sortedTo_one (l : List Stk) : sortedTo l 1 = l := by
  cases l with
  | nil => rfl
  | cons x l => simp [sortedTo, sortQR, insR]
theorem sortedTo_succ (l : List Stk) {i : Nat} (h : i < l.length) : sortedTo l (i + 1) = (insR (l.getD i stk0) (sortQR (l.take i).reverse)).reverse ++ l.drop (i + 1) := by
  unfold sortedTo
  rw [List.take_succ_eq_append_getElem h, List.reverse_append, List.getD_eq_getElem?_getD, List.getElem?_eq_getElem h]
  rfl
structure InSt (x : Stk) (S R d : List Stk) (j : Nat) : Prop where
  ex : ∃ P M, d = P ++ x :: M ++ S ∧ P.length = j ∧ (insR x P.reverse).reverse ++ M = R
theorem InSt.start (l : List Stk) {i : Nat} (h : i < l.length) : InSt (l.getD i stk0) (l.drop (i + 1)) (insR (l.getD i stk0) (sortQR (l.take i).reverse)).reverse (sortedTo l i) i :=
  ⟨(sortQR (l.take i).reverse).reverse, [], by unfold sortedTo; rw [drop_cons l stk0 h]; simp, by rw [List.length_reverse, sortR_length, List.length_reverse, List.length_take]; omega, by rw [List.reverse_reverse, List.append_nil]⟩
theorem InSt.at {x : Stk} {S R d : List Stk} {j : Nat} (h : InSt x S R d j) : d.getD j stk0 = x := by
  obtain ⟨P, M, rfl, rfl, _⟩ := h.ex
  rw [List.append_assoc, List.getD_eq_getElem?_getD, List.getElem?_append_right (Nat.le_refl _), Nat.sub_self]; rfl
theorem InSt.zero {x : Stk} {S R d : List Stk} (h : InSt x S R d 0) : d = R ++ S := by
  obtain ⟨P, M, rfl, hp, hr⟩ := h.ex
  have : P = [] := List.eq_nil_of_length_eq_zero hp
  subst this
  rw [← hr]; rfl
theorem InSt.stop {x : Stk} {S R d : List Stk} {j : Nat} (h : InSt x S R d (j + 1)) (hn : ¬ x.1 < (d.getD j stk0).1) : d = R ++ S := by
  obtain ⟨P, M, rfl, hp, hr⟩ := h.ex
  obtain ⟨P', y, rfl⟩ : ∃ P' y, P = P' ++ [y] := by
    rcases List.eq_nil_or_concat P with rfl | ⟨P', y, rfl⟩
    · simp at hp
    · exact ⟨P', y, by simp⟩
  have hj : P'.length = j := by simp at hp; exact hp
  have hy : ((P' ++ [y]) ++ x :: M ++ S).getD j stk0 = y := by
    rw [List.getD_eq_getElem?_getD, List.append_assoc, List.append_assoc, List.getElem?_append_right (by omega), hj, Nat.sub_self]; rfl
  rw [hy] at hn
  rw [List.reverse_append] at hr
  have e : insR x ([y].reverse ++ P'.reverse) = x :: y :: P'.reverse := by show insR x (y :: P'.reverse) = _; unfold insR; rw [if_neg hn]
  rw [e] at hr
  rw [← hr]
  simp
theorem InSt.swap {x : Stk} {S R d : List Stk} {j : Nat} (h : InSt x S R d (j + 1)) (hn : x.1 < (d.getD j stk0).1) : InSt x S R ((d.set (j + 1) (d.getD j stk0)).set j x) j := by
  obtain ⟨P, M, rfl, hp, hr⟩ := h.ex
  obtain ⟨P', y, rfl⟩ : ∃ P' y, P = P' ++ [y] := by
    rcases List.eq_nil_or_concat P with rfl | ⟨P', y, rfl⟩
    · simp at hp
    · exact ⟨P', y, by simp⟩
  have hj : P'.length = j := by simp at hp; exact hp
  have hy : ((P' ++ [y]) ++ x :: M ++ S).getD j stk0 = y := by
    rw [List.getD_eq_getElem?_getD, List.append_assoc, List.append_assoc, List.getElem?_append_right (by omega), hj, Nat.sub_self]; rfl
  rw [hy] at hn ⊢
  rw [List.reverse_append] at hr
  have e : insR x ([y].reverse ++ P'.reverse) = y :: insR x P'.reverse := by show insR x (y :: P'.reverse) = _; rw [insR, if_pos hn]
  rw [e] at hr
  refine ⟨P', y :: M, ?_, hj, ?_⟩
  · have e1 : (P' ++ [y]) ++ x :: M ++ S = P' ++ (y :: x :: (M ++ S)) := by simp
    rw [e1, List.set_append, if_neg (by omega), List.set_append, if_neg (by simp; omega)]
    have e2 : j + 1 - P'.length = 1 := by omega
    have e3 : j - P'.length = 0 := by omega
    rw [e2, e3]
    simp
  · rw [← hr]; simp
theorem InSt.len {x : Stk} {S R d : List Stk} {j : Nat} (h : InSt x S R d j) : j < d.length := by
  obtain ⟨P, M, rfl, rfl, _⟩ := h.ex
  simp
structure SoSt (b : Nat) (w wr : World) (d : List Stk) : Prop where
  at_ : StksAt wr b d
  own : Own1 b w wr
theorem Own1.trans {n : Nat} {A B C : World} (h : Own1 n A B) (k : Own1 n B C) : Own1 n A C := ⟨h.1.trans k.1, fun i hi hn => (k.2 i (Nat.lt_of_lt_of_le hi h.1.size) hn).trans (h.2 i hi hn)⟩
theorem Own1.setCell {n : Nat} {A : World} (j : Nat) (v : Value) : Own1 n A (A.setCell ⟨n, j, none⟩ v) := ⟨(Below.refl _ _).setCell (p := ⟨n, j, none⟩) (Nat.le_refl _) _, fun k _ hne => Below.heap_setCell _ _ _ _ (fun e => hne (by first | exact e | exact e.symm))⟩
theorem SoSt.ext {b : Nat} {w A B : World} {d : List Stk} (h : SoSt b w A d) (k : Ext A B) (hb : b < A.heap.size) : SoSt b w B d := ⟨h.at_.ext k, h.own.trans (Own1.ext k (Nat.le_of_lt hb))⟩
set_option maxHeartbeats 8000000 in
set_option maxRecDepth 100000 in
theorem insertion_any (l : List Stk) (b cap : Nat) (w : World) (hl : l.length ≤ 12) (h : StksAt w b l) (hb : b < w.heap.size) :
    Calls Tryz.prog 133 #[.slice (some ⟨b, 0, none⟩) l.length cap, .int .i64 0, .int .i64 (l.length : Int), .func (.func 87) #[] #[]] w fun e w' => e = .returned (.tuple #[]) ∧ SoSt b w w' (isortK l) := by
  have M0 : Hid (SoSt b w w (sortedTo l 1)) := ⟨by rw [sortedTo_one]; exact h, Own1.ext (Ext.refl _) (Nat.le_of_lt hb)⟩
  clear h
  go_enter Tryz.func133, Tryz.ntmps133
  go_wp2
  go_loopw [8] (fun i wr => ∃ k : Nat, 1 ≤ k ∧ (k ≤ l.length ∨ k = 1) ∧ i = .int .i64 k ∧ Hid (SoSt b w wr (sortedTo l k))) (fun i _ => l.length + 1 - (intOf i).toNat)
  case atStart => exact ⟨1, by omega, .inr rfl, rfl, M0⟩
  case round =>
    obtain ⟨k, hk1, hk, rfl, M⟩ := hrel
    clear M0
    by_cases hlt : k < l.length
    · have hs := InSt.start l hlt
      have HSU := Lib.hid (sortedTo_succ l hlt)
      have hdl := sortedTo_length l k
      generalize (insR (l.getD k stk0) (sortQR (l.take k).reverse)).reverse = R at hs HSU
      generalize l.getD k stk0 = x at hs HSU
      generalize l.drop (k + 1) = S at hs HSU
      obtain ⟨d, hd⟩ : ∃ d, d = sortedTo l k := ⟨_, rfl⟩
      rw [← hd] at hs M hdl
      have HIN := Lib.hid hs
      clear hd hs
      go_wp2
      obtain ⟨wo, rfl⟩ : ∃ wo : World, wo = wr := ⟨_, rfl⟩
      go_loopw [9] (fun i wr => ∃ j : Nat, j ≤ k ∧ i = .int .i64 j ∧ ∃ d : List Stk, d.length = l.length ∧ Hid (InSt x S R d j) ∧ Hid (SoSt b w wr d)) (fun i _ => (intOf i).toNat)
      case atStart => exact ⟨k, Nat.le_refl _, rfl, d, hdl, HIN, M⟩
      case round =>
        clear M HIN
        obtain ⟨j, hj, rfl, d', hdl', HIN, M⟩ := hrel
        have zb : b < wr.heap.size := Nat.lt_of_lt_of_le hb M.out.own.1.size
        by_cases hj0 : j = 0
        · subst hj0
          have ME : Hid (SoSt b w wr (sortedTo l (k + 1))) := by
            show SoSt _ _ _ _
            rw [HSU.out, ← HIN.out.zero]; exact M.out
          go_wp2
          go_quiet (fail)
          go_wp2
          refine ⟨⟨k + 1, by omega, .inl (by omega), by go_num, ME.out.ext extA zb⟩, by simp [intOf]; omega⟩
        · obtain ⟨q, rfl⟩ : ∃ q, j = q + 1 := ⟨j - 1, by omega⟩
          clear hj0
          have hjl := HIN.out.len
          obtain ⟨⟨e1, e2⟩, e3, e4⟩ := M.out.at_ (q + 1) (by omega)
          obtain ⟨⟨f1, f2⟩, f3, f4⟩ := M.out.at_ q (by omega)
          rw [HIN.out.at] at e1 e2
          have HST := Lib.hid (fun hn => HIN.out.stop hn)
          have HSW := Lib.hid (fun hn => HIN.out.swap hn)
          generalize d'.getD q stk0 = y at f1 f2 HST HSW
          have z1 := cell_lt e1
          have hq2 : ((q : Int) + 1 - 1).toNat = q := by omega
          have hq3 : ((q + 1 : Nat) : Int) - 1 = (q : Int) := by omega
          have hq4 : IntKind.i64.wrap (((q + 1 : Nat) : Int) - 1) = (q : Int) := by rw [hq3]; exact IntWalk.i64_in _ (by omega)
          have hq5 : decide (((q + 1 : Nat) : Int) > 0) = true := by simp
          have hgt : (0 : Int) < ((q + 1 : Nat) : Int) := by omega
          have hq6 : (0 : Int) ≤ (q : Int) := by omega
          have hq7 : (q : Int) < (l.length : Int) := by omega
          have hq8 : (q : Int) + 1 < (l.length : Int) := by omega
          have hq9 : q < l.length := by omega
          have hq11 : (0 : Int) ≤ (q : Int) + 1 := by omega
          have hq10 : q + 1 < l.length := by omega
          by_cases hlt2 : x.1 < y.1
          · have hc : cmpI x.1 y.1 = -1 := by unfold cmpI; rw [if_pos hlt2]
            have HC := Lib.hid hc
            clear hc
            go_wp2
            have hwq : IntKind.i64.wrap (q : Int) = (q : Int) := IntWalk.i64_in _ (by omega)
            go_region_held3 (fun w' => Sees wr w') ((repeat (first | exact Sees.refl _ | assumption | apply Sees.drew | apply Sees.alloc | (refine Sees.ext ?_ (by assumption))))) (first | (go_at_call 87; refine (sorted1_any x y _).mono ?_; rintro e w' ⟨rfl, hE⟩; rw [HC.out]))
            have hSee : Sees wr w' := by assumption
            have M2 : Hid (SoSt b w w' d') := M.out.ext hSee.2.2 zb
            have zb2 : b < w'.heap.size := Nat.lt_of_lt_of_le zb hSee.2.2.size
            clear M
            go_wp2
            refine wp_region_heldE 15 (fun w'' => w''.cell? ⟨b, (q + 1) * 2, none⟩ = some (.int .i64 x.1) ∧ w''.cell? ⟨b, (q + 1) * 2 + 1, none⟩ = some (.bool x.2) ∧ w''.cell? ⟨b, q * 2, none⟩ = some (.int .i64 y.1) ∧ w''.cell? ⟨b, q * 2 + 1, none⟩ = some (.bool y.2)) (by kernel_rfl) ?_
            have ED : Ext w' w'.drew := extA
            have EA := hSee.2.2.trans ED
            have e3 := (Below.frozen (p := ⟨b, (q + 1) * 2, none⟩) EA (cell_lt e1)).trans e3
            have e4 := (Below.frozen (p := ⟨b, (q + 1) * 2 + 1, none⟩) EA (cell_lt e2)).trans e4
            have f3 := (Below.frozen (p := ⟨b, q * 2, none⟩) EA (cell_lt f1)).trans f3
            have f4 := (Below.frozen (p := ⟨b, q * 2 + 1, none⟩) EA (cell_lt f2)).trans f4
            have e1 := EA.cell e1
            have e2 := EA.cell e2
            have f1 := EA.cell f1
            have f2 := EA.cell f2
            have M3 : Hid (SoSt b w w'.drew d') := M2.out.ext ED zb2
            clear M2
            have hS : w'.drew.cell? ⟨b, (q + 1) * 2, none⟩ = some (.int .i64 x.1) ∧ w'.drew.cell? ⟨b, (q + 1) * 2 + 1, none⟩ = some (.bool x.2) ∧ w'.drew.cell? ⟨b, q * 2, none⟩ = some (.int .i64 y.1) ∧ w'.drew.cell? ⟨b, q * 2 + 1, none⟩ = some (.bool y.2) := ⟨e1, e2, f1, f2⟩
            generalize w'.drew = W at M3 e1 e2 e3 e4 f1 f2 f3 f4 hS ⊢
            ((refine eTk 0 ?_); (refine eTk 1 ?_); (refine eTk 5 ?_); (refine eTk 6 ?_); (refine eTk 7 ?_); (refine eTk 8 ?_); (refine eTk 9 ?_))
            ((refine ePu 2 ?_); (refine ePu 3 ?_); (refine ePu 4 ?_); (refine ePu 10 ?_); (refine ePu 11 ?_); (refine ePu 12 ?_))
            (refine eTk 13 ?_)
            (refine ePu 14 ?_)
            (refine wpAnyE_free (i := 15) (o := ?_) ?_ (by kernel_rfl) (by kernel_rfl) (fun K hK => ?_); rotate_left; (focus ((simp only [List.getElem?_toArray, List.getElem?_cons_succ, List.getElem?_cons_zero]; exact rfl))); go_simp; refine hK.out _ _ ?_; clear hK K; (try simp only [Act.put, List.setIfInBounds_toArray, List.set_cons_zero, List.set_cons_succ]))
            (refine ePu 16 ?_)
            (refine wpAnyE_free (i := 17) (o := ?_) ?_ (by kernel_rfl) (by kernel_rfl) (fun K hK => ?_); rotate_left; (focus ((simp only [List.getElem?_toArray, List.getElem?_cons_succ, List.getElem?_cons_zero]; exact rfl))); go_simp; refine hK.out _ _ ?_; clear hK K; (try simp only [Act.put, List.setIfInBounds_toArray, List.set_cons_zero, List.set_cons_succ]))
            refine wpAnyE_done (by kernel_rfl) ?_ _
            have hsoA : StksAt ((W.setCell ⟨b, (q + 1) * 2, none⟩ (.int .i64 y.1)).setCell ⟨b, (q + 1) * 2 + 1, none⟩ (.bool y.2)) b (d'.set (q + 1) y) := M3.out.at_.set hjl y
            have hsoB : StksAt ((((W.setCell ⟨b, (q + 1) * 2, none⟩ (.int .i64 y.1)).setCell ⟨b, (q + 1) * 2 + 1, none⟩ (.bool y.2)).setCell ⟨b, q * 2, none⟩ (.int .i64 x.1)).setCell ⟨b, q * 2 + 1, none⟩ (.bool x.2)) b ((d'.set (q + 1) y).set q x) := hsoA.set (by rw [List.length_set]; omega) x
            have hoB : Own1 b w ((((W.setCell ⟨b, (q + 1) * 2, none⟩ (.int .i64 y.1)).setCell ⟨b, (q + 1) * 2 + 1, none⟩ (.bool y.2)).setCell ⟨b, q * 2, none⟩ (.int .i64 x.1)).setCell ⟨b, q * 2 + 1, none⟩ (.bool x.2)) := (((M3.out.own.trans (Own1.setCell _ _)).trans (Own1.setCell _ _)).trans (Own1.setCell _ _)).trans (Own1.setCell _ _)
            have M4 : Hid (SoSt b w ((((W.setCell ⟨b, (q + 1) * 2, none⟩ (.int .i64 y.1)).setCell ⟨b, (q + 1) * 2 + 1, none⟩ (.bool y.2)).setCell ⟨b, q * 2, none⟩ (.int .i64 x.1)).setCell ⟨b, q * 2 + 1, none⟩ (.bool x.2)) ((d'.set (q + 1) y).set q x)) := ⟨hsoB, hoB⟩
            have hb4 : b < ((((W.setCell ⟨b, (q + 1) * 2, none⟩ (.int .i64 y.1)).setCell ⟨b, (q + 1) * 2 + 1, none⟩ (.bool y.2)).setCell ⟨b, q * 2, none⟩ (.int .i64 x.1)).setCell ⟨b, q * 2 + 1, none⟩ (.bool x.2)).heap.size := Nat.lt_of_lt_of_le hb hoB.1.size
            have HI4 : Hid (InSt x S R ((d'.set (q + 1) y).set q x) q) := HSW.out hlt2
            have hl4 : ((d'.set (q + 1) y).set q x).length = l.length := by rw [List.length_set, List.length_set]; exact hdl'
            clear hsoA hsoB hoB e1 e2 e3 e4 f1 f2 f3 f4 hS M3
            generalize ((((W.setCell ⟨b, (q + 1) * 2, none⟩ (.int .i64 y.1)).setCell ⟨b, (q + 1) * 2 + 1, none⟩ (.bool y.2)).setCell ⟨b, q * 2, none⟩ (.int .i64 x.1)).setCell ⟨b, q * 2 + 1, none⟩ (.bool x.2)) = W5 at M4 hb4 ⊢
            generalize (d'.set (q + 1) y).set q x = d5 at M4 HI4 hl4
            go_wp2
            refine ⟨⟨q, by omega, by go_num, d5, hl4, HI4, M4.out.ext extA hb4⟩, by simp [intOf]⟩
          · have hc : 0 ≤ cmpI x.1 y.1 := by unfold cmpI; rw [if_neg hlt2]; split <;> omega
            have HC := Lib.hid hc
            clear hc
            have hd5 := HST.out hlt2
            have ME : Hid (SoSt b w wr (sortedTo l (k + 1))) := by
              show SoSt _ _ _ _
              rw [HSU.out, ← hd5]; exact M.out
            clear hd5
            go_wp2
            have hwq : IntKind.i64.wrap (q : Int) = (q : Int) := IntWalk.i64_in _ (by omega)
            have hcn : ¬ cmpI x.1 y.1 < 0 := by have := HC.out; omega
            go_region_held3 (fun w' => Sees wr w') ((repeat (first | exact Sees.refl _ | assumption | apply Sees.drew | apply Sees.alloc | (refine Sees.ext ?_ (by assumption))))) (first | (go_at_call 87; refine (sorted1_any x y _).mono ?_; rintro e w' ⟨rfl, hE⟩))
            have hSee : Sees wr w' := by assumption
            have M2 : Hid (SoSt b w w' (sortedTo l (k + 1))) := ME.out.ext hSee.2.2 zb
            have zb2 : b < w'.heap.size := Nat.lt_of_lt_of_le zb hSee.2.2.size
            clear M ME hSee
            go_wp2
            refine ⟨⟨k + 1, by omega, .inl (by omega), by go_num, M2.out.ext extA zb2⟩, by simp [intOf]; omega⟩
    · have ME : Hid (SoSt b w wr (isortK l)) := by
        show SoSt _ _ _ _
        rcases hk with hk | hk
        · have : k = l.length := by omega
          subst this
          rw [← sortedTo_end]; exact M.out
        · subst hk
          have h0 : l.length ≤ 1 := by omega
          have : isortK l = sortedTo l 1 := by
            rw [sortedTo_one]
            match l, h0 with
            | [], _ => rfl
            | [y], _ => rfl
          rw [this]; exact M.out
      clear M
      go_wp2
      exact bodyPost_end (v := .tuple #[]) (results_none rfl _ _ _) rfl ⟨rfl, ME.out⟩
end Go.Proofs.YtbpjbhbbkonjlaaGreatDoor
namespace Go.Proofs.YtbpjbhbbkonjlaaGreatDoor
open Go.RowKit
set_option maxHeartbeats 8000000 in
set_option maxRecDepth 100000 in
theorem len64_any (x : Int) (w : World) (h0 : 0 ≤ x) (h1 : x < 256) : Calls Tryz.prog 142 #[.int .u64 x] w fun e w' => (∃ m : Int, e = .returned (.int .i64 m)) ∧ w' = w := by
  go_enter Tryz.func142, Tryz.ntmps142
  go_wp2
  exact bodyPost_ret (results_tmp rfl _ _ _) rfl ⟨⟨_, rfl⟩, rfl⟩
set_option maxHeartbeats 8000000 in
set_option maxRecDepth 100000 in
theorem len_any (x : Int) (w : World) (h0 : 0 ≤ x) (h1 : x < 256) : Calls Tryz.prog 110 #[.int .u64 x] w fun e w' => (∃ m : Int, e = .returned (.int .i64 m)) ∧ w' = w := by
  go_enter Tryz.func110, Tryz.ntmps110
  go_wp2_with (go_at_call 142; refine (len64_any x _ h0 h1).mono ?_; rintro e w' ⟨⟨m, rfl⟩, rfl⟩)
  exact bodyPost_ret (results_tmp rfl _ _ _) rfl ⟨⟨_, rfl⟩, rfl⟩
theorem pdq_any (l : List Stk) (b cap : Nat) (m : Int) (w : World) (hl : l.length ≤ 12) (h : StksAt w b l) (hb : b < w.heap.size) :
    Calls Tryz.prog 109 #[.slice (some ⟨b, 0, none⟩) l.length cap, .int .i64 0, .int .i64 (l.length : Int), .int .i64 m, .func (.func 87) #[] #[]] w fun e w' => e = .returned (.tuple #[]) ∧ SoSt b w w' (isortK l) := by
  have HS := Lib.hid h
  clear h
  go_enter Tryz.func109, Tryz.ntmps109
  go_wp2
  go_loopw [1, 2] (fun i j wr => i = .int .i64 0 ∧ j = .int .i64 (l.length : Int) ∧ wr = w) (fun _ _ _ => 0)
  case atStart => exact ⟨rfl, rfl, rfl⟩
  case round =>
    obtain ⟨rfl, rfl, rfl⟩ := hrel
    have hw : IntKind.i64.wrap ((l.length : Int) - 0) = (l.length : Int) := IntWalk.i64_in _ (by omega)
    have hle : ((l.length : Int) ≤ 12) := by omega
    go_wp2_with (go_at_call 133; refine (insertion_any l b cap _ hl HS.out hb).mono ?_; rintro e w' ⟨rfl, hso⟩; have HSO := Lib.hid hso; clear hso)
    exact bodyPost_ret (v := .tuple #[]) (results_none rfl _ _ _) rfl ⟨rfl, HSO.out⟩
set_option maxHeartbeats 8000000 in
set_option maxRecDepth 100000 in
theorem SortFunc_any (l : List Stk) (b cap : Nat) (w : World) (hl : l.length ≤ 12) (h : StksAt w b l) (hb : b < w.heap.size) :
    Calls Tryz.prog 86 #[.slice (some ⟨b, 0, none⟩) l.length cap, .func (.func 87) #[] #[]] w fun e w' => e = .returned (.tuple #[]) ∧ SoSt b w w' (isortK l) := by
  have HS := Lib.hid h
  clear h
  go_enter Tryz.func86, Tryz.ntmps86
  have h0 : (0 : Int) ≤ (l.length : Int) := by omega
  have h1 : (l.length : Int) < 256 := by omega
  have hw : IntKind.u64.wrap (l.length : Int) = (l.length : Int) := by show (l.length : Int) % 2 ^ 64 = _; omega
  go_wp2_with (first | (go_at_call 110; refine (len_any (l.length : Int) _ h0 h1).mono ?_; rintro e w' ⟨⟨m, rfl⟩, rfl⟩) | (go_at_call 109; refine (pdq_any l b cap _ _ hl HS.out hb).mono ?_; rintro e w' ⟨rfl, hso⟩; have HSO := Lib.hid hso; clear hso))
  exact bodyPost_end (v := .tuple #[]) (results_none rfl _ _ _) rfl ⟨rfl, HSO.out⟩
set_option maxHeartbeats 8000000 in
set_option maxRecDepth 100000 in
theorem sorted_any (l : List Stk) (b cap : Nat) (w : World) (hl : l.length ≤ 12) (h : StksAt w b l) (hb : b < w.heap.size) :
    Calls Tryz.prog 66 #[.slice (some ⟨b, 0, none⟩) l.length cap] w fun e w' => e = .returned (.slice (some ⟨b, 0, none⟩) l.length cap) ∧ SoSt b w w' (isortK l) := by
  have HS := Lib.hid h
  clear h
  go_enter Tryz.func66, Tryz.ntmps66
  go_wp2_with (go_at_call 86; refine (SortFunc_any l b cap _ hl HS.out hb).mono ?_; rintro e w' ⟨rfl, hso⟩; have HSO := Lib.hid hso; clear hso)
  exact bodyPost_ret (results_tmp rfl _ _ _) rfl ⟨rfl, HSO.out⟩
end Go.Proofs.YtbpjbhbbkonjlaaGreatDoor
namespace Go.Proofs.YtbpjbhbbkonjlaaGreatDoor
open Go.RowKit
end Go.Proofs.YtbpjbhbbkonjlaaGreatDoor
namespace Go.Proofs.YtbpjbhbbkonjlaaGreatDoor
open Go.RowKit
end Go.Proofs.YtbpjbhbbkonjlaaGreatDoor
namespace Go.Proofs.YtbpjbhbbkonjlaaGreatDoor
open Go.RowKit
end Go.Proofs.YtbpjbhbbkonjlaaGreatDoor
namespace Go.Proofs.YtbpjbhbbkonjlaaGreatDoor
open Go.RowKit
theorem flat2_set (l : List (Value × Value)) : ∀ (k : Nat), k < l.length → ∀ p : Value × Value, ((flat2 l).set (k * 2) p.1).set (k * 2 + 1) p.2 = flat2 (l.set k p) := by
  induction l with
  | nil => intro k hk; simp at hk
  | cons x l ih =>
    intro k hk p
    cases k with
    | zero => simp [flat2]
    | succ k =>
      have := ih k (by simpa using hk) p
      rw [show (k + 1) * 2 = k * 2 + 1 + 1 by omega]
      simp only [flat2, List.flatMap_cons, List.set_cons_succ, List.cons_append, List.nil_append] at this ⊢
      rw [this]
theorem flat2_take (l : List (Value × Value)) : ∀ k, (flat2 l).take (k * 2) = flat2 (l.take k) := by
  induction l with
  | nil => intro k; simp [flat2]
  | cons x l ih =>
    intro k
    cases k with
    | zero => simp [flat2]
    | succ k =>
      have := ih k
      rw [show (k + 1) * 2 = k * 2 + 1 + 1 by omega]
      simp only [flat2, List.flatMap_cons, List.take_succ_cons, List.cons_append, List.nil_append] at this ⊢
      rw [this]
theorem flat2_drop (l : List (Value × Value)) : ∀ k, (flat2 l).drop (k * 2) = flat2 (l.drop k) := by
  induction l with
  | nil => intro k; simp [flat2]
  | cons x l ih =>
    intro k
    cases k with
    | zero => simp [flat2]
    | succ k =>
      have := ih k
      rw [show (k + 1) * 2 = k * 2 + 1 + 1 by omega]
      simp only [flat2, List.flatMap_cons, List.drop_succ_cons, List.cons_append, List.nil_append] at this ⊢
      rw [this]
theorem Chg.cell {B : Nat → Prop} {A C : World} (h : Chg B A C) {p : Addr} {v : Value} (hp : ¬ B p.block) (hc : A.cell? p = some v) : C.cell? p = some v := (World.cell?_of_block (h.2 p.block (cell_lt hc) hp)).trans hc
theorem Chg.frozen {B : Nat → Prop} {A C : World} (h : Chg B A C) {p : Addr} {v : Value} (hp : ¬ B p.block) (hc : A.cell? p = some v) : C.frozen? p = A.frozen? p := World.frozen?_of_block (h.2 p.block (cell_lt hc) hp)
theorem pairP_set (ps : List (Value × Stp)) (k : Nat) (p : Value × Stp) : pairP (ps.set k p) = (pairP ps).set k (p.1, .int .i64 p.2.2) := by unfold pairP; rw [List.map_set]
theorem OwnsP.put {X : Nat → Prop} {A : World} {l : List Stp} {g vc : Nat} (h : OwnsP X A (.slice (some ⟨g, 0, none⟩) l.length vc) l) (k : Nat) (hk : k < l.length) (sv : Value) (y : Stp) :
    ∃ ps : List (Value × Stp), ps.map (·.2) = l ∧ (∀ p ∈ ps, SliceKX (fun b => X b ∨ b = g) A p.1 p.2.1) ∧
      ((A.setCell ⟨g, k * 2, none⟩ sv).setCell ⟨g, k * 2 + 1, none⟩ (.int .i64 y.2)).ownsRow 0 69 2 (.slice (some ⟨g, 0, none⟩) l.length vc) l.length (flat2 (pairP (ps.set k (sv, y)))) ∧
      (∃ u1, A.cell? ⟨g, k * 2, none⟩ = some u1) ∧ (∃ u2, A.cell? ⟨g, k * 2 + 1, none⟩ = some u2) ∧ A.frozen? ⟨g, k * 2, none⟩ = false ∧ A.frozen? ⟨g, k * 2 + 1, none⟩ = false := by
  obtain ⟨ps, h1, h2, h3⟩ := h
  have hl : ps.length = l.length := by rw [← h1]; simp
  have hg := flat2_get (pairP ps) k (by simp [pairP, hl]; exact hk)
  refine ⟨ps, h1, fun p hp => (h3 p hp).monoX (fun b hb => hb.imp id (fun e => by rw [e]; rfl)), ?_, ⟨_, (h2.cellAt _ (by omega)).trans hg.1⟩, ⟨_, (h2.cellAt _ (by omega)).trans hg.2⟩, h2.frozenAt _, h2.frozenAt _⟩
  have s1 := (h2.stored (k * 2) sv).1
  have s2 := (s1.stored (k * 2 + 1) (.int .i64 y.2)).1
  rw [flat2_set (pairP ps) k (by simp [pairP, hl]; exact hk) (sv, .int .i64 y.2)] at s2
  rw [pairP_set]
  exact s2
theorem Asc.diff {l : List Stk} (h : Asc l) : Diff l := h.imp fun hab e => by omega
theorem ckStrokes_asc {l : List Stk} {z : Int} (h : ckStrokes z l = 0) : Asc l ∧ ∀ y ∈ l, z < y.1 := by
  induction l generalizing z with
  | nil => exact ⟨List.Pairwise.nil, fun y hy => by cases hy⟩
  | cons x l ih =>
    unfold ckStrokes at h
    by_cases h1 : x.1 < 0 ∨ 6 ≤ x.1
    · rw [if_pos h1] at h; cases h
    · rw [if_neg h1] at h
      by_cases h2 : x.1 = z
      · rw [if_pos h2] at h; cases h
      · rw [if_neg h2] at h
        by_cases h3 : x.1 < z
        · rw [if_pos h3] at h; cases h
        · rw [if_neg h3] at h
          obtain ⟨i1, i2⟩ := ih h
          refine ⟨List.Pairwise.cons (fun y hy => i2 y hy) i1, fun y hy => ?_⟩
          rcases List.mem_cons.1 hy with rfl | hy
          · omega
          · have := i2 y hy; omega
theorem OwnsK.stksAt {A : World} {v : Value} {l : List Stk} (h : OwnsK A v l) (h0 : 0 < l.length) : ∃ b cap, v = .slice (some ⟨b, 0, none⟩) l.length cap ∧ StksAt A b l ∧ v.ownBlock = some b := by
  obtain ⟨a, cap, hv, hc, hm, hf⟩ := h.reads
  obtain ⟨b, off, ha, _, _⟩ := hc 0 h0
  have hne : l ≠ [] := List.length_pos_iff.1 h0
  obtain ⟨e0, hb, hfr⟩ := hf b off ha hne
  subst e0
  refine ⟨b, cap, by rw [hv, ha], fun i hi => ?_, hb⟩
  obtain ⟨b', off', e, c1, c2⟩ := hc i hi
  rw [ha] at e
  cases e
  rw [Nat.zero_add] at c1 c2
  exact ⟨⟨c1, c2⟩, (hfr i hi).1, (hfr i hi).2⟩
theorem StksAt.slice {A : World} {b cap : Nat} {l : List Stk} (h : StksAt A b l) (hm : l.length ≤ maxLen) : SliceK A (.slice (some ⟨b, 0, none⟩) l.length cap) l :=
  ⟨_, cap, rfl, fun i hi => ⟨b, 0, rfl, by rw [Nat.zero_add]; exact (h i hi).1.1, by rw [Nat.zero_add]; exact (h i hi).1.2⟩, hm⟩
end Go.Proofs.YtbpjbhbbkonjlaaGreatDoor
namespace Go.Proofs.YtbpjbhbbkonjlaaGreatDoor
open Go.RowKit
end Go.Proofs.YtbpjbhbbkonjlaaGreatDoor
namespace Go.Proofs.YtbpjbhbbkonjlaaGreatDoor
open Go.RowKit
end Go.Proofs.YtbpjbhbbkonjlaaGreatDoor
namespace Go.Proofs.YtbpjbhbbkonjlaaGreatDoor
open Go.RowKit
theorem drop_end (l : List Int) {k : Nat} (h : l.length ≤ k) : l.drop k = [] := List.drop_eq_nil_of_le h
end Go.Proofs.YtbpjbhbbkonjlaaGreatDoor
namespace Go.Proofs.YtbpjbhbbkonjlaaGreatDoor
open Go.RowKit
end Go.Proofs.YtbpjbhbbkonjlaaGreatDoor
namespace Go.Proofs.YtbpjbhbbkonjlaaGreatDoor
open Go.RowKit
theorem renGo_drop (n : Int) (l : List Int) (k : Nat) (h : k < l.length) (r : Int) (e : renGo n (l.take k) (l.drop k) = r) :
    ((l.getD k 0 < 0 ∨ n ≤ l.getD k 0) → r = 2) ∧ (¬ (l.getD k 0 < 0 ∨ n ≤ l.getD k 0) → (mem1 (l.take k) (l.getD k 0) = true → r = 7) ∧ (mem1 (l.take k) (l.getD k 0) = false → renGo n (l.take (k + 1)) (l.drop (k + 1)) = r)) := by
  rw [drop_cons l 0 h] at e
  unfold renGo at e
  refine ⟨fun h1 => ?_, fun h1 => ⟨fun h2 => ?_, fun h2 => ?_⟩⟩
  · rw [if_pos h1] at e; exact e.symm
  · unfold mem1 at h2; rw [if_neg h1, if_pos h2] at e; exact e.symm
  · rw [if_neg h1, if_neg (by unfold mem1 at h2; rw [h2]; decide)] at e
    rw [List.take_succ_eq_append_getElem h]
    rw [List.getD_eq_getElem?_getD, List.getElem?_eq_getElem h] at e
    exact e
theorem CellsI.take {w : World} {a : Option Addr} {l : List Int} (h : CellsI w a l) (k : Nat) : CellsI w a (l.take k) := fun i hi => by
  rw [List.length_take] at hi
  have e : (l.take k).getD i 0 = l.getD i 0 := by
    rw [List.getD_eq_getElem?_getD, List.getD_eq_getElem?_getD, List.getElem?_take_of_lt (by omega)]
  rw [e]
  exact h i (by omega)
end Go.Proofs.YtbpjbhbbkonjlaaGreatDoor
namespace Go.Proofs.YtbpjbhbbkonjlaaGreatDoor
open Go.RowKit
end Go.Proofs.YtbpjbhbbkonjlaaGreatDoor
namespace Go.Proofs.YtbpjbhbbkonjlaaGreatDoor
open Go.RowKit
end Go.Proofs.YtbpjbhbbkonjlaaGreatDoor
namespace Go.Proofs.YtbpjbhbbkonjlaaGreatDoor
open Go.RowKit
end Go.Proofs.YtbpjbhbbkonjlaaGreatDoor
namespace Go.Proofs.YtbpjbhbbkonjlaaGreatDoor
open Go.RowKit
end Go.Proofs.YtbpjbhbbkonjlaaGreatDoor
namespace Go.Proofs.YtbpjbhbbkonjlaaGreatDoor
open Go.RowKit
def insI (c : Int → Int → Int) (x : Int) : List Int → List Int
  | [] => [x]
  | y :: r => if c x y < 0 then y :: insI c x r else x :: y :: r
def sortI (c : Int → Int → Int) : List Int → List Int
  | [] => []
  | x :: r => insI c x (sortI c r)
theorem insI_length (c : Int → Int → Int) (x : Int) (r : List Int) : (insI c x r).length = r.length + 1 := by
  induction r with
  | nil => rfl
  | cons y r ih => unfold insI; split <;> simp [ih]
theorem sortI_length (c : Int → Int → Int) (r : List Int) : (sortI c r).length = r.length := by
  induction r with
  | nil => rfl
  | cons x r ih => unfold sortI; rw [insI_length, ih]; rfl
def sortedI (c : Int → Int → Int) (l : List Int) (i : Nat) : List Int := (sortI c (l.take i).reverse).reverse ++ l.drop i
structure InI (c : Int → Int → Int) (x : Int) (S R d : List Int) (j : Nat) : Prop where
  ex : ∃ P M, d = P ++ x :: M ++ S ∧ P.length = j ∧ (insI c x P.reverse).reverse ++ M = R
theorem InI.start (c : Int → Int → Int) (l : List Int) {i : Nat} (h : i < l.length) : InI c (l.getD i 0) (l.drop (i + 1)) (insI c (l.getD i 0) (sortI c (l.take i).reverse)).reverse (sortedI c l i) i :=
  ⟨(sortI c (l.take i).reverse).reverse, [], by unfold sortedI; rw [drop_cons l 0 h]; simp, by rw [List.length_reverse, sortI_length, List.length_reverse, List.length_take]; omega, by rw [List.reverse_reverse, List.append_nil]⟩
theorem InI.at {c : Int → Int → Int} {x : Int} {S R d : List Int} {j : Nat} (h : InI c x S R d j) : d.getD j 0 = x := by
  obtain ⟨P, M, rfl, rfl, _⟩ := h.ex
  rw [List.append_assoc, List.getD_eq_getElem?_getD, List.getElem?_append_right (Nat.le_refl _), Nat.sub_self]; rfl
theorem InI.zero {c : Int → Int → Int} {x : Int} {S R d : List Int} (h : InI c x S R d 0) : d = R ++ S := by
  obtain ⟨P, M, rfl, hp, hr⟩ := h.ex
  have : P = [] := List.eq_nil_of_length_eq_zero hp
  subst this
  rw [← hr]; rfl
theorem InI.stop {c : Int → Int → Int} {x : Int} {S R d : List Int} {j : Nat} (h : InI c x S R d (j + 1)) (hn : ¬ c x (d.getD j 0) < 0) : d = R ++ S := by
  obtain ⟨P, M, rfl, hp, hr⟩ := h.ex
  obtain ⟨P', y, rfl⟩ : ∃ P' y, P = P' ++ [y] := by
    rcases List.eq_nil_or_concat P with rfl | ⟨P', y, rfl⟩
    · simp at hp
    · exact ⟨P', y, by simp⟩
  have hj : P'.length = j := by simp at hp; exact hp
  have hy : ((P' ++ [y]) ++ x :: M ++ S).getD j 0 = y := by
    rw [List.getD_eq_getElem?_getD, List.append_assoc, List.append_assoc, List.getElem?_append_right (by omega), hj, Nat.sub_self]; rfl
  rw [hy] at hn
  rw [List.reverse_append] at hr
  have e : insI c x ([y].reverse ++ P'.reverse) = x :: y :: P'.reverse := by show insI c x (y :: P'.reverse) = _; unfold insI; rw [if_neg hn]
  rw [e] at hr
  rw [← hr]
  simp
theorem InI.swap {c : Int → Int → Int} {x : Int} {S R d : List Int} {j : Nat} (h : InI c x S R d (j + 1)) (hn : c x (d.getD j 0) < 0) : InI c x S R ((d.set (j + 1) (d.getD j 0)).set j x) j := by
  obtain ⟨P, M, rfl, hp, hr⟩ := h.ex
  obtain ⟨P', y, rfl⟩ : ∃ P' y, P = P' ++ [y] := by
    rcases List.eq_nil_or_concat P with rfl | ⟨P', y, rfl⟩
    · simp at hp
    · exact ⟨P', y, by simp⟩
  have hj : P'.length = j := by simp at hp; exact hp
  have hy : ((P' ++ [y]) ++ x :: M ++ S).getD j 0 = y := by
    rw [List.getD_eq_getElem?_getD, List.append_assoc, List.append_assoc, List.getElem?_append_right (by omega), hj, Nat.sub_self]; rfl
  rw [hy] at hn ⊢
  rw [List.reverse_append] at hr
  have e : insI c x ([y].reverse ++ P'.reverse) = y :: insI c x P'.reverse := by show insI c x (y :: P'.reverse) = _; rw [insI, if_pos hn]
  rw [e] at hr
  refine ⟨P', y :: M, ?_, hj, ?_⟩
  · have e1 : (P' ++ [y]) ++ x :: M ++ S = P' ++ (y :: x :: (M ++ S)) := by simp
    rw [e1, List.set_append, if_neg (by omega), List.set_append, if_neg (by simp; omega)]
    have e2 : j + 1 - P'.length = 1 := by omega
    have e3 : j - P'.length = 0 := by omega
    rw [e2, e3]
    simp
  · rw [← hr]; simp
theorem InI.len {c : Int → Int → Int} {x : Int} {S R d : List Int} {j : Nat} (h : InI c x S R d j) : j < d.length := by
  obtain ⟨P, M, rfl, rfl, _⟩ := h.ex
  simp
def IntsAt (w : World) (b : Nat) (d : List Int) : Prop := ∀ i, i < d.length → w.cell? ⟨b, i, none⟩ = some (.int .i64 (d.getD i 0)) ∧ w.frozen? ⟨b, i, none⟩ = false
theorem IntsAt.ext {A B : World} {b : Nat} {d : List Int} (h : IntsAt A b d) (k : Ext A B) : IntsAt B b d := fun i hi => by
  obtain ⟨h1, h3⟩ := h i hi
  exact ⟨k.cell h1, (Below.frozen (p := ⟨b, _, none⟩) k (cell_lt h1)).trans h3⟩
theorem IntsAt.set {w : World} {b : Nat} {d : List Int} (h : IntsAt w b d) {i : Nat} (hi : i < d.length) (x : Int) : IntsAt (w.setCell ⟨b, i, none⟩ (.int .i64 x)) b (d.set i x) := fun j hj => by
  rw [List.length_set] at hj
  obtain ⟨h1, h3⟩ := h j hj
  obtain ⟨k1, _⟩ := h i hi
  refine ⟨?_, by rw [World.frozen?_setCell]; exact h3⟩
  by_cases e : i = j
  · subst e
    rw [World.cell?_setCell_same _ _ _ k1]
    simp [List.getD_eq_getElem?_getD, hi]
  · rw [World.cell?_setCell_other _ _ _ _ (fun h => by simp only [Addr.mk.injEq] at h; omega), h1]
    simp [List.getD_eq_getElem?_getD, e]
structure SiSt (b : Nat) (w wr : World) (d : List Int) : Prop where
  at_ : IntsAt wr b d
  own : Own1 b w wr
theorem SiSt.ext {b : Nat} {w A B : World} {d : List Int} (h : SiSt b w A d) (k : Ext A B) (hb : b < A.heap.size) : SiSt b w B d := ⟨h.at_.ext k, h.own.trans (Own1.ext k (Nat.le_of_lt hb))⟩
end Go.Proofs.YtbpjbhbbkonjlaaGreatDoor
namespace Go.Proofs.YtbpjbhbbkonjlaaGreatDoor
open Go.RowKit
end Go.Proofs.YtbpjbhbbkonjlaaGreatDoor
namespace Go.Proofs.YtbpjbhbbkonjlaaGreatDoor
open Go.RowKit
theorem ints_length (n : Int) : (ints n).length = n.toNat := by unfold ints; simp
theorem ints_mem {n a : Int} : a ∈ ints n ↔ 0 ≤ a ∧ a < n := by
  unfold ints
  rw [List.mem_map]
  constructor
  · rintro ⟨k, hk, rfl⟩
    rw [List.mem_range] at hk
    show (0 : Int) ≤ (k : Int) ∧ (k : Int) < n
    omega
  · intro h
    exact ⟨a.toNat, by rw [List.mem_range]; omega, by show ((a.toNat : Nat) : Int) = a; omega⟩
end Go.Proofs.YtbpjbhbbkonjlaaGreatDoor
namespace Go.Proofs.YtbpjbhbbkonjlaaGreatDoor
open Go.RowKit
theorem PairsAt.take {w : World} {b off : Nat} {ps : List (Value × Stp)} (h : PairsAt w (some ⟨b, off, none⟩) ps) (k : Nat) : PairsAt w (some ⟨b, off, none⟩) (ps.take k) := by
  refine ⟨?_, fun p hp => h.2.1 p (List.mem_of_mem_take hp), fun u hu => ?_⟩
  · right
    refine ⟨b, off, rfl, fun j u hu => ?_⟩
    rcases h.1 with e | ⟨b', off', e, hc⟩
    · rw [e, List.take_nil] at hu; simp [pairP, flat2] at hu
    · cases e
      refine hc j u ?_
      have e2 : flat2 (pairP (ps.take k)) = (flat2 (pairP ps)).take (k * 2) := by rw [flat2_take]; unfold pairP; rw [List.map_take]
      rw [e2] at hu
      exact List.getElem?_eq_some_iff.2 (by
        obtain ⟨h1, h2⟩ := List.getElem?_eq_some_iff.1 hu
        rw [List.length_take] at h1
        exact ⟨by omega, by rw [← h2, List.getElem_take]⟩)
  · have e2 : flat2 (pairP (ps.take k)) = (flat2 (pairP ps)).take (k * 2) := by rw [flat2_take]; unfold pairP; rw [List.map_take]
    rw [e2] at hu
    exact h.2.2 u (List.mem_of_mem_take hu)
theorem PairsAt.drop {w : World} {b off : Nat} {ps : List (Value × Stp)} (h : PairsAt w (some ⟨b, off, none⟩) ps) (k : Nat) : PairsAt w (some ⟨b, off + k * 2, none⟩) (ps.drop k) := by
  have e2 : flat2 (pairP (ps.drop k)) = (flat2 (pairP ps)).drop (k * 2) := by rw [flat2_drop]; unfold pairP; rw [List.map_drop]
  refine ⟨.inr ⟨b, off + k * 2, rfl, fun j u hu => ?_⟩, fun p hp => h.2.1 p (List.mem_of_mem_drop hp), fun u hu => ?_⟩
  · rw [e2, List.getElem?_drop] at hu
    rcases h.1 with e | ⟨b', off', e, hc⟩
    · rw [e] at hu; simp [pairP, flat2] at hu
    · cases e
      have := hc _ u hu
      rw [Addr.add_lit] at this ⊢
      rw [Nat.add_assoc]
      exact this
  · rw [e2] at hu
    exact h.2.2 u (List.mem_of_mem_drop hu)
theorem PairsAt.nil (w : World) (a : Option Addr) : PairsAt w a [] := ⟨.inl rfl, (fun p hp => by cases hp), (fun u hu => by simp [pairP, flat2] at hu)⟩
end Go.Proofs.YtbpjbhbbkonjlaaGreatDoor
namespace Go.Proofs.YtbpjbhbbkonjlaaGreatDoor
open Go.RowKit
end Go.Proofs.YtbpjbhbbkonjlaaGreatDoor
namespace Go.Proofs.YtbpjbhbbkonjlaaGreatDoor
open Go.RowKit
end Go.Proofs.YtbpjbhbbkonjlaaGreatDoor
namespace Go.Proofs.YtbpjbhbbkonjlaaGreatDoor
open Go.RowKit
theorem Full.append {l q : List Stp} (h : Full l) (k : Full q) : Full (l ++ q) := fun i hi => by
  rw [List.getD_eq_getElem?_getD]
  by_cases c : i < l.length
  · rw [List.getElem?_append_left c]
    have := h i c
    rw [List.getD_eq_getElem?_getD] at this
    exact this
  · rw [List.getElem?_append_right (by omega)]
    have := k (i - l.length) (by rw [List.length_append] at hi; omega)
    rw [List.getD_eq_getElem?_getD] at this
    exact this
end Go.Proofs.YtbpjbhbbkonjlaaGreatDoor
namespace Go.Proofs.YtbpjbhbbkonjlaaGreatDoor
open Go.RowKit
structure BkSt (o : Nat) (wa : Int) (W0 wr : World) (ys : List Stk) : Prop where
  be : Below o W0 wr
  c1 : wr.cell? ⟨o, 1, none⟩ = some (.int .i64 wa)
  f0 : wr.frozen? ⟨o, 0, none⟩ = false
  v : ∃ v, wr.cell? ⟨o, 0, none⟩ = some v ∧ OwnsK wr v ys ∧ ∀ b, v.ownBlock = some b → o < b
end Go.Proofs.YtbpjbhbbkonjlaaGreatDoor
namespace Go.Proofs.YtbpjbhbbkonjlaaGreatDoor
open Go.RowKit
end Go.Proofs.YtbpjbhbbkonjlaaGreatDoor
namespace Go.Proofs.YtbpjbhbbkonjlaaGreatDoor
open Go.RowKit
open Go.Maps
def MapAt (w : World) (b m : Nat) (f : Int → Int) : Prop :=
  ∃ D : DataW Unit, w.ownsMap Tryz.prog 3 (plainElem Tryz.prog 3) b m D ∧ IsMap D ∧ ∀ a : Int, D.atKey (.int .i64 a) (.lit (.int .i64 0)) = .lit (.int .i64 (f a))
theorem listFn_take (l : List Int) (k : Nat) (_h : k < l.length) (a : Int) : listFn (l.take (k + 1)) a = if a = (k : Int) then l.getD k 0 else listFn (l.take k) a := by
  unfold listFn
  by_cases h0 : a < 0
  · rw [if_pos h0, if_pos h0, if_neg (by omega)]
  · rw [if_neg h0, if_neg h0]
    by_cases h1 : a = (k : Int)
    · rw [if_pos h1, List.getD_eq_getElem?_getD, List.getElem?_take, if_pos (by omega), List.getD_eq_getElem?_getD, show a.toNat = k by omega]
    · rw [if_neg h1, List.getD_eq_getElem?_getD, List.getElem?_take, List.getD_eq_getElem?_getD (l := l.take k), List.getElem?_take]
      by_cases h2 : a.toNat < k
      · rw [if_pos (by omega), if_pos h2]
      · rw [if_neg (by omega), if_neg h2]
theorem wfInt (x : Int) (h : 0 ≤ x ∧ x < 1000) : (Lit.int .i64 x).wf = true := by
  have h1 : IntKind.i64.min = -9223372036854775808 := by decide
  have h2 : IntKind.i64.max = 9223372036854775807 := by decide
  simp [Lit.wf, h1, h2]; omega
theorem plainInt (x : Int) (h : 0 ≤ x ∧ x < 1000) : plainElem (H := Unit) Tryz.prog 3 (.int .i64 x) = some (.lit (.int .i64 x), []) := by
  simp [plainElem, Tryz.underlying3, wfInt x h]
theorem keyInt (x : Int) (h : 0 ≤ x ∧ x < 1000) : keyOf Tryz.prog 3 (.int .i64 x) = some (.int .i64 x) := by simp [keyOf, mapKey, Tryz.underlying3, wfInt x h]
theorem isKeyInt (x : Int) : WideAt.IsKeyLit (.int .i64 x) := by trivial
theorem MapAt.new (w : World) : MapAt (w.alloc (.map #[] 0)) w.heap.size 0 (listFn []) :=
  ⟨.map [], World.ownsMap_made w _ _ _, ⟨[], rfl⟩, fun a => by
    have : listFn [] a = 0 := by unfold listFn; simp
    rw [this]; rfl⟩
theorem grown_below {w w' : World} {b B : Nat} (h : w.grownBy w' (some b)) (hb : B ≤ b) (hB : B ≤ w.heap.size) : Below B w w' :=
  ⟨h.os, h.tape, h.output, h.size, fun k hk => h.block k (Nat.lt_of_lt_of_le hk hB) (fun e => by injection e with e; omega)⟩
set_option maxHeartbeats 4000000 in
set_option maxRecDepth 100000 in
theorem letters_any (l : List Int) (a : Option Addr) (cap : Nat) (w : World) (hl : l.length ≤ 100) (hc : CellsI w a l) (hx : ∀ k, k < l.length → 0 ≤ l.getD k 0 ∧ l.getD k 0 < 1000) :
    Calls Tryz.prog 35 #[.slice a l.length cap] w fun r w' => ∃ b, r = .returned (.map (some b)) ∧ MapAt w' b l.length (listFn l) ∧ w.heap.size ≤ b ∧ Ext w w' := by
  have HC := Lib.hid hc
  have HX := Lib.hid hx
  clear hc hx
  have hmm : ∀ (t : TypeId) (w : World), (Instr.makeMap t none).run Tryz.prog w = .ok (.map (some w.heap.size)) (w.alloc (.map #[] 0)) := fun _ _ => rfl
  go_enter Tryz.func35, Tryz.ntmps35
  go_wp2
  have M0 : Hid (MapAt (w.alloc (.map #[] 0)) w.heap.size 0 (listFn (l.take 0))) := MapAt.new w
  have E1 : Ext w (w.alloc (.map #[] 0)) := extA
  have hz1 : w.heap.size < (w.alloc (.map #[] 0)).heap.size := by show _ < (w.heap.push _).size; rw [Array.size_push]; omega
  obtain ⟨b, hb⟩ : ∃ b, b = w.heap.size := ⟨_, rfl⟩
  rw [← hb] at M0 hz1 ⊢
  have HB := Lib.hid hb
  clear hb
  generalize w.alloc (.map #[] 0) = W at M0 E1 hz1 ⊢
  go_loopw [9] (fun i wr => ∃ k : Nat, k ≤ l.length ∧ i = .int .i64 k ∧ Hid (MapAt wr b k (listFn (l.take k))) ∧ Ext w wr ∧ b < wr.heap.size) (fun i _ => l.length - (intOf i).toNat)
  case atStart => exact ⟨0, Nat.zero_le _, rfl, M0, E1, hz1⟩
  case round =>
    obtain ⟨k, hk, rfl, M, he, hbz⟩ := hrel
    by_cases hlt : k < l.length
    · obtain ⟨kb, ko, ha, c1⟩ := HC.out k hlt
      subst ha
      have c1 := he.cell c1
      have HXK := Lib.hid (HX.out k hlt)
      have HFN := Lib.hid (listFn_take l k hlt)
      generalize l.getD k 0 = x at c1 HXK HFN
      obtain ⟨D, hown, hm, hat⟩ := M.out
      have HOWN := Lib.hid hown
      have HM := Lib.hid hm
      have HAT := Lib.hid hat
      clear hown hm hat M
      go_wp2_with (first | (at_mapUpdate; refine wpList_mapUpdate_own _ rfl _ _ _ 78 rfl 3 3 (int_keyed Tryz.underlying3) Tryz.underlying78 _ b k D rfl HOWN.out (by unfold maxLen; omega) _ _ (.int .i64 k) rfl rfl (keyInt _ (by omega)) (.lit (.int .i64 x)) [] (plainInt _ HXK.out) ?_; intro w5 hown5 hgr5) | fail)
      have MN : Hid (MapAt w5 b (k + 1) (listFn (l.take (k + 1)))) := by
        refine ⟨_, hown5, HM.out.put _ _, fun z => ?_⟩
        rw [HFN.out z]
        by_cases hz : z = (k : Int)
        · subst hz
          rw [if_pos rfl]
          exact atKey_put_same HM.out (isKeyInt _) _ _
        · rw [if_neg hz, atKey_put_other (by intro h; injection h with _ h; exact hz h)]
          exact HAT.out z
      have he5 : Ext w w5 := he.trans' (grown_below hgr5 (Nat.le_refl b) (Nat.le_of_lt hbz)) (Nat.le_of_eq HB.out.symm)
      have hbz5 : b < w5.heap.size := Nat.lt_of_lt_of_le hbz hgr5.size
      clear hown5 hgr5 HOWN HM HAT
      go_wp2
      refine ⟨⟨k + 1, by omega, by go_num, MN, he5, hbz5⟩, by simp [intOf]; omega⟩
    · have hke : k = l.length := by omega
      subst hke
      go_wp2
      go_ret
      exact ⟨b, rfl, by have := M.out; rwa [List.take_length] at this, Nat.le_of_eq HB.out.symm, he⟩
end Go.Proofs.YtbpjbhbbkonjlaaGreatDoor
namespace Go.Proofs.YtbpjbhbbkonjlaaGreatDoor
open Go.RowKit
open Go.Maps
def renTo (f : Int → Int) (st : List Stk) (k : Nat) : List Stk := (st.take k).map (fun y => (f y.1, y.2)) ++ st.drop k
theorem renTo_zero (f : Int → Int) (st : List Stk) : renTo f st 0 = st := by simp [renTo]
theorem renTo_end (f : Int → Int) (st : List Stk) : renTo f st st.length = st.map (fun y => (f y.1, y.2)) := by simp [renTo]
theorem renTo_len (f : Int → Int) (st : List Stk) (k : Nat) : (renTo f st k).length = st.length := by
  unfold renTo
  rw [List.length_append, List.length_map, List.length_take, List.length_drop]; omega
theorem renTo_at (f : Int → Int) (st : List Stk) {k : Nat} (h : k < st.length) : (renTo f st k).getD k stk0 = st.getD k stk0 := by
  unfold renTo
  rw [List.getD_eq_getElem?_getD, List.getElem?_append_right (by simp; omega), List.getD_eq_getElem?_getD, List.getElem?_drop]
  congr 2
  simp
  omega
theorem renTo_succ (f : Int → Int) (st : List Stk) {k : Nat} (h : k < st.length) : renTo f st (k + 1) = (renTo f st k).set k (f (st.getD k stk0).1, (st.getD k stk0).2) := by
  unfold renTo
  rw [List.set_append, if_neg (by simp; omega), drop_cons st stk0 h]
  have : k - ((st.take k).map (fun y : Stk => (f y.1, y.2))).length = 0 := by simp; omega
  rw [this, List.set_cons_zero, List.take_succ_eq_append_getElem h, List.map_append, List.append_assoc]
  congr 1
  rw [List.getD_eq_getElem?_getD, List.getElem?_eq_getElem h]
  rfl
theorem MapAt.same {A B : World} {b m : Nat} {f : Int → Int} (h : MapAt A b m f) (e : B.heap[b]? = A.heap[b]?) : MapAt B b m f := by
  obtain ⟨D, ⟨es, ck, h1, h2, h3, h4⟩, h5, h6⟩ := h
  exact ⟨D, ⟨es, ck, e.trans h1, h2, h3, h4⟩, h5, h6⟩
theorem MapAt.lt {A : World} {b m : Nat} {f : Int → Int} (h : MapAt A b m f) : b < A.heap.size := by
  obtain ⟨D, h1, _⟩ := h
  exact h1.lt
theorem MapAt.ext {A B : World} {b m : Nat} {f : Int → Int} (h : MapAt A b m f) (k : Ext A B) : MapAt B b m f := h.same (Below.block k b h.lt)
theorem Own1.cell {n : Nat} {A B : World} (h : Own1 n A B) {p : Addr} {v : Value} (hp : p.block ≠ n) (hc : A.cell? p = some v) : B.cell? p = some v :=
  (World.cell?_of_block (h.2 p.block (cell_lt hc) hp)).trans hc
theorem Own1.frozen {n : Nat} {A B : World} (h : Own1 n A B) {p : Addr} {v : Value} (hp : p.block ≠ n) (hc : A.cell? p = some v) : B.frozen? p = A.frozen? p :=
  World.frozen?_of_block (h.2 p.block (cell_lt hc) hp)
theorem StksAt.set1 {w : World} {b : Nat} {d : List Stk} (h : StksAt w b d) {i : Nat} (hi : i < d.length) (x : Int) : StksAt (w.setCell ⟨b, i * 2, none⟩ (.int .i64 x)) b (d.set i (x, (d.getD i stk0).2)) := fun j hj => by
  rw [List.length_set] at hj
  obtain ⟨⟨h1, h2⟩, h3, h4⟩ := h j hj
  have g2 : (w.setCell ⟨b, i * 2, none⟩ (.int .i64 x)).cell? ⟨b, j * 2 + 1, none⟩ = some (.bool (d.getD j stk0).2) := by
    rw [World.cell?_setCell_other _ _ _ _ (fun h => by simp only [Addr.mk.injEq] at h; omega)]; exact h2
  refine ⟨?_, by rw [World.frozen?_setCell]; exact h3, by rw [World.frozen?_setCell]; exact h4⟩
  by_cases hij : j = i
  · subst hij
    have e : (d.set j (x, (d.getD j stk0).2)).getD j stk0 = (x, (d.getD j stk0).2) := by simp [List.getD_eq_getElem?_getD, hi]
    rw [e]
    exact ⟨World.cell?_setCell_same _ _ _ h1, g2⟩
  · have e : (d.set i (x, (d.getD i stk0).2)).getD j stk0 = d.getD j stk0 := by simp [List.getD_eq_getElem?_getD, Ne.symm hij]
    rw [e]
    exact ⟨by rw [World.cell?_setCell_other _ _ _ _ (fun h => by simp only [Addr.mk.injEq] at h; omega)]; exact h1, g2⟩
set_option maxHeartbeats 8000000 in
set_option maxRecDepth 100000 in
theorem renamed1_any (st : List Stk) (wait : Int) (k0 : Nat) (v : Value) (pb mb m : Nat) (f : Int → Int) (w : World) (h0 : 0 < st.length) (h12 : st.length ≤ 12) (_hm : m ≤ 1000) (ho : OwnsK w v st)
    (hp : w.cell? ⟨pb, 0, none⟩ = some (.map (some mb))) (hM : MapAt w mb m f) (hpb : ∀ b, v.ownBlock = some b → b ≠ pb ∧ b ≠ mb)
    (hx : ∀ i, i < st.length → 0 ≤ (st.getD i stk0).1 ∧ (st.getD i stk0).1 < 6) (hd : Diff (st.map fun y => (f y.1, y.2))) (hf : ∀ y ∈ st, 0 ≤ f y.1 ∧ f y.1 < 6) :
    Calls Tryz.prog 65 #[.int .i64 (k0 : Int), .agg #[v, .int .i64 wait], .pointer (some ⟨pb, 0, none⟩)] w (ChPost (renStep f (st, wait)) v w) := by
  obtain ⟨b, cap, rfl, hst, hvb⟩ := ho.stksAt h0
  obtain ⟨hb1, hb2⟩ := hpb b hvb
  have hb : b < w.heap.size := rowLt ho hvb
  have hml : st.length ≤ maxLen := by unfold maxLen; omega
  have HX := Lib.hid hx
  have HMM := Lib.hid hM
  have HE : Hid (isortK (renTo f st st.length) = (renStep f (st, wait)).1) := by
    show _ = _
    rw [renTo_end]
    exact isortK_ordered hd (fun y hy => by obtain ⟨z, hz, rfl⟩ := List.mem_map.1 hy; exact hf z hz)
  have HW : Hid ((renStep f (st, wait)).2 = wait) := rfl
  obtain ⟨q, hq⟩ : ∃ q, q = renStep f (st, wait) := ⟨_, rfl⟩
  rw [← hq] at HE HW ⊢
  clear hq hd hf hx hpb ho hM
  have zp := cell_lt hp
  dsimp only at zp
  go_enter Tryz.func65, Tryz.ntmps65
  go_wp2
  have E1 : Ext w ((w.alloc (.cells #[.slice (some ⟨b, 0, none⟩) st.length cap, .int .i64 wait] 69)).alloc (.cells #[.slice none 0 0, .int .i64 0] 69)) := extA
  have c0 : ((w.alloc (.cells #[.slice (some ⟨b, 0, none⟩) st.length cap, .int .i64 wait] 69)).alloc (.cells #[.slice none 0 0, .int .i64 0] 69)).cell? ⟨w.heap.size, 0, none⟩ = some (.slice (some ⟨b, 0, none⟩) st.length cap) := by go_simp
  have c1 : ((w.alloc (.cells #[.slice (some ⟨b, 0, none⟩) st.length cap, .int .i64 wait] 69)).alloc (.cells #[.slice none 0 0, .int .i64 0] 69)).cell? ⟨w.heap.size, 1, none⟩ = some (.int .i64 wait) := by go_simp
  have c2 : ((w.alloc (.cells #[.slice (some ⟨b, 0, none⟩) st.length cap, .int .i64 wait] 69)).alloc (.cells #[.slice none 0 0, .int .i64 0] 69)).cell? ⟨w.heap.size + 1, 0, none⟩ = some (.slice none 0 0) := by go_simp
  have c3 : ((w.alloc (.cells #[.slice (some ⟨b, 0, none⟩) st.length cap, .int .i64 wait] 69)).alloc (.cells #[.slice none 0 0, .int .i64 0] 69)).cell? ⟨w.heap.size + 1, 1, none⟩ = some (.int .i64 0) := by go_simp
  have f0 : ((w.alloc (.cells #[.slice (some ⟨b, 0, none⟩) st.length cap, .int .i64 wait] 69)).alloc (.cells #[.slice none 0 0, .int .i64 0] 69)).frozen? ⟨w.heap.size, 0, none⟩ = false := by go_simp
  have f2 : ((w.alloc (.cells #[.slice (some ⟨b, 0, none⟩) st.length cap, .int .i64 wait] 69)).alloc (.cells #[.slice none 0 0, .int .i64 0] 69)).frozen? ⟨w.heap.size + 1, 0, none⟩ = false := by go_simp
  have f3 : ((w.alloc (.cells #[.slice (some ⟨b, 0, none⟩) st.length cap, .int .i64 wait] 69)).alloc (.cells #[.slice none 0 0, .int .i64 0] 69)).frozen? ⟨w.heap.size + 1, 1, none⟩ = false := by go_simp
  generalize ((w.alloc (.cells #[.slice (some ⟨b, 0, none⟩) st.length cap, .int .i64 wait] 69)).alloc (.cells #[.slice none 0 0, .int .i64 0] 69)) = W at E1 c0 c1 c2 c3 f0 f2 f3 ⊢
  have hp := E1.cell hp
  have MW := Lib.hid (HMM.out.ext E1)
  have hbW := E1.size_lt hb
  have M0 : Hid (SoSt b W W (renTo f st 0)) := ⟨by rw [renTo_zero]; exact hst.ext E1, Own1.ext (Ext.refl _) (Nat.le_of_lt hbW)⟩
  clear hst
  go_loopw [11] (fun i wr => ∃ k : Nat, k ≤ st.length ∧ i = .int .i64 k ∧ Hid (SoSt b W wr (renTo f st k))) (fun i _ => st.length - (intOf i).toNat)
  case atStart => exact ⟨0, Nat.zero_le _, rfl, M0⟩
  case round =>
    obtain ⟨k, hk, rfl, M⟩ := hrel
    clear M0
    have hO := M.out.own
    have zb : b < wr.heap.size := Nat.lt_of_lt_of_le hbW hO.1.size
    have c0r := hO.cell (p := ⟨w.heap.size, 0, none⟩) (by show w.heap.size ≠ b; omega) c0
    have c1r := hO.cell (p := ⟨w.heap.size, 1, none⟩) (by show w.heap.size ≠ b; omega) c1
    have c2r := hO.cell (p := ⟨w.heap.size + 1, 0, none⟩) (by show w.heap.size + 1 ≠ b; omega) c2
    have c3r := hO.cell (p := ⟨w.heap.size + 1, 1, none⟩) (by show w.heap.size + 1 ≠ b; omega) c3
    have f0r := (hO.frozen (p := ⟨w.heap.size, 0, none⟩) (by show w.heap.size ≠ b; omega) c0).trans f0
    have f2r := (hO.frozen (p := ⟨w.heap.size + 1, 0, none⟩) (by show w.heap.size + 1 ≠ b; omega) c2).trans f2
    have f3r := (hO.frozen (p := ⟨w.heap.size + 1, 1, none⟩) (by show w.heap.size + 1 ≠ b; omega) c3).trans f3
    have hpr := hO.cell (p := ⟨pb, 0, none⟩) (by show pb ≠ b; omega) hp
    have MR := Lib.hid (MW.out.same (hO.2 mb MW.out.lt (by omega)))
    by_cases hlt : k < st.length
    · have hren := renTo_len f st k
      obtain ⟨⟨s1, s2⟩, s3, s4⟩ := M.out.at_ k (by omega)
      rw [renTo_at f st hlt] at s1 s2
      have HXK := Lib.hid (HX.out k hlt)
      have HSE : Hid (∀ A, StksAt A b (renTo f st k) → StksAt (A.setCell ⟨b, k * 2, none⟩ (.int .i64 (f (st.getD k stk0).1))) b (renTo f st (k + 1))) := fun A hA => by
        rw [renTo_succ f st hlt]
        have h9 := hA.set1 (i := k) (by omega) (f (st.getD k stk0).1)
        rw [renTo_at f st hlt] at h9
        exact h9
      generalize st.getD k stk0 = y at s1 s2 HXK HSE
      obtain ⟨ya, yo⟩ := y
      dsimp only at s1 s2 HXK HSE
      obtain ⟨D, hown, hmm, hat⟩ := MR.out
      have HOWN := Lib.hid hown
      have HAT := Lib.hid hat
      have zz := cell_lt c0r
      have zp2 := cell_lt hpr
      have EA : Ext wr (wr.alloc (.cells #[.int .i64 ya, .bool yo] 46)) := extA
      clear hown hat hmm
      go_wp2_with (first | (at_lookup; refine wpList_lookup_own_int _ rfl _ _ 78 rfl 3 3 .i64 (int_keyed Tryz.underlying3) Tryz.underlying78 Tryz.underlying3 rfl mb m D rfl (HOWN.out.alloc _) _ (.int .i64 ya) rfl (keyInt _ (by have := HXK.out; omega)) ?_; intro c hat hwc) | fail)
      have hca : c = f ya := by
        have h9 := HAT.out ya
        rw [hat] at h9
        injection h9 with h9
        injection h9
      subst hca
      clear hat hwc
      go_wp2
      have MN : Hid (SoSt b W ((wr.setCell ⟨b, k * 2, none⟩ (.int .i64 (f ya))).alloc (.cells #[.int .i64 ya, .bool yo] 46)) (renTo f st (k + 1))) := by
        have h9 : SoSt b W (wr.setCell ⟨b, k * 2, none⟩ (.int .i64 (f ya))) (renTo f st (k + 1)) := ⟨HSE.out _ M.out.at_, M.out.own.trans (Own1.setCell _ _)⟩
        exact h9.ext extA (Nat.lt_of_lt_of_le hbW h9.own.1.size)
      refine ⟨⟨k + 1, by omega, by go_num, MN⟩, by simp [intOf]; omega⟩
    · have hke : k = st.length := by omega
      subst hke
      have hren := renTo_len f st st.length
      have HSO := Lib.hid (sorted_any (renTo f st st.length) b cap wr (by omega) M.out.at_ zb)
      rw [hren] at HSO
      rw [HE.out] at HSO
      go_wp2_with fail
      refine (HSO.out).mono ?_
      rintro e w5 ⟨rfl, hS⟩
      have HS := Lib.hid hS
      have c0 := hS.own.cell (p := ⟨w.heap.size, 0, none⟩) (by show w.heap.size ≠ b; omega) c0r
      have c1 := hS.own.cell (p := ⟨w.heap.size, 1, none⟩) (by show w.heap.size ≠ b; omega) c1r
      have c2 := hS.own.cell (p := ⟨w.heap.size + 1, 0, none⟩) (by show w.heap.size + 1 ≠ b; omega) c2r
      have c3 := hS.own.cell (p := ⟨w.heap.size + 1, 1, none⟩) (by show w.heap.size + 1 ≠ b; omega) c3r
      have f0 := (hS.own.frozen (p := ⟨w.heap.size, 0, none⟩) (by show w.heap.size ≠ b; omega) c0r).trans f0r
      have f2 := (hS.own.frozen (p := ⟨w.heap.size + 1, 0, none⟩) (by show w.heap.size + 1 ≠ b; omega) c2r).trans f2r
      have f3 := (hS.own.frozen (p := ⟨w.heap.size + 1, 1, none⟩) (by show w.heap.size + 1 ≠ b; omega) c3r).trans f3r
      have B5 : Below b w w5 := (((E1.mono (Nat.le_of_lt hb)).trans hO.1).trans hS.own.1)
      clear hS c0r c1r c2r c3r f0r f2r f3r
      go_wp2
      have hl5 : q.1.length = st.length := by rw [← HE.out, isortK_length]; exact hren
      have S5 : StksAt (((w5.setCell ⟨w.heap.size, 0, none⟩ (.slice (some ⟨b, 0, none⟩) st.length cap)).setCell ⟨w.heap.size + 1, 0, none⟩ (.slice (some ⟨b, 0, none⟩) st.length cap)).setCell ⟨w.heap.size + 1, 1, none⟩ (.int .i64 wait)) b q.1 := fun i hi => by
        obtain ⟨⟨g1, g2⟩, g3, g4⟩ := HS.out.at_ i hi
        refine ⟨⟨?_, ?_⟩, ?_, ?_⟩
        · rw [World.cell?_setCell_other _ _ _ _ (fun h => by simp only [Addr.mk.injEq] at h; omega), World.cell?_setCell_other _ _ _ _ (fun h => by simp only [Addr.mk.injEq] at h; omega), World.cell?_setCell_other _ _ _ _ (fun h => by simp only [Addr.mk.injEq] at h; omega)]; exact g1
        · rw [World.cell?_setCell_other _ _ _ _ (fun h => by simp only [Addr.mk.injEq] at h; omega), World.cell?_setCell_other _ _ _ _ (fun h => by simp only [Addr.mk.injEq] at h; omega), World.cell?_setCell_other _ _ _ _ (fun h => by simp only [Addr.mk.injEq] at h; omega)]; exact g2
        · rw [World.frozen?_setCell, World.frozen?_setCell, World.frozen?_setCell]; exact g3
        · rw [World.frozen?_setCell, World.frozen?_setCell, World.frozen?_setCell]; exact g4
      refine bodyPost_ret (v := .agg #[.slice (some ⟨b, 0, none⟩) st.length cap, .int .i64 wait]) (by rw [results_cell1 rfl]; go_simp) rfl ?_
      refine ⟨.slice (some ⟨b, 0, none⟩) st.length cap, by rw [HW.out], by have h9 := S5.slice (cap := cap) (by rw [hl5]; exact hml); rw [hl5] at h9; exact h9, fun b' hb' => .inl hb', ⟨_, cap, by rw [hl5], fun b' off' h => by cases h; rfl⟩, fun n hn hv => ?_⟩
      have hnb := hv b rfl
      exact (((B5.mono hnb).setCell (p := ⟨w.heap.size, 0, none⟩) hn _).setCell (p := ⟨w.heap.size + 1, 0, none⟩) (by show n ≤ w.heap.size + 1; omega) _).setCell (p := ⟨w.heap.size + 1, 1, none⟩) (by show n ≤ w.heap.size + 1; omega) _
end Go.Proofs.YtbpjbhbbkonjlaaGreatDoor
namespace Go.Proofs.YtbpjbhbbkonjlaaGreatDoor
open Go.RowKit
open Go.Maps
def RenOk (f : Int → Int) (l : List Stp) : Prop := ∀ k, k < l.length → 0 < (l.getD k stp0).1.length ∧ (l.getD k stp0).1.length ≤ 12 ∧
  (∀ i, i < (l.getD k stp0).1.length → 0 ≤ ((l.getD k stp0).1.getD i stk0).1 ∧ ((l.getD k stp0).1.getD i stk0).1 < 6) ∧ Diff ((l.getD k stp0).1.map fun y => (f y.1, y.2)) ∧ ∀ y ∈ (l.getD k stp0).1, 0 ≤ f y.1 ∧ f y.1 < 6
theorem RenOk.full {f : Int → Int} {l : List Stp} (h : RenOk f l) : Full l := fun k hk => by
  obtain ⟨h1, h2, _⟩ := h k hk
  exact ⟨h1, by omega⟩
theorem mapK_ren (f : Int → Int) (l : List Stp) : mapK (fun _ x => renStep f x) l l.length = l.map (renStep f) := by
  unfold mapK
  apply list_ext_getD stp0 (by simp)
  intro j hj
  have : j < l.length := by simpa using hj
  simp [List.getD, this]
theorem renamed_own (n : Int) (l : List Stp) (a : Option Addr) (cap mb m : Nat) (f : Int → Int) (w : World) (hl : l.length ≤ 200) (hr : RenOk f l) (hc : CellsP w a l) (hm : m ≤ 1000) (hM : MapAt w mb m f) :
    Calls Tryz.prog 34 #[.agg #[.int .i64 n, .slice a l.length cap], .map (some mb)] w (OwnPost (ren f (n, l)) w) := by
  have HC := Lib.hid hc
  have HR := Lib.hid hr
  have HL := Lib.hid hl
  have HM := Lib.hid hM
  have hren : Hid (ren f (n, l) = (n, mapK (fun _ x => renStep f x) l l.length)) := by show _ = _; rw [mapK_ren]; rfl
  clear hc hr hl hM
  obtain ⟨q, hq⟩ : ∃ q, q = ren f (n, l) := ⟨_, rfl⟩
  rw [← hq] at hren ⊢
  clear hq
  go_enter Tryz.func34, Tryz.ntmps34
  go_wp2_with fail
  have E1 : Ext w (((w.alloc (.cells #[.int .i64 n, .slice a l.length cap] 24)).alloc (.cells #[.map (some mb)] 78)).alloc (.cells #[.int .i64 0, .slice none 0 0] 24)) := extA
  have c0 : (((w.alloc (.cells #[.int .i64 n, .slice a l.length cap] 24)).alloc (.cells #[.map (some mb)] 78)).alloc (.cells #[.int .i64 0, .slice none 0 0] 24)).cell? ⟨w.heap.size + 1, 0, none⟩ = some (.map (some mb)) := by go_simp
  have c1 : (((w.alloc (.cells #[.int .i64 n, .slice a l.length cap] 24)).alloc (.cells #[.map (some mb)] 78)).alloc (.cells #[.int .i64 0, .slice none 0 0] 24)).cell? ⟨w.heap.size + 1 + 1, 0, none⟩ = some (.int .i64 0) := by go_simp
  have c2 : (((w.alloc (.cells #[.int .i64 n, .slice a l.length cap] 24)).alloc (.cells #[.map (some mb)] 78)).alloc (.cells #[.int .i64 0, .slice none 0 0] 24)).cell? ⟨w.heap.size + 1 + 1, 1, none⟩ = some (.slice none 0 0) := by go_simp
  have f1 : (((w.alloc (.cells #[.int .i64 n, .slice a l.length cap] 24)).alloc (.cells #[.map (some mb)] 78)).alloc (.cells #[.int .i64 0, .slice none 0 0] 24)).frozen? ⟨w.heap.size + 1 + 1, 0, none⟩ = false := by go_simp
  have f2 : (((w.alloc (.cells #[.int .i64 n, .slice a l.length cap] 24)).alloc (.cells #[.map (some mb)] 78)).alloc (.cells #[.int .i64 0, .slice none 0 0] 24)).frozen? ⟨w.heap.size + 1 + 1, 1, none⟩ = false := by go_simp
  generalize (((w.alloc (.cells #[.int .i64 n, .slice a l.length cap] 24)).alloc (.cells #[.map (some mb)] 78)).alloc (.cells #[.int .i64 0, .slice none 0 0] 24)) = W at E1 c0 c1 c2 f1 f2 ⊢
  have MW := Lib.hid (HM.out.ext E1)
  have hlt1 := cell_lt c0
  dsimp only at hlt1
  refine (mapped_own n l a cap W 65 #[.pointer (some ⟨w.heap.size + 1, 0, none⟩)] (fun _ x => renStep f x) HL.out HR.out.full (HC.out.ext E1) (enters_of Tryz.func65 (by kernel_rfl) rfl) (fun k v w' hk hE ho hb => ?_)).mono ?_
  · obtain ⟨r1, r2, r3, r4, r5⟩ := HR.out k hk
    exact renamed1_any _ _ k v (w.heap.size + 1) mb m f w' r1 r2 hm ho (hE.cell c0) (MW.out.ext hE) (fun b h => ⟨fun e => by have := hb b h; omega, fun e => by have := hb b h; have := MW.out.lt; omega⟩) r3 r4 r5
  rintro e w2 ⟨o, v, ho, rfl, hv, hob, hE⟩
  dsimp only at hv
  have HV := Lib.hid hv
  have HOB := Lib.hid hob
  have hz1 : w.heap.size + 1 + 1 < W.heap.size := cell_lt c1
  obtain ⟨ua, uc, rfl, _, _⟩ := hv.reads
  have g1 := (Below.frozen (p := ⟨w.heap.size + 1 + 1, 0, none⟩) hE (cell_lt c1)).trans f1
  have g2 := (Below.frozen (p := ⟨w.heap.size + 1 + 1, 1, none⟩) hE (cell_lt c2)).trans f2
  have c1 := hE.cell c1
  have c2 := hE.cell c2
  clear hv hob
  dsimp only
  generalize hP : mapK (fun _ x => renStep f x) l l.length = P at HV HOB hren ⊢
  clear hP
  go_wp2
  have EF : Ext w ((w2.setCell ⟨w.heap.size + 1 + 1, 0, none⟩ (.int .i64 n)).setCell ⟨w.heap.size + 1 + 1, 1, none⟩ (.slice ua P.length uc)) := extA
  have hc : Chg (fun b => b ≤ o) w2 ((w2.setCell ⟨w.heap.size + 1 + 1, 0, none⟩ (.int .i64 n)).setCell ⟨w.heap.size + 1 + 1, 1, none⟩ (.slice ua P.length uc)) :=
    (Chg.setCell (B := fun b => b ≤ o) ⟨w.heap.size + 1 + 1, 0, none⟩ _ (by show w.heap.size + 1 + 1 ≤ o; omega)).trans (Chg.setCell (B := fun b => b ≤ o) ⟨w.heap.size + 1 + 1, 1, none⟩ _ (by show w.heap.size + 1 + 1 ≤ o; omega))
  refine bodyPost_ret (v := .agg #[.int .i64 n, .slice ua P.length uc]) (by rw [results_cell1 rfl]; go_simp) rfl ?_
  rw [hren.out]
  exact ⟨o, _, by omega, rfl, HV.out.chg hc (fun b hb e => by have := HOB.out b hb; omega), HOB.out, EF⟩
end Go.Proofs.YtbpjbhbbkonjlaaGreatDoor
namespace Go.Proofs.YtbpjbhbbkonjlaaGreatDoor
open Go.RowKit
open Go.Maps
theorem ckStrokes_diff {x : Stp} (h : ckStep x = 0) : Diff x.1 := (ckStrokes_asc (ckStep_strokes h).1).1.diff
theorem renOk_inj {f : Int → Int} {n : Int} {l : List Stp} (h : Fine n l) (hi : ∀ a b, 0 ≤ a ∧ a < n → 0 ≤ b ∧ b < n → f a = f b → a = b) (hr : ∀ a, 0 ≤ a ∧ a < n → 0 ≤ f a ∧ f a < 6) : RenOk f l := fun k hk => by
  obtain ⟨h1, h2⟩ := h k hk
  have h3 := ckStep_strokes h1
  have hm : ∀ y ∈ (l.getD k stp0).1, 0 ≤ y.1 ∧ y.1 < n := fun y hy => by
    obtain ⟨j, hj, e⟩ := List.mem_iff_getElem.1 hy
    have := h2 j hj
    rw [List.getD_eq_getElem?_getD (l := (l.getD k stp0).1), List.getElem?_eq_getElem hj] at this
    rw [← e]; exact this
  refine ⟨h3.2.2.1, by omega, ckStep_known h1, ?_, fun y hy => hr _ (hm y hy)⟩
  unfold Diff
  rw [List.pairwise_map]
  refine List.Pairwise.imp_of_mem (fun {a b} ha hb hab e => hab (hi _ _ (hm a ha) (hm b hb) e)) (ckStrokes_diff h1)
theorem makeInts (n : Nat) (hn : n ≤ 64) (w : World) : (Instr.makeSlice 49 (.int .i64 (n : Int)) (.int .i64 (n : Int))).run Tryz.prog w = .ok (.slice (some ⟨w.heap.size, 0, none⟩) n n) (w.alloc (.cells (madeCells #[.int .i64 0] n) 3)) :=
  run_make_row' _ _ (.int .i64 0) 8 Tryz.underlying49 infoInt rfl _ _ n (by omega) (by omega) w
theorem madeInts (w : World) (n : Nat) (t : TypeId) {p : Nat} (hp : w.heap.size = p) : IntsAt (w.alloc (.cells (madeCells #[.int .i64 0] n) t)) p (List.replicate n 0) := fun k hk => by
  subst hp
  rw [List.length_replicate] at hk
  refine ⟨?_, by simp [go_sem]⟩
  rw [World.cell?_alloc_new]
  simp [madeCells, hk, Nat.mod_one]
theorem IntsAt.cells {A : World} {b : Nat} {l : List Int} (h : IntsAt A b l) : CellsI A (some ⟨b, 0, none⟩) l := fun i hi => ⟨b, 0, rfl, by rw [Nat.zero_add]; exact (h i hi).1⟩
end Go.Proofs.YtbpjbhbbkonjlaaGreatDoor
namespace Go.Proofs.YtbpjbhbbkonjlaaGreatDoor
open Go.RowKit
structure Bij (P : Int → Prop) (n : Int) (f g : Int → Int) : Prop where
  rng : ∀ a, P a → 0 ≤ f a ∧ f a < n
  gp : ∀ a, 0 ≤ a ∧ a < n → P (g a)
  gf : ∀ a, P a → g (f a) = a
  fg : ∀ a, 0 ≤ a ∧ a < n → f (g a) = a
theorem Bij.inj {P : Int → Prop} {n : Int} {f g : Int → Int} (h : Bij P n f g) {a b : Int} (ha : P a) (hb : P b) (e : f a = f b) : a = b := by
  rw [← h.gf a ha, ← h.gf b hb, e]
def In (n : Int) (a : Int) : Prop := 0 ≤ a ∧ a < n
def FineP (P : Int → Prop) (x : Stp) : Prop := ckStep x = 0 ∧ ∀ y ∈ x.1, P y.1
theorem FineP.asc {P : Int → Prop} {x : Stp} (h : FineP P x) : Asc x.1 := (ckStrokes_asc (ckStep_strokes h.1).1).1
theorem FineP.diff {P : Int → Prop} {x : Stp} (h : FineP P x) : Diff x.1 := h.asc.diff
theorem Fine.all {n : Int} {l : List Stp} (h : Fine n l) : ∀ x ∈ l, FineP (In n) x := fun x hx => by
  obtain ⟨k, hk, e⟩ := List.mem_iff_getElem.1 hx
  obtain ⟨h1, h2⟩ := h k hk
  rw [List.getD_eq_getElem?_getD, List.getElem?_eq_getElem hk] at h1 h2
  have h1 : ckStep l[k] = 0 := h1
  have h2 : ∀ j, j < (l[k]).1.length → 0 ≤ ((l[k]).1.getD j stk0).1 ∧ ((l[k]).1.getD j stk0).1 < n := h2
  rw [e] at h1 h2
  refine ⟨h1, fun y hy => ?_⟩
  obtain ⟨j, hj, e⟩ := List.mem_iff_getElem.1 hy
  have := h2 j hj
  rw [List.getD_eq_getElem?_getD, List.getElem?_eq_getElem hj] at this
  rw [← e]; exact this
theorem asc_ck {l : List Stk} {z : Int} (h : Asc l) (hz : ∀ y ∈ l, z < y.1) (hk : ∀ y ∈ l, 0 ≤ y.1 ∧ y.1 < 6) : ckStrokes z l = 0 := by
  induction l generalizing z with
  | nil => rfl
  | cons y l ih =>
    have h1 := hz y (List.mem_cons_self ..)
    have h2 := hk y (List.mem_cons_self ..)
    obtain ⟨p1, p2⟩ := List.pairwise_cons.1 h
    unfold ckStrokes
    rw [if_neg (by omega), if_neg (by omega), if_neg (by omega)]
    exact ih p2 p1 fun y hy => hk y (List.mem_cons_of_mem _ hy)
theorem ckStep_of {x : Stp} (h1 : 0 < x.1.length) (h2 : x.1.length ≤ 6) (h3 : ckStrokes (-1) x.1 = 0) (h4 : 0 ≤ x.2 ∧ x.2 ≤ 1000000) : ckStep x = 0 := by
  unfold ckStep
  rw [if_neg (by omega), if_neg (by omega), if_neg (by simp [h3]), if_neg (by omega)]
section
variable {P : Int → Prop} {n : Int} {f g : Int → Int}
theorem ren_diff (h : Bij P n f g) {x : Stp} (hx : FineP P x) : Diff (x.1.map fun y => (f y.1, y.2)) := by
  unfold Diff
  rw [List.pairwise_map]
  exact List.Pairwise.imp_of_mem (fun {a b} ha hb hab e => hab (h.inj (hx.2 a ha) (hx.2 b hb) e)) hx.diff
theorem ren_mem (h : Bij P n f g) (hn : n ≤ 6) {x : Stp} (hx : FineP P x) (z : Stk) : z ∈ (renStep f x).1 ↔ ∃ y ∈ x.1, (f y.1, y.2) = z := by
  show z ∈ ordered (x.1.map fun y => (f y.1, y.2)) ↔ _
  rw [ordered_mem, List.mem_map]
  refine ⟨fun h => h.1, fun h1 => ⟨h1, ?_⟩⟩
  obtain ⟨y, hy, rfl⟩ := h1
  have := h.rng _ (hx.2 y hy)
  dsimp only
  omega
theorem renStep_asc (h : Bij P n f g) {x : Stp} (hx : FineP P x) : Asc (renStep f x).1 := ordered_asc (ren_diff h hx)
theorem renStep_len (h : Bij P n f g) (hn : n ≤ 6) {x : Stp} (hx : FineP P x) : (renStep f x).1.length = x.1.length := by
  show (ordered (x.1.map fun y => (f y.1, y.2))).length = _
  rw [← isortK_ordered (ren_diff h hx), isortK_length, List.length_map]
  intro y hy
  obtain ⟨z, hz, rfl⟩ := List.mem_map.1 hy
  have := h.rng _ (hx.2 z hz)
  dsimp only
  omega
theorem renStep_fine (h : Bij P n f g) (hn : n ≤ 6) {x : Stp} (hx : FineP P x) : FineP (In n) (renStep f x) := by
  have hs := ckStep_strokes hx.1
  have hm : ∀ y ∈ (renStep f x).1, 0 ≤ y.1 ∧ y.1 < n := fun y hy => by
    obtain ⟨z, hz, rfl⟩ := (ren_mem h hn hx y).1 hy
    exact h.rng _ (hx.2 z hz)
  refine ⟨ckStep_of (by rw [renStep_len h hn hx]; omega) (by rw [renStep_len h hn hx]; omega) (asc_ck (renStep_asc h hx) (fun y hy => by have := hm y hy; omega) (fun y hy => by have := hm y hy; omega)) ⟨hs.2.2.2.1, hs.2.2.2.2⟩, hm⟩
theorem movesIn_iff (a : Int) (x : Stp) : movesIn a x = true ↔ ∃ y ∈ x.1, y.1 = a := by
  unfold movesIn
  rw [List.any_eq_true]
  constructor
  · rintro ⟨y, hy, e⟩; exact ⟨y, hy, by simpa using e⟩
  · rintro ⟨y, hy, e⟩; exact ⟨y, hy, by simpa using e⟩
theorem bool_iff {a b : Bool} (h : a = true ↔ b = true) : a = b := by cases a <;> cases b <;> simp_all
theorem movesIn_ren (h : Bij P n f g) (hn : n ≤ 6) {x : Stp} (hx : FineP P x) {a : Int} (ha : P a) : movesIn (f a) (renStep f x) = movesIn a x := by
  apply bool_iff
  rw [movesIn_iff, movesIn_iff]
  constructor
  · rintro ⟨y, hy, e⟩
    obtain ⟨z, hz, rfl⟩ := (ren_mem h hn hx y).1 hy
    exact ⟨z, hz, h.inj (hx.2 z hz) ha e⟩
  · rintro ⟨y, hy, rfl⟩
    exact ⟨_, (ren_mem h hn hx _).2 ⟨y, hy, rfl⟩, rfl⟩
theorem beh_cons (e : Int → Bool) (y : Stk) (l : List Stk) : beh e (y :: l) = beh (fun i => if i = y.1 then y.2 else e i) l := rfl
theorem beh_not {e : Int → Bool} {l : List Stk} {a : Int} (h : ∀ y ∈ l, y.1 ≠ a) : beh e l a = e a := by
  induction l generalizing e with
  | nil => rfl
  | cons y l ih =>
    rw [beh_cons, ih fun y hy => h y (List.mem_cons_of_mem _ hy)]
    exact if_neg fun e => h y (List.mem_cons_self ..) e.symm
theorem beh_mem {e : Int → Bool} {l : List Stk} (hd : Diff l) {y : Stk} (hy : y ∈ l) : beh e l y.1 = y.2 := by
  induction l generalizing e with
  | nil => cases hy
  | cons z l ih =>
    obtain ⟨h1, h2⟩ := List.pairwise_cons.1 hd
    rw [beh_cons]
    rcases List.mem_cons.1 hy with rfl | hy
    · rw [beh_not fun z hz e => h1 z hz e.symm]
      exact if_pos rfl
    · exact ih h2 hy
theorem beh_ren (h : Bij P n f g) (hn : n ≤ 6) {x : Stp} (hx : FineP P x) {e e' : Int → Bool} (he : ∀ a, P a → e' (f a) = e a) : ∀ a, P a → beh e' (renStep f x).1 (f a) = beh e x.1 a := fun a ha => by
  cases hm : movesIn a x
  · have h1 : ∀ y ∈ x.1, y.1 ≠ a := fun y hy e => by
      have := (movesIn_iff a x).2 ⟨y, hy, e⟩
      rw [hm] at this; cases this
    rw [beh_not h1, beh_not, he a ha]
    intro y hy e
    obtain ⟨z, hz, rfl⟩ := (ren_mem h hn hx y).1 hy
    exact h1 z hz (h.inj (hx.2 z hz) ha e)
  · obtain ⟨y, hy, rfl⟩ := (movesIn_iff a x).1 hm
    rw [beh_mem hx.diff hy]
    exact beh_mem (renStep_asc h hx).diff (y := (f y.1, y.2)) ((ren_mem h hn hx _).2 ⟨y, hy, rfl⟩)
theorem ckFit_iff {m : Int} {x : Stp} {e : Int → Bool} : ckFit m x e = 0 ↔ ckStep x = 0 ∧ (∀ y ∈ x.1, y.1 < m) ∧ ∀ y ∈ x.1, e y.1 = !y.2 := by
  unfold ckFit
  by_cases h1 : ckStep x = 0
  · rw [if_neg (by simp [h1])]
    cases h2 : anyHigh m x.1
    · have h2' : ∀ y ∈ x.1, y.1 < m := fun y hy => by
        have := (List.any_eq_false.1 h2) y hy
        simp at this; omega
      cases h3 : anySame e x.1
      · refine ⟨fun _ => ⟨h1, h2', fun y hy => ?_⟩, fun _ => rfl⟩
        have := (List.any_eq_false.1 h3) y hy
        cases ha : e y.1 <;> cases hb : y.2 <;> simp_all
      · refine ⟨fun h => by simp at h, fun ⟨_, _, h⟩ => ?_⟩
        obtain ⟨y, hy, hh⟩ := List.any_eq_true.1 h3
        rw [h y hy] at hh
        cases hb : y.2 <;> rw [hb] at hh <;> cases hh
    · refine ⟨fun h => by simp at h, fun ⟨_, h, _⟩ => ?_⟩
      obtain ⟨y, hy, hh⟩ := List.any_eq_true.1 h2
      have := h y hy
      simp at hh; omega
  · rw [if_pos h1]
    exact ⟨fun h => absurd h h1, fun h => absurd h.1 h1⟩
theorem ckWalk_iff {m : Int} {e : Int → Bool} {x : Stp} {l : List Stp} : ckWalk m e (x :: l) = 0 ↔ ckFit m x e = 0 ∧ ckWalk m (beh e x.1) l = 0 := by
  show (if ckFit m x e ≠ 0 then ckFit m x e else ckWalk m (beh e x.1) l) = 0 ↔ _
  by_cases h : ckFit m x e = 0
  · rw [if_neg (by simp [h])]; exact ⟨fun k => ⟨h, k⟩, fun k => k.2⟩
  · rw [if_pos h]; exact ⟨fun k => absurd k h, fun k => absurd k.1 h⟩
theorem ckWalk_ren (h : Bij P n f g) (hn : n ≤ 6) {m : Int} {l : List Stp} (hl : ∀ x ∈ l, FineP P x) {e e' : Int → Bool} (he : ∀ a, P a → e' (f a) = e a) (hk : ckWalk m e l = 0) : ckWalk n e' (l.map (renStep f)) = 0 := by
  induction l generalizing e e' with
  | nil => rfl
  | cons x l ih =>
    have hx := hl x (List.mem_cons_self ..)
    obtain ⟨h1, h2⟩ := ckWalk_iff.1 hk
    obtain ⟨_, _, h3⟩ := ckFit_iff.1 h1
    have hf := renStep_fine h hn hx
    rw [List.map_cons]
    refine ckWalk_iff.2 ⟨ckFit_iff.2 ⟨hf.1, fun y hy => (hf.2 y hy).2, fun y hy => ?_⟩, ih (fun x hx => hl x (List.mem_cons_of_mem _ hx)) (beh_ren h hn hx he) h2⟩
    obtain ⟨z, hz, rfl⟩ := (ren_mem h hn hx y).1 hy
    rw [he _ (hx.2 z hz)]
    exact h3 z hz
theorem behAll_cons (e : Int → Bool) (x : Stp) (l : List Stp) : behAll e (x :: l) = behAll (beh e x.1) l := rfl
theorem behAll_ren (h : Bij P n f g) (hn : n ≤ 6) {l : List Stp} (hl : ∀ x ∈ l, FineP P x) {e e' : Int → Bool} (he : ∀ a, P a → e' (f a) = e a) : ∀ a, P a → behAll e' (l.map (renStep f)) (f a) = behAll e l a := by
  induction l generalizing e e' with
  | nil => exact he
  | cons x l ih =>
    rw [List.map_cons, behAll_cons, behAll_cons]
    exact ih (fun x hx => hl x (List.mem_cons_of_mem _ hx)) (beh_ren h hn (hl x (List.mem_cons_self ..)) he)
theorem movedIn_iff (a : Int) (l : List Stp) : movedIn a l = true ↔ ∃ x ∈ l, movesIn a x = true := by
  unfold movedIn
  exact List.any_eq_true
theorem movedIn_ren (h : Bij P n f g) (hn : n ≤ 6) {l : List Stp} (hl : ∀ x ∈ l, FineP P x) {a : Int} (ha : P a) : movedIn (f a) (l.map (renStep f)) = movedIn a l := by
  apply bool_iff
  rw [movedIn_iff, movedIn_iff]
  constructor
  · rintro ⟨y, hy, e⟩
    obtain ⟨x, hx, rfl⟩ := List.mem_map.1 hy
    exact ⟨x, hx, by rw [← movesIn_ren h hn (hl x hx) ha]; exact e⟩
  · rintro ⟨x, hx, e⟩
    exact ⟨_, List.mem_map.2 ⟨x, hx, rfl⟩, by rw [movesIn_ren h hn (hl x hx) ha]; exact e⟩
theorem ints_all (p : Int → Bool) (m : Int) : (ints m).any p = false ↔ ∀ a, 0 ≤ a ∧ a < m → p a = false := by
  rw [List.any_eq_false]
  constructor
  · intro h a ha; have := h a (ints_mem.2 ha); simpa using this
  · intro h a ha; simp [h a (ints_mem.1 ha)]
theorem ckSeq_of {m : Int} {l : List Stp} (h1 : 1 ≤ m ∧ m ≤ 6) (h2 : 0 < l.length ∧ l.length ≤ 64) (h3 : ckWalk m none6 l = 0) (h4 : ∀ a, 0 ≤ a ∧ a < m → behAll none6 l a = false) (h5 : ∀ a, 0 ≤ a ∧ a < m → movedIn a l = true) : ckSeq (m, l) = 0 := by
  have h4' := (ints_all (behAll none6 l) m).2 h4
  have h5' : (ints m).any (fun a => !movedIn a l) = false := (ints_all _ m).2 fun a ha => by rw [h5 a ha]; rfl
  unfold ckSeq
  dsimp only
  rw [if_neg (by omega), if_neg (by omega), if_neg (by omega), if_neg (by simp [h3]), h4', h5']
  rfl
structure Right (m : Int) (l : List Stp) : Prop where
  act : 1 ≤ m ∧ m ≤ 6
  len : 0 < l.length ∧ l.length ≤ 64
  walk : ckWalk m none6 l = 0
  back : ∀ a, 0 ≤ a ∧ a < m → behAll none6 l a = false
  moved : ∀ a, 0 ≤ a ∧ a < m → movedIn a l = true
theorem ckSeq_right {m : Int} {l : List Stp} (h : ckSeq (m, l) = 0) : Right m l := by
  obtain ⟨h1, h2, h3, h4, h5, h6, h7⟩ := ckSeq_zero h
  refine ⟨⟨h1, h2⟩, ⟨h3, h4⟩, h5, (ints_all _ _).1 h6, fun a ha => ?_⟩
  have := (ints_all _ _).1 h7 a ha
  simpa using this
theorem Right.fine {m : Int} {l : List Stp} (h : Right m l) : ∀ x ∈ l, FineP (In m) x := (ckWalk_fine h.walk).all
theorem ckSeq_ren (h : Bij (In n) n f g) {l : List Stp} (hk : ckSeq (n, l) = 0) : ckSeq (ren f (n, l)) = 0 := by
  have hr := ckSeq_right hk
  have hn := hr.act.2
  show ckSeq (n, l.map (renStep f)) = 0
  refine ckSeq_of hr.act (by rw [List.length_map]; exact hr.len) (ckWalk_ren h hn hr.fine (fun _ _ => rfl) hr.walk) (fun a ha => ?_) (fun a ha => ?_)
  · rw [← h.fg a ha, behAll_ren h hn hr.fine (fun _ _ => rfl) _ (h.gp a ha)]
    exact hr.back _ (h.gp a ha)
  · rw [← h.fg a ha, movedIn_ren h hn hr.fine (h.gp a ha)]
    exact hr.moved _ (h.gp a ha)
end
theorem sub_len {α : Type} [DecidableEq α] {l m : List α} (hd : l.Nodup) (h : ∀ x ∈ l, x ∈ m) : l.length ≤ m.length := by
  induction l generalizing m with
  | nil => simp
  | cons x l ih =>
    obtain ⟨h1, h2⟩ := List.nodup_cons.1 hd
    have hm := h x (List.mem_cons_self ..)
    have := ih (m := m.erase x) h2 fun y hy => (List.mem_erase_of_ne (fun e => by subst e; exact h1 hy)).2 (h y (List.mem_cons_of_mem _ hy))
    rw [List.length_erase_of_mem hm] at this
    have := List.length_pos_of_mem hm
    simp only [List.length_cons]
    omega
theorem renGo_zero {n : Int} : ∀ (l bef : List Int), renGo n bef l = 0 → (∀ x ∈ l, 0 ≤ x ∧ x < n) ∧ l.Nodup ∧ ∀ x ∈ l, x ∉ bef := by
  intro l
  induction l with
  | nil => intro bef _; exact ⟨by simp, List.Pairwise.nil, by simp⟩
  | cons y l ih =>
    intro bef h
    unfold renGo at h
    by_cases h1 : y < 0 ∨ n ≤ y
    · rw [if_pos h1] at h; cases h
    · rw [if_neg h1] at h
      by_cases h2 : bef.contains y = true
      · rw [if_pos h2] at h; cases h
      · rw [if_neg h2] at h
        obtain ⟨i1, i2, i3⟩ := ih _ h
        refine ⟨fun x hx => ?_, List.nodup_cons.2 ⟨fun hy => i3 y hy (by simp), i2⟩, fun x hx => ?_⟩
        · rcases List.mem_cons.1 hx with rfl | hx
          · omega
          · exact i1 x hx
        · rcases List.mem_cons.1 hx with rfl | hx
          · intro hb; exact h2 (by simpa using hb)
          · intro hb; exact i3 x hx (by simp [hb])
theorem listFn_at (t : List Int) {k : Nat} : listFn t (k : Int) = t.getD k 0 := by
  unfold listFn
  rw [if_neg (by omega)]; rfl
theorem bij_list {t b : List Int} {n : Int} (ht : renE t n = 0) (hb : ∀ k, k < t.length → b.getD (t.getD k 0).toNat 0 = (k : Int)) : Bij (In n) n (listFn t) (listFn b) := by
  unfold renE at ht
  by_cases hl : (t.length : Int) ≠ n
  · rw [if_pos hl] at ht; cases ht
  rw [if_neg hl] at ht
  have hl : (t.length : Int) = n := by omega
  obtain ⟨h1, h2, _⟩ := renGo_zero t [] ht
  have hrng : ∀ a, In n a → In n (listFn t a) := fun a ha => by
    obtain ⟨k, rfl⟩ := Int.eq_ofNat_of_zero_le ha.1
    have hk : k < t.length := by have := ha.2; omega
    rw [listFn_at]
    exact h1 _ (by rw [List.getD_eq_getElem?_getD, List.getElem?_eq_getElem hk]; exact List.getElem_mem hk)
  have hgf : ∀ a, In n a → listFn b (listFn t a) = a := fun a ha => by
    have hr := hrng a ha
    obtain ⟨k, rfl⟩ := Int.eq_ofNat_of_zero_le ha.1
    have hk : k < t.length := by have := ha.2; omega
    rw [listFn_at] at hr ⊢
    unfold listFn
    rw [if_neg (by have := hr.1; omega)]
    exact hb k hk
  have hsur : ∀ v, In n v → ∃ a, In n a ∧ listFn t a = v := fun v hv => by
    by_cases hm : v ∈ t
    · obtain ⟨k, hk, e⟩ := List.mem_iff_getElem.1 hm
      refine ⟨(k : Int), ⟨by omega, by omega⟩, ?_⟩
      rw [listFn_at, List.getD_eq_getElem?_getD, List.getElem?_eq_getElem hk]; exact e
    · exfalso
      have := sub_len (l := v :: t) (m := ints n) (List.nodup_cons.2 ⟨hm, h2⟩) (fun x hx => by
        rcases List.mem_cons.1 hx with rfl | hx
        · exact ints_mem.2 hv
        · exact ints_mem.2 (h1 x hx))
      rw [ints_length, List.length_cons] at this
      omega
  refine ⟨hrng, fun v hv => ?_, hgf, fun v hv => ?_⟩
  · obtain ⟨a, ha, rfl⟩ := hsur v hv
    rw [hgf a ha]; exact ha
  · obtain ⟨a, ha, rfl⟩ := hsur v hv
    rw [hgf a ha]
end Go.Proofs.YtbpjbhbbkonjlaaGreatDoor
namespace Go.Proofs.YtbpjbhbbkonjlaaGreatDoor
theorem ordered_six (l : List Stk) : ordered l = (l.filter fun y => y.1 == 0) ++ ((l.filter fun y => y.1 == 1) ++ ((l.filter fun y => y.1 == 2) ++ ((l.filter fun y => y.1 == 3) ++ ((l.filter fun y => y.1 == 4) ++ (l.filter fun y => y.1 == 5))))) := by
  unfold ordered
  rw [show ints 6 = [0, 1, 2, 3, 4, 5] by decide]
  simp [List.flatMap_cons]
theorem strN_ordered (c : List Cyl) (p : Int) : ∀ l : List Stk, (∀ y ∈ l, 0 ≤ y.1 ∧ y.1 < 6) → strN c p (ordered l) = strN c p l := by
  intro l
  induction l with
  | nil => intro _; rfl
  | cons y l ih =>
    intro h
    have h1 := ih fun z hz => h z (List.mem_cons_of_mem _ hz)
    have h2 := h y (by simp)
    rw [ordered_six] at h1 ⊢
    simp only [strN_append] at h1
    rcases (show y.1 = 0 ∨ y.1 = 1 ∨ y.1 = 2 ∨ y.1 = 3 ∨ y.1 = 4 ∨ y.1 = 5 by omega) with e | e | e | e | e | e
    all_goals
      simp only [List.filter_cons, e]
      simp only [Int.reduceBEq, Bool.false_eq_true, if_true, if_false, List.cons_append, strN_append, strN]
      omega
theorem strN_map {l own : List Cyl} {p : Int} {f : Int → Int} : ∀ w : List Stk, (∀ y ∈ w, own.getD (f y.1).toNat cyl0 = l.getD y.1.toNat cyl0) → strN own p (w.map fun y => (f y.1, y.2)) = strN l p w := by
  intro w
  induction w with
  | nil => intro _; rfl
  | cons y w ih =>
    intro h
    rw [List.map_cons]
    unfold strN
    rw [ih fun z hz => h z (List.mem_cons_of_mem _ hz)]
    dsimp only
    rw [h y (by simp)]
theorem strN_ren {l own : List Cyl} {p : Int} {f : Int → Int} {n : Int} (h6 : n ≤ 6) (hf : ∀ a, 0 ≤ a → a < n → 0 ≤ f a ∧ f a < n ∧ own.getD (f a).toNat cyl0 = l.getD a.toNat cyl0) : ∀ st : List Stp, (∀ x ∈ st, ∀ y ∈ x.1, 0 ≤ y.1 ∧ y.1 < n) → strN own p (wordL (st.map (renStep f))) = strN l p (wordL st) := by
  intro st
  induction st with
  | nil => intro _; rfl
  | cons x st ih =>
    intro h
    have h1 := ih fun z hz => h z (List.mem_cons_of_mem _ hz)
    have hx := h x (by simp)
    show strN own p ((renStep f x).1 ++ wordL (st.map (renStep f))) = strN l p (x.1 ++ wordL st)
    rw [strN_append, strN_append, h1]
    congr 1
    show strN own p (ordered (x.1.map fun y => (f y.1, y.2))) = _
    rw [strN_ordered]
    · exact strN_map x.1 fun y hy => (hf y.1 (hx y hy).1 (hx y hy).2).2.2
    · intro y hy
      obtain ⟨z, hz, rfl⟩ := List.mem_map.1 hy
      have := hf z.1 (hx z hz).1 (hx z hz).2
      dsimp only
      omega
def backT (m : Nat) : List Int := (List.range m).map fun i => ((m - 1 - i : Nat) : Int)
theorem backT_len (m : Nat) : (backT m).length = m := by simp [backT]
theorem backT_at {m k : Nat} (h : k < m) : (backT m).getD k 0 = ((m - 1 - k : Nat) : Int) := by
  unfold backT
  rw [List.getD_eq_getElem?_getD, List.getElem?_map, List.getElem?_range h]; rfl
theorem renGo_of {n : Int} : ∀ (l bef : List Int), (∀ x ∈ l, 0 ≤ x ∧ x < n) → l.Nodup → (∀ x ∈ l, x ∉ bef) → renGo n bef l = 0 := by
  intro l
  induction l with
  | nil => intro bef _ _ _; rfl
  | cons x l ih =>
    intro bef h1 h2 h3
    have hx := h1 x (by simp)
    rw [List.nodup_cons] at h2
    unfold renGo
    rw [if_neg (by omega), if_neg (by simpa using h3 x (by simp))]
    refine ih _ (fun y hy => h1 y (List.mem_cons_of_mem _ hy)) h2.2 fun y hy hm => ?_
    rcases List.mem_append.1 hm with hm | hm
    · exact h3 y (List.mem_cons_of_mem _ hy) hm
    · rw [List.mem_singleton] at hm
      subst hm
      exact h2.1 hy
theorem backT_ok (m : Nat) : renE (backT m) (m : Int) = 0 := by
  unfold renE
  rw [backT_len, if_neg (by omega)]
  refine renGo_of _ _ (fun x hx => ?_) ?_ (fun x _ => by simp)
  · unfold backT at hx
    obtain ⟨i, hi, rfl⟩ := List.mem_map.1 hx
    rw [List.mem_range] at hi
    omega
  · unfold backT
    rw [List.Nodup, List.pairwise_map]
    exact List.pairwise_lt_range.imp_of_mem fun ha hb h e => by
      rw [List.mem_range] at ha hb
      omega
theorem backT_bij (m : Nat) : Bij (In (m : Int)) (m : Int) (listFn (backT m)) (listFn (backT m)) := bij_list (backT_ok m) fun k hk => by
  rw [backT_len] at hk
  rw [backT_at hk, Int.toNat_natCast, backT_at (by omega)]
  omega
theorem backT_fn {m : Nat} {a : Int} (h0 : 0 ≤ a) (h1 : a < m) : listFn (backT m) a = (m : Int) - 1 - a := by
  have e : a = ((a.toNat : Nat) : Int) := by omega
  rw [e, listFn_at, backT_at (by omega)]
  omega
theorem rev_at {l : List Cyl} {i : Nat} (h : i < l.length) : l.reverse.getD (l.length - 1 - i) cyl0 = l.getD i cyl0 := by
  rw [List.getD_eq_getElem?_getD, List.getElem?_reverse (by omega), List.getD_eq_getElem?_getD]
  congr 2
  omega
theorem cylsE_of {l : List Cyl} (h : ∀ c ∈ l, cylE c = 0) : cylsE l = 0 := by
  induction l with
  | nil => rfl
  | cons c l ih =>
    unfold cylsE
    rw [if_neg (not_not_intro (h c (by simp)))]
    exact ih fun d hd => h d (List.mem_cons_of_mem _ hd)
theorem cyc_ren {l : List Cyl} {n : Int} {st : List Stp} {p : Int} (h : CycOk l n st p) (hk : ckSeq (n, st) = 0) (hc : ∀ c ∈ l, cylE c = 0) :
    ckSeq (n, st.map (renStep (listFn (backT l.length)))) = 0 ∧ cycS l.reverse n (st.map (renStep (listFn (backT l.length)))) p = (sumT (strN l p (wordL st)), 0) := by
  have hl := h.len
  have hb := backT_bij l.length
  rw [hl] at hb
  have h1 := ckSeq_ren hb hk
  have h1' : ckSeq (n, st.map (renStep (listFn (backT l.length)))) = 0 := h1
  refine ⟨h1', ?_⟩
  unfold cycS
  rw [if_neg (not_not_intro h1'), if_neg (not_not_intro (by rw [List.length_reverse]; exact hl)), if_neg (not_not_intro (cylsE_of fun c hc2 => hc c (List.mem_reverse.1 hc2))), if_neg]
  · congr 2
    refine strN_ren (n := n) h.n6 (fun a h0 h1 => ?_) st fun x hx y hy => ?_
    · rw [backT_fn h0 (by omega)]
      refine ⟨by omega, by omega, ?_⟩
      have := rev_at (l := l) (i := a.toNat) (by omega)
      rw [← this]
      congr 1
      omega
    · obtain ⟨k, hk2, rfl⟩ := List.mem_iff_getElem.1 hx
      have h2 := (h.fine k hk2).2
      have e : st.getD k stp0 = st[k] := by rw [List.getD_eq_getElem?_getD, List.getElem?_eq_getElem hk2]; rfl
      rw [e] at h2
      obtain ⟨j, hj, rfl⟩ := List.mem_iff_getElem.1 hy
      have h3 := h2 j hj
      rw [List.getD_eq_getElem?_getD, List.getElem?_eq_getElem hj] at h3
      exact h3
  · have := h.p1
    have := h.p2
    unfold presE1 presB
    rw [if_neg (by simp only [Bool.or_eq_true, decide_eq_true_eq]; omega)]
    decide
end Go.Proofs.YtbpjbhbbkonjlaaGreatDoor
namespace Go.Proofs.YtbpjbhbbkonjlaaGreatDoor
open Go.RowKit
def badC (l : List Cyl) : Bool := decide (cylsE l ≠ 0)
set_option maxHeartbeats 2000000 in
theorem cyc1_any (c : Cyl) (w : World) (h : Cyl64 c) : Calls Tryz.prog 6 #[cylV c] w fun e w' => e = .returned (.bool (decide (cylE c ≠ 0))) ∧ Ext w w' := by
  have HK := Lib.hid (fun W => rCheck5_any c W h)
  have HB : Hid ((((cylE c : Nat) : Int) != 0) = decide (cylE c ≠ 0)) := by
    show _ = _
    rw [Bool.eq_iff_iff, bne_iff_ne, decide_eq_true_eq]
    omega
  generalize decide (cylE c ≠ 0) = b at HB ⊢
  generalize cylE c = n at HK HB
  obtain ⟨x, y, z⟩ := c
  dsimp only [cylV] at HK ⊢
  clear h
  have E : Ext w (w.alloc (.cells #[.int .i64 x, .int .i64 y, .int .i64 z] 29)) := extA
  go_enter Tryz.func6, Tryz.ntmps6
  go_wp2_with fail
  refine (HK.out _).mono ?_
  rintro e w1 ⟨rfl, hE⟩
  have hx := HB.out
  go_wp2
  go_ret
  exact ⟨rfl, E.trans hE⟩
def PostB (b : Bool) (w : World) (e : Ending) (w' : World) : Prop := ∃ r : Int, e = .returned (.int .i64 r) ∧ decide (0 ≤ r) = b ∧ Ext w w'
set_option maxHeartbeats 4000000 in
set_option maxRecDepth 100000 in
theorem IndexC_any (l : List Cyl) (a : Option Addr) (cap : Nat) (w : World) (hl : l.length ≤ 100) (hc : CellsC w a l) (h64 : ∀ c ∈ l, Cyl64 c) :
    Calls Tryz.prog 18 #[.slice a l.length cap, .func (.func 6) #[] #[]] w (PostB (badC l) w) := by
  have HC := Lib.hid hc
  have HK := Lib.hid (fun c W (h : c ∈ l) => cyc1_any c W (h64 c h))
  obtain ⟨R, hR⟩ : ∃ R, R = badC l := ⟨_, rfl⟩
  rw [← hR]
  have HR : Hid (R = decide (cylsE (l.drop 0) ≠ 0)) := hR
  unfold PostB
  clear hc h64 hR
  go_enter Tryz.func18, Tryz.ntmps18
  go_wp2
  go_loopw [8] (fun x wr => ∃ k : Nat, k ≤ l.length ∧ x = .int .i64 k ∧ Hid (R = decide (cylsE (l.drop k) ≠ 0)) ∧ Ext w wr) (fun x _ => l.length - (intOf x).toNat)
  case atStart => exact ⟨0, Nat.zero_le _, rfl, HR.out, Ext.refl _⟩
  case round =>
    obtain ⟨k, hk, rfl, hz, he⟩ := hrel
    by_cases hlt : k < l.length
    · obtain ⟨b, off, ha, p0, p1, p2⟩ := HC.out.ext he k hlt
      subst ha
      have hz2 := hz.out
      rw [cylsE_drop hlt] at hz2
      have HKc := Lib.hid (fun W => HK.out (l.getD k cyl0) W (getD_inA hlt))
      generalize l.getD k cyl0 = c at p0 p1 p2 HKc hz2
      by_cases hq : cylE c = 0
      · rw [if_neg (not_not_intro hq)] at hz2
        have HZ := Lib.hid hz2
        rw [decide_eq_false (not_not_intro hq)] at HKc
        obtain ⟨x, y, z⟩ := c
        dsimp only [cylV] at p0 p1 p2 HKc
        have z0 := cell_lt p0
        dsimp only at z0
        clear hz2 hz hq
        go_wp2_with fail
        refine (HKc.out _).mono ?_
        rintro e w5 ⟨rfl, hE⟩
        go_wp2
        exact ⟨⟨k + 1, by omega, by go_num, HZ.out, he.trans hE⟩, by simp [intOf]; omega⟩
      · rw [if_pos hq, decide_eq_true hq] at hz2
        have HZ := Lib.hid hz2
        rw [decide_eq_true hq] at HKc
        obtain ⟨x, y, z⟩ := c
        dsimp only [cylV] at p0 p1 p2 HKc
        have z0 := cell_lt p0
        dsimp only at z0
        clear hz2 hz hq
        go_wp2_with fail
        refine (HKc.out _).mono ?_
        rintro e w5 ⟨rfl, hE⟩
        go_wp2
        go_ret
        exact ⟨_, rfl, by rw [HZ.out]; exact decide_eq_true (by omega), he.trans hE⟩
    · have hke : k = l.length := by omega
      subst hke
      have hz2 := hz.out
      rw [List.drop_length] at hz2
      have HZ : Hid (R = false) := hz2
      clear hz hz2
      go_wp2
      go_ret
      exact ⟨_, rfl, by rw [HZ.out]; rfl, he⟩
set_option maxHeartbeats 2000000 in
theorem ContainsC_any (l : List Cyl) (a : Option Addr) (cap : Nat) (w : World) (hl : l.length ≤ 100) (hc : CellsC w a l) (h64 : ∀ c ∈ l, Cyl64 c) :
    Calls Tryz.prog 5 #[.slice a l.length cap, .func (.func 6) #[] #[]] w fun e w' => e = .returned (.bool (badC l)) ∧ Ext w w' := by
  have HI := Lib.hid (IndexC_any l a cap w hl hc h64)
  unfold PostB at HI
  generalize badC l = b at HI ⊢
  clear hc h64
  go_enter Tryz.func5, Tryz.ntmps5
  go_wp2_with fail
  refine HI.out.mono ?_
  rintro e w1 ⟨r, rfl, hr, hE⟩
  go_wp2
  go_ret
  exact ⟨rfl, hE⟩
end Go.Proofs.YtbpjbhbbkonjlaaGreatDoor
namespace Go.Proofs.YtbpjbhbbkonjlaaGreatDoor
structure Pk where
  parts : List Int
  price : Int
  most : Int
structure Bst where
  order : List Int
  price : Int
  size : Int
  found : Bool
def pk0 : Pk := ⟨[], 0, 0⟩
def isNeg (x : Int) : Bool := decide (x < 0) || decide (1048576 < x)
def isPos (x : Int) : Bool := decide (0 < x)
def betterS (found : Bool) (bp bs price size : Int) : Bool := !found || (decide (price < bp) || (decide (price = bp) && decide (size < bs)))
def maxK (l : List Int) : Nat → Int
  | 0 => l.getD 0 0
  | k + 1 => max (maxK l k) (l.getD (k + 1) 0)
def useK (p : Pk) (need : List Int) : Nat → Int
  | 0 => 0
  | k + 1 => if 0 < p.parts.getD k 0 ∧ 0 < need.getD k 0 then max (useK p need k) ((need.getD k 0 + p.parts.getD k 0 - 1).tdiv (p.parts.getD k 0)) else useK p need k
def usefulS (p : Pk) (need : List Int) : Int := min (useK p need p.parts.length) p.most
def leftJ (need parts : List Int) (n : Int) (j : Nat) : List Int := (List.range need.length).map fun k => if k < j then need.getD k 0 - n * parts.getD k 0 else need.getD k 0
def leftS (need parts : List Int) (n : Int) : List Int := leftJ need parts n need.length
def iterS {σ : Type} (step : Nat → σ → σ) (s : σ) : Nat → σ
  | 0 => s
  | n + 1 => step n (iterS step s n)
def stopS (need : List Int) (price size : Int) (f : Nat) (s : List Int × Bst) : Option (List Int × Bst) :=
  if betterS s.2.found s.2.price s.2.size price size = false then some s
  else if need.any isPos = false then some (s.1, ⟨s.1.take (s.1.length - f) ++ List.replicate f 0, price, size, true⟩)
  else none
def buyS (pks : List Pk) : Nat → List Int → Int → Int → List Int × Bst → List Int × Bst
  | 0, need, price, size, s => (stopS need price size 0 s).getD s
  | f + 1, need, price, size, s => (stopS need price size (f + 1) s).getD
      (iterS (fun n t => buyS pks f (leftS need (pks.getD (pks.length - (f + 1)) pk0).parts n) (price + n * (pks.getD (pks.length - (f + 1)) pk0).price) (size + n) (t.1.set (pks.length - (f + 1)) n, t.2)) s (usefulS (pks.getD (pks.length - (f + 1)) pk0) need + 1).toNat)
theorem leftJ_len (need parts : List Int) (n : Int) (j : Nat) : (leftJ need parts n j).length = need.length := by simp [leftJ]
theorem leftJ_get (need parts : List Int) (n : Int) (j : Nat) {k : Nat} (h : k < need.length) : (leftJ need parts n j).getD k 0 = if k < j then need.getD k 0 - n * parts.getD k 0 else need.getD k 0 := by
  unfold leftJ
  simp [List.getD, h]
def dotS (f : Pk → Int) : List Pk → List Int → Int
  | p :: ps, n :: o => n * f p + dotS f ps o
  | _, _ => 0
def costS (ps : List Pk) (o : List Int) : Int := dotS Pk.price ps o
def amtS (ps : List Pk) (o : List Int) (k : Nat) : Int := dotS (fun p => p.parts.getD k 0) ps o
def totS : List Int → Int
  | [] => 0
  | n :: o => n + totS o
def meetS (need : List Int) (ps : List Pk) (o : List Int) : Bool := (List.range need.length).all fun k => decide (need.getD k 0 ≤ amtS ps o k)
def ordsS : List Int → List (List Int)
  | [] => [[]]
  | c :: cs => (List.range (c + 1).toNat).flatMap fun (n : Nat) => (ordsS cs).map fun o => (n : Int) :: o
def capsS (M : Int) (ps : List Pk) : List Int := ps.map fun p => min p.most M
structure PksOk (ps : List Pk) (K : Nat) : Prop where
  parts : ∀ p ∈ ps, p.parts.length = K
  num : ∀ p ∈ ps, ∀ x ∈ p.parts, 0 ≤ x
  price : ∀ p ∈ ps, 0 ≤ p.price
  most : ∀ p ∈ ps, 0 ≤ p.most
theorem PksOk.tail {p : Pk} {ps : List Pk} {K : Nat} (h : PksOk (p :: ps) K) : PksOk ps K :=
  ⟨fun q hq => h.parts q (List.mem_cons_of_mem _ hq), fun q hq => h.num q (List.mem_cons_of_mem _ hq), fun q hq => h.price q (List.mem_cons_of_mem _ hq), fun q hq => h.most q (List.mem_cons_of_mem _ hq)⟩
def NonNeg (o : List Int) : Prop := ∀ x ∈ o, (0 : Int) ≤ x
theorem NonNeg.tail {n : Int} {o : List Int} (h : NonNeg (n :: o)) : NonNeg o := fun x hx => h x (List.mem_cons_of_mem _ hx)
end Go.Proofs.YtbpjbhbbkonjlaaGreatDoor
namespace Go.Proofs.YtbpjbhbbkonjlaaGreatDoor
open Go.RowKit
def SliceI (w : World) (v : Value) (l : List Int) : Prop := ∃ a cap, v = .slice a l.length cap ∧ CellsI w a l ∧ l.length ≤ cap ∧ cap ≤ maxLen
theorem SliceI.ext {w w' : World} {v : Value} {l : List Int} (h : SliceI w v l) (he : Ext w w') : SliceI w' v l := by
  obtain ⟨a, cap, h1, h2, h3, h4⟩ := h
  exact ⟨a, cap, h1, h2.ext he, h3, h4⟩
def PkG (w : World) (pa : Option Addr) (pks : List Pk) : Prop :=
  ∀ i, i < pks.length → ∃ b off v, pa = some ⟨b, off, none⟩ ∧ w.cell? ⟨b, off + i * 3, none⟩ = some v ∧ SliceI w v (pks.getD i pk0).parts ∧ w.cell? ⟨b, off + i * 3 + 1, none⟩ = some (.int .i64 (pks.getD i pk0).price) ∧ w.cell? ⟨b, off + i * 3 + 2, none⟩ = some (.int .i64 (pks.getD i pk0).most)
theorem PkG.ext {w w' : World} {pa : Option Addr} {pks : List Pk} (h : PkG w pa pks) (he : Ext w w') : PkG w' pa pks := fun i hi => by
  obtain ⟨b, off, v, h1, h2, h3, h4, h5⟩ := h i hi
  exact ⟨b, off, v, h1, he.cell h2, h3.ext he, he.cell h4, he.cell h5⟩
structure TaskG (w : World) (pks : List Pk) (need : List Int) (pa : Option Addr) (pc : Nat) (na : Option Addr) (nc : Nat) : Prop where
  pk : PkG w pa pks
  nd : CellsI w na need
  p1 : pks.length ≤ pc
  p2 : pc ≤ maxLen
  n1 : need.length ≤ nc
  n2 : nc ≤ maxLen
theorem TaskG.ext {w w' : World} {pks : List Pk} {need : List Int} {pa : Option Addr} {pc : Nat} {na : Option Addr} {nc : Nat} (h : TaskG w pks need pa pc na nc) (he : Ext w w') : TaskG w' pks need pa pc na nc :=
  ⟨h.pk.ext he, h.nd.ext he, h.p1, h.p2, h.n1, h.n2⟩
def taskV (pks : List Pk) (need : List Int) (pa : Option Addr) (pc : Nat) (na : Option Addr) (nc : Nat) : Value := .agg #[.slice pa pks.length pc, .slice na need.length nc]
end Go.Proofs.YtbpjbhbbkonjlaaGreatDoor
namespace Go.Proofs.YtbpjbhbbkonjlaaGreatDoor
theorem buy_len (pks : List Pk) : ∀ f need price size s, (buyS pks f need price size s).1.length = s.1.length := by
  intro f
  induction f with
  | zero =>
    intro need price size s
    unfold buyS stopS
    split
    · rfl
    · split <;> rfl
  | succ f ih =>
    intro need price size s
    unfold buyS stopS
    split
    · rfl
    · split
      · rfl
      · simp only [Option.getD_none]
        generalize (usefulS (pks.getD (pks.length - (f + 1)) pk0) need + 1).toNat = u
        induction u with
        | zero => rfl
        | succ u iu =>
          show (buyS pks f _ _ _ _).1.length = _
          rw [ih, List.length_set]
          exact iu
end Go.Proofs.YtbpjbhbbkonjlaaGreatDoor
namespace Go.Proofs.YtbpjbhbbkonjlaaGreatDoor
structure Best (M : Int) (need : List Int) (ps : List Pk) (b : Bst) : Prop where
  yes : b.found = true → b.order ∈ ordsS (capsS M ps) ∧ meetS need ps b.order = true ∧ b.price = costS ps b.order ∧ b.size = totS b.order
  no : b.found = false → ∀ o ∈ ordsS (capsS M ps), meetS need ps o = false
  least : ∀ o ∈ ordsS (capsS M ps), meetS need ps o = true → betterS b.found b.price b.size (costS ps o) (totS o) = false
def bst0 : Bst := ⟨[], 0, 0, false⟩
end Go.Proofs.YtbpjbhbbkonjlaaGreatDoor
namespace Go.Proofs.YtbpjbhbbkonjlaaGreatDoor
theorem getD_of {α : Type} {l : List α} {i : Nat} {d : α} (h : i < l.length) : l.getD i d = l[i] := by
  rw [List.getD_eq_getElem?_getD, List.getElem?_eq_getElem h]; rfl
theorem getD_mem {α : Type} {l : List α} {i : Nat} {d : α} (h : i < l.length) : l.getD i d ∈ l := by
  rw [getD_of h]; exact List.getElem_mem h
structure Covers (q p : Pk) : Prop where
  parts : ∀ k, p.parts.getD k 0 ≤ q.parts.getD k 0
  price : q.price ≤ p.price
end Go.Proofs.YtbpjbhbbkonjlaaGreatDoor
namespace Go.Proofs.YtbpjbhbbkonjlaaGreatDoor
def parcelS (K : Nat) (p : Pk) : Int := if p.parts.length ≠ K then 8 else if p.parts.any isNeg = true then 2 else if [p.price, p.most].any isNeg = true then 2 else 0
def taskE (K : Nat) : List Pk → Int
  | [] => 0
  | p :: ps => if parcelS K p ≠ 0 then parcelS K p else taskE K ps
def checkS (pks : List Pk) (need : List Int) : Int :=
  if need.length = 0 then 13 else if 16 < need.length then 5 else if need.any isNeg = true then 2 else if 64 < pks.length then 5 else taskE need.length pks
theorem first_hit {K : Nat} {e : Int} : ∀ {pks : List Pk} {k : Nat}, (∀ j, j < k → parcelS K (pks.getD j pk0) = 0) → k < pks.length → parcelS K (pks.getD k pk0) = e → e ≠ 0 → taskE K pks = e := by
  intro pks
  induction pks with
  | nil => intro k _ h; exact absurd h (Nat.not_lt_zero k)
  | cons p ps ih =>
    intro k h1 h2 h3 h4
    unfold taskE
    cases k with
    | zero =>
      have h3 : parcelS K p = e := h3
      rw [h3, if_pos h4]
    | succ k =>
      have h0 : parcelS K p = 0 := h1 0 (by omega)
      rw [h0, if_neg (by simp)]
      exact ih (k := k) (fun j hj => h1 (j + 1) (by omega)) (by simpa using h2) h3 h4
theorem first_end {K : Nat} : ∀ {pks : List Pk}, (∀ j, j < pks.length → parcelS K (pks.getD j pk0) = 0) → taskE K pks = 0 := by
  intro pks
  induction pks with
  | nil => intro _; rfl
  | cons p ps ih =>
    intro h
    unfold taskE
    have h0 : parcelS K p = 0 := h 0 (Nat.zero_lt_succ _)
    rw [h0, if_neg (by simp)]
    exact ih fun j hj => h (j + 1) (by simpa using hj)
theorem first_all {K : Nat} : ∀ {pks : List Pk}, taskE K pks = 0 → ∀ p ∈ pks, parcelS K p = 0 := by
  intro pks
  induction pks with
  | nil => intro _ p hp; cases hp
  | cons q ps ih =>
    intro h p hp
    unfold taskE at h
    by_cases h0 : parcelS K q = 0
    · rw [h0, if_neg (by simp)] at h
      rcases List.mem_cons.1 hp with rfl | hp
      · exact h0
      · exact ih h p hp
    · rw [if_pos h0] at h; exact absurd h h0
theorem isNeg_iff {x : Int} : isNeg x = false ↔ 0 ≤ x ∧ x ≤ 1048576 := by unfold isNeg; simp
theorem any_neg {l : List Int} : l.any isNeg = false ↔ ∀ x ∈ l, 0 ≤ x ∧ x ≤ 1048576 := by
  rw [List.any_eq_false]
  constructor
  · intro h x hx
    have := h x hx
    rw [← isNeg_iff]; simpa using this
  · intro h x hx
    rw [isNeg_iff.2 (h x hx)]; simp
structure RightO (pks : List Pk) (need : List Int) : Prop where
  k0 : 0 < need.length
  k1 : need.length ≤ 16
  nd : ∀ x ∈ need, 0 ≤ x ∧ x ≤ 1048576
  pl : pks.length ≤ 64
  parts : ∀ p ∈ pks, p.parts.length = need.length
  num : ∀ p ∈ pks, ∀ x ∈ p.parts, 0 ≤ x ∧ x ≤ 1048576
  price : ∀ p ∈ pks, 0 ≤ p.price ∧ p.price ≤ 1048576
  most : ∀ p ∈ pks, 0 ≤ p.most ∧ p.most ≤ 1048576
theorem right_of {pks : List Pk} {need : List Int} (h : checkS pks need = 0) : RightO pks need := by
  unfold checkS at h
  split at h
  · cases h
  · rename_i h1
    split at h
    · cases h
    · rename_i h2
      split at h
      · cases h
      · rename_i h3
        split at h
        · cases h
        · rename_i h4
          have hp := first_all h
          have hq : ∀ p ∈ pks, p.parts.length = need.length ∧ (∀ x ∈ p.parts, 0 ≤ x ∧ x ≤ 1048576) ∧ (0 ≤ p.price ∧ p.price ≤ 1048576) ∧ (0 ≤ p.most ∧ p.most ≤ 1048576) := fun p hm => by
            have := hp p hm
            unfold parcelS at this
            split at this
            · cases this
            · rename_i g1
              split at this
              · cases this
              · rename_i g2
                split at this
                · cases this
                · rename_i g3
                  have g3 := any_neg.1 ((Bool.not_eq_true _).mp g3)
                  exact ⟨by omega, any_neg.1 ((Bool.not_eq_true _).mp g2), g3 _ (by simp), g3 _ (by simp)⟩
          exact ⟨by omega, by omega, any_neg.1 ((Bool.not_eq_true _).mp h3), by omega, fun p hm => (hq p hm).1, fun p hm => (hq p hm).2.1, fun p hm => (hq p hm).2.2.1, fun p hm => (hq p hm).2.2.2⟩
theorem RightO.ok {pks : List Pk} {need : List Int} (h : RightO pks need) : PksOk pks need.length :=
  ⟨h.parts, fun p hp x hx => (h.num p hp x hx).1, fun p hp => (h.price p hp).1, fun p hp => (h.most p hp).1⟩
structure Gives (pks : List Pk) (need order : List Int) : Prop where
  r : RightO pks need
  len : order.length = pks.length
  num : ∀ i, i < pks.length → 0 ≤ order.getD i 0 ∧ order.getD i 0 ≤ (pks.getD i pk0).most
end Go.Proofs.YtbpjbhbbkonjlaaGreatDoor
namespace Go.Proofs.YtbpjbhbbkonjlaaGreatDoor
structure TaskOk (pks : List Pk) (K : Nat) : Prop where
  len : pks.length ≤ 5
  kinds : K ≤ 16
  parts : ∀ p ∈ pks, p.parts.length = K
  num : ∀ p ∈ pks, ∀ x ∈ p.parts, 0 ≤ x ∧ x ≤ 1048576
  price : ∀ p ∈ pks, 0 ≤ p.price ∧ p.price ≤ 1048576
  most : ∀ p ∈ pks, 0 ≤ p.most ∧ p.most ≤ 1048576
structure NeedOk (need : List Int) (price size : Int) (K i : Nat) : Prop where
  len : need.length = K
  num : ∀ k, k < K → -(i * 67108864 : Int) ≤ need.getD k 0 ∧ need.getD k 0 ≤ 20
  price : 0 ≤ price ∧ price ≤ i * 67108864
  size : 0 ≤ size ∧ size ≤ i * 20
theorem useK_bd {p : Pk} {need : List Int} {K : Nat} (hp : ∀ x ∈ p.parts, 0 ≤ x ∧ x ≤ 1048576) (hn : ∀ k, k < K → need.getD k 0 ≤ 20) : ∀ k, k ≤ K → k ≤ p.parts.length → 0 ≤ useK p need k ∧ useK p need k ≤ 20 := by
  intro k
  induction k with
  | zero => intro _ _; simp [useK]
  | succ k ih =>
    intro h1 h2
    have hi := ih (by omega) (by omega)
    have h3 := hn k (by omega)
    have h4 : 0 ≤ p.parts.getD k 0 ∧ p.parts.getD k 0 ≤ 1048576 := hp _ (by rw [List.getD_eq_getElem?_getD, List.getElem?_eq_getElem (by omega)]; simp)
    unfold useK
    generalize need.getD k 0 = x at h3 ⊢
    generalize p.parts.getD k 0 = y at h4 ⊢
    split
    · rename_i h
      obtain ⟨hy, hx⟩ := h
      have hd : 0 ≤ (x + y - 1).tdiv y ∧ (x + y - 1).tdiv y ≤ 20 := by
        rw [Int.tdiv_eq_ediv_of_nonneg (by omega)]
        refine ⟨Int.ediv_nonneg (by omega) (by omega), ?_⟩
        have h9 : (x + y - 1) / y ≤ x := by
          have : x + y - 1 < (x + 1) * y := by
            have h10 : 0 ≤ x * (y - 1) := Int.mul_nonneg (by omega) (by omega)
            have h11 : (x + 1) * y = x * (y - 1) + x + y := by rw [Int.add_mul, Int.mul_sub]; omega
            omega
          have := Int.ediv_lt_of_lt_mul (by omega) this
          omega
        omega
      omega
    · exact hi
theorem usefulS_bd {p : Pk} {need : List Int} {price size : Int} {K i : Nat} {pks : List Pk} (ht : TaskOk pks K) (hp : p ∈ pks) (hn : NeedOk need price size K i) : 0 ≤ usefulS p need ∧ usefulS p need ≤ 20 := by
  have h1 := useK_bd (p := p) (need := need) (K := K) (ht.num p hp) (fun k hk => (hn.num k hk).2) p.parts.length (by rw [ht.parts p hp]; exact Nat.le_refl _) (Nat.le_refl _)
  have h2 := ht.most p hp
  unfold usefulS
  omega
theorem need_next {p : Pk} {need : List Int} {price size : Int} {K i n : Nat} {pks : List Pk} (ht : TaskOk pks K) (hp : p ∈ pks) (hn : NeedOk need price size K i) (h : (n : Int) ≤ 20) : NeedOk (leftS need p.parts n) (price + n * p.price) (size + n) K (i + 1) := by
  have h2 := ht.price p hp
  have h3 := hn.price
  have h4 := hn.size
  have hpr : 0 ≤ (n : Int) * p.price ∧ (n : Int) * p.price ≤ 20 * 1048576 := ⟨Int.mul_nonneg (by omega) h2.1, Int.mul_le_mul h h2.2 h2.1 (by omega)⟩
  refine ⟨by unfold leftS; rw [leftJ_len]; exact hn.len, fun k hk => ?_, ⟨by omega, by push_cast; omega⟩, ⟨by omega, by push_cast; omega⟩⟩
  unfold leftS
  have hk2 : k < need.length := by rw [hn.len]; exact hk
  rw [leftJ_get _ _ _ _ hk2, if_pos hk2]
  have h5 := hn.num k hk
  have h6 : 0 ≤ p.parts.getD k 0 ∧ p.parts.getD k 0 ≤ 1048576 := ht.num p hp _ (by rw [List.getD_eq_getElem?_getD, List.getElem?_eq_getElem (by rw [ht.parts p hp]; exact hk)]; simp)
  have h7 : 0 ≤ (n : Int) * p.parts.getD k 0 ∧ (n : Int) * p.parts.getD k 0 ≤ 20 * 1048576 := ⟨Int.mul_nonneg (by omega) h6.1, Int.mul_le_mul h h6.2 h6.1 (by omega)⟩
  push_cast
  omega
def threeP : List Pk := [⟨[1, 0], 5, 9⟩, ⟨[0, 1], 4, 9⟩, ⟨[2, 2], 12, 9⟩]
end Go.Proofs.YtbpjbhbbkonjlaaGreatDoor
