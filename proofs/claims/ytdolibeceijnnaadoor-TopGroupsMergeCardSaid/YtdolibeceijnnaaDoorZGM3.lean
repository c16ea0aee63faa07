/- Steps of the proof: QSortW, QSortF, QConcatK, QHas, QDel, QMergeM, QMerge, QOrdR, QIntsR, QStepR, QRenE, QMoves, QMovesP, QCmpL, QStd1, QSortI, QStable, QStdP, QAppP, QMergeR, QJoinR, QJoin, QBack, QBackP, QLetters, QRen1, QRen, QStdW, QRenP, QAloneP, QAlone, QOwnQ. No conditions. -/
import Derived.Lib.BitFns
import Derived.Deep.RegionLaw
import Derived.Lib.SlicesDelete
import Derived.Deep.DeepCutAuto
import Derived.Maps.OwnOps
import Derived.Maps.Views
import Derived.Maps.OwnSet
import Derived.Test.YtdolibeceijnnaaDoorZGM1
import Derived.Test.YtdolibeceijnnaaDoorZGM2
namespace Go.Proofs.YtdolibeceijnnaaDoor
open Go.RowKit
def sortedTo (l : List Stk) (i : Nat) : List Stk := (sortR (l.take i).reverse).reverse ++ l.drop i
theorem sortedTo_length (l : List Stk) (i : Nat) : (sortedTo l i).length = l.length := by
  unfold sortedTo
  rw [List.length_append, List.length_reverse, sortR_length, List.length_reverse, List.length_take, List.length_drop]; omega
theorem sortedTo_end (l : List Stk) : sortedTo l l.length = isortK l := by unfold sortedTo isortK; rw [List.take_length, List.drop_length, List.append_nil]
theorem sortedTo_one (l : List Stk) : sortedTo l 1 = l := by
  cases l with
  | nil => rfl
  | cons x l => simp [sortedTo, sortR, insR]
theorem sortedTo_succ (l : List Stk) {i : Nat} (h : i < l.length) : sortedTo l (i + 1) = (insR (l.getD i stk0) (sortR (l.take i).reverse)).reverse ++ l.drop (i + 1) := by
  unfold sortedTo
  rw [List.take_succ_eq_append_getElem h, List.reverse_append, List.getD_eq_getElem?_getD, List.getElem?_eq_getElem h]
  rfl
structure InSt (x : Stk) (S R d : List Stk) (j : Nat) : Prop where
  ex : ∃ P M, d = P ++ x :: M ++ S ∧ P.length = j ∧ (insR x P.reverse).reverse ++ M = R
theorem InSt.start (l : List Stk) {i : Nat} (h : i < l.length) : InSt (l.getD i stk0) (l.drop (i + 1)) (insR (l.getD i stk0) (sortR (l.take i).reverse)).reverse (sortedTo l i) i :=
  ⟨(sortR (l.take i).reverse).reverse, [], by unfold sortedTo; rw [drop_cons l stk0 h]; simp, by rw [List.length_reverse, sortR_length, List.length_reverse, List.length_take]; omega, by rw [List.reverse_reverse, List.append_nil]⟩
theorem InSt.at {x : Stk} {S R d : List Stk} {j : Nat} (h : InSt x S R d j) : d.getD j stk0 = x := by
  obtain ⟨P, M, rfl, rfl, _⟩ := h.ex
  rw [List.append_assoc, List.getD_eq_getElem?_getD, List.getElem?_append_right (Nat.le_refl _), Nat.sub_self]; rfl
theorem InSt.zero {x : Stk} {S R d : List Stk} (h : InSt x S R d 0) : d = R ++ S := by
  obtain ⟨P, M, rfl, hp, hr⟩ := h.ex
  have : P = [] := List.eq_nil_of_length_eq_zero hp
  subst this
  rw [← hr]; rfl
theorem InSt.stop {x : Stk} {S R d : List Stk} {j : Nat} (h : InSt x S R d (j + 1)) (hn : ¬ x.1 < (d.getD j stk0).1) : d = R ++ S := by
  obtain ⟨P, M, rfl, hp, hr⟩ := h.ex
  obtain ⟨P', y, rfl⟩ : ∃ P' y, P = P' ++ [y] := by
    rcases List.eq_nil_or_concat P with rfl | ⟨P', y, rfl⟩
    · simp at hp
    · exact ⟨P', y, by simp⟩
  have hj : P'.length = j := by simp at hp; exact hp
  have hy : ((P' ++ [y]) ++ x :: M ++ S).getD j stk0 = y := by
    rw [List.getD_eq_getElem?_getD, List.append_assoc, List.append_assoc, List.getElem?_append_right (by omega), hj, Nat.sub_self]; rfl
  rw [hy] at hn
  rw [List.reverse_append] at hr
  have e : insR x ([y].reverse ++ P'.reverse) = x :: y :: P'.reverse := by show insR x (y :: P'.reverse) = _; unfold insR; rw [if_neg hn]
  rw [e] at hr
  rw [← hr]
  simp
theorem InSt.swap {x : Stk} {S R d : List Stk} {j : Nat} (h : InSt x S R d (j + 1)) (hn : x.1 < (d.getD j stk0).1) : InSt x S R ((d.set (j + 1) (d.getD j stk0)).set j x) j := by
  obtain ⟨P, M, rfl, hp, hr⟩ := h.ex
  obtain ⟨P', y, rfl⟩ : ∃ P' y, P = P' ++ [y] := by
    rcases List.eq_nil_or_concat P with rfl | ⟨P', y, rfl⟩
    · simp at hp
    · exact ⟨P', y, by simp⟩
  have hj : P'.length = j := by simp at hp; exact hp
  have hy : ((P' ++ [y]) ++ x :: M ++ S).getD j stk0 = y := by
    rw [List.getD_eq_getElem?_getD, List.append_assoc, List.append_assoc, List.getElem?_append_right (by omega), hj, Nat.sub_self]; rfl
  rw [hy] at hn ⊢
  rw [List.reverse_append] at hr
  have e : insR x ([y].reverse ++ P'.reverse) = y :: insR x P'.reverse := by show insR x (y :: P'.reverse) = _; rw [insR, if_pos hn]
  rw [e] at hr
  refine ⟨P', y :: M, ?_, hj, ?_⟩
  · have e1 : (P' ++ [y]) ++ x :: M ++ S = P' ++ (y :: x :: (M ++ S)) := by simp
    rw [e1, List.set_append, if_neg (by omega), List.set_append, if_neg (by simp; omega)]
    have e2 : j + 1 - P'.length = 1 := by omega
    have e3 : j - P'.length = 0 := by omega
    rw [e2, e3]
    simp
  · rw [← hr]; simp
theorem InSt.len {x : Stk} {S R d : List Stk} {j : Nat} (h : InSt x S R d j) : j < d.length := by
  obtain ⟨P, M, rfl, rfl, _⟩ := h.ex
  simp
structure SoSt (b : Nat) (w wr : World) (d : List Stk) : Prop where
  at_ : StksAt wr b d
  own : Own1 b w wr
theorem Own1.trans {n : Nat} {A B C : World} (h : Own1 n A B) (k : Own1 n B C) : Own1 n A C := ⟨h.1.trans k.1, fun i hi hn => (k.2 i (Nat.lt_of_lt_of_le hi h.1.size) hn).trans (h.2 i hi hn)⟩
theorem Own1.setCell {n : Nat} {A : World} (j : Nat) (v : Value) : Own1 n A (A.setCell ⟨n, j, none⟩ v) := ⟨(Below.refl _ _).setCell (p := ⟨n, j, none⟩) (Nat.le_refl _) _, fun k _ hne => Below.heap_setCell _ _ _ _ (fun e => hne (by first | exact e | exact e.symm))⟩
theorem SoSt.ext {b : Nat} {w A B : World} {d : List Stk} (h : SoSt b w A d) (k : Ext A B) (hb : b < A.heap.size) : SoSt b w B d := ⟨h.at_.ext k, h.own.trans (Own1.ext k (Nat.le_of_lt hb))⟩
set_option maxHeartbeats 8000000 in
set_option maxRecDepth 100000 in
theorem insertion_any (l : List Stk) (b cap : Nat) (w : World) (hl : l.length ≤ 12) (h : StksAt w b l) (hb : b < w.heap.size) :
    Calls Tryd.prog 90 #[.slice (some ⟨b, 0, none⟩) l.length cap, .int .i64 0, .int .i64 (l.length : Int), .func (.func 69) #[] #[]] w fun e w' => e = .returned (.tuple #[]) ∧ SoSt b w w' (isortK l) := by
  have M0 : Hid (SoSt b w w (sortedTo l 1)) := ⟨by rw [sortedTo_one]; exact h, Own1.ext (Ext.refl _) (Nat.le_of_lt hb)⟩
  clear h
  go_enter Tryd.func90, Tryd.ntmps90
  go_wp2
  go_loopw [8] (fun i wr => ∃ k : Nat, 1 ≤ k ∧ (k ≤ l.length ∨ k = 1) ∧ i = .int .i64 k ∧ Hid (SoSt b w wr (sortedTo l k))) (fun i _ => l.length + 1 - (intOf i).toNat)
  case atStart => exact ⟨1, by omega, .inr rfl, rfl, M0⟩
  case round =>
    obtain ⟨k, hk1, hk, rfl, M⟩ := hrel
    clear M0
    by_cases hlt : k < l.length
    · have hs := InSt.start l hlt
      have HSU := Lib.hid (sortedTo_succ l hlt)
      have hdl := sortedTo_length l k
      generalize (insR (l.getD k stk0) (sortR (l.take k).reverse)).reverse = R at hs HSU
      generalize l.getD k stk0 = x at hs HSU
      generalize l.drop (k + 1) = S at hs HSU
      obtain ⟨d, hd⟩ : ∃ d, d = sortedTo l k := ⟨_, rfl⟩
      rw [← hd] at hs M hdl
      have HIN := Lib.hid hs
      clear hd hs
      go_wp2
      obtain ⟨wo, rfl⟩ : ∃ wo : World, wo = wr := ⟨_, rfl⟩
      go_loopw [9] (fun i wr => ∃ j : Nat, j ≤ k ∧ i = .int .i64 j ∧ ∃ d : List Stk, d.length = l.length ∧ Hid (InSt x S R d j) ∧ Hid (SoSt b w wr d)) (fun i _ => (intOf i).toNat)
      case atStart => exact ⟨k, Nat.le_refl _, rfl, d, hdl, HIN, M⟩
      case round =>
        clear M HIN
        obtain ⟨j, hj, rfl, d', hdl', HIN, M⟩ := hrel
        have zb : b < wr.heap.size := Nat.lt_of_lt_of_le hb M.out.own.1.size
        by_cases hj0 : j = 0
        · subst hj0
          have ME : Hid (SoSt b w wr (sortedTo l (k + 1))) := by
            show SoSt _ _ _ _
            rw [HSU.out, ← HIN.out.zero]; exact M.out
          go_wp2
          go_quiet (fail)
          go_wp2
          refine ⟨⟨k + 1, by omega, .inl (by omega), by go_num, ME.out.ext extA zb⟩, by simp [intOf]; omega⟩
        · obtain ⟨q, rfl⟩ : ∃ q, j = q + 1 := ⟨j - 1, by omega⟩
          clear hj0
          have hjl := HIN.out.len
          obtain ⟨⟨e1, e2⟩, e3, e4⟩ := M.out.at_ (q + 1) (by omega)
          obtain ⟨⟨f1, f2⟩, f3, f4⟩ := M.out.at_ q (by omega)
          rw [HIN.out.at] at e1 e2
          have HST := Lib.hid (fun hn => HIN.out.stop hn)
          have HSW := Lib.hid (fun hn => HIN.out.swap hn)
          generalize d'.getD q stk0 = y at f1 f2 HST HSW
          have z1 := cell_lt e1
          have hq2 : ((q : Int) + 1 - 1).toNat = q := by omega
          have hq3 : ((q + 1 : Nat) : Int) - 1 = (q : Int) := by omega
          have hq4 : IntKind.i64.wrap (((q + 1 : Nat) : Int) - 1) = (q : Int) := by rw [hq3]; exact IntWalk.i64_in _ (by omega)
          have hq5 : decide (((q + 1 : Nat) : Int) > 0) = true := by simp
          have hgt : (0 : Int) < ((q + 1 : Nat) : Int) := by omega
          have hq6 : (0 : Int) ≤ (q : Int) := by omega
          have hq7 : (q : Int) < (l.length : Int) := by omega
          have hq8 : (q : Int) + 1 < (l.length : Int) := by omega
          have hq9 : q < l.length := by omega
          have hq11 : (0 : Int) ≤ (q : Int) + 1 := by omega
          have hq10 : q + 1 < l.length := by omega
          by_cases hlt2 : x.1 < y.1
          · have hc : cmpI x.1 y.1 = -1 := by unfold cmpI; rw [if_pos hlt2]
            have HC := Lib.hid hc
            clear hc
            go_wp2
            have hwq : IntKind.i64.wrap (q : Int) = (q : Int) := IntWalk.i64_in _ (by omega)
            go_region_held3 (fun w' => Sees wr w') ((repeat (first | exact Sees.refl _ | assumption | apply Sees.drew | apply Sees.alloc | (refine Sees.ext ?_ (by assumption))))) (first | (go_at_call 69; refine (sorted1_any x y _).mono ?_; rintro e w' ⟨rfl, hE⟩; rw [HC.out]))
            have hSee : Sees wr w' := by assumption
            have M2 : Hid (SoSt b w w' d') := M.out.ext hSee.2.2 zb
            have zb2 : b < w'.heap.size := Nat.lt_of_lt_of_le zb hSee.2.2.size
            clear M
            go_wp2
            refine wp_region_heldE 15 (fun w'' => w''.cell? ⟨b, (q + 1) * 2, none⟩ = some (.int .i64 x.1) ∧ w''.cell? ⟨b, (q + 1) * 2 + 1, none⟩ = some (.bool x.2) ∧ w''.cell? ⟨b, q * 2, none⟩ = some (.int .i64 y.1) ∧ w''.cell? ⟨b, q * 2 + 1, none⟩ = some (.bool y.2)) (by kernel_rfl) ?_
            have ED : Ext w' w'.drew := extA
            have EA := hSee.2.2.trans ED
            have e3 := (Below.frozen (p := ⟨b, (q + 1) * 2, none⟩) EA (cell_lt e1)).trans e3
            have e4 := (Below.frozen (p := ⟨b, (q + 1) * 2 + 1, none⟩) EA (cell_lt e2)).trans e4
            have f3 := (Below.frozen (p := ⟨b, q * 2, none⟩) EA (cell_lt f1)).trans f3
            have f4 := (Below.frozen (p := ⟨b, q * 2 + 1, none⟩) EA (cell_lt f2)).trans f4
            have e1 := EA.cell e1
            have e2 := EA.cell e2
            have f1 := EA.cell f1
            have f2 := EA.cell f2
            have M3 : Hid (SoSt b w w'.drew d') := M2.out.ext ED zb2
            clear M2
            have hS : w'.drew.cell? ⟨b, (q + 1) * 2, none⟩ = some (.int .i64 x.1) ∧ w'.drew.cell? ⟨b, (q + 1) * 2 + 1, none⟩ = some (.bool x.2) ∧ w'.drew.cell? ⟨b, q * 2, none⟩ = some (.int .i64 y.1) ∧ w'.drew.cell? ⟨b, q * 2 + 1, none⟩ = some (.bool y.2) := ⟨e1, e2, f1, f2⟩
            generalize w'.drew = W at M3 e1 e2 e3 e4 f1 f2 f3 f4 hS ⊢
            ((refine eTk 0 ?_); (refine eTk 1 ?_); (refine eTk 5 ?_); (refine eTk 6 ?_); (refine eTk 7 ?_); (refine eTk 8 ?_); (refine eTk 9 ?_))
            ((refine ePu 2 ?_); (refine ePu 3 ?_); (refine ePu 4 ?_); (refine ePu 10 ?_); (refine ePu 11 ?_); (refine ePu 12 ?_))
            (refine eTk 13 ?_)
            (refine ePu 14 ?_)
            (refine wpAnyE_free (i := 15) (o := ?_) ?_ (by kernel_rfl) (by kernel_rfl) (fun K hK => ?_); rotate_left; (focus ((simp only [List.getElem?_toArray, List.getElem?_cons_succ, List.getElem?_cons_zero]; exact rfl))); go_simp; refine hK.out _ _ ?_; clear hK K; (try simp only [Act.put, List.setIfInBounds_toArray, List.set_cons_zero, List.set_cons_succ]))
            (refine ePu 16 ?_)
            (refine wpAnyE_free (i := 17) (o := ?_) ?_ (by kernel_rfl) (by kernel_rfl) (fun K hK => ?_); rotate_left; (focus ((simp only [List.getElem?_toArray, List.getElem?_cons_succ, List.getElem?_cons_zero]; exact rfl))); go_simp; refine hK.out _ _ ?_; clear hK K; (try simp only [Act.put, List.setIfInBounds_toArray, List.set_cons_zero, List.set_cons_succ]))
            refine wpAnyE_done (by kernel_rfl) ?_ _
            have hsoA : StksAt ((W.setCell ⟨b, (q + 1) * 2, none⟩ (.int .i64 y.1)).setCell ⟨b, (q + 1) * 2 + 1, none⟩ (.bool y.2)) b (d'.set (q + 1) y) := M3.out.at_.set hjl y
            have hsoB : StksAt ((((W.setCell ⟨b, (q + 1) * 2, none⟩ (.int .i64 y.1)).setCell ⟨b, (q + 1) * 2 + 1, none⟩ (.bool y.2)).setCell ⟨b, q * 2, none⟩ (.int .i64 x.1)).setCell ⟨b, q * 2 + 1, none⟩ (.bool x.2)) b ((d'.set (q + 1) y).set q x) := hsoA.set (by rw [List.length_set]; omega) x
            have hoB : Own1 b w ((((W.setCell ⟨b, (q + 1) * 2, none⟩ (.int .i64 y.1)).setCell ⟨b, (q + 1) * 2 + 1, none⟩ (.bool y.2)).setCell ⟨b, q * 2, none⟩ (.int .i64 x.1)).setCell ⟨b, q * 2 + 1, none⟩ (.bool x.2)) := (((M3.out.own.trans (Own1.setCell _ _)).trans (Own1.setCell _ _)).trans (Own1.setCell _ _)).trans (Own1.setCell _ _)
            have M4 : Hid (SoSt b w ((((W.setCell ⟨b, (q + 1) * 2, none⟩ (.int .i64 y.1)).setCell ⟨b, (q + 1) * 2 + 1, none⟩ (.bool y.2)).setCell ⟨b, q * 2, none⟩ (.int .i64 x.1)).setCell ⟨b, q * 2 + 1, none⟩ (.bool x.2)) ((d'.set (q + 1) y).set q x)) := ⟨hsoB, hoB⟩
            have hb4 : b < ((((W.setCell ⟨b, (q + 1) * 2, none⟩ (.int .i64 y.1)).setCell ⟨b, (q + 1) * 2 + 1, none⟩ (.bool y.2)).setCell ⟨b, q * 2, none⟩ (.int .i64 x.1)).setCell ⟨b, q * 2 + 1, none⟩ (.bool x.2)).heap.size := Nat.lt_of_lt_of_le hb hoB.1.size
            have HI4 : Hid (InSt x S R ((d'.set (q + 1) y).set q x) q) := HSW.out hlt2
            have hl4 : ((d'.set (q + 1) y).set q x).length = l.length := by rw [List.length_set, List.length_set]; exact hdl'
            clear hsoA hsoB hoB e1 e2 e3 e4 f1 f2 f3 f4 hS M3
            generalize ((((W.setCell ⟨b, (q + 1) * 2, none⟩ (.int .i64 y.1)).setCell ⟨b, (q + 1) * 2 + 1, none⟩ (.bool y.2)).setCell ⟨b, q * 2, none⟩ (.int .i64 x.1)).setCell ⟨b, q * 2 + 1, none⟩ (.bool x.2)) = W5 at M4 hb4 ⊢
            generalize (d'.set (q + 1) y).set q x = d5 at M4 HI4 hl4
            go_wp2
            refine ⟨⟨q, by omega, by go_num, d5, hl4, HI4, M4.out.ext extA hb4⟩, by simp [intOf]⟩
          · have hc : 0 ≤ cmpI x.1 y.1 := by unfold cmpI; rw [if_neg hlt2]; split <;> omega
            have HC := Lib.hid hc
            clear hc
            have hd5 := HST.out hlt2
            have ME : Hid (SoSt b w wr (sortedTo l (k + 1))) := by
              show SoSt _ _ _ _
              rw [HSU.out, ← hd5]; exact M.out
            clear hd5
            go_wp2
            have hwq : IntKind.i64.wrap (q : Int) = (q : Int) := IntWalk.i64_in _ (by omega)
            have hcn : ¬ cmpI x.1 y.1 < 0 := by have := HC.out; omega
            go_region_held3 (fun w' => Sees wr w') ((repeat (first | exact Sees.refl _ | assumption | apply Sees.drew | apply Sees.alloc | (refine Sees.ext ?_ (by assumption))))) (first | (go_at_call 69; refine (sorted1_any x y _).mono ?_; rintro e w' ⟨rfl, hE⟩))
            have hSee : Sees wr w' := by assumption
            have M2 : Hid (SoSt b w w' (sortedTo l (k + 1))) := ME.out.ext hSee.2.2 zb
            have zb2 : b < w'.heap.size := Nat.lt_of_lt_of_le zb hSee.2.2.size
            clear M ME hSee
            go_wp2
            refine ⟨⟨k + 1, by omega, .inl (by omega), by go_num, M2.out.ext extA zb2⟩, by simp [intOf]; omega⟩
    · have ME : Hid (SoSt b w wr (isortK l)) := by
        show SoSt _ _ _ _
        rcases hk with hk | hk
        · have : k = l.length := by omega
          subst this
          rw [← sortedTo_end]; exact M.out
        · subst hk
          have h0 : l.length ≤ 1 := by omega
          have : isortK l = sortedTo l 1 := by
            rw [sortedTo_one]
            match l, h0 with
            | [], _ => rfl
            | [y], _ => rfl
          rw [this]; exact M.out
      clear M
      go_wp2
      exact bodyPost_end (v := .tuple #[]) (results_none rfl _ _ _) rfl ⟨rfl, ME.out⟩
end Go.Proofs.YtdolibeceijnnaaDoor
namespace Go.Proofs.YtdolibeceijnnaaDoor
open Go.RowKit
set_option maxHeartbeats 8000000 in
set_option maxRecDepth 100000 in
theorem len64_any (x : Int) (w : World) (h0 : 0 ≤ x) (h1 : x < 256) : Calls Tryd.prog 99 #[.int .u64 x] w fun e w' => (∃ m : Int, e = .returned (.int .i64 m)) ∧ w' = w := by
  go_enter Tryd.func99, Tryd.ntmps99
  go_wp2
  exact bodyPost_ret (results_tmp rfl _ _ _) rfl ⟨⟨_, rfl⟩, rfl⟩
set_option maxHeartbeats 8000000 in
set_option maxRecDepth 100000 in
theorem len_any (x : Int) (w : World) (h0 : 0 ≤ x) (h1 : x < 256) : Calls Tryd.prog 82 #[.int .u64 x] w fun e w' => (∃ m : Int, e = .returned (.int .i64 m)) ∧ w' = w := by
  go_enter Tryd.func82, Tryd.ntmps82
  go_wp2_with (go_at_call 99; refine (len64_any x _ h0 h1).mono ?_; rintro e w' ⟨⟨m, rfl⟩, rfl⟩)
  exact bodyPost_ret (results_tmp rfl _ _ _) rfl ⟨⟨_, rfl⟩, rfl⟩
theorem pdq_any (l : List Stk) (b cap : Nat) (m : Int) (w : World) (hl : l.length ≤ 12) (h : StksAt w b l) (hb : b < w.heap.size) :
    Calls Tryd.prog 81 #[.slice (some ⟨b, 0, none⟩) l.length cap, .int .i64 0, .int .i64 (l.length : Int), .int .i64 m, .func (.func 69) #[] #[]] w fun e w' => e = .returned (.tuple #[]) ∧ SoSt b w w' (isortK l) := by
  have HS := Lib.hid h
  clear h
  go_enter Tryd.func81, Tryd.ntmps81
  go_wp2
  go_loopw [1, 2] (fun i j wr => i = .int .i64 0 ∧ j = .int .i64 (l.length : Int) ∧ wr = w) (fun _ _ _ => 0)
  case atStart => exact ⟨rfl, rfl, rfl⟩
  case round =>
    obtain ⟨rfl, rfl, rfl⟩ := hrel
    have hw : IntKind.i64.wrap ((l.length : Int) - 0) = (l.length : Int) := IntWalk.i64_in _ (by omega)
    have hle : ((l.length : Int) ≤ 12) := by omega
    go_wp2_with (go_at_call 90; refine (insertion_any l b cap _ hl HS.out hb).mono ?_; rintro e w' ⟨rfl, hso⟩; have HSO := Lib.hid hso; clear hso)
    exact bodyPost_ret (v := .tuple #[]) (results_none rfl _ _ _) rfl ⟨rfl, HSO.out⟩
set_option maxHeartbeats 8000000 in
set_option maxRecDepth 100000 in
theorem SortFunc_any (l : List Stk) (b cap : Nat) (w : World) (hl : l.length ≤ 12) (h : StksAt w b l) (hb : b < w.heap.size) :
    Calls Tryd.prog 68 #[.slice (some ⟨b, 0, none⟩) l.length cap, .func (.func 69) #[] #[]] w fun e w' => e = .returned (.tuple #[]) ∧ SoSt b w w' (isortK l) := by
  have HS := Lib.hid h
  clear h
  go_enter Tryd.func68, Tryd.ntmps68
  have h0 : (0 : Int) ≤ (l.length : Int) := by omega
  have h1 : (l.length : Int) < 256 := by omega
  have hw : IntKind.u64.wrap (l.length : Int) = (l.length : Int) := by show (l.length : Int) % 2 ^ 64 = _; omega
  go_wp2_with (first | (go_at_call 82; refine (len_any (l.length : Int) _ h0 h1).mono ?_; rintro e w' ⟨⟨m, rfl⟩, rfl⟩) | (go_at_call 81; refine (pdq_any l b cap _ _ hl HS.out hb).mono ?_; rintro e w' ⟨rfl, hso⟩; have HSO := Lib.hid hso; clear hso))
  exact bodyPost_end (v := .tuple #[]) (results_none rfl _ _ _) rfl ⟨rfl, HSO.out⟩
set_option maxHeartbeats 8000000 in
set_option maxRecDepth 100000 in
theorem sorted_any (l : List Stk) (b cap : Nat) (w : World) (hl : l.length ≤ 12) (h : StksAt w b l) (hb : b < w.heap.size) :
    Calls Tryd.prog 48 #[.slice (some ⟨b, 0, none⟩) l.length cap] w fun e w' => e = .returned (.slice (some ⟨b, 0, none⟩) l.length cap) ∧ SoSt b w w' (isortK l) := by
  have HS := Lib.hid h
  clear h
  go_enter Tryd.func48, Tryd.ntmps48
  go_wp2_with (go_at_call 68; refine (SortFunc_any l b cap _ hl HS.out hb).mono ?_; rintro e w' ⟨rfl, hso⟩; have HSO := Lib.hid hso; clear hso)
  exact bodyPost_ret (results_tmp rfl _ _ _) rfl ⟨rfl, HSO.out⟩
end Go.Proofs.YtdolibeceijnnaaDoor
namespace Go.Proofs.YtdolibeceijnnaaDoor
open Go.RowKit
set_option maxHeartbeats 2000000 in
set_option maxRecDepth 100000 in
theorem GrowK_any (n : Nat) (w : World) (h0 : 0 < n) (hn : n ≤ 200) :
    Calls Tryd.prog 71 #[.slice none 0 0, .int .i64 (n : Int)] w (GrowOk 67 2 n w) := by
  obtain ⟨cp, cs, hap, hcp⟩ : ∃ (cp : World → Nat) (cs : World → Array Value), (∀ w' : World, (Builtin.append_ #[45, 3] 45 #[.slice none 0 0, .int .i64 (n : Int)]).run Tryd.prog w' = .ok (.slice (some ⟨w'.heap.size, 0, none⟩) n (cp w')) (w'.drew.alloc (.cells (cs w') 67))) ∧ ∀ w', n ≤ cp w' ∧ cp w' ≤ maxLen ∧ (cs w').size = cp w' * 2 := by
    obtain ⟨i0, hi, hi0, hi1, hi2⟩ := info_parts infoStk
    refine ⟨fun w' => grownCap w' n 0 67, _, fun w' => Lib.run_append_nil_zeros (P := Tryd.prog) w' 45 3 45 67 i0 (.agg #[.int .i64 0, .bool false]) .i64 .i64 Tryd.underlying45 Tryd.underlying3 hi hi0 n h0 (by rw [hi1]; omega) (by omega) (by rw [hi2]; omega), fun w' => ?_⟩
    have h1 := grownCap_ge w' n 0 67
    refine ⟨h1, grownCap_le_maxLen w' n 0 67 (by unfold maxLen; omega), ?_⟩
    rw [Array.size_append, zeroCells_size, zeroCells_size]
    show n * 2 + (grownCap w' n 0 67 - n) * 2 = grownCap w' n 0 67 * 2
    omega
  have HCP := Lib.hid (hcp w)
  have HAP := Lib.hid (hap w)
  clear hcp hap
  go_enter Tryd.func71, Tryd.ntmps71
  go_wp2_with (at_builtin; refine wpList_append_run _ rfl _ _ 45 3 rfl (.slice none 0 0) (.int .i64 (n : Int)) rfl rfl _ _ HAP.out ?_)
  have hcap := HCP.out
  generalize cp w = c at hcap ⊢
  generalize cs w = cells at hcap ⊢
  have E1 : Ext w (w.drew.alloc (.cells cells 67)) := extA
  have HO : Hid ((w.drew.alloc (.cells cells 67)).ownsRow 0 67 2 (.slice (some ⟨w.heap.size, 0, none⟩) 0 c) 0 []) := by
    have := World.ownsRow_made (w := w.drew) (base := 0) (e := 67) (size := 2) cells c (Nat.zero_le _) hcap.2.1 hcap.2.2
    exact this
  obtain ⟨hc1, hc2, hc3⟩ := hcap
  have HC3 := Lib.hid hc3
  clear hc3
  unfold maxLen at hc2
  go_wp2
  go_ret
  exact ⟨_, rfl, HO.out, ⟨_, rfl, Nat.le_refl _⟩, E1⟩
def firstKs (p1 p2 : List Stk) (k : Nat) : List Stk := if k = 0 then [] else if k = 1 then p1 else p1 ++ p2
def OwnsKB (B : Nat) (w : World) (v : Value) (l : List Stk) : Prop := OwnsK w v l ∧ ∃ g, v.ownBlock = some g ∧ B ≤ g
theorem run_appK {B : Nat} {w : World} {v : Value} {l q : List Stk} {a : Option Addr} (c n : Nat) (h : OwnsKB B w v l) (hq : CellsK w a q) (hn : n = q.length) (hn0 : 0 < q.length) (hl : l.length + q.length ≤ 200) (hB : B ≤ w.heap.size) :
    ∃ v' w', (Builtin.append_ #[45, 45] 45 #[v, .slice a n c]).run Tryd.prog w = .ok v' w' ∧ OwnsKB B w' v' (l ++ q) ∧ Below B w w' := by
  obtain ⟨i0, hi, hi0, hi1, hi2⟩ := info_parts infoStk
  obtain ⟨hown, g, hg, hgB⟩ := h
  subst hn
  obtain ⟨b, off, rfl, _⟩ := hq 0 hn0
  obtain ⟨v', w', hr, h2, h3⟩ := run_append1 (P := Tryd.prog) w 45 45 67 i0 (.agg #[.int .i64 0, .bool false]) 2 16 Tryd.underlying45 hi hi0 hi1 hi2 rfl (by decide) v l.length _ hown ⟨b, off, none⟩ q.length c (by omega) (flatK q) (flatK_length q) hq.flat (flatK_one q) (by unfold maxLen; omega) (by omega)
  refine ⟨v', w', hr, ⟨?_, ?_⟩, h3.below hB (fun b hb => by rw [hg] at hb; cases hb; exact hgB)⟩
  · unfold OwnsK; rw [List.length_append, flatK_append]; exact h2
  · rcases h3 with ⟨e1, _, _⟩ | ⟨e1, _⟩
    · exact ⟨g, by rw [e1]; exact hg, hgB⟩
    · exact ⟨_, e1, hB⟩
set_option maxHeartbeats 4000000 in
set_option maxRecDepth 100000 in
theorem ConcatK_any (p1 p2 : List Stk) (a1 a2 : Option Addr) (c1 c2 cb : Nat) (w : World) (h1 : CellsK w a1 p1) (h2 : CellsK w a2 p2) (h0 : 0 < p1.length + p2.length) (h01 : 0 < p1.length) (h02 : 0 < p2.length) (hl1 : p1.length ≤ 100) (hl2 : p2.length ≤ 100)
    (e1 : w.cell? ⟨cb, 0, none⟩ = some (.slice a1 p1.length c1)) (e2 : w.cell? ⟨cb, 1, none⟩ = some (.slice a2 p2.length c2)) :
    Calls Tryd.prog 49 #[.slice (some ⟨cb, 0, none⟩) 2 2] w (StksPost (p1 ++ p2) w) := by
  have H01 := Lib.hid h01
  have H02 := Lib.hid h02
  clear h01 h02
  have H1 := Lib.hid h1
  have H2 := Lib.hid h2
  clear h1 h2
  obtain ⟨i0, hi, hi0, hi1, hi2⟩ := info_parts infoStk
  obtain ⟨n1, hn1⟩ : ∃ n, n = p1.length := ⟨_, rfl⟩
  obtain ⟨n2, hn2⟩ : ∃ n, n = p2.length := ⟨_, rfl⟩
  rw [← hn1] at h0 hl1 e1
  rw [← hn2] at h0 hl2 e2
  have HN1 := Lib.hid hn1
  have HN2 := Lib.hid hn2
  clear hn1 hn2
  go_enter Tryd.func49, Tryd.ntmps49
  go_wp2
  go_loop [11, 3] (fun i z => ∃ k : Nat, k ≤ 2 ∧ i = .int .i64 k ∧ ∃ q : Nat, z = .int .i64 q ∧ (k = 0 → q = 0) ∧ (k = 1 → q = n1) ∧ (k = 2 → q = n1 + n2)) (fun i _ => 2 - (intOf i).toNat)
  case atStart => exact ⟨0, by omega, rfl, 0, rfl, by omega, by omega, by omega⟩
  case round =>
    obtain ⟨k, hk, rfl, q, rfl, q0, q1, q2⟩ := hrel
    have : k = 0 ∨ k = 1 ∨ k = 2 := by omega
    rcases this with rfl | rfl | rfl
    · have hq := q0 rfl
      subst hq
      clear q0 q1 q2
      go_wp2
      refine ⟨⟨1, by omega, by go_num, n1, by go_num, by omega, by omega, by omega⟩, by simp [intOf]⟩
    · have hq := q1 rfl
      subst hq
      clear q0 q1 q2
      go_wp2
      refine ⟨⟨2, by omega, by go_num, q + n2, by go_num, by omega, by omega, by omega⟩, by simp [intOf]⟩
    · have hq := q2 rfl
      subst hq
      clear q0 q1 q2
      have hgr := GrowK_any (n1 + n2) w h0 (by omega)
      rw [Int.natCast_add] at hgr
      have HGR := Lib.hid hgr
      clear hgr
      go_wp2_with fail
      refine HGR.out.mono ?_
      rintro e w1 ⟨v0, rfl, hown0, hv0, hE⟩
      have HO0 : Hid (OwnsKB w.heap.size w1 v0 (firstKs p1 p2 0)) := ⟨hown0, hv0⟩
      have HE1 := Lib.hid e1
      have HE2 := Lib.hid e2
      have e1 := hE.cell e1
      have e2 := hE.cell e2
      clear hown0 hv0 HGR
      have hsz := hE.size
      go_wp2
      go_loopw [27, 6] (fun i v wr => ∃ k : Nat, k ≤ 2 ∧ i = .int .i64 k ∧ (∃ vv, v = vv ∧ Hid (OwnsKB w.heap.size wr vv (firstKs p1 p2 k))) ∧ Ext w wr) (fun i _ _ => 2 - (intOf i).toNat)
      case atStart => exact ⟨0, by omega, rfl, ⟨_, rfl, HO0⟩, hE⟩
      case round =>
        obtain ⟨k, hk, rfl, ⟨vv, hvv, HO⟩, he⟩ := hrel
        obtain rfl := hvv.symm
        have e1 := he.cell HE1.out
        have e2 := he.cell HE2.out
        have hsz := he.size
        have : k = 0 ∨ k = 1 ∨ k = 2 := by omega
        rcases this with rfl | rfl | rfl
        · obtain ⟨v', w5, hrun, hO5, hB5⟩ := run_appK c1 n1 HO.out (H1.out.ext he) HN1.out H01.out (by have := HN1.out; simp [firstKs]; omega) hsz
          have HRUN := Lib.hid hrun
          have HO5 : Hid (OwnsKB w.heap.size w5 v' (firstKs p1 p2 1)) := by show OwnsKB _ _ _ _; simpa [firstKs] using hO5
          have hE5 : Ext w w5 := he.trans' hB5 (Nat.le_refl _)
          clear hrun hO5 hB5
          go_wp2_with (at_builtin; refine wpList_append_run _ rfl _ _ 45 45 rfl vv (.slice a1 n1 c1) rfl rfl _ _ HRUN.out ?_)
          go_wp2
          refine ⟨⟨1, by omega, by go_num, ⟨v', rfl, HO5⟩, hE5⟩, by simp [intOf]⟩
        · obtain ⟨v', w5, hrun, hO5, hB5⟩ := run_appK c2 n2 HO.out (H2.out.ext he) HN2.out H02.out (by have := HN1.out; have := HN2.out; simp [firstKs]; omega) hsz
          have HRUN := Lib.hid hrun
          have HO5 : Hid (OwnsKB w.heap.size w5 v' (firstKs p1 p2 2)) := by show OwnsKB _ _ _ _; simpa [firstKs] using hO5
          have hE5 : Ext w w5 := he.trans' hB5 (Nat.le_refl _)
          clear hrun hO5 hB5
          go_wp2_with (at_builtin; refine wpList_append_run _ rfl _ _ 45 45 rfl vv (.slice a2 n2 c2) rfl rfl _ _ HRUN.out ?_)
          go_wp2
          refine ⟨⟨2, by omega, by go_num, ⟨v', rfl, HO5⟩, hE5⟩, by simp [intOf]⟩
        · go_wp2
          go_ret
          have hO2 : OwnsKB w.heap.size wr vv (p1 ++ p2) := by simpa [firstKs] using HO.out
          exact ⟨vv, rfl, hO2.1, fun b hb => (by obtain ⟨g, hg, hB⟩ := hO2.2; rw [hg] at hb; cases hb; exact hB), he⟩
end Go.Proofs.YtdolibeceijnnaaDoor
namespace Go.Proofs.YtdolibeceijnnaaDoor
open Go.RowKit
set_option maxHeartbeats 4000000 in
theorem Has_any (l : List Stk) (wait : Int) (x : Int) (a : Option Addr) (cap : Nat) (w : World) (hl : l.length ≤ maxLen) (hc : CellsK w a l) (hck : ckStep (l, wait) = 0) (hx : 0 ≤ x ∧ x < 6) :
    Calls Tryd.prog 47 #[.agg #[.slice a l.length cap, .int .i64 wait], .int .i64 x] w fun r w' => r = .returned (.tuple #[.int .i64 (wayL x l), .int .i64 0]) ∧ Ext w w' := by
  have HC := Lib.hid hc
  have HL := Lib.hid hl
  have HCK := Lib.hid hck
  have hkn : knownB x = true := by unfold knownB; simp; exact hx
  have HKN := Lib.hid hkn
  clear hc hck hkn
  unfold maxLen at hl
  go_enter Tryd.func47, Tryd.ntmps47
  go_wp2_with fail
  have E1 : Ext w (w.alloc (.cells #[.slice a l.length cap, .int .i64 wait] 65)) := extA
  have e1 : (w.alloc (.cells #[.slice a l.length cap, .int .i64 wait] 65)).cell? ⟨w.heap.size, 0, none⟩ = some (.slice a l.length cap) := by go_simp
  generalize w.alloc (.cells #[.slice a l.length cap, .int .i64 wait] 65) = W at E1 e1 ⊢
  refine (CheckStep_any l wait a cap _ HL.out (HC.out.ext E1)).mono ?_
  rintro e w1 ⟨rfl, hE⟩
  rw [HCK.out]
  have e1 := hE.cell e1
  have E1 := E1.trans hE
  go_wp2_with (go_at_call 67; (with_reducible refine (known_any _ _).mono ?_); rintro e w1 ⟨rfl, rfl⟩; rw [HKN.out])
  go_loopw [20] (fun i wr => ∃ k : Nat, k ≤ l.length ∧ i = .int .i64 k ∧ Hid (wayL x (l.drop k) = wayL x l) ∧ Ext w1 wr) (fun i _ => l.length - (intOf i).toNat)
  case atStart => exact ⟨0, Nat.zero_le _, rfl, by show _ = _; rfl, Ext.refl _⟩
  case round =>
    obtain ⟨k, hk, rfl, hz, he⟩ := hrel
    have d1 := he.cell e1
    by_cases hlt : k < l.length
    · obtain ⟨b, off, ha, p1, p2⟩ := HC.out.ext (E1.trans he) k hlt
      subst ha
      have HZ := Lib.hid (wayL_drop hlt hz.out)
      clear hz
      generalize l.getD k stk0 = y at p1 p2 HZ
      obtain ⟨ya, yo⟩ := y
      dsimp only at p1 p2 HZ
      have z1 := cell_lt p1
      dsimp only at z1
      rcases HZ.out with ⟨h1, h2⟩ | ⟨h1, h2⟩
      · subst h1
        have H2 := Lib.hid h2
        clear h2 HZ
        cases yo
        · go_wp2
          exact bodyPost_ret (results_tmp2 rfl _ _ _) rfl ⟨by rw [H2.out]; rfl, extA⟩
        · go_wp2
          exact bodyPost_ret (results_tmp2 rfl _ _ _) rfl ⟨by rw [H2.out]; rfl, extA⟩
      · have H2 := Lib.hid h2
        clear h2 HZ
        go_wp2
        refine ⟨⟨k + 1, by omega, by go_num, H2, extA⟩, by simp [intOf]; omega⟩
    · have hz1 := hz.out
      rw [List.drop_eq_nil_of_le (by omega)] at hz1
      have H2 := Lib.hid hz1
      clear hz1 hz
      go_wp2
      exact bodyPost_ret (results_tmp2 rfl _ _ _) rfl ⟨by rw [← H2.out]; rfl, extA⟩
end Go.Proofs.YtdolibeceijnnaaDoor
namespace Go.Proofs.YtdolibeceijnnaaDoor
open Go.RowKit
theorem run_clearP (w : World) (ty : TypeId) (b o c : Nat) (hc : ∀ j, j < 2 → (w.cell? ⟨b, o + j, none⟩).isSome = true) (hf : ∀ j, j < 2 → w.frozen? ⟨b, o + j, none⟩ = false) :
    (Builtin.clear_ #[22] ty #[.slice (some ⟨b, o, none⟩) 1 c]).run Tryd.prog w = .ok (.tuple #[]) (w.setCells b o [.slice none 0 0, .int .i64 0]) := by
  have hst := run_storeCells_cells (P := Tryd.prog) b o [.slice none 0 0, .int .i64 0] 0 w (by simpa using hc) (by simpa using hf) (by intro v hv; simp at hv; rcases hv with rfl | rfl <;> rfl)
  simp only [Nat.add_zero] at hst
  have hz : ∀ w, (zeroValue 65).run Tryd.prog w = .ok (.agg #[.slice none 0 0, .int .i64 0]) w := fun _ => by kernel_rfl
  have hzc : (Builtin.zeroCells (Value.agg #[.slice none 0 0, .int .i64 0]).cells 1).toList = [.slice none 0 0, .int .i64 0] := by kernel_rfl
  simp [Builtin.clear_, run_underlying Tryd.underlying22, hz, hzc, hst]
theorem setCells_chg (b : Nat) : ∀ (vs : List Value) (o : Nat) (w : World), Chg (fun k => k = b) w (w.setCells b o vs) ∧ Below b w (w.setCells b o vs) := by
  intro vs
  induction vs with
  | nil => intro o w; exact ⟨Chg.refl _ _, Below.refl _ _⟩
  | cons v r ih =>
    intro o w
    obtain ⟨h1, h2⟩ := ih (o + 1) (w.setCell ⟨b, o, none⟩ v)
    exact ⟨(Chg.setCell (B := fun k => k = b) ⟨b, o, none⟩ v rfl).trans h1, Below.trans ((Below.refl _ _).setCell (p := ⟨b, o, none⟩) (Nat.le_refl _) _) h2⟩
set_option maxHeartbeats 4000000 in
set_option maxRecDepth 1000000 in
theorem DeleteS_any (xs : List Value) (b c i r : Nat) (w : World) (hx1 : ∀ u ∈ xs, u.oneCell' = true) (hl : i + 1 + r ≤ 200) (ho : w.ownsRow 0 65 2 (.slice (some ⟨b, 0, none⟩) (i + 1 + r) c) (i + 1 + r) xs) :
    Calls Tryd.prog 50 #[.slice (some ⟨b, 0, none⟩) (i + 1 + r) c, .int .i64 i, .int .i64 ((i : Int) + 1)] w fun e w' => e = .returned (.slice (some ⟨b, 0, none⟩) (i + r) c) ∧ (∀ j u, (xs.take (i * 2) ++ xs.drop ((i + 1) * 2))[j]? = some u → w'.cell? ⟨b, j, none⟩ = some u) ∧ Chg (fun k => k = b) w w' ∧ Below b w w' := by
  have hxl : xs.length = (i + 1 + r) * 2 := ho.1
  have hcells : ∀ j u, xs[j]? = some u → w.cell? ⟨b, j, none⟩ = some u := fun j u hu => by
    have := ho.cells (g := b) rfl j u hu
    rwa [Addr.add_lit, Nat.zero_add] at this
  have hfroz : ∀ j, w.frozen? ⟨b, j, none⟩ = false := fun j => ho.frozenAt j
  have hsome : ∀ j, j < (i + 1 + r) * 2 → (w.cell? ⟨b, j, none⟩).isSome = true := fun j hj => by
    obtain ⟨u, hu⟩ : ∃ u, xs[j]? = some u := ⟨_, List.getElem?_eq_getElem (by rw [hxl]; exact hj)⟩
    rw [hcells j u hu]; rfl
  have hcap : i + 1 + r ≤ c ∧ c ≤ maxLen := by
    rcases ho.2 with ⟨hv, _⟩ | ⟨g, c', cur, hv, _, _, h1, h2, _⟩
    · cases hv
    · injection hv with _ _ hv3
      subst hv3
      exact ⟨h1, h2⟩
  obtain ⟨i0, hi0, hz0, hz1, hz2⟩ := info_parts infoStp
  obtain ⟨news, hnews⟩ : ∃ news, news = xs.drop ((i + 1) * 2) := ⟨_, rfl⟩
  have hlen : news.length = r * 2 := by rw [hnews, List.length_drop, hxl]; omega
  obtain ⟨A, hA, hsrc⟩ : ∃ A : Addr, (if c = i + 1 then some (⟨b, 0, none⟩ : Addr) else some ⟨b, (i + 1) * 2, none⟩) = some A ∧ Hid (∀ t u, news[t]? = some u → w.drew.cell? (A.add t) = some u) := by
    by_cases h : c = i + 1
    · refine ⟨⟨b, 0, none⟩, by simp [h], fun t u hu => ?_⟩
      have h0 : news.length = 0 := by rw [hlen]; omega
      rw [List.length_eq_zero_iff.1 h0] at hu
      simp at hu
    · refine ⟨⟨b, (i + 1) * 2, none⟩, by simp [h], fun t u hu => ?_⟩
      rw [Addr.add_lit]
      refine hcells _ u ?_
      rw [hnews, List.getElem?_drop] at hu
      exact hu
  have s1 : Hid (news.length = r * 2) := hlen
  have s2 : Hid (∀ u ∈ news, u.oneCell' = true) := by rw [hnews]; exact fun u hu => hx1 u (List.mem_of_mem_drop hu)
  have s3 : Hid (∀ t, t < news.length → (w.drew.cell? ⟨b, 0 + i * 2 + t, none⟩).isSome = true ∧ w.drew.frozen? ⟨b, 0 + i * 2 + t, none⟩ = false) := by
    intro t ht
    rw [hlen] at ht
    exact ⟨hsome _ (by omega), hfroz _⟩
  obtain ⟨W1, hW1⟩ : ∃ W1, W1 = w.drew.setCells b (0 + i * 2) news := ⟨_, rfl⟩
  have hW1c : ∀ j, j < (i + 1 + r) * 2 → (W1.cell? ⟨b, j, none⟩).isSome = true := fun j hj => by
    by_cases h : 0 + i * 2 ≤ j ∧ j < 0 + i * 2 + news.length
    · have := World.cell?_setCells_in b news (0 + i * 2) w.drew (fun t ht => (s3.out t ht).1) (j - i * 2) (by omega)
      rw [hW1, show j = 0 + i * 2 + (j - i * 2) by omega, this]
      rfl
    · rw [hW1, World.cell?_setCells_out b news (0 + i * 2) w.drew ⟨b, j, none⟩ (fun _ _ => by show j < _ ∨ _ ≤ j; omega)]
      exact hsome j hj
  have hW1f : ∀ j, W1.frozen? ⟨b, j, none⟩ = false := fun j => by rw [hW1, World.frozen?_setCells]; exact hfroz j
  have hcl : ∀ ty cc, (Builtin.clear_ #[22] ty #[.slice (some ⟨b, (i + r) * 2, none⟩) (i + 1 + r - (i + r)) cc]).run Tryd.prog W1 = .ok (.tuple #[]) (W1.setCells b ((i + r) * 2) [.slice none 0 0, .int .i64 0]) :=
    fun ty cc => by rw [show i + 1 + r - (i + r) = 1 by omega]; exact run_clearP W1 ty b ((i + r) * 2) cc (fun j hj => hW1c _ (by omega)) (fun j hj => hW1f _)
  have hRES : Hid (∀ j u, (xs.take (i * 2) ++ xs.drop ((i + 1) * 2))[j]? = some u → (W1.setCells b ((i + r) * 2) [.slice none 0 0, .int .i64 0]).cell? ⟨b, j, none⟩ = some u) := by
    intro j u hu
    have hj : j < i * 2 + r * 2 := by
      have := (List.getElem?_eq_some_iff.1 hu).1
      rw [List.length_append, List.length_take, List.length_drop, hxl] at this
      omega
    rw [World.cell?_setCells_out b _ _ W1 _ (fun _ _ => Or.inl (by dsimp only; omega)), hW1]
    have htl : (xs.take (i * 2)).length = i * 2 := by rw [List.length_take, hxl]; omega
    by_cases h : j < i * 2
    · rw [World.cell?_setCells_out b news (0 + i * 2) w.drew _ (fun _ _ => Or.inl (by dsimp only; omega))]
      rw [List.getElem?_append_left (by omega), List.getElem?_take, if_pos h] at hu
      exact hcells _ _ hu
    · obtain ⟨t, rfl⟩ : ∃ t, j = i * 2 + t := ⟨j - i * 2, by omega⟩
      have ht0 : t < news.length := by rw [hlen]; omega
      rw [List.getElem?_append_right (by omega), htl, Nat.add_sub_cancel_left, ← hnews] at hu
      have := World.cell?_setCells_in b news (0 + i * 2) w.drew (fun t ht => (s3.out t ht).1) t ht0
      rw [show i * 2 + t = 0 + i * 2 + t by omega, this, ← List.getElem?_eq_getElem ht0, hu]
  have hCH : Hid (Chg (fun k => k = b) w (W1.setCells b ((i + r) * 2) [.slice none 0 0, .int .i64 0]) ∧ Below b w (W1.setCells b ((i + r) * 2) [.slice none 0 0, .int .i64 0])) := by
    rw [hW1]
    obtain ⟨h1, h2⟩ := setCells_chg b news (0 + i * 2) w.drew
    obtain ⟨h3, h4⟩ := setCells_chg b [.slice none 0 0, .int .i64 0] ((i + r) * 2) (w.drew.setCells b (0 + i * 2) news)
    exact ⟨((Chg.ext (Ext.refl w).drew).trans h1).trans h3, Below.trans (Below.trans ((Below.refl b w).drew) h2) h4⟩
  have hW : Hid (W1 = w.drew.setCells b (0 + i * 2) news) := hW1
  have hic : i ≤ c := by omega
  have hjc : i + 1 ≤ c := by omega
  have hnc : i + 1 + r ≤ c := by omega
  have hmc : c ≤ 9223372036854775807 := hcap.2
  have q1 : IntKind.i64.wrap ((i : Int) + 1) = (i : Int) + 1 := IntWalk.i64_in _ (by omega)
  have q2 : (0 : Int) ≤ (i : Int) + 1 := by omega
  have q3 : (i : Int) + 1 ≤ (i : Int) + 1 + (r : Int) := by omega
  clear hW1 hW1c hW1f hnews hlen hcells hfroz hsome ho hxl hx1
  go_enter Tryd.func50, Tryd.ntmps50
  go_wp2_with fail
  go_region_law (refine step_append_room rfl (.tmp 22) (.tmp 25) 22 rfl 65 i0 2 Tryd.underlying22 hi0 hz1 b 0 i c (by simp [Act.eval, Act.put]) A r (c - (i + 1)) news (by simp [Act.eval, Act.put]) s1.out hsrc.out s2.out (by omega) s3.out ?_; rw [← hW.out])
  go_wp2
  go_ret
  exact ⟨rfl, hRES.out, hCH.out⟩
end Go.Proofs.YtdolibeceijnnaaDoor
namespace Go.Proofs.YtdolibeceijnnaaDoor
open Go.RowKit
theorem flat2_set (l : List (Value × Value)) : ∀ (k : Nat), k < l.length → ∀ p : Value × Value, ((flat2 l).set (k * 2) p.1).set (k * 2 + 1) p.2 = flat2 (l.set k p) := by
  induction l with
  | nil => intro k hk; simp at hk
  | cons x l ih =>
    intro k hk p
    cases k with
    | zero => simp [flat2]
    | succ k =>
      have := ih k (by simpa using hk) p
      rw [show (k + 1) * 2 = k * 2 + 1 + 1 by omega]
      simp only [flat2, List.flatMap_cons, List.set_cons_succ, List.cons_append, List.nil_append] at this ⊢
      rw [this]
theorem flat2_take (l : List (Value × Value)) : ∀ k, (flat2 l).take (k * 2) = flat2 (l.take k) := by
  induction l with
  | nil => intro k; simp [flat2]
  | cons x l ih =>
    intro k
    cases k with
    | zero => simp [flat2]
    | succ k =>
      have := ih k
      rw [show (k + 1) * 2 = k * 2 + 1 + 1 by omega]
      simp only [flat2, List.flatMap_cons, List.take_succ_cons, List.cons_append, List.nil_append] at this ⊢
      rw [this]
theorem flat2_drop (l : List (Value × Value)) : ∀ k, (flat2 l).drop (k * 2) = flat2 (l.drop k) := by
  induction l with
  | nil => intro k; simp [flat2]
  | cons x l ih =>
    intro k
    cases k with
    | zero => simp [flat2]
    | succ k =>
      have := ih k
      rw [show (k + 1) * 2 = k * 2 + 1 + 1 by omega]
      simp only [flat2, List.flatMap_cons, List.drop_succ_cons, List.cons_append, List.nil_append] at this ⊢
      rw [this]
theorem Chg.cell {B : Nat → Prop} {A C : World} (h : Chg B A C) {p : Addr} {v : Value} (hp : ¬ B p.block) (hc : A.cell? p = some v) : C.cell? p = some v := (World.cell?_of_block (h.2 p.block (cell_lt hc) hp)).trans hc
theorem Chg.frozen {B : Nat → Prop} {A C : World} (h : Chg B A C) {p : Addr} {v : Value} (hp : ¬ B p.block) (hc : A.cell? p = some v) : C.frozen? p = A.frozen? p := World.frozen?_of_block (h.2 p.block (cell_lt hc) hp)
theorem pairP_set (ps : List (Value × Stp)) (k : Nat) (p : Value × Stp) : pairP (ps.set k p) = (pairP ps).set k (p.1, .int .i64 p.2.2) := by unfold pairP; rw [List.map_set]
theorem OwnsP.put {X : Nat → Prop} {A : World} {l : List Stp} {g vc : Nat} (h : OwnsP X A (.slice (some ⟨g, 0, none⟩) l.length vc) l) (k : Nat) (hk : k < l.length) (sv : Value) (y : Stp) :
    ∃ ps : List (Value × Stp), ps.map (·.2) = l ∧ (∀ p ∈ ps, SliceKX (fun b => X b ∨ b = g) A p.1 p.2.1) ∧
      ((A.setCell ⟨g, k * 2, none⟩ sv).setCell ⟨g, k * 2 + 1, none⟩ (.int .i64 y.2)).ownsRow 0 65 2 (.slice (some ⟨g, 0, none⟩) l.length vc) l.length (flat2 (pairP (ps.set k (sv, y)))) ∧
      (∃ u1, A.cell? ⟨g, k * 2, none⟩ = some u1) ∧ (∃ u2, A.cell? ⟨g, k * 2 + 1, none⟩ = some u2) ∧ A.frozen? ⟨g, k * 2, none⟩ = false ∧ A.frozen? ⟨g, k * 2 + 1, none⟩ = false := by
  obtain ⟨ps, h1, h2, h3⟩ := h
  have hl : ps.length = l.length := by rw [← h1]; simp
  have hg := flat2_get (pairP ps) k (by simp [pairP, hl]; exact hk)
  refine ⟨ps, h1, fun p hp => (h3 p hp).monoX (fun b hb => hb.imp id (fun e => by rw [e]; rfl)), ?_, ⟨_, (h2.cellAt _ (by omega)).trans hg.1⟩, ⟨_, (h2.cellAt _ (by omega)).trans hg.2⟩, h2.frozenAt _, h2.frozenAt _⟩
  have s1 := (h2.stored (k * 2) sv).1
  have s2 := (s1.stored (k * 2 + 1) (.int .i64 y.2)).1
  rw [flat2_set (pairP ps) k (by simp [pairP, hl]; exact hk) (sv, .int .i64 y.2)] at s2
  rw [pairP_set]
  exact s2
theorem sliceP_of {w : World} {g vc : Nat} {qs : List (Value × Stp)} (hc : ∀ j u, (flat2 (pairP qs))[j]? = some u → w.cell? ⟨g, j, none⟩ = some u) (hs : ∀ p ∈ qs, SliceK w p.1 p.2.1) (hm : qs.length ≤ vc) (hm2 : vc ≤ maxLen) : SliceP w (.slice (some ⟨g, 0, none⟩) qs.length vc) (qs.map (·.2)) := by
  refine ⟨some ⟨g, 0, none⟩, vc, by simp, fun i hi => ?_, by simpa using hm, hm2, fun _ => ⟨g, 0, rfl⟩⟩
  have hip : i < qs.length := by simpa using hi
  have hg := flat2_get (pairP qs) i (by simpa [pairP] using hip)
  have e1 : (pairP qs)[i]'(by simpa [pairP] using hip) = (qs[i].1, .int .i64 qs[i].2.2) := by simp [pairP]
  rw [e1] at hg
  have ey : (qs.map (·.2)).getD i stp0 = qs[i].2 := by simp [List.getD, hip]
  exact ⟨g, 0, qs[i].1, rfl, by rw [Nat.zero_add]; exact hc _ _ hg.1, by rw [ey]; exact hs _ (List.getElem_mem hip), by rw [ey, Nat.zero_add]; exact hc _ _ hg.2⟩
theorem merged_list {α : Type} (l : List α) (k : Nat) (y : α) (hk : k + 1 < l.length) : (l.set k y).take (k + 1) ++ (l.set k y).drop (k + 2) = l.take k ++ y :: l.drop (k + 2) := by
  rw [List.take_succ_eq_append_getElem (by rw [List.length_set]; omega), List.getElem_set_self, List.drop_set_of_lt (by omega), List.take_set_of_le (Nat.le_refl _), List.append_assoc]
  rfl
theorem pairs_one {ps : List (Value × Stp)} (h : ∀ p ∈ ps, ∃ a n c, p.1 = .slice a n c) : ∀ u ∈ flat2 (pairP ps), u.oneCell' = true := by
  intro u hu
  obtain ⟨j, hj, e⟩ := List.mem_iff_getElem.1 hu
  obtain ⟨i, hi, hh⟩ := flat2_two (l := pairP ps) (j := j) (u := u) (by rw [← e]; exact List.getElem?_eq_getElem hj)
  have hi' : i < ps.length := by simpa [pairP] using hi
  have e1 : (pairP ps)[i] = (ps[i].1, .int .i64 ps[i].2.2) := by simp [pairP]
  rw [e1] at hh
  obtain ⟨a, n, c, hp⟩ := h _ (List.getElem_mem hi')
  rcases hh with ⟨_, h⟩ | ⟨_, h⟩
  · rw [h, hp]; rfl
  · rw [h]; rfl
theorem Asc.diff {l : List Stk} (h : Asc l) : Diff l := h.imp fun hab e => by omega
theorem ckStrokes_asc {l : List Stk} {z : Int} (h : ckStrokes z l = 0) : Asc l ∧ ∀ y ∈ l, z < y.1 := by
  induction l generalizing z with
  | nil => exact ⟨List.Pairwise.nil, fun y hy => by cases hy⟩
  | cons x l ih =>
    unfold ckStrokes at h
    by_cases h1 : x.1 < 0 ∨ 6 ≤ x.1
    · rw [if_pos h1] at h; cases h
    · rw [if_neg h1] at h
      by_cases h2 : x.1 = z
      · rw [if_pos h2] at h; cases h
      · rw [if_neg h2] at h
        by_cases h3 : x.1 < z
        · rw [if_pos h3] at h; cases h
        · rw [if_neg h3] at h
          obtain ⟨i1, i2⟩ := ih h
          refine ⟨List.Pairwise.cons (fun y hy => i2 y hy) i1, fun y hy => ?_⟩
          rcases List.mem_cons.1 hy with rfl | hy
          · omega
          · have := i2 y hy; omega
theorem apart_diff {sa sb : List Stk} {wa wb : Int} (ha : ckStep (sa, wa) = 0) (hb : ckStep (sb, wb) = 0) (h : apart (sa, wa) (sb, wb) = true) : Diff (sa ++ sb) := by
  have a1 := (ckStrokes_asc (ckStep_strokes ha).1).1.diff
  have b1 := (ckStrokes_asc (ckStep_strokes hb).1).1.diff
  refine List.pairwise_append.2 ⟨a1, b1, fun x hx y hy e => ?_⟩
  have := List.all_eq_true.1 h x hx
  unfold movesIn at this
  rw [Bool.not_eq_true', List.any_eq_false] at this
  exact this y hy (by simp [e])
theorem apart_sorted {sa sb : List Stk} {wa wb : Int} (ha : ckStep (sa, wa) = 0) (hb : ckStep (sb, wb) = 0) (h : apart (sa, wa) (sb, wb) = true) : isortK (sa ++ sb) = ordered (sa ++ sb) :=
  isortK_ordered (apart_diff ha hb h) fun y hy => by
    rcases List.mem_append.1 hy with hy | hy
    · exact ckStrokes_known (ckStep_strokes ha).1 y hy
    · exact ckStrokes_known (ckStep_strokes hb).1 y hy
theorem OwnsP.up {X : Nat → Prop} {A : World} {v : Value} {ys : List Stp} (h : OwnsP X A v ys) : OwnsP (fun b => X b ∨ A.heap.size ≤ b) A v ys := by
  obtain ⟨ps, h1, h2, h3⟩ := h
  refine ⟨ps, h1, h2, fun p hp => (h3 p hp).chgX (Chg.refl _ A) (fun b hb hh => ?_)⟩
  rcases hh with (hh | hh) | hh
  · exact .inl hh
  · omega
  · exact .inr hh
theorem OwnsK.stksAt {A : World} {v : Value} {l : List Stk} (h : OwnsK A v l) (h0 : 0 < l.length) : ∃ b cap, v = .slice (some ⟨b, 0, none⟩) l.length cap ∧ StksAt A b l ∧ v.ownBlock = some b := by
  obtain ⟨a, cap, hv, hc, hm, hf⟩ := h.reads
  obtain ⟨b, off, ha, _, _⟩ := hc 0 h0
  have hne : l ≠ [] := List.length_pos_iff.1 h0
  obtain ⟨e0, hb, hfr⟩ := hf b off ha hne
  subst e0
  refine ⟨b, cap, by rw [hv, ha], fun i hi => ?_, hb⟩
  obtain ⟨b', off', e, c1, c2⟩ := hc i hi
  rw [ha] at e
  cases e
  rw [Nat.zero_add] at c1 c2
  exact ⟨⟨c1, c2⟩, (hfr i hi).1, (hfr i hi).2⟩
theorem StksAt.slice {A : World} {b cap : Nat} {l : List Stk} (h : StksAt A b l) (hm : l.length ≤ maxLen) : SliceK A (.slice (some ⟨b, 0, none⟩) l.length cap) l :=
  ⟨_, cap, rfl, fun i hi => ⟨b, 0, rfl, by rw [Nat.zero_add]; exact (h i hi).1.1, by rw [Nat.zero_add]; exact (h i hi).1.2⟩, hm⟩
theorem OwnsP.form {X : Nat → Prop} {A : World} {v : Value} {ys : List Stp} (h : OwnsP X A v ys) (h0 : 0 < ys.length) : ∃ g c, v = .slice (some ⟨g, 0, none⟩) ys.length c ∧ g < A.heap.size ∧ v.ownBlock = some g ∧ ys.length ≤ c ∧ c ≤ maxLen := by
  obtain ⟨ps, h1, h2, h3⟩ := h
  rcases h2.2 with ⟨_, e⟩ | ⟨g, c, cur, hv, _, hg, h4, h5, _, _⟩
  · omega
  · have hlt : g < A.heap.size := by
      rcases Nat.lt_or_ge g A.heap.size with h | h
      · exact h
      · rw [Array.getElem?_eq_none h] at hg; cases hg
    exact ⟨g, c, hv, hlt, by rw [hv]; rfl, h4, h5⟩
theorem merge_left {l : List Stp} {ps : List (Value × Stp)} {k r : Nat} {sv : Value} {y : Stp} (h : ps.map (·.2) = l) (hr : l.length = k + 1 + 1 + r) :
    (ps.set k (sv, y)).length = k + 1 + 1 + r ∧ ((ps.set k (sv, y)).take (k + 1) ++ (ps.set k (sv, y)).drop (k + 1 + 1)).length = k + 1 + r ∧
      ((ps.set k (sv, y)).take (k + 1) ++ (ps.set k (sv, y)).drop (k + 1 + 1)).map (·.2) = l.take k ++ y :: l.drop (k + 2) ∧
      ∀ p ∈ (ps.set k (sv, y)).take (k + 1) ++ (ps.set k (sv, y)).drop (k + 1 + 1), p = (sv, y) ∨ p ∈ ps := by
  have hl : ps.length = k + 1 + 1 + r := by rw [← hr, ← h]; simp
  refine ⟨by rw [List.length_set]; exact hl, by rw [List.length_append, List.length_take, List.length_drop, List.length_set, hl]; omega, ?_, fun p hp => ?_⟩
  · rw [List.map_append, List.map_take, List.map_drop, List.map_set, h]
    exact merged_list l k y (by omega)
  · have hp2 : p ∈ ps.set k (sv, y) := by
      rcases List.mem_append.1 hp with hp | hp
      · exact List.mem_of_mem_take hp
      · exact List.mem_of_mem_drop hp
    rcases List.mem_or_eq_of_mem_set hp2 with h | h
    · exact .inr h
    · exact .inl h
end Go.Proofs.YtdolibeceijnnaaDoor
namespace Go.Proofs.YtdolibeceijnnaaDoor
open Go.RowKit
theorem mergeE_bad {n : Int} {l : List Stp} {k : Int} (h : ckSeq (n, l) ≠ 0) : mergeE (n, l) k = ckSeq (n, l) := by unfold mergeE; rw [if_pos h]
theorem mergeE_out {n : Int} {l : List Stp} {k : Int} (h : ckSeq (n, l) = 0) (h2 : k < 0 ∨ (l.length : Int) - 2 < k) : mergeE (n, l) k = 2 := by unfold mergeE; rw [if_neg (by simp [h]), if_pos h2]
theorem mergeE_in {n : Int} {l : List Stp} {k : Nat} (h : ckSeq (n, l) = 0) (h2 : k + 1 < l.length) : mergeE (n, l) (k : Int) = if apart (l.getD k stp0) (l.getD (k + 1) stp0) && (l.getD k stp0).2 == 0 then 0 else 14 := by
  unfold mergeE
  rw [if_neg (by simp [h]), if_neg (by dsimp only; omega), Int.toNat_natCast]
  rfl
theorem apart_step (sa : List Stk) (wa : Int) (x : Stp) (j : Nat) (h : j < sa.length) : apart (sa.drop j, wa) x = ((wayL (sa.getD j stk0).1 x.1 == 0) && apart (sa.drop (j + 1), wa) x) := by
  unfold apart
  dsimp only
  rw [drop_cons sa stk0 h, List.all_cons]
  congr 1
  have := wayL_moves (sa.getD j stk0).1 x.1
  unfold movesL at this
  unfold movesIn
  rw [← this]
  simp [bne]
set_option maxHeartbeats 8000000 in
set_option maxRecDepth 100000 in
theorem Merge_in (n : Int) (l : List Stp) (k : Nat) (a : Option Addr) (cap : Nat) (w : World) (hl : l.length ≤ maxLen) (hc : CellsP w a l) (hck : ckSeq (n, l) = 0) (hk : k + 1 < l.length) (s : Sq) (er : Int) (hs : er = (if apart (l.getD k stp0) (l.getD (k + 1) stp0) && (l.getD k stp0).2 == 0 then 0 else 14) ∧ s = if er = 0 then merged (n, l) k else sq0) :
    Calls Tryd.prog 19 #[.agg #[.int .i64 n, .slice a l.length cap], .int .i64 (k : Int)] w (SeqErr s er w) := by
  have HS := Lib.hid hs
  clear hs
  have HC := Lib.hid hc
  have HL := Lib.hid hl
  have HCK := Lib.hid hck
  have hl64 := (ckSeq_zero hck).2.2.2.1
  have hF := ckWalk_fine (ckSeq_zero hck).2.2.2.2.1
  have HF := Lib.hid hF
  have hzs : ∀ w, (zeroValue 24).run Tryd.prog w = .ok (.agg #[.int .i64 0, .slice none 0 0]) w := fun _ => by kernel_rfl
  clear hc hl hck hF
  go_enter Tryd.func19, Tryd.ntmps19
  go_wp2_with fail
  have E1 : Ext w ((w.alloc (.cells #[.int .i64 n, .slice a l.length cap] 24)).alloc (.cells #[.int .i64 0, .slice none 0 0] 24)) := extA
  have c0 : ((w.alloc (.cells #[.int .i64 n, .slice a l.length cap] 24)).alloc (.cells #[.int .i64 0, .slice none 0 0] 24)).cell? ⟨w.heap.size, 0, none⟩ = some (.int .i64 n) := by go_simp
  have c1 : ((w.alloc (.cells #[.int .i64 n, .slice a l.length cap] 24)).alloc (.cells #[.int .i64 0, .slice none 0 0] 24)).cell? ⟨w.heap.size, 1, none⟩ = some (.slice a l.length cap) := by go_simp
  have c2 : ((w.alloc (.cells #[.int .i64 n, .slice a l.length cap] 24)).alloc (.cells #[.int .i64 0, .slice none 0 0] 24)).cell? ⟨w.heap.size + 1, 0, none⟩ = some (.int .i64 0) := by go_simp
  have c3 : ((w.alloc (.cells #[.int .i64 n, .slice a l.length cap] 24)).alloc (.cells #[.int .i64 0, .slice none 0 0] 24)).cell? ⟨w.heap.size + 1, 1, none⟩ = some (.slice none 0 0) := by go_simp
  have d2 : ((w.alloc (.cells #[.int .i64 n, .slice a l.length cap] 24)).alloc (.cells #[.int .i64 0, .slice none 0 0] 24)).frozen? ⟨w.heap.size + 1, 0, none⟩ = false := by go_simp
  have d3 : ((w.alloc (.cells #[.int .i64 n, .slice a l.length cap] 24)).alloc (.cells #[.int .i64 0, .slice none 0 0] 24)).frozen? ⟨w.heap.size + 1, 1, none⟩ = false := by go_simp
  generalize ((w.alloc (.cells #[.int .i64 n, .slice a l.length cap] 24)).alloc (.cells #[.int .i64 0, .slice none 0 0] 24)) = W at E1 c0 c1 c2 c3 d2 d3 ⊢
  refine (Check_any n l a cap _ HL.out (HC.out.ext E1)).mono ?_
  rintro e w1 ⟨rfl, hE⟩
  rw [HCK.out]
  have E2 := E1.trans hE
  have d2 := (Below.frozen (p := ⟨w.heap.size + 1, 0, none⟩) hE (cell_lt c2)).trans d2
  have d3 := (Below.frozen (p := ⟨w.heap.size + 1, 1, none⟩) hE (cell_lt c3)).trans d3
  have c0 := hE.cell c0
  have c1 := hE.cell c1
  have c2 := hE.cell c2
  have c3 := hE.cell c3
  clear hE
  obtain ⟨b, off, va, rfl, p1, p2, p3⟩ := HC.out.ext E2 k (by omega)
  obtain ⟨_, _, vb, e0, q1, q2, q3⟩ := HC.out.ext E2 (k + 1) hk
  cases e0
  have HFA := Lib.hid (HF.out k (by omega))
  have HFB := Lib.hid (HF.out (k + 1) hk)
  have g1 : ¬ ((k : Int) < 0) := by omega
  have g2 : IntKind.i64.wrap ((l.length : Int) - 2) = (l.length : Int) - 2 := IntWalk.i64_in _ (by omega)
  have g3 : ¬ ((l.length : Int) - 2 < (k : Int)) := by omega
  have g4 : (0 : Int) ≤ (k : Int) := by omega
  have g5 : (k : Int) < (l.length : Int) := by omega
  have g6 : IntKind.i64.wrap ((k : Int) + 1) = (k : Int) + 1 := IntWalk.i64_in _ (by omega)
  have g7 : (0 : Int) ≤ (k : Int) + 1 := by omega
  have g8 : (k : Int) + 1 < (l.length : Int) := by omega
  obtain ⟨A, hA⟩ : ∃ A, A = l.getD k stp0 := ⟨_, rfl⟩
  obtain ⟨B, hB⟩ : ∃ B, B = l.getD (k + 1) stp0 := ⟨_, rfl⟩
  rw [← hA] at p2 p3 HFA HS
  rw [← hB] at q2 q3 HFB HS
  have HA := Lib.hid hA
  have HB := Lib.hid hB
  clear hA hB
  obtain ⟨sa, wa⟩ := A
  obtain ⟨sb, wb⟩ := B
  obtain ⟨aa, ca, rfl, pa, pl⟩ := p2
  obtain ⟨ab, cb, rfl, qa, ql⟩ := q2
  have PA := Lib.hid pa
  have PL := Lib.hid pl
  have QA := Lib.hid qa
  have QL := Lib.hid ql
  clear pa pl qa ql
  dsimp only at p1 p3 q1 q3 HFA HFB PA PL QA QL HS
  go_wp2
  go_cut [7, 8] (fun x y wx => ∃ pb qb, x = .pointer (some ⟨pb, 0, none⟩) ∧ y = .pointer (some ⟨qb, 0, none⟩) ∧ wx.cell? ⟨pb, 0, none⟩ = some (.slice aa sa.length ca) ∧ wx.cell? ⟨pb, 1, none⟩ = some (.int .i64 wa) ∧ wx.cell? ⟨qb, 0, none⟩ = some (.slice ab sb.length cb) ∧ wx.cell? ⟨qb, 1, none⟩ = some (.int .i64 wb) ∧ Ext w1 wx)
  case first =>
    refine wp_region_heldE 99 (fun w' => w'.cell? ⟨w.heap.size, 1, none⟩ = some (.slice (some ⟨b, off, none⟩) l.length cap) ∧ w'.cell? ⟨b, off + k * 2, none⟩ = some (.slice aa sa.length ca) ∧ w'.cell? ⟨b, off + k * 2 + 1, none⟩ = some (.int .i64 wa) ∧ w'.cell? ⟨b, off + (k + 1) * 2, none⟩ = some (.slice ab sb.length cb) ∧ w'.cell? ⟨b, off + (k + 1) * 2 + 1, none⟩ = some (.int .i64 wb)) (by kernel_rfl) ?_
    have ED : Ext w1 w1.drew := extA
    have hS : w1.drew.cell? ⟨w.heap.size, 1, none⟩ = some (.slice (some ⟨b, off, none⟩) l.length cap) ∧ w1.drew.cell? ⟨b, off + k * 2, none⟩ = some (.slice aa sa.length ca) ∧ w1.drew.cell? ⟨b, off + k * 2 + 1, none⟩ = some (.int .i64 wa) ∧ w1.drew.cell? ⟨b, off + (k + 1) * 2, none⟩ = some (.slice ab sb.length cb) ∧ w1.drew.cell? ⟨b, off + (k + 1) * 2 + 1, none⟩ = some (.int .i64 wb) := ⟨ED.cell c1, ED.cell p1, ED.cell p3, ED.cell q1, ED.cell q3⟩
    clear c0 c1 c2 c3 d2 d3 p1 p3 q1 q3 PA QA
    generalize w1.drew = W2 at ED hS ⊢
    ((refine eTk 0 ?_); (refine eTk 1 ?_); (refine eTk 2 ?_); (refine eTk 3 ?_); (refine eTk 4 ?_); (refine eTk 5 ?_); (refine eTk 6 ?_); (refine eTk 7 ?_); (refine eTk 8 ?_); (refine eTk 9 ?_); (refine eTk 10 ?_))
    refine wpAnyE_two (i := 11) (j := 12) (o := ?_) (p := ?_) ?_ ?_ (by kernel_rfl) (fun K hK => ?_) (fun K hK => ?_)
    rotate_left 2
    · simp only [List.getElem?_toArray, List.getElem?_cons_succ, List.getElem?_cons_zero]; exact rfl
    · simp only [List.getElem?_toArray, List.getElem?_cons_succ, List.getElem?_cons_zero]; exact rfl
    · go_simp
      have X1 : Ext W2 (W2.alloc (.cells #[.slice none 0 0, .int .i64 0] 65)) := extA
      refine hK.out _ _ ⟨X1.cell hS.1, X1.cell hS.2.1, X1.cell hS.2.2.1, X1.cell hS.2.2.2.1, X1.cell hS.2.2.2.2⟩ (fun hHeld => ?_)
      clear hK K
      (try simp only [Act.put, List.setIfInBounds_toArray, List.set_cons_zero, List.set_cons_succ])
      have X2 : Ext W2 ((W2.alloc (.cells #[.slice none 0 0, .int .i64 0] 65)).alloc (.cells #[.slice none 0 0, .int .i64 0] 65)) := extA
      (refine wpAnyE_one (i := 12) (o := ?_) ?_ (by kernel_rfl) (fun K hK => ?_); rotate_left; (focus ((simp only [List.getElem?_toArray, List.getElem?_cons_succ, List.getElem?_cons_zero]; exact rfl))); go_simp; refine hK.out _ _ ?_ (fun hHeld => ?_); rotate_left; clear hK K; (try simp only [Act.put, List.setIfInBounds_toArray, List.set_cons_zero, List.set_cons_succ]))
      rotate_left
      · exact ⟨X2.cell hS.1, X2.cell hS.2.1, X2.cell hS.2.2.1, X2.cell hS.2.2.2.1, X2.cell hS.2.2.2.2⟩
      have m0 : ((W2.alloc (.cells #[.slice none 0 0, .int .i64 0] 65)).alloc (.cells #[.slice none 0 0, .int .i64 0] 65)).cell? ⟨W2.heap.size, 0, none⟩ = some (.slice none 0 0) := by go_simp
      have m1 : ((W2.alloc (.cells #[.slice none 0 0, .int .i64 0] 65)).alloc (.cells #[.slice none 0 0, .int .i64 0] 65)).cell? ⟨W2.heap.size, 1, none⟩ = some (.int .i64 0) := by go_simp
      have m2 : ((W2.alloc (.cells #[.slice none 0 0, .int .i64 0] 65)).alloc (.cells #[.slice none 0 0, .int .i64 0] 65)).cell? ⟨W2.heap.size + 1, 0, none⟩ = some (.slice none 0 0) := by go_simp
      have m3 : ((W2.alloc (.cells #[.slice none 0 0, .int .i64 0] 65)).alloc (.cells #[.slice none 0 0, .int .i64 0] 65)).cell? ⟨W2.heap.size + 1, 1, none⟩ = some (.int .i64 0) := by go_simp
      have n0 : ((W2.alloc (.cells #[.slice none 0 0, .int .i64 0] 65)).alloc (.cells #[.slice none 0 0, .int .i64 0] 65)).frozen? ⟨W2.heap.size, 0, none⟩ = false := by go_simp
      have n1 : ((W2.alloc (.cells #[.slice none 0 0, .int .i64 0] 65)).alloc (.cells #[.slice none 0 0, .int .i64 0] 65)).frozen? ⟨W2.heap.size, 1, none⟩ = false := by go_simp
      have n2 : ((W2.alloc (.cells #[.slice none 0 0, .int .i64 0] 65)).alloc (.cells #[.slice none 0 0, .int .i64 0] 65)).frozen? ⟨W2.heap.size + 1, 0, none⟩ = false := by go_simp
      have n3 : ((W2.alloc (.cells #[.slice none 0 0, .int .i64 0] 65)).alloc (.cells #[.slice none 0 0, .int .i64 0] 65)).frozen? ⟨W2.heap.size + 1, 1, none⟩ = false := by go_simp
      clear hHeld X1
      generalize (W2.alloc (.cells #[.slice none 0 0, .int .i64 0] 65)).alloc (.cells #[.slice none 0 0, .int .i64 0] 65) = W3 at X2 m0 m1 m2 m3 n0 n1 n2 n3 ⊢
      obtain ⟨xb, hxb, hxl⟩ : ∃ xb, xb = W2.heap.size ∧ W2.heap.size ≤ xb := ⟨_, rfl, Nat.le_refl _⟩
      rw [← hxb] at m0 m1 m2 m3 n0 n1 n2 n3 ⊢
      clear hxb
      have X3 : Ext W2 ((W3.setCell ⟨xb, 0, none⟩ (.slice aa sa.length ca)).setCell ⟨xb, 1, none⟩ (.int .i64 wa)) := (X2.set (by omega) _).set (by omega) _
      have X4 : Ext W2 ((((W3.setCell ⟨xb, 0, none⟩ (.slice aa sa.length ca)).setCell ⟨xb, 1, none⟩ (.int .i64 wa)).setCell ⟨(xb + 1), 0, none⟩ (.slice ab sb.length cb)).setCell ⟨(xb + 1), 1, none⟩ (.int .i64 wb)) := (X3.set (by omega) _).set (by omega) _
      (refine wpAnyE_one (i := 13) (o := ?_) ?_ (by kernel_rfl) (fun K hK => ?_); rotate_left; (focus ((simp only [List.getElem?_toArray, List.getElem?_cons_succ, List.getElem?_cons_zero]; exact rfl))); go_simp; refine hK.out _ _ ?_ (fun hHeld => ?_); rotate_left; clear hK K; (try simp only [Act.put, List.setIfInBounds_toArray, List.set_cons_zero, List.set_cons_succ]))
      rotate_left
      · exact ⟨X3.cell hS.1, X3.cell hS.2.1, X3.cell hS.2.2.1, X3.cell hS.2.2.2.1, X3.cell hS.2.2.2.2⟩
      clear hHeld
      (refine wpAnyE_one (i := 14) (o := ?_) ?_ (by kernel_rfl) (fun K hK => ?_); rotate_left; (focus ((simp only [List.getElem?_toArray, List.getElem?_cons_succ, List.getElem?_cons_zero]; exact rfl))); go_simp; refine hK.out _ _ ?_ (fun hHeld => ?_); rotate_left; clear hK K; (try simp only [Act.put, List.setIfInBounds_toArray, List.set_cons_zero, List.set_cons_succ]))
      rotate_left
      · exact ⟨X4.cell hS.1, X4.cell hS.2.1, X4.cell hS.2.2.1, X4.cell hS.2.2.2.1, X4.cell hS.2.2.2.2⟩
      clear hHeld
      refine wpAnyE_done (by kernel_rfl) ?_ _
      go_wp2_with fail
      go_meet
      refine ⟨xb, (xb + 1), rfl, rfl, ?_, ?_, ?_, ?_, ED.trans X4⟩
      all_goals go_simp
    · go_simp
      have X1 : Ext W2 (W2.alloc (.cells #[.slice none 0 0, .int .i64 0] 65)) := extA
      refine hK.out _ _ ⟨X1.cell hS.1, X1.cell hS.2.1, X1.cell hS.2.2.1, X1.cell hS.2.2.2.1, X1.cell hS.2.2.2.2⟩ (fun hHeld => ?_)
      clear hK K
      (try simp only [Act.put, List.setIfInBounds_toArray, List.set_cons_zero, List.set_cons_succ])
      have X2 : Ext W2 ((W2.alloc (.cells #[.slice none 0 0, .int .i64 0] 65)).alloc (.cells #[.slice none 0 0, .int .i64 0] 65)) := extA
      (refine wpAnyE_one (i := 11) (o := ?_) ?_ (by kernel_rfl) (fun K hK => ?_); rotate_left; (focus ((simp only [List.getElem?_toArray, List.getElem?_cons_succ, List.getElem?_cons_zero]; exact rfl))); go_simp; refine hK.out _ _ ?_ (fun hHeld => ?_); rotate_left; clear hK K; (try simp only [Act.put, List.setIfInBounds_toArray, List.set_cons_zero, List.set_cons_succ]))
      rotate_left
      · exact ⟨X2.cell hS.1, X2.cell hS.2.1, X2.cell hS.2.2.1, X2.cell hS.2.2.2.1, X2.cell hS.2.2.2.2⟩
      have m0 : ((W2.alloc (.cells #[.slice none 0 0, .int .i64 0] 65)).alloc (.cells #[.slice none 0 0, .int .i64 0] 65)).cell? ⟨W2.heap.size, 0, none⟩ = some (.slice none 0 0) := by go_simp
      have m1 : ((W2.alloc (.cells #[.slice none 0 0, .int .i64 0] 65)).alloc (.cells #[.slice none 0 0, .int .i64 0] 65)).cell? ⟨W2.heap.size, 1, none⟩ = some (.int .i64 0) := by go_simp
      have m2 : ((W2.alloc (.cells #[.slice none 0 0, .int .i64 0] 65)).alloc (.cells #[.slice none 0 0, .int .i64 0] 65)).cell? ⟨W2.heap.size + 1, 0, none⟩ = some (.slice none 0 0) := by go_simp
      have m3 : ((W2.alloc (.cells #[.slice none 0 0, .int .i64 0] 65)).alloc (.cells #[.slice none 0 0, .int .i64 0] 65)).cell? ⟨W2.heap.size + 1, 1, none⟩ = some (.int .i64 0) := by go_simp
      have n0 : ((W2.alloc (.cells #[.slice none 0 0, .int .i64 0] 65)).alloc (.cells #[.slice none 0 0, .int .i64 0] 65)).frozen? ⟨W2.heap.size, 0, none⟩ = false := by go_simp
      have n1 : ((W2.alloc (.cells #[.slice none 0 0, .int .i64 0] 65)).alloc (.cells #[.slice none 0 0, .int .i64 0] 65)).frozen? ⟨W2.heap.size, 1, none⟩ = false := by go_simp
      have n2 : ((W2.alloc (.cells #[.slice none 0 0, .int .i64 0] 65)).alloc (.cells #[.slice none 0 0, .int .i64 0] 65)).frozen? ⟨W2.heap.size + 1, 0, none⟩ = false := by go_simp
      have n3 : ((W2.alloc (.cells #[.slice none 0 0, .int .i64 0] 65)).alloc (.cells #[.slice none 0 0, .int .i64 0] 65)).frozen? ⟨W2.heap.size + 1, 1, none⟩ = false := by go_simp
      clear hHeld X1
      generalize (W2.alloc (.cells #[.slice none 0 0, .int .i64 0] 65)).alloc (.cells #[.slice none 0 0, .int .i64 0] 65) = W3 at X2 m0 m1 m2 m3 n0 n1 n2 n3 ⊢
      obtain ⟨xb, hxb, hxl⟩ : ∃ xb, xb = W2.heap.size ∧ W2.heap.size ≤ xb := ⟨_, rfl, Nat.le_refl _⟩
      rw [← hxb] at m0 m1 m2 m3 n0 n1 n2 n3 ⊢
      clear hxb
      have X3 : Ext W2 ((W3.setCell ⟨(xb + 1), 0, none⟩ (.slice aa sa.length ca)).setCell ⟨(xb + 1), 1, none⟩ (.int .i64 wa)) := (X2.set (by omega) _).set (by omega) _
      have X4 : Ext W2 ((((W3.setCell ⟨(xb + 1), 0, none⟩ (.slice aa sa.length ca)).setCell ⟨(xb + 1), 1, none⟩ (.int .i64 wa)).setCell ⟨xb, 0, none⟩ (.slice ab sb.length cb)).setCell ⟨xb, 1, none⟩ (.int .i64 wb)) := (X3.set (by omega) _).set (by omega) _
      (refine wpAnyE_one (i := 13) (o := ?_) ?_ (by kernel_rfl) (fun K hK => ?_); rotate_left; (focus ((simp only [List.getElem?_toArray, List.getElem?_cons_succ, List.getElem?_cons_zero]; exact rfl))); go_simp; refine hK.out _ _ ?_ (fun hHeld => ?_); rotate_left; clear hK K; (try simp only [Act.put, List.setIfInBounds_toArray, List.set_cons_zero, List.set_cons_succ]))
      rotate_left
      · exact ⟨X3.cell hS.1, X3.cell hS.2.1, X3.cell hS.2.2.1, X3.cell hS.2.2.2.1, X3.cell hS.2.2.2.2⟩
      clear hHeld
      (refine wpAnyE_one (i := 14) (o := ?_) ?_ (by kernel_rfl) (fun K hK => ?_); rotate_left; (focus ((simp only [List.getElem?_toArray, List.getElem?_cons_succ, List.getElem?_cons_zero]; exact rfl))); go_simp; refine hK.out _ _ ?_ (fun hHeld => ?_); rotate_left; clear hK K; (try simp only [Act.put, List.setIfInBounds_toArray, List.set_cons_zero, List.set_cons_succ]))
      rotate_left
      · exact ⟨X4.cell hS.1, X4.cell hS.2.1, X4.cell hS.2.2.1, X4.cell hS.2.2.2.1, X4.cell hS.2.2.2.2⟩
      clear hHeld
      refine wpAnyE_done (by kernel_rfl) ?_ _
      go_wp2_with fail
      go_meet
      refine ⟨(xb + 1), xb, rfl, rfl, ?_, ?_, ?_, ?_, ED.trans X4⟩
      all_goals go_simp
  case rest =>
    obtain ⟨pb, qb, rfl, rfl, a0, a1, b0, b1, EX⟩ := hcut
    have E3 := E2.trans EX
    have PA : Hid (CellsK wc aa sa) := PA.out.ext EX
    have QA : Hid (CellsK wc ab sb) := QA.out.ext EX
    have d2 := (Below.frozen (p := ⟨w.heap.size + 1, 0, none⟩) EX (cell_lt c2)).trans d2
    have d3 := (Below.frozen (p := ⟨w.heap.size + 1, 1, none⟩) EX (cell_lt c3)).trans d3
    have c0 := EX.cell c0
    have c1 := EX.cell c1
    have c2 := EX.cell c2
    have c3 := EX.cell c3
    clear EX p1 p3 q1 q3
    have HAP := Lib.hid (apart_step sa wa (sb, wb))
    go_wp2
    go_loopw [45] (fun i wr => ∃ j : Nat, j ≤ sa.length ∧ i = .int .i64 j ∧ Hid (apart (sa.drop j, wa) (sb, wb) = apart (sa, wa) (sb, wb)) ∧ Ext wc wr) (fun i _ => sa.length - (intOf i).toNat)
    case atStart => exact ⟨0, Nat.zero_le _, rfl, by show _ = _; rfl, Ext.refl _⟩
    case round =>
      obtain ⟨j, hj, rfl, hz, he⟩ := hrel
      have a0 := he.cell a0
      have b0 := he.cell b0
      have b1 := he.cell b1
      have PL1 := PL.out
      unfold maxLen at PL1
      by_cases hlt : j < sa.length
      · obtain ⟨ka, ko, ha, r1, r2⟩ := PA.out.ext he j hlt
        subst ha
        have hst := HAP.out j hlt
        rw [hz.out] at hst
        have HST := Lib.hid hst
        have hkn := HFA.out.2 j hlt
        have hkn6 : 0 ≤ (sa.getD j stk0).1 ∧ (sa.getD j stk0).1 < 6 := ckStep_known HFA.out.1 j hlt
        have HKN := Lib.hid hkn6
        clear hst hkn hkn6
        generalize sa.getD j stk0 = y at r1 r2 HST HKN
        obtain ⟨ya, yo⟩ := y
        dsimp only at r1 r2 HST HKN
        have z1 := cell_lt r1
        dsimp only at z1
        have z2 := cell_lt b0
        dsimp only at z2
        have EA : Ext wr (wr.alloc (.cells #[.int .i64 ya, .bool yo] 67)) := extA
        have hha := Has_any sb wb ya ab cb _ QL.out (QA.out.ext (he.trans EA)) HFB.out.1 HKN.out
        have HHA := Lib.hid hha
        clear hha
        go_wp2_with fail
        refine HHA.out.mono ?_
        rintro e w5 ⟨rfl, hE⟩
        have E5 : Ext wc w5 := (he.trans EA).trans hE
        generalize hv : wayL ya sb = v at HST ⊢
        by_cases hv0 : v = 0
        · subst hv0
          have hst2 := HST.out
          rw [show ((0 : Int) == 0) = true from rfl, Bool.true_and] at hst2
          have HZ2 : Hid (apart (sa.drop (j + 1), wa) (sb, wb) = apart (sa, wa) (sb, wb)) := hst2.symm
          clear hst2 HST HHA hv
          go_wp2
          refine ⟨⟨j + 1, by omega, by go_num, HZ2, E5⟩, by simp [intOf]; omega⟩
        · have hvb : (v == 0) = false := by simpa using hv0
          have hst2 := HST.out
          rw [hvb, Bool.false_and] at hst2
          have hs2 := HS.out
          rw [hst2] at hs2
          have her : er = 14 := by rw [hs2.1]; rfl
          have hsq : s = sq0 := by rw [hs2.2, her]; rfl
          subst her
          subst hsq
          clear hst2 hs2 HS HST HHA hv hvb
          have d2 := (Below.frozen (p := ⟨w.heap.size + 1, 0, none⟩) E5 (cell_lt c2)).trans d2
          have d3 := (Below.frozen (p := ⟨w.heap.size + 1, 1, none⟩) E5 (cell_lt c3)).trans d3
          have c2 := E5.cell c2
          have c3 := E5.cell c3
          have EF : Ext w ((w5.setCell ⟨w.heap.size + 1, 0, none⟩ (.int .i64 0)).setCell ⟨w.heap.size + 1, 1, none⟩ (.slice none 0 0)) := ((E3.trans E5).set (by omega) _).set (by omega) _
          go_wp2
          exact bodyPost_ret (v := .tuple #[.agg #[.int .i64 0, .slice none 0 0], .int .i64 14]) (by rw [results_cell_tmp1 rfl]; go_simp) rfl ⟨_, rfl, seqV_zero _, EF⟩
      · have hall := hz.out
        rw [List.drop_eq_nil_of_le (by omega)] at hall
        have hap : apart (sa, wa) (sb, wb) = true := hall.symm
        have hs2 := HS.out
        rw [hap, Bool.true_and] at hs2
        have HAPT := Lib.hid hap
        clear hall hap hz HS
        have a1 := he.cell a1
        have c0 := he.cell c0
        have c1 := he.cell c1
        have d2 := (Below.frozen (p := ⟨w.heap.size + 1, 0, none⟩) he (cell_lt c2)).trans d2
        have d3 := (Below.frozen (p := ⟨w.heap.size + 1, 1, none⟩) he (cell_lt c3)).trans d3
        have c2 := he.cell c2
        have c3 := he.cell c3
        have E4 := E3.trans he
        have PA : Hid (CellsK wr aa sa) := PA.out.ext he
        have QA : Hid (CellsK wr ab sb) := QA.out.ext he
        by_cases hw0 : wa = 0
        · subst hw0
          have her : er = 0 := by rw [hs2.1]; rfl
          have hsq : s = merged (n, l) k := by rw [hs2.2, her]; rfl
          subst her
          have HSQ := Lib.hid hsq
          clear hs2 hsq
          have HFU := Lib.hid (ckSeq_full HCK.out)
          go_wp2_with fail
          refine (copied_own n l _ cap _ (by omega) HFU.out (HC.out.ext E4)).mono ?_
          rintro e w5 ⟨o, ov, ho, rfl, hO, hob, hE⟩
          obtain ⟨g, vc, rfl, hgl, hgo, hvc1, hvc2⟩ := hO.form (by dsimp only; omega)
          dsimp only at hgl hgo hvc1 hvc2
          have hog := hob g hgo
          have HO := Lib.hid hO.up
          clear hO hob hgo HFU
          have E5 := E4.trans hE
          have z0 := cell_lt a0
          have z1 := cell_lt b0
          have z2 := cell_lt c1
          have z3 := cell_lt c2
          dsimp only at z0 z1 z2 z3
          have y0 : pb < w5.heap.size := Nat.lt_of_lt_of_le z0 hE.size
          have y1 : qb < w5.heap.size := Nat.lt_of_lt_of_le z1 hE.size
          have a0 := hE.cell a0
          have a1 := hE.cell a1
          have b0 := hE.cell b0
          have b1 := hE.cell b1
          have d2 := (Below.frozen (p := ⟨w.heap.size + 1, 0, none⟩) hE (cell_lt c2)).trans d2
          have d3 := (Below.frozen (p := ⟨w.heap.size + 1, 1, none⟩) hE (cell_lt c3)).trans d3
          have c2 := hE.cell c2
          have c3 := hE.cell c3
          have PA : Hid (CellsK w5 aa sa) := PA.out.ext hE
          have QA : Hid (CellsK w5 ab sb) := QA.out.ext hE
          clear hE c0 c1
          dsimp only
          go_wp2
          have EX : Ext w5 (w5.alloc (.cells #[.int .i64 n, .slice (some ⟨g, 0, none⟩) l.length vc] 24)).drew := extA
          have x0 : (w5.alloc (.cells #[.int .i64 n, .slice (some ⟨g, 0, none⟩) l.length vc] 24)).drew.cell? ⟨w5.heap.size, 0, none⟩ = some (.int .i64 n) := by go_simp
          have x1 : (w5.alloc (.cells #[.int .i64 n, .slice (some ⟨g, 0, none⟩) l.length vc] 24)).drew.cell? ⟨w5.heap.size, 1, none⟩ = some (.slice (some ⟨g, 0, none⟩) l.length vc) := by go_simp
          have xf : (w5.alloc (.cells #[.int .i64 n, .slice (some ⟨g, 0, none⟩) l.length vc] 24)).drew.frozen? ⟨w5.heap.size, 1, none⟩ = false := by go_simp
          obtain ⟨xb, hxb⟩ : ∃ xb, xb = w5.heap.size := ⟨_, rfl⟩
          rw [← hxb] at x0 x1 xf y0 y1 hgl ⊢
          have HXB := Lib.hid hxb
          clear hxb
          refine wp_region_heldE 14 (fun w' => w'.cell? ⟨xb, 1, none⟩ = some (.slice (some ⟨g, 0, none⟩) l.length vc) ∧ w'.cell? ⟨pb, 0, none⟩ = some (.slice aa sa.length ca) ∧ w'.cell? ⟨qb, 0, none⟩ = some (.slice ab sb.length cb) ∧ w'.cell? ⟨qb, 1, none⟩ = some (.int .i64 wb)) (by kernel_rfl) ?_
          generalize (w5.alloc (.cells #[.int .i64 n, .slice (some ⟨g, 0, none⟩) l.length vc] 24)).drew = W6 at EX x0 x1 xf ⊢
          have hS : W6.cell? ⟨xb, 1, none⟩ = some (.slice (some ⟨g, 0, none⟩) l.length vc) ∧ W6.cell? ⟨pb, 0, none⟩ = some (.slice aa sa.length ca) ∧ W6.cell? ⟨qb, 0, none⟩ = some (.slice ab sb.length cb) ∧ W6.cell? ⟨qb, 1, none⟩ = some (.int .i64 wb) := ⟨x1, EX.cell a0, EX.cell b0, EX.cell b1⟩
          ((refine eTk 0 ?_); (refine eTk 1 ?_); (refine eTk 2 ?_); (refine eTk 3 ?_); (refine eTk 4 ?_); (refine eTk 5 ?_); (refine eTk 6 ?_); (refine eTk 10 ?_); (refine eTk 11 ?_))
          have hz6 := cell_lt x1
          dsimp only at hz6
          have E7 : Ext W6 (W6.alloc (.cells #[.slice aa sa.length ca, .slice ab sb.length cb] 45)) := extA
          have r0 : (W6.alloc (.cells #[.slice aa sa.length ca, .slice ab sb.length cb] 45)).cell? ⟨W6.heap.size, 0, none⟩ = some (.slice aa sa.length ca) := by go_simp
          have r1 : (W6.alloc (.cells #[.slice aa sa.length ca, .slice ab sb.length cb] 45)).cell? ⟨W6.heap.size, 1, none⟩ = some (.slice ab sb.length cb) := by go_simp
          (refine wpAnyE_one (i := 7) (o := ?_) ?_ (by kernel_rfl) (fun K hK => ?_); rotate_left; (focus ((simp only [List.getElem?_toArray, List.getElem?_cons_succ, List.getElem?_cons_zero]; exact rfl))); go_simp; refine hK.out _ _ ?_ (fun hHeld => ?_); rotate_left; clear hK K; (try simp only [Act.put, List.setIfInBounds_toArray, List.set_cons_zero, List.set_cons_succ]))
          rotate_left
          · exact ⟨E7.cell hS.1, E7.cell hS.2.1, E7.cell hS.2.2.1, E7.cell hS.2.2.2⟩
          clear hHeld
          generalize W6.alloc (.cells #[.slice aa sa.length ca, .slice ab sb.length cb] 45) = W7 at E7 r0 r1 ⊢
          have hsa := ckStep_strokes HFA.out.1
          have hsb := ckStep_strokes HFB.out.1
          dsimp only at hsa hsb
          have E57 := EX.trans E7
          have hcat := ConcatK_any sa sb aa ab ca cb W6.heap.size W7 (PA.out.ext E57) (QA.out.ext E57) (by omega) hsa.2.2.1 hsb.2.2.1 (by omega) (by omega) r0 r1
          have HCAT := Lib.hid hcat
          obtain ⟨L, hLL⟩ : ∃ L, L = sa ++ sb := ⟨_, rfl⟩
          have hL12 : L.length ≤ 12 := by rw [hLL, List.length_append]; omega
          have hL0 : 0 < L.length := by rw [hLL, List.length_append]; omega
          rw [← hLL] at HCAT
          have HLL := Lib.hid hLL
          clear hcat hLL hsa hsb r0 r1
          (refine wpAnyE_one (i := 8) (o := ?_) ?_ (by kernel_rfl) (fun K hK => ?_); rotate_left; (focus ((simp only [List.getElem?_toArray, List.getElem?_cons_succ, List.getElem?_cons_zero]; exact rfl))); go_simp; refine HCAT.out.mono ?_; rintro e w8 ⟨cv, rfl, hcv, hcf, hE8⟩; obtain ⟨bb, bc, rfl, hst, hbo⟩ := hcv.stksAt hL0; have hbb := hcf bb hbo; have HST := Lib.hid hst; have hbl : bb < w8.heap.size := cell_lt (hst 0 hL0).1.1; clear hcv hcf hst hbo; go_wp2_with fail; refine hK.out _ _ ?_ (fun hHeld => ?_); rotate_left; clear hK K; (try simp only [Act.put, List.setIfInBounds_toArray, List.set_cons_zero, List.set_cons_succ]))
          rotate_left
          · have E68 := E7.trans hE8
            exact ⟨E68.cell hS.1, E68.cell hS.2.1, E68.cell hS.2.2.1, E68.cell hS.2.2.2⟩
          clear hHeld HCAT
          have HSO := Lib.hid (sorted_any L bb bc w8 hL12 HST.out hbl)
          (refine wpAnyE_one (i := 9) (o := ?_) ?_ (by kernel_rfl) (fun K hK => ?_); rotate_left; (focus ((simp only [List.getElem?_toArray, List.getElem?_cons_succ, List.getElem?_cons_zero]; exact rfl))); go_simp; refine HSO.out.mono ?_; rintro e w9 ⟨rfl, hso⟩; have HSS := Lib.hid hso; clear hso; go_wp2_with fail; refine hK.out _ _ ?_ (fun hHeld => ?_); rotate_left; clear hK K; (try simp only [Act.put, List.setIfInBounds_toArray, List.set_cons_zero, List.set_cons_succ]))
          rotate_left
          · have E69 : Ext W6 w9 := (E7.trans hE8).trans' HSS.out.own.1 (by have := E7.size; omega)
            exact ⟨E69.cell hS.1, E69.cell hS.2.1, E69.cell hS.2.2.1, E69.cell hS.2.2.2⟩
          clear HSO
          have E69 : Ext W6 w9 := (E7.trans hE8).trans' HSS.out.own.1 (by have := E7.size; omega)
          have E59 : Ext w5 w9 := EX.trans E69
          have h9 := HO.out.chg (Chg.ext E59) (fun c hb e => by have hc : g = c := Option.some.inj hb; have hx := HXB.out; rcases e with e | e <;> omega)
          rw [← HXB.out] at h9
          obtain ⟨ps, hps, hpk, hown, ⟨u1, t1⟩, ⟨u2, t2⟩, t3, t4⟩ := h9.put k (by omega) (.slice (some ⟨bb, 0, none⟩) L.length bc) (ordered L, wb)
          have HPS := Lib.hid hps
          have HPK := Lib.hid hpk
          have HOWN := Lib.hid hown
          have xf9 := (Below.frozen (p := ⟨xb, 1, none⟩) E69 (cell_lt x1)).trans xf
          have x09 := E69.cell x0
          have x19 := E69.cell x1
          have d2 := (Below.frozen (p := ⟨w.heap.size + 1, 0, none⟩) E59 (cell_lt c2)).trans d2
          have d3 := (Below.frozen (p := ⟨w.heap.size + 1, 1, none⟩) E59 (cell_lt c3)).trans d3
          have c2 := E59.cell c2
          have c3 := E59.cell c3
          have EW9 := E5.trans E59
          clear hps hpk hown h9 PA QA
          (refine eTk 12 ?_)
          (refine eTk 13 ?_)
          (refine wpAnyE_free (i := 14) (o := ?_) ?_ (by kernel_rfl) (by kernel_rfl) (fun K hK => ?_); rotate_left; (focus ((simp only [List.getElem?_toArray, List.getElem?_cons_succ, List.getElem?_cons_zero]; exact rfl))); go_simp; refine hK.out _ _ ?_; clear hK K; (try simp only [Act.put, List.setIfInBounds_toArray, List.set_cons_zero, List.set_cons_succ]))
          refine wpAnyE_done (by kernel_rfl) ?_ _
          have CA : Chg (fun b => b = g) w9 ((w9.setCell ⟨g, k * 2, none⟩ (.slice (some ⟨bb, 0, none⟩) L.length bc)).setCell ⟨g, k * 2 + 1, none⟩ (.int .i64 wb)) := (Chg.setCell (B := fun b => b = g) ⟨g, k * 2, none⟩ _ rfl).trans (Chg.setCell (B := fun b => b = g) ⟨g, k * 2 + 1, none⟩ _ rfl)
          have EA : Ext w ((w9.setCell ⟨g, k * 2, none⟩ (.slice (some ⟨bb, 0, none⟩) L.length bc)).setCell ⟨g, k * 2 + 1, none⟩ (.int .i64 wb)) := (EW9.set (by omega) _).set (by omega) _
          obtain ⟨r, hr⟩ : ∃ r, l.length = k + 1 + 1 + r := ⟨l.length - (k + 2), by omega⟩
          have hone : ∀ p ∈ ps.set k (.slice (some ⟨bb, 0, none⟩) L.length bc, (ordered L, wb)), ∃ a n c, p.1 = .slice a n c := fun p hp => by
            rcases List.mem_or_eq_of_mem_set hp with h | h
            · obtain ⟨a, c, e, _⟩ := HPK.out p h
              exact ⟨a, _, c, e⟩
            · rw [h]; exact ⟨_, _, _, rfl⟩
          have hown := HOWN.out
          rw [hr] at hown
          have hdel := DeleteS_any _ g vc (k + 1) r _ (pairs_one hone) (by omega) hown
          rw [show ((k + 1 : Nat) : Int) = (k : Int) + 1 from by omega, show (k : Int) + 1 + 1 = (k : Int) + 2 from by omega] at hdel
          have HDEL := Lib.hid hdel
          have x0A := CA.cell (p := ⟨xb, 0, none⟩) (by show ¬ xb = g; omega) x09
          have x1A := CA.cell (p := ⟨xb, 1, none⟩) (by show ¬ xb = g; omega) x19
          have xfA := (CA.frozen (p := ⟨xb, 1, none⟩) (by show ¬ xb = g; omega) x19).trans xf9
          have d2 := (CA.frozen (p := ⟨w.heap.size + 1, 0, none⟩) (by show ¬ (w.heap.size + 1 = g); omega) c2).trans d2
          have d3 := (CA.frozen (p := ⟨w.heap.size + 1, 1, none⟩) (by show ¬ (w.heap.size + 1 = g); omega) c3).trans d3
          have c2 := CA.cell (p := ⟨w.heap.size + 1, 0, none⟩) (by show ¬ (w.heap.size + 1 = g); omega) c2
          have c3 := CA.cell (p := ⟨w.heap.size + 1, 1, none⟩) (by show ¬ (w.heap.size + 1 = g); omega) c3
          have g9 : IntKind.i64.wrap ((k : Int) + 2) = (k : Int) + 2 := IntWalk.i64_in _ (by omega)
          clear hone hown hdel HOWN t1 t2 t3 t4
          have HCA := Lib.hid CA
          rw [hr] at x1A
          generalize ((w9.setCell ⟨g, k * 2, none⟩ (.slice (some ⟨bb, 0, none⟩) L.length bc)).setCell ⟨g, k * 2 + 1, none⟩ (.int .i64 wb)) = wA at HDEL CA HCA EA x0A x1A xfA c2 c3 d2 d3 ⊢
          clear CA x0 x1 xf x09 x19 xf9 hHeld hS
          have HR := Lib.hid hr
          clear hr
          go_wp2_with fail
          refine HDEL.out.mono ?_
          rintro e w10 ⟨rfl, hcl, hch, hbe⟩
          have HCL := Lib.hid hcl
          have HCH := Lib.hid hch
          have x0B := hch.cell (p := ⟨xb, 0, none⟩) (by show ¬ xb = g; omega) x0A
          have x1B := hch.cell (p := ⟨xb, 1, none⟩) (by show ¬ xb = g; omega) x1A
          have xfB := (hch.frozen (p := ⟨xb, 1, none⟩) (by show ¬ xb = g; omega) x1A).trans xfA
          have d2 := (hch.frozen (p := ⟨w.heap.size + 1, 0, none⟩) (by show ¬ (w.heap.size + 1 = g); omega) c2).trans d2
          have d3 := (hch.frozen (p := ⟨w.heap.size + 1, 1, none⟩) (by show ¬ (w.heap.size + 1 = g); omega) c3).trans d3
          have c2 := hch.cell (p := ⟨w.heap.size + 1, 0, none⟩) (by show ¬ (w.heap.size + 1 = g); omega) c2
          have c3 := hch.cell (p := ⟨w.heap.size + 1, 1, none⟩) (by show ¬ (w.heap.size + 1 = g); omega) c3
          have EB : Ext w w10 := EA.trans' hbe (by omega)
          have hxw : w.heap.size + 1 ≠ xb := by omega
          clear hcl hch hbe x0A x1A xfA HDEL
          have EF : Ext w (((w10.setCell ⟨xb, 1, none⟩ (.slice (some ⟨g, 0, none⟩) (k + 1 + r) vc)).setCell ⟨w.heap.size + 1, 0, none⟩ (.int .i64 n)).setCell ⟨w.heap.size + 1, 1, none⟩ (.slice (some ⟨g, 0, none⟩) (k + 1 + r) vc)) := ((EB.set (by omega) _).set (by omega) _).set (by omega) _
          have C10 : Chg (fun b => b = xb ∨ b = w.heap.size + 1) w10 (((w10.setCell ⟨xb, 1, none⟩ (.slice (some ⟨g, 0, none⟩) (k + 1 + r) vc)).setCell ⟨w.heap.size + 1, 0, none⟩ (.int .i64 n)).setCell ⟨w.heap.size + 1, 1, none⟩ (.slice (some ⟨g, 0, none⟩) (k + 1 + r) vc)) :=
            ((Chg.setCell (B := fun b => b = xb ∨ b = w.heap.size + 1) ⟨xb, 1, none⟩ _ (.inl rfl)).trans (Chg.setCell (B := fun b => b = xb ∨ b = w.heap.size + 1) ⟨w.heap.size + 1, 0, none⟩ _ (.inr rfl))).trans (Chg.setCell (B := fun b => b = xb ∨ b = w.heap.size + 1) ⟨w.heap.size + 1, 1, none⟩ _ (.inr rfl))
          have HSEQ : Hid (SeqV (((w10.setCell ⟨xb, 1, none⟩ (.slice (some ⟨g, 0, none⟩) (k + 1 + r) vc)).setCell ⟨w.heap.size + 1, 0, none⟩ (.int .i64 n)).setCell ⟨w.heap.size + 1, 1, none⟩ (.slice (some ⟨g, 0, none⟩) (k + 1 + r) vc)) (.agg #[.int .i64 n, .slice (some ⟨g, 0, none⟩) (k + 1 + r) vc]) s) := by
            show SeqV _ _ _
            generalize (((w10.setCell ⟨xb, 1, none⟩ (.slice (some ⟨g, 0, none⟩) (k + 1 + r) vc)).setCell ⟨w.heap.size + 1, 0, none⟩ (.int .i64 n)).setCell ⟨w.heap.size + 1, 1, none⟩ (.slice (some ⟨g, 0, none⟩) (k + 1 + r) vc)) = wF at C10
            have CF : Chg (fun b => b = g ∨ b = xb ∨ b = w.heap.size + 1) w9 wF := ((HCA.out.mono (fun b h => .inl h)).trans (HCH.out.mono (fun b h => .inl h))).trans (C10.mono (fun b h => .inr h))
            obtain ⟨q1, q2, q3, q4⟩ := merge_left (sv := .slice (some ⟨bb, 0, none⟩) L.length bc) (y := (ordered L, wb)) HPS.out HR.out
            have hsl : SliceP wF (.slice (some ⟨g, 0, none⟩) _ vc) _ := sliceP_of (w := wF) (g := g) (vc := vc) (qs := (ps.set k (.slice (some ⟨bb, 0, none⟩) L.length bc, (ordered L, wb))).take (k + 1) ++ (ps.set k (.slice (some ⟨bb, 0, none⟩) L.length bc, (ordered L, wb))).drop (k + 1 + 1)) ?_ ?_ (by have h1 := HR.out; omega) hvc2
            · rw [q2, q3] at hsl
              have hA : (sa, (0 : Int)) = l.getD k ([], 0) := HA.out
              have hB : (sb, wb) = l.getD (k + 1) ([], 0) := HB.out
              rw [HSQ.out]
              unfold merged
              dsimp only
              rw [← hA, ← hB, ← HLL.out]
              exact ⟨_, rfl, hsl⟩
            · intro j u hu
              refine C10.cell (p := ⟨g, j, none⟩) (by show ¬ (g = xb ∨ g = w.heap.size + 1); omega) (HCL.out j u ?_)
              rw [flat2_take, flat2_drop, ← flat2_append, ← hu]
              unfold pairP
              rw [List.map_append, List.map_take, List.map_drop]
            · intro p hp
              rcases q4 p hp with rfl | hp
              · have h1 := (HSS.out.at_.slice (cap := bc) (by rw [isortK_length]; unfold maxLen; omega))
                rw [isortK_length] at h1
                have hiso : isortK L = ordered L := by rw [HLL.out]; exact apart_sorted HFA.out.1 HFB.out.1 HAPT.out
                rw [hiso] at h1
                have hlo : (ordered L).length = L.length := by rw [← hiso, isortK_length]
                have h2 : SliceKX (fun b => b ≠ bb) w9 (.slice (some ⟨bb, 0, none⟩) L.length bc) (ordered L) := by
                  obtain ⟨a', c', e1, e2, e3⟩ := h1
                  exact ⟨a', c', e1, e2, e3, fun b' off' e _ hb => by injection e1 with e1 _ _; rw [← e1] at e; cases e; exact hb rfl⟩
                refine h2.chg (CF.mono (fun b' hb e => ?_))
                subst e
                have := E7.size
                rcases hb with hb | hb | hb <;> omega
              · refine (HPK.out p hp).chg (CF.mono (fun b' hb => ?_))
                rcases hb with hb | hb | hb
                · exact .inr hb
                · exact .inl (.inr (by omega))
                · exact .inl (.inl (by omega))
          go_wp2
          exact bodyPost_ret (v := .tuple #[.agg #[.int .i64 n, .slice (some ⟨g, 0, none⟩) (k + 1 + r) vc], .int .i64 0]) (by rw [results_cell_tmp1 rfl]; go_simp) rfl ⟨_, rfl, HSEQ.out, EF⟩
        · have hwb : (wa == 0) = false := by simpa using hw0
          have her : er = 14 := by rw [hs2.1, hwb]; rfl
          have hsq : s = sq0 := by rw [hs2.2, her]; rfl
          subst her
          subst hsq
          clear hs2
          have EF : Ext w ((wr.setCell ⟨w.heap.size + 1, 0, none⟩ (.int .i64 0)).setCell ⟨w.heap.size + 1, 1, none⟩ (.slice none 0 0)) := (E4.set (by omega) _).set (by omega) _
          go_wp2
          exact bodyPost_ret (v := .tuple #[.agg #[.int .i64 0, .slice none 0 0], .int .i64 14]) (by rw [results_cell_tmp1 rfl]; go_simp) rfl ⟨_, rfl, seqV_zero _, EF⟩
set_option maxHeartbeats 8000000 in
set_option maxRecDepth 100000 in
theorem Merge_any (n : Int) (l : List Stp) (k : Int) (a : Option Addr) (cap : Nat) (w : World) (hl : l.length ≤ maxLen) (hc : CellsP w a l) :
    Calls Tryd.prog 19 #[.agg #[.int .i64 n, .slice a l.length cap], .int .i64 k] w (SeqErr (if mergeE (n, l) k = 0 then merged (n, l) k.toNat else sq0) (mergeE (n, l) k) w) := by
  by_cases hin : ckSeq (n, l) = 0 ∧ 0 ≤ k ∧ k + 1 < l.length
  · obtain ⟨h1, h2, h3⟩ := hin
    obtain ⟨K, rfl⟩ := Int.eq_ofNat_of_zero_le h2
    rw [mergeE_in h1 (by omega), Int.toNat_natCast]
    exact Merge_in n l K a cap w hl hc h1 (by omega) _ _ ⟨rfl, rfl⟩
  · obtain ⟨er, hs, hr⟩ : ∃ er, mergeE (n, l) k = er ∧ ((ckSeq (n, l) ≠ 0 ∧ er = ckSeq (n, l)) ∨ (ckSeq (n, l) = 0 ∧ er = 2 ∧ (k < 0 ∨ (l.length : Int) - 2 < k))) := by
      by_cases h1 : ckSeq (n, l) = 0
      · have h2 : k < 0 ∨ (l.length : Int) - 2 < k := by
          by_cases h2 : 0 ≤ k
          · right
            have : ¬ (k + 1 < l.length) := fun h3 => hin ⟨h1, h2, h3⟩
            omega
          · left; omega
        exact ⟨_, mergeE_out h1 h2, .inr ⟨h1, rfl, h2⟩⟩
      · exact ⟨_, mergeE_bad h1, .inl ⟨h1, rfl⟩⟩
    have hne : er ≠ 0 := by
      rcases hr with ⟨h1, h2⟩ | ⟨_, h2, _⟩
      · rw [h2]; exact h1
      · rw [h2]; decide
    rw [hs, if_neg hne]
    have HC := Lib.hid hc
    have HL := Lib.hid hl
    have hl' := hl
    unfold maxLen at hl'
    clear hc hl hs hin hne
    have hzs : ∀ w, (zeroValue 24).run Tryd.prog w = .ok (.agg #[.int .i64 0, .slice none 0 0]) w := fun _ => by kernel_rfl
    have HR := Lib.hid hr
    clear hr
    go_enter Tryd.func19, Tryd.ntmps19
    go_wp2_with fail
    have E1 : Ext w ((w.alloc (.cells #[.int .i64 n, .slice a l.length cap] 24)).alloc (.cells #[.int .i64 0, .slice none 0 0] 24)) := extA
    have c1 : ((w.alloc (.cells #[.int .i64 n, .slice a l.length cap] 24)).alloc (.cells #[.int .i64 0, .slice none 0 0] 24)).cell? ⟨w.heap.size, 1, none⟩ = some (.slice a l.length cap) := by go_simp
    have c2 : ((w.alloc (.cells #[.int .i64 n, .slice a l.length cap] 24)).alloc (.cells #[.int .i64 0, .slice none 0 0] 24)).cell? ⟨w.heap.size + 1, 0, none⟩ = some (.int .i64 0) := by go_simp
    have c3 : ((w.alloc (.cells #[.int .i64 n, .slice a l.length cap] 24)).alloc (.cells #[.int .i64 0, .slice none 0 0] 24)).cell? ⟨w.heap.size + 1, 1, none⟩ = some (.slice none 0 0) := by go_simp
    have d2 : ((w.alloc (.cells #[.int .i64 n, .slice a l.length cap] 24)).alloc (.cells #[.int .i64 0, .slice none 0 0] 24)).frozen? ⟨w.heap.size + 1, 0, none⟩ = false := by go_simp
    have d3 : ((w.alloc (.cells #[.int .i64 n, .slice a l.length cap] 24)).alloc (.cells #[.int .i64 0, .slice none 0 0] 24)).frozen? ⟨w.heap.size + 1, 1, none⟩ = false := by go_simp
    generalize ((w.alloc (.cells #[.int .i64 n, .slice a l.length cap] 24)).alloc (.cells #[.int .i64 0, .slice none 0 0] 24)) = W at E1 c1 c2 c3 d2 d3 ⊢
    refine (Check_any n l a cap _ HL.out (HC.out.ext E1)).mono ?_
    rintro e w1 ⟨rfl, hE⟩
    have E2 := E1.trans hE
    have d2 := (Below.frozen (p := ⟨w.heap.size + 1, 0, none⟩) hE (cell_lt c2)).trans d2
    have d3 := (Below.frozen (p := ⟨w.heap.size + 1, 1, none⟩) hE (cell_lt c3)).trans d3
    have c1 := hE.cell c1
    have c2 := hE.cell c2
    have c3 := hE.cell c3
    have EF : Ext w ((w1.setCell ⟨w.heap.size + 1, 0, none⟩ (.int .i64 0)).setCell ⟨w.heap.size + 1, 1, none⟩ (.slice none 0 0)) := (E2.set (by omega) _).set (by omega) _
    clear hE
    rcases HR.out with ⟨h1, h2⟩ | ⟨h1, rfl, h2⟩
    · have hn : (er != 0) = true := by rw [h2]; simp [h1]
      rw [← h2]
      clear h1 h2 HR
      go_wp2
      exact bodyPost_ret (v := .tuple #[.agg #[.int .i64 0, .slice none 0 0], .int .i64 er]) (by rw [results_cell_tmp1 rfl]; go_simp) rfl ⟨_, rfl, seqV_zero _, EF⟩
    · rw [h1]
      have g2 : IntKind.i64.wrap ((l.length : Int) - 2) = (l.length : Int) - 2 := IntWalk.i64_in _ (by omega)
      clear h1 HR
      by_cases h3 : k < 0
      · clear h2
        go_wp2
        exact bodyPost_ret (v := .tuple #[.agg #[.int .i64 0, .slice none 0 0], .int .i64 2]) (by rw [results_cell_tmp1 rfl]; go_simp) rfl ⟨_, rfl, seqV_zero _, EF⟩
      · have h4 : (l.length : Int) - 2 < k := by omega
        clear h2
        go_wp2
        exact bodyPost_ret (v := .tuple #[.agg #[.int .i64 0, .slice none 0 0], .int .i64 2]) (by rw [results_cell_tmp1 rfl]; go_simp) rfl ⟨_, rfl, seqV_zero _, EF⟩
end Go.Proofs.YtdolibeceijnnaaDoor
namespace Go.Proofs.YtdolibeceijnnaaDoor
open Go.RowKit
theorem ownsK_succ {w : World} {v : Value} {l : List Stk} {x : Stk} (h : w.ownsRow 0 67 2 v (l.length + 1) (flatK l ++ [.int .i64 x.1, .bool x.2])) : OwnsK w v (l ++ [x]) := by
  unfold OwnsK
  rw [List.length_append, flatK_append]
  exact h
end Go.Proofs.YtdolibeceijnnaaDoor
namespace Go.Proofs.YtdolibeceijnnaaDoor
open Go.RowKit
end Go.Proofs.YtdolibeceijnnaaDoor
namespace Go.Proofs.YtdolibeceijnnaaDoor
open Go.RowKit
end Go.Proofs.YtdolibeceijnnaaDoor
namespace Go.Proofs.YtdolibeceijnnaaDoor
open Go.RowKit
theorem CellsI.take {w : World} {a : Option Addr} {l : List Int} (h : CellsI w a l) (k : Nat) : CellsI w a (l.take k) := fun i hi => by
  rw [List.length_take] at hi
  have e : (l.take k).getD i 0 = l.getD i 0 := by
    rw [List.getD_eq_getElem?_getD, List.getD_eq_getElem?_getD, List.getElem?_take_of_lt (by omega)]
  rw [e]
  exact h i (by omega)
end Go.Proofs.YtdolibeceijnnaaDoor
namespace Go.Proofs.YtdolibeceijnnaaDoor
open Go.RowKit
end Go.Proofs.YtdolibeceijnnaaDoor
namespace Go.Proofs.YtdolibeceijnnaaDoor
open Go.RowKit
end Go.Proofs.YtdolibeceijnnaaDoor
namespace Go.Proofs.YtdolibeceijnnaaDoor
open Go.RowKit
end Go.Proofs.YtdolibeceijnnaaDoor
namespace Go.Proofs.YtdolibeceijnnaaDoor
open Go.RowKit
end Go.Proofs.YtdolibeceijnnaaDoor
namespace Go.Proofs.YtdolibeceijnnaaDoor
open Go.RowKit
def insI (c : Int → Int → Int) (x : Int) : List Int → List Int
  | [] => [x]
  | y :: r => if c x y < 0 then y :: insI c x r else x :: y :: r
def sortI (c : Int → Int → Int) : List Int → List Int
  | [] => []
  | x :: r => insI c x (sortI c r)
theorem insI_length (c : Int → Int → Int) (x : Int) (r : List Int) : (insI c x r).length = r.length + 1 := by
  induction r with
  | nil => rfl
  | cons y r ih => unfold insI; split <;> simp [ih]
theorem sortI_length (c : Int → Int → Int) (r : List Int) : (sortI c r).length = r.length := by
  induction r with
  | nil => rfl
  | cons x r ih => unfold sortI; rw [insI_length, ih]; rfl
def sortedI (c : Int → Int → Int) (l : List Int) (i : Nat) : List Int := (sortI c (l.take i).reverse).reverse ++ l.drop i
structure InI (c : Int → Int → Int) (x : Int) (S R d : List Int) (j : Nat) : Prop where
  ex : ∃ P M, d = P ++ x :: M ++ S ∧ P.length = j ∧ (insI c x P.reverse).reverse ++ M = R
theorem InI.start (c : Int → Int → Int) (l : List Int) {i : Nat} (h : i < l.length) : InI c (l.getD i 0) (l.drop (i + 1)) (insI c (l.getD i 0) (sortI c (l.take i).reverse)).reverse (sortedI c l i) i :=
  ⟨(sortI c (l.take i).reverse).reverse, [], by unfold sortedI; rw [drop_cons l 0 h]; simp, by rw [List.length_reverse, sortI_length, List.length_reverse, List.length_take]; omega, by rw [List.reverse_reverse, List.append_nil]⟩
theorem InI.at {c : Int → Int → Int} {x : Int} {S R d : List Int} {j : Nat} (h : InI c x S R d j) : d.getD j 0 = x := by
  obtain ⟨P, M, rfl, rfl, _⟩ := h.ex
  rw [List.append_assoc, List.getD_eq_getElem?_getD, List.getElem?_append_right (Nat.le_refl _), Nat.sub_self]; rfl
theorem InI.zero {c : Int → Int → Int} {x : Int} {S R d : List Int} (h : InI c x S R d 0) : d = R ++ S := by
  obtain ⟨P, M, rfl, hp, hr⟩ := h.ex
  have : P = [] := List.eq_nil_of_length_eq_zero hp
  subst this
  rw [← hr]; rfl
theorem InI.stop {c : Int → Int → Int} {x : Int} {S R d : List Int} {j : Nat} (h : InI c x S R d (j + 1)) (hn : ¬ c x (d.getD j 0) < 0) : d = R ++ S := by
  obtain ⟨P, M, rfl, hp, hr⟩ := h.ex
  obtain ⟨P', y, rfl⟩ : ∃ P' y, P = P' ++ [y] := by
    rcases List.eq_nil_or_concat P with rfl | ⟨P', y, rfl⟩
    · simp at hp
    · exact ⟨P', y, by simp⟩
  have hj : P'.length = j := by simp at hp; exact hp
  have hy : ((P' ++ [y]) ++ x :: M ++ S).getD j 0 = y := by
    rw [List.getD_eq_getElem?_getD, List.append_assoc, List.append_assoc, List.getElem?_append_right (by omega), hj, Nat.sub_self]; rfl
  rw [hy] at hn
  rw [List.reverse_append] at hr
  have e : insI c x ([y].reverse ++ P'.reverse) = x :: y :: P'.reverse := by show insI c x (y :: P'.reverse) = _; unfold insI; rw [if_neg hn]
  rw [e] at hr
  rw [← hr]
  simp
theorem InI.swap {c : Int → Int → Int} {x : Int} {S R d : List Int} {j : Nat} (h : InI c x S R d (j + 1)) (hn : c x (d.getD j 0) < 0) : InI c x S R ((d.set (j + 1) (d.getD j 0)).set j x) j := by
  obtain ⟨P, M, rfl, hp, hr⟩ := h.ex
  obtain ⟨P', y, rfl⟩ : ∃ P' y, P = P' ++ [y] := by
    rcases List.eq_nil_or_concat P with rfl | ⟨P', y, rfl⟩
    · simp at hp
    · exact ⟨P', y, by simp⟩
  have hj : P'.length = j := by simp at hp; exact hp
  have hy : ((P' ++ [y]) ++ x :: M ++ S).getD j 0 = y := by
    rw [List.getD_eq_getElem?_getD, List.append_assoc, List.append_assoc, List.getElem?_append_right (by omega), hj, Nat.sub_self]; rfl
  rw [hy] at hn ⊢
  rw [List.reverse_append] at hr
  have e : insI c x ([y].reverse ++ P'.reverse) = y :: insI c x P'.reverse := by show insI c x (y :: P'.reverse) = _; rw [insI, if_pos hn]
  rw [e] at hr
  refine ⟨P', y :: M, ?_, hj, ?_⟩
  · have e1 : (P' ++ [y]) ++ x :: M ++ S = P' ++ (y :: x :: (M ++ S)) := by simp
    rw [e1, List.set_append, if_neg (by omega), List.set_append, if_neg (by simp; omega)]
    have e2 : j + 1 - P'.length = 1 := by omega
    have e3 : j - P'.length = 0 := by omega
    rw [e2, e3]
    simp
  · rw [← hr]; simp
theorem InI.len {c : Int → Int → Int} {x : Int} {S R d : List Int} {j : Nat} (h : InI c x S R d j) : j < d.length := by
  obtain ⟨P, M, rfl, rfl, _⟩ := h.ex
  simp
def IntsAt (w : World) (b : Nat) (d : List Int) : Prop := ∀ i, i < d.length → w.cell? ⟨b, i, none⟩ = some (.int .i64 (d.getD i 0)) ∧ w.frozen? ⟨b, i, none⟩ = false
theorem IntsAt.ext {A B : World} {b : Nat} {d : List Int} (h : IntsAt A b d) (k : Ext A B) : IntsAt B b d := fun i hi => by
  obtain ⟨h1, h3⟩ := h i hi
  exact ⟨k.cell h1, (Below.frozen (p := ⟨b, _, none⟩) k (cell_lt h1)).trans h3⟩
theorem IntsAt.set {w : World} {b : Nat} {d : List Int} (h : IntsAt w b d) {i : Nat} (hi : i < d.length) (x : Int) : IntsAt (w.setCell ⟨b, i, none⟩ (.int .i64 x)) b (d.set i x) := fun j hj => by
  rw [List.length_set] at hj
  obtain ⟨h1, h3⟩ := h j hj
  obtain ⟨k1, _⟩ := h i hi
  refine ⟨?_, by rw [World.frozen?_setCell]; exact h3⟩
  by_cases e : i = j
  · subst e
    rw [World.cell?_setCell_same _ _ _ k1]
    simp [List.getD_eq_getElem?_getD, hi]
  · rw [World.cell?_setCell_other _ _ _ _ (fun h => by simp only [Addr.mk.injEq] at h; omega), h1]
    simp [List.getD_eq_getElem?_getD, e]
structure SiSt (b : Nat) (w wr : World) (d : List Int) : Prop where
  at_ : IntsAt wr b d
  own : Own1 b w wr
theorem SiSt.ext {b : Nat} {w A B : World} {d : List Int} (h : SiSt b w A d) (k : Ext A B) (hb : b < A.heap.size) : SiSt b w B d := ⟨h.at_.ext k, h.own.trans (Own1.ext k (Nat.le_of_lt hb))⟩
end Go.Proofs.YtdolibeceijnnaaDoor
namespace Go.Proofs.YtdolibeceijnnaaDoor
open Go.RowKit
end Go.Proofs.YtdolibeceijnnaaDoor
namespace Go.Proofs.YtdolibeceijnnaaDoor
open Go.RowKit
def bf (l : List Stp) (b a : Int) : Bool := lexLt (movesOf l b) (movesOf l a) || (decide (b < a) && (movesOf l b == movesOf l a))
theorem ints_length (n : Int) : (ints n).length = n.toNat := by unfold ints; simp
theorem ints_mem {n a : Int} : a ∈ ints n ↔ 0 ≤ a ∧ a < n := by
  unfold ints
  rw [List.mem_map]
  constructor
  · rintro ⟨k, hk, rfl⟩
    rw [List.mem_range] at hk
    show (0 : Int) ≤ (k : Int) ∧ (k : Int) < n
    omega
  · intro h
    exact ⟨a.toNat, by rw [List.mem_range]; omega, by show ((a.toNat : Nat) : Int) = a; omega⟩
end Go.Proofs.YtdolibeceijnnaaDoor
namespace Go.Proofs.YtdolibeceijnnaaDoor
open Go.RowKit
theorem step_append_run {P : Program} {ops : Array Oper} {o : Oper} {a : Act} {w : World} {K : Act → World → Prop} {Q : Exit → Act → World → Prop} {E : Prop} (hgd : o.guard = none) (s x : Operand) (t u : TypeId)
    (ho : o.op = .call { callee := .builtin .append, args := #[s, x], argTypes := #[t, u] }) (v y : Value) (hs : a.eval s = v) (hx : a.eval x = y)
    (v' : Value) (w' : World) (hr : (Builtin.append_ #[t, u] o.type #[v, y]).run P w = .ok v' w')
    (h : K (a.put o.dst v') w') :
    if Region.wanted o (yielded ops a.tmps) = true then Oper.wp P o a w K Q else E := by
  have hw : Region.wanted o (yielded ops a.tmps) = true := by simp [Region.wanted, hgd]
  rw [if_pos hw]
  unfold Oper.wp execOp
  simp only [ho, resolve, invoke, builtin, Sem.run_bind, Sem.run_pure, Result.andThen_ok, List.map_toArray, List.map_cons, List.map_nil, hs, hx, hr]
  exact h
theorem PairsAt.take {w : World} {b off : Nat} {ps : List (Value × Stp)} (h : PairsAt w (some ⟨b, off, none⟩) ps) (k : Nat) : PairsAt w (some ⟨b, off, none⟩) (ps.take k) := by
  refine ⟨?_, fun p hp => h.2.1 p (List.mem_of_mem_take hp), fun u hu => ?_⟩
  · right
    refine ⟨b, off, rfl, fun j u hu => ?_⟩
    rcases h.1 with e | ⟨b', off', e, hc⟩
    · rw [e, List.take_nil] at hu; simp [pairP, flat2] at hu
    · cases e
      refine hc j u ?_
      have e2 : flat2 (pairP (ps.take k)) = (flat2 (pairP ps)).take (k * 2) := by rw [flat2_take]; unfold pairP; rw [List.map_take]
      rw [e2] at hu
      exact List.getElem?_eq_some_iff.2 (by
        obtain ⟨h1, h2⟩ := List.getElem?_eq_some_iff.1 hu
        rw [List.length_take] at h1
        exact ⟨by omega, by rw [← h2, List.getElem_take]⟩)
  · have e2 : flat2 (pairP (ps.take k)) = (flat2 (pairP ps)).take (k * 2) := by rw [flat2_take]; unfold pairP; rw [List.map_take]
    rw [e2] at hu
    exact h.2.2 u (List.mem_of_mem_take hu)
theorem PairsAt.drop {w : World} {b off : Nat} {ps : List (Value × Stp)} (h : PairsAt w (some ⟨b, off, none⟩) ps) (k : Nat) : PairsAt w (some ⟨b, off + k * 2, none⟩) (ps.drop k) := by
  have e2 : flat2 (pairP (ps.drop k)) = (flat2 (pairP ps)).drop (k * 2) := by rw [flat2_drop]; unfold pairP; rw [List.map_drop]
  refine ⟨.inr ⟨b, off + k * 2, rfl, fun j u hu => ?_⟩, fun p hp => h.2.1 p (List.mem_of_mem_drop hp), fun u hu => ?_⟩
  · rw [e2, List.getElem?_drop] at hu
    rcases h.1 with e | ⟨b', off', e, hc⟩
    · rw [e] at hu; simp [pairP, flat2] at hu
    · cases e
      have := hc _ u hu
      rw [Addr.add_lit] at this ⊢
      rw [Nat.add_assoc]
      exact this
  · rw [e2] at hu
    exact h.2.2 u (List.mem_of_mem_drop hu)
theorem PairsAt.nil (w : World) (a : Option Addr) : PairsAt w a [] := ⟨.inl rfl, (fun p hp => by cases hp), (fun u hu => by simp [pairP, flat2] at hu)⟩
end Go.Proofs.YtdolibeceijnnaaDoor
namespace Go.Proofs.YtdolibeceijnnaaDoor
open Go.RowKit
end Go.Proofs.YtdolibeceijnnaaDoor
namespace Go.Proofs.YtdolibeceijnnaaDoor
open Go.RowKit
end Go.Proofs.YtdolibeceijnnaaDoor
namespace Go.Proofs.YtdolibeceijnnaaDoor
open Go.RowKit
theorem Full.append {l q : List Stp} (h : Full l) (k : Full q) : Full (l ++ q) := fun i hi => by
  rw [List.getD_eq_getElem?_getD]
  by_cases c : i < l.length
  · rw [List.getElem?_append_left c]
    have := h i c
    rw [List.getD_eq_getElem?_getD] at this
    exact this
  · rw [List.getElem?_append_right (by omega)]
    have := k (i - l.length) (by rw [List.length_append] at hi; omega)
    rw [List.getD_eq_getElem?_getD] at this
    exact this
end Go.Proofs.YtdolibeceijnnaaDoor
namespace Go.Proofs.YtdolibeceijnnaaDoor
open Go.RowKit
structure BkSt (o : Nat) (wa : Int) (W0 wr : World) (ys : List Stk) : Prop where
  be : Below o W0 wr
  c1 : wr.cell? ⟨o, 1, none⟩ = some (.int .i64 wa)
  f0 : wr.frozen? ⟨o, 0, none⟩ = false
  v : ∃ v, wr.cell? ⟨o, 0, none⟩ = some v ∧ OwnsK wr v ys ∧ ∀ b, v.ownBlock = some b → o < b
end Go.Proofs.YtdolibeceijnnaaDoor
namespace Go.Proofs.YtdolibeceijnnaaDoor
open Go.RowKit
end Go.Proofs.YtdolibeceijnnaaDoor
namespace Go.Proofs.YtdolibeceijnnaaDoor
open Go.RowKit
open Go.Maps
def MapAt (w : World) (b m : Nat) (f : Int → Int) : Prop :=
  ∃ D : DataW Unit, w.ownsMap Tryd.prog 3 (plainElem Tryd.prog 3) b m D ∧ IsMap D ∧ ∀ a : Int, D.atKey (.int .i64 a) (.lit (.int .i64 0)) = .lit (.int .i64 (f a))
theorem MapAt.new (w : World) : MapAt (w.alloc (.map #[] 0)) w.heap.size 0 (listFn []) :=
  ⟨.map [], World.ownsMap_made w _ _ _, ⟨[], rfl⟩, fun a => by
    have : listFn [] a = 0 := by unfold listFn; simp
    rw [this]; rfl⟩
end Go.Proofs.YtdolibeceijnnaaDoor
namespace Go.Proofs.YtdolibeceijnnaaDoor
open Go.RowKit
open Go.Maps
theorem MapAt.same {A B : World} {b m : Nat} {f : Int → Int} (h : MapAt A b m f) (e : B.heap[b]? = A.heap[b]?) : MapAt B b m f := by
  obtain ⟨D, ⟨es, ck, h1, h2, h3, h4⟩, h5, h6⟩ := h
  exact ⟨D, ⟨es, ck, e.trans h1, h2, h3, h4⟩, h5, h6⟩
theorem MapAt.lt {A : World} {b m : Nat} {f : Int → Int} (h : MapAt A b m f) : b < A.heap.size := by
  obtain ⟨D, h1, _⟩ := h
  exact h1.lt
theorem MapAt.ext {A B : World} {b m : Nat} {f : Int → Int} (h : MapAt A b m f) (k : Ext A B) : MapAt B b m f := h.same (Below.block k b h.lt)
theorem Own1.cell {n : Nat} {A B : World} (h : Own1 n A B) {p : Addr} {v : Value} (hp : p.block ≠ n) (hc : A.cell? p = some v) : B.cell? p = some v :=
  (World.cell?_of_block (h.2 p.block (cell_lt hc) hp)).trans hc
theorem Own1.frozen {n : Nat} {A B : World} (h : Own1 n A B) {p : Addr} {v : Value} (hp : p.block ≠ n) (hc : A.cell? p = some v) : B.frozen? p = A.frozen? p :=
  World.frozen?_of_block (h.2 p.block (cell_lt hc) hp)
end Go.Proofs.YtdolibeceijnnaaDoor
namespace Go.Proofs.YtdolibeceijnnaaDoor
open Go.RowKit
open Go.Maps
end Go.Proofs.YtdolibeceijnnaaDoor
namespace Go.Proofs.YtdolibeceijnnaaDoor
open Go.RowKit
open Go.Maps
theorem IntsAt.cells {A : World} {b : Nat} {l : List Int} (h : IntsAt A b l) : CellsI A (some ⟨b, 0, none⟩) l := fun i hi => ⟨b, 0, rfl, by rw [Nat.zero_add]; exact (h i hi).1⟩
end Go.Proofs.YtdolibeceijnnaaDoor
namespace Go.Proofs.YtdolibeceijnnaaDoor
open Go.RowKit
structure Bij (P : Int → Prop) (n : Int) (f g : Int → Int) : Prop where
  rng : ∀ a, P a → 0 ≤ f a ∧ f a < n
  gp : ∀ a, 0 ≤ a ∧ a < n → P (g a)
  gf : ∀ a, P a → g (f a) = a
  fg : ∀ a, 0 ≤ a ∧ a < n → f (g a) = a
theorem Bij.inj {P : Int → Prop} {n : Int} {f g : Int → Int} (h : Bij P n f g) {a b : Int} (ha : P a) (hb : P b) (e : f a = f b) : a = b := by
  rw [← h.gf a ha, ← h.gf b hb, e]
def In (n : Int) (a : Int) : Prop := 0 ≤ a ∧ a < n
def FineP (P : Int → Prop) (x : Stp) : Prop := ckStep x = 0 ∧ ∀ y ∈ x.1, P y.1
theorem FineP.asc {P : Int → Prop} {x : Stp} (h : FineP P x) : Asc x.1 := (ckStrokes_asc (ckStep_strokes h.1).1).1
theorem FineP.diff {P : Int → Prop} {x : Stp} (h : FineP P x) : Diff x.1 := h.asc.diff
theorem Fine.all {n : Int} {l : List Stp} (h : Fine n l) : ∀ x ∈ l, FineP (In n) x := fun x hx => by
  obtain ⟨k, hk, e⟩ := List.mem_iff_getElem.1 hx
  obtain ⟨h1, h2⟩ := h k hk
  rw [List.getD_eq_getElem?_getD, List.getElem?_eq_getElem hk] at h1 h2
  have h1 : ckStep l[k] = 0 := h1
  have h2 : ∀ j, j < (l[k]).1.length → 0 ≤ ((l[k]).1.getD j stk0).1 ∧ ((l[k]).1.getD j stk0).1 < n := h2
  rw [e] at h1 h2
  refine ⟨h1, fun y hy => ?_⟩
  obtain ⟨j, hj, e⟩ := List.mem_iff_getElem.1 hy
  have := h2 j hj
  rw [List.getD_eq_getElem?_getD, List.getElem?_eq_getElem hj] at this
  rw [← e]; exact this
theorem asc_ck {l : List Stk} {z : Int} (h : Asc l) (hz : ∀ y ∈ l, z < y.1) (hk : ∀ y ∈ l, 0 ≤ y.1 ∧ y.1 < 6) : ckStrokes z l = 0 := by
  induction l generalizing z with
  | nil => rfl
  | cons y l ih =>
    have h1 := hz y (List.mem_cons_self ..)
    have h2 := hk y (List.mem_cons_self ..)
    obtain ⟨p1, p2⟩ := List.pairwise_cons.1 h
    unfold ckStrokes
    rw [if_neg (by omega), if_neg (by omega), if_neg (by omega)]
    exact ih p2 p1 fun y hy => hk y (List.mem_cons_of_mem _ hy)
theorem ckStep_of {x : Stp} (h1 : 0 < x.1.length) (h2 : x.1.length ≤ 6) (h3 : ckStrokes (-1) x.1 = 0) (h4 : 0 ≤ x.2 ∧ x.2 ≤ 1000000) : ckStep x = 0 := by
  unfold ckStep
  rw [if_neg (by omega), if_neg (by omega), if_neg (by simp [h3]), if_neg (by omega)]
section
variable {P : Int → Prop} {n : Int} {f g : Int → Int}
theorem movesIn_iff (a : Int) (x : Stp) : movesIn a x = true ↔ ∃ y ∈ x.1, y.1 = a := by
  unfold movesIn
  rw [List.any_eq_true]
  constructor
  · rintro ⟨y, hy, e⟩; exact ⟨y, hy, by simpa using e⟩
  · rintro ⟨y, hy, e⟩; exact ⟨y, hy, by simpa using e⟩
theorem bool_iff {a b : Bool} (h : a = true ↔ b = true) : a = b := by cases a <;> cases b <;> simp_all
theorem beh_cons (e : Int → Bool) (y : Stk) (l : List Stk) : beh e (y :: l) = beh (fun i => if i = y.1 then y.2 else e i) l := rfl
theorem beh_not {e : Int → Bool} {l : List Stk} {a : Int} (h : ∀ y ∈ l, y.1 ≠ a) : beh e l a = e a := by
  induction l generalizing e with
  | nil => rfl
  | cons y l ih =>
    rw [beh_cons, ih fun y hy => h y (List.mem_cons_of_mem _ hy)]
    exact if_neg fun e => h y (List.mem_cons_self ..) e.symm
theorem beh_mem {e : Int → Bool} {l : List Stk} (hd : Diff l) {y : Stk} (hy : y ∈ l) : beh e l y.1 = y.2 := by
  induction l generalizing e with
  | nil => cases hy
  | cons z l ih =>
    obtain ⟨h1, h2⟩ := List.pairwise_cons.1 hd
    rw [beh_cons]
    rcases List.mem_cons.1 hy with rfl | hy
    · rw [beh_not fun z hz e => h1 z hz e.symm]
      exact if_pos rfl
    · exact ih h2 hy
theorem ckFit_iff {m : Int} {x : Stp} {e : Int → Bool} : ckFit m x e = 0 ↔ ckStep x = 0 ∧ (∀ y ∈ x.1, y.1 < m) ∧ ∀ y ∈ x.1, e y.1 = !y.2 := by
  unfold ckFit
  by_cases h1 : ckStep x = 0
  · rw [if_neg (by simp [h1])]
    cases h2 : anyHigh m x.1
    · have h2' : ∀ y ∈ x.1, y.1 < m := fun y hy => by
        have := (List.any_eq_false.1 h2) y hy
        simp at this; omega
      cases h3 : anySame e x.1
      · refine ⟨fun _ => ⟨h1, h2', fun y hy => ?_⟩, fun _ => rfl⟩
        have := (List.any_eq_false.1 h3) y hy
        cases ha : e y.1 <;> cases hb : y.2 <;> simp_all
      · refine ⟨fun h => by simp at h, fun ⟨_, _, h⟩ => ?_⟩
        obtain ⟨y, hy, hh⟩ := List.any_eq_true.1 h3
        rw [h y hy] at hh
        cases hb : y.2 <;> rw [hb] at hh <;> cases hh
    · refine ⟨fun h => by simp at h, fun ⟨_, h, _⟩ => ?_⟩
      obtain ⟨y, hy, hh⟩ := List.any_eq_true.1 h2
      have := h y hy
      simp at hh; omega
  · rw [if_pos h1]
    exact ⟨fun h => absurd h h1, fun h => absurd h.1 h1⟩
theorem ckWalk_iff {m : Int} {e : Int → Bool} {x : Stp} {l : List Stp} : ckWalk m e (x :: l) = 0 ↔ ckFit m x e = 0 ∧ ckWalk m (beh e x.1) l = 0 := by
  show (if ckFit m x e ≠ 0 then ckFit m x e else ckWalk m (beh e x.1) l) = 0 ↔ _
  by_cases h : ckFit m x e = 0
  · rw [if_neg (by simp [h])]; exact ⟨fun k => ⟨h, k⟩, fun k => k.2⟩
  · rw [if_pos h]; exact ⟨fun k => absurd k h, fun k => absurd k.1 h⟩
theorem behAll_cons (e : Int → Bool) (x : Stp) (l : List Stp) : behAll e (x :: l) = behAll (beh e x.1) l := rfl
theorem movedIn_iff (a : Int) (l : List Stp) : movedIn a l = true ↔ ∃ x ∈ l, movesIn a x = true := by
  unfold movedIn
  exact List.any_eq_true
theorem ints_all (p : Int → Bool) (m : Int) : (ints m).any p = false ↔ ∀ a, 0 ≤ a ∧ a < m → p a = false := by
  rw [List.any_eq_false]
  constructor
  · intro h a ha; have := h a (ints_mem.2 ha); simpa using this
  · intro h a ha; simp [h a (ints_mem.1 ha)]
theorem ckSeq_of {m : Int} {l : List Stp} (h1 : 1 ≤ m ∧ m ≤ 6) (h2 : 0 < l.length ∧ l.length ≤ 64) (h3 : ckWalk m none6 l = 0) (h4 : ∀ a, 0 ≤ a ∧ a < m → behAll none6 l a = false) (h5 : ∀ a, 0 ≤ a ∧ a < m → movedIn a l = true) : ckSeq (m, l) = 0 := by
  have h4' := (ints_all (behAll none6 l) m).2 h4
  have h5' : (ints m).any (fun a => !movedIn a l) = false := (ints_all _ m).2 fun a ha => by rw [h5 a ha]; rfl
  unfold ckSeq
  dsimp only
  rw [if_neg (by omega), if_neg (by omega), if_neg (by omega), if_neg (by simp [h3]), h4', h5']
  rfl
structure Right (m : Int) (l : List Stp) : Prop where
  act : 1 ≤ m ∧ m ≤ 6
  len : 0 < l.length ∧ l.length ≤ 64
  walk : ckWalk m none6 l = 0
  back : ∀ a, 0 ≤ a ∧ a < m → behAll none6 l a = false
  moved : ∀ a, 0 ≤ a ∧ a < m → movedIn a l = true
theorem ckSeq_right {m : Int} {l : List Stp} (h : ckSeq (m, l) = 0) : Right m l := by
  obtain ⟨h1, h2, h3, h4, h5, h6, h7⟩ := ckSeq_zero h
  refine ⟨⟨h1, h2⟩, ⟨h3, h4⟩, h5, (ints_all _ _).1 h6, fun a ha => ?_⟩
  have := (ints_all _ _).1 h7 a ha
  simpa using this
theorem Right.fine {m : Int} {l : List Stp} (h : Right m l) : ∀ x ∈ l, FineP (In m) x := (ckWalk_fine h.walk).all
end
theorem sub_len {α : Type} [DecidableEq α] {l m : List α} (hd : l.Nodup) (h : ∀ x ∈ l, x ∈ m) : l.length ≤ m.length := by
  induction l generalizing m with
  | nil => simp
  | cons x l ih =>
    obtain ⟨h1, h2⟩ := List.nodup_cons.1 hd
    have hm := h x (List.mem_cons_self ..)
    have := ih (m := m.erase x) h2 fun y hy => (List.mem_erase_of_ne (fun e => by subst e; exact h1 hy)).2 (h y (List.mem_cons_of_mem _ hy))
    rw [List.length_erase_of_mem hm] at this
    have := List.length_pos_of_mem hm
    simp only [List.length_cons]
    omega
end Go.Proofs.YtdolibeceijnnaaDoor
namespace Go.Proofs.YtdolibeceijnnaaDoor
open Go.RowKit
def aloneFn (l : List Stp) (k : Nat) (a : Int) : Int := if (0 ≤ a ∧ a < (k : Int)) ∧ movedIn a l = true then partFn l a else 0
theorem aloneFn_zero (l : List Stp) (a : Int) : aloneFn l 0 a = 0 := by unfold aloneFn; rw [if_neg (by omega)]
theorem getD_mem {α : Type} {l : List α} {k : Nat} (d : α) (h : k < l.length) : l.getD k d ∈ l := by
  rw [List.getD_eq_getElem?_getD, List.getElem?_eq_getElem h]; exact List.getElem_mem h
theorem mem_getD {α : Type} {l : List α} {x : α} (d : α) (h : x ∈ l) : ∃ k, k < l.length ∧ l.getD k d = x := by
  obtain ⟨k, hk, e⟩ := List.mem_iff_getElem.1 h
  exact ⟨k, hk, by rw [List.getD_eq_getElem?_getD, List.getElem?_eq_getElem hk]; exact e⟩
end Go.Proofs.YtdolibeceijnnaaDoor
namespace Go.Proofs.YtdolibeceijnnaaDoor
open Go.RowKit
open Go.Maps
def AlMap (w : World) (b : Nat) (l : List Stp) (k : Nat) : Prop :=
  ∃ D : DataW Unit, w.ownsMap Tryd.prog 3 (plainElem Tryd.prog 3) b k D ∧ Tidy D ∧ (Maps.size D : Int) = partFn l (k : Int) ∧ (∀ a : Int, (k : Int) ≤ a → has D (.int .i64 a) = false) ∧ ∀ a : Int, D.atKey (.int .i64 a) (.lit (.int .i64 0)) = .lit (.int .i64 (aloneFn l k a))
theorem AlMap.new (w : World) (l : List Stp) : AlMap (w.alloc (.map #[] 0)) w.heap.size l 0 :=
  ⟨.map [], World.ownsMap_made w _ _ _, tidy_empty, rfl, fun _ _ => rfl, fun a => by rw [aloneFn_zero]; rfl⟩
theorem AlMap.same {A B : World} {b k : Nat} {l : List Stp} (h : AlMap A b l k) (e : B.heap[b]? = A.heap[b]?) : AlMap B b l k := by
  obtain ⟨D, ⟨es, ck, h1, h2, h3, h4⟩, h5⟩ := h
  exact ⟨D, ⟨es, ck, e.trans h1, h2, h3, h4⟩, h5⟩
theorem AlMap.lt {A : World} {b k : Nat} {l : List Stp} (h : AlMap A b l k) : b < A.heap.size := by
  obtain ⟨D, h1, _⟩ := h
  exact h1.lt
theorem AlMap.ext {A B : World} {b m : Nat} {l : List Stp} (h : AlMap A b l m) (k : Ext A B) : AlMap B b l m := h.same (Below.block k b h.lt)
theorem AlMap.map {A : World} {b k : Nat} {l : List Stp} (h : AlMap A b l k) : MapAt A b k (aloneFn l k) := by
  obtain ⟨D, h1, h2, _, _, h5⟩ := h
  exact ⟨D, h1, h2.isMap, h5⟩
end Go.Proofs.YtdolibeceijnnaaDoor
namespace Go.Proofs.YtdolibeceijnnaaDoor
open Go.RowKit
def QU (X : Nat → Prop) (w : World) (u : Value) (l : List Stp) : Prop := OwnsP X w u l ∧ ∀ b, u.ownBlock = some b → ¬ X b
theorem QU.chg {X : Nat → Prop} {A B : World} {u : Value} {l : List Stp} (h : QU X A u l) (c : Chg X A B) : QU X B u l := ⟨h.1.chg c h.2, h.2⟩
theorem QU.mono {X Y : Nat → Prop} {A : World} {u : Value} {l : List Stp} (h : QU X A u l) (k : ∀ b, Y b → X b) : QU Y A u l := ⟨h.1.mono k, fun b hb hy => h.2 b hb (k b hy)⟩
theorem OwnsP.lt {X : Nat → Prop} {A : World} {u : Value} {l : List Stp} (h : OwnsP X A u l) {b : Nat} (hb : u.ownBlock = some b) : b < A.heap.size := by
  obtain ⟨ps, h1, h2, h3⟩ := h
  exact rowLt h2 hb
theorem QU.up {X : Nat → Prop} {A : World} {u : Value} {l : List Stp} (h : QU X A u l) : QU (fun b => X b ∨ A.heap.size ≤ b) A u l :=
  ⟨h.1.up, fun b hb hx => by
    rcases hx with hx | hx
    · exact h.2 b hb hx
    · have := h.1.lt hb; omega⟩
def pairQ (ps : List (Value × Sq)) : List (Value × Value) := ps.map fun p => (.int .i64 p.2.1, p.1)
def OwnsQ (w : World) (v : Value) (ys : List Sq) : Prop :=
  ∃ ps : List (Value × Sq), ps.map (·.2) = ys ∧ w.ownsRow 0 24 2 v ys.length (flat2 (pairQ ps)) ∧ ∀ p ∈ ps, QU (fun b => v.ownBlock = some b) w p.1 p.2.2
theorem OwnsQ.nil (w : World) : OwnsQ w (.slice none 0 0) [] := ⟨[], rfl, World.ownsRow_nil w 0 _ _, fun p hp => by cases hp⟩
theorem OwnsQ.ext {A B : World} {v : Value} {ys : List Sq} (h : OwnsQ A v ys) (k : Ext A B) : OwnsQ B v ys := by
  obtain ⟨ps, h1, h2, h3⟩ := h
  exact ⟨ps, h1, rowExt h2 k, fun p hp => (h3 p hp).chg (Chg.ext k)⟩
theorem OwnsQ.reads {A : World} {v : Value} {ys : List Sq} (h : OwnsQ A v ys) : ∃ a cap, v = .slice a ys.length cap ∧ CellsQ A a ys ∧ ys.length ≤ maxLen := by
  obtain ⟨ps, h1, h2, h3⟩ := h
  obtain ⟨a, cap, hv, hm, hr⟩ := rowReads h2
  refine ⟨a, cap, hv, fun i hi => ?_, hm⟩
  have hl : ps.length = ys.length := by rw [← h1]; simp
  have hi' : i < (pairQ ps).length := by simp [pairQ]; omega
  have hip : i < ps.length := by omega
  have hg := flat2_get (pairQ ps) i hi'
  have e1 : (pairQ ps)[i].1 = .int .i64 ps[i].2.1 := by simp [pairQ]
  have e2 : (pairQ ps)[i].2 = ps[i].1 := by simp [pairQ]
  rw [e1, e2] at hg
  have ey : ys.getD i sq0 = ps[i].2 := by rw [← h1]; simp [List.getD, hip]
  obtain ⟨b, hb, _, g1, _⟩ := hr _ _ hg.1
  obtain ⟨b', hb', _, g2, _⟩ := hr _ _ hg.2
  rw [hb] at hb'
  cases hb'
  refine ⟨b, 0, ps[i].1, hb, ?_, ?_, ?_⟩
  · rw [ey, Nat.zero_add]; exact g1
  · rw [Nat.zero_add]; exact g2
  · rw [ey]; exact (h3 _ (List.getElem_mem hip)).1.reads
theorem OwnsQ.app {A B : World} {v v' : Value} {ys : List Sq} {u : Value} {y : Sq} (h : OwnsQ A v ys) (hu : QU (fun b => v.ownBlock = some b) A u y.2)
    (hown : B.ownsRow 0 24 2 v' (ys.length + 1) (flat2 (pairQ (Classical.choose h)) ++ [.int .i64 y.1, u])) (he : AppEnd A B v v') : OwnsQ B v' (ys ++ [y]) := by
  obtain ⟨h1, h2, h3⟩ := Classical.choose_spec h
  refine ⟨Classical.choose h ++ [(u, y)], by rw [List.map_append, h1]; rfl, ?_, ?_⟩
  · unfold pairQ at hown ⊢
    rw [List.length_append, List.map_append, flat2_append]
    exact hown
  · have c : Chg (fun b => v.ownBlock = some b ∨ A.heap.size ≤ b) A B := (Chg.app (B := fun b => v.ownBlock = some b) he (fun b hb => hb)).mono (fun b h => .inl h)
    have hy : ∀ b, v'.ownBlock = some b → v.ownBlock = some b ∨ A.heap.size ≤ b := he.chg.2.2
    intro p hp
    rcases List.mem_append.1 hp with hp | hp
    · exact ((h3 p hp).up.chg c).mono hy
    · rcases List.mem_singleton.1 hp with rfl
      exact (hu.up.chg c).mono hy
theorem CellsQ.nil (w : World) (a : Option Addr) : CellsQ w a [] := fun i hi => by simp at hi
theorem Fine.of_mem {n : Int} {l m : List Stp} (h : Fine n l) (k : ∀ x ∈ m, x ∈ l) : Fine n m := fun i hi => by
  have hm := k _ (getD_mem stp0 hi)
  obtain ⟨j, hj, e⟩ := mem_getD stp0 hm
  rw [← e]
  exact h j hj
theorem Fine.part {n : Int} {l : List Stp} (h : Fine n l) (e k : Nat) : Fine n ((l.take e).drop k) := h.of_mem fun _x hx => List.mem_of_mem_take (List.mem_of_mem_drop hx)
end Go.Proofs.YtdolibeceijnnaaDoor
