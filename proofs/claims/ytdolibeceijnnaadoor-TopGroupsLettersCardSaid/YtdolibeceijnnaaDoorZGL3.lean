/- Steps of the proof: QSortW, QSortF, QConcatK, QHas, QDel, QMergeM, QMerge, QOrdR, QIntsR, QStepR, QRenE, QMoves, QMovesP, QCmpL, QStd1, QSortI, QStable, QStdP, QAppP, QMergeR, QJoinR, QJoin, QBack, QBackP, QLetters, QRen1, QRen, QStdW, QRenP, QAloneP, QAlone, QOwnQ, QBackS, QRestS, Grp6, GOnc, GLng. No conditions. -/
import Derived.Lib.BitFns
import Derived.Deep.RegionLaw
import Derived.Lib.SlicesDelete
import Derived.Deep.DeepCutAuto
import Derived.Maps.OwnOps
import Derived.Maps.Views
import Derived.Maps.OwnSet
import Derived.Test.YtdolibeceijnnaaDoorZGL1
import Derived.Test.YtdolibeceijnnaaDoorZGL2
namespace Go.Proofs.YtdolibeceijnnaaDoor
open Go.RowKit
def sortedTo (l : List Stk) (i : Nat) : List Stk := (sortR (l.take i).reverse).reverse ++ l.drop i
theorem sortedTo_length (l : List Stk) (i : Nat) : (sortedTo l i).length = l.length := by
  unfold sortedTo
  rw [List.length_append, List.length_reverse, sortR_length, List.length_reverse, List.length_take, List.length_drop]; omega
theorem sortedTo_end (l : List Stk) : sortedTo l l.length = isortK l := by unfold sortedTo isortK; rw [List.take_length, List.drop_length, List.append_nil]
theorem sortedTo_one (l : List Stk) : sortedTo l 1 = l := by
  cases l with
  | nil => rfl
  | cons x l => simp [sortedTo, sortR, insR]
theorem sortedTo_succ (l : List Stk) {i : Nat} (h : i < l.length) : sortedTo l (i + 1) = (insR (l.getD i stk0) (sortR (l.take i).reverse)).reverse ++ l.drop (i + 1) := by
  unfold sortedTo
  rw [List.take_succ_eq_append_getElem h, List.reverse_append, List.getD_eq_getElem?_getD, List.getElem?_eq_getElem h]
  rfl
structure InSt (x : Stk) (S R d : List Stk) (j : Nat) : Prop where
  ex : ∃ P M, d = P ++ x :: M ++ S ∧ P.length = j ∧ (insR x P.reverse).reverse ++ M = R
theorem InSt.start (l : List Stk) {i : Nat} (h : i < l.length) : InSt (l.getD i stk0) (l.drop (i + 1)) (insR (l.getD i stk0) (sortR (l.take i).reverse)).reverse (sortedTo l i) i :=
  ⟨(sortR (l.take i).reverse).reverse, [], by unfold sortedTo; rw [drop_cons l stk0 h]; simp, by rw [List.length_reverse, sortR_length, List.length_reverse, List.length_take]; omega, by rw [List.reverse_reverse, List.append_nil]⟩
theorem InSt.at {x : Stk} {S R d : List Stk} {j : Nat} (h : InSt x S R d j) : d.getD j stk0 = x := by
  obtain ⟨P, M, rfl, rfl, _⟩ := h.ex
  rw [List.append_assoc, List.getD_eq_getElem?_getD, List.getElem?_append_right (Nat.le_refl _), Nat.sub_self]; rfl
theorem InSt.zero {x : Stk} {S R d : List Stk} (h : InSt x S R d 0) : d = R ++ S := by
  obtain ⟨P, M, rfl, hp, hr⟩ := h.ex
  have : P = [] := List.eq_nil_of_length_eq_zero hp
  subst this
  rw [← hr]; rfl
theorem InSt.stop {x : Stk} {S R d : List Stk} {j : Nat} (h : InSt x S R d (j + 1)) (hn : ¬ x.1 < (d.getD j stk0).1) : d = R ++ S := by
  obtain ⟨P, M, rfl, hp, hr⟩ := h.ex
  obtain ⟨P', y, rfl⟩ : ∃ P' y, P = P' ++ [y] := by
    rcases List.eq_nil_or_concat P with rfl | ⟨P', y, rfl⟩
    · simp at hp
    · exact ⟨P', y, by simp⟩
  have hj : P'.length = j := by simp at hp; exact hp
  have hy : ((P' ++ [y]) ++ x :: M ++ S).getD j stk0 = y := by
    rw [List.getD_eq_getElem?_getD, List.append_assoc, List.append_assoc, List.getElem?_append_right (by omega), hj, Nat.sub_self]; rfl
  rw [hy] at hn
  rw [List.reverse_append] at hr
  have e : insR x ([y].reverse ++ P'.reverse) = x :: y :: P'.reverse := by show insR x (y :: P'.reverse) = _; unfold insR; rw [if_neg hn]
  rw [e] at hr
  rw [← hr]
  simp
theorem InSt.swap {x : Stk} {S R d : List Stk} {j : Nat} (h : InSt x S R d (j + 1)) (hn : x.1 < (d.getD j stk0).1) : InSt x S R ((d.set (j + 1) (d.getD j stk0)).set j x) j := by
  obtain ⟨P, M, rfl, hp, hr⟩ := h.ex
  obtain ⟨P', y, rfl⟩ : ∃ P' y, P = P' ++ [y] := by
    rcases List.eq_nil_or_concat P with rfl | ⟨P', y, rfl⟩
    · simp at hp
    · exact ⟨P', y, by simp⟩
  have hj : P'.length = j := by simp at hp; exact hp
  have hy : ((P' ++ [y]) ++ x :: M ++ S).getD j stk0 = y := by
    rw [List.getD_eq_getElem?_getD, List.append_assoc, List.append_assoc, List.getElem?_append_right (by omega), hj, Nat.sub_self]; rfl
  rw [hy] at hn ⊢
  rw [List.reverse_append] at hr
  have e : insR x ([y].reverse ++ P'.reverse) = y :: insR x P'.reverse := by show insR x (y :: P'.reverse) = _; rw [insR, if_pos hn]
  rw [e] at hr
  refine ⟨P', y :: M, ?_, hj, ?_⟩
  · have e1 : (P' ++ [y]) ++ x :: M ++ S = P' ++ (y :: x :: (M ++ S)) := by simp
    rw [e1, List.set_append, if_neg (by omega), List.set_append, if_neg (by simp; omega)]
    have e2 : j + 1 - P'.length = 1 := by omega
    have e3 : j - P'.length = 0 := by omega
    rw [e2, e3]
    simp
  · rw [← hr]; simp
theorem InSt.len {x : Stk} {S R d : List Stk} {j : Nat} (h : InSt x S R d j) : j < d.length := by
  obtain ⟨P, M, rfl, rfl, _⟩ := h.ex
  simp
structure SoSt (b : Nat) (w wr : World) (d : List Stk) : Prop where
  at_ : StksAt wr b d
  own : Own1 b w wr
theorem Own1.trans {n : Nat} {A B C : World} (h : Own1 n A B) (k : Own1 n B C) : Own1 n A C := ⟨h.1.trans k.1, fun i hi hn => (k.2 i (Nat.lt_of_lt_of_le hi h.1.size) hn).trans (h.2 i hi hn)⟩
theorem Own1.setCell {n : Nat} {A : World} (j : Nat) (v : Value) : Own1 n A (A.setCell ⟨n, j, none⟩ v) := ⟨(Below.refl _ _).setCell (p := ⟨n, j, none⟩) (Nat.le_refl _) _, fun k _ hne => Below.heap_setCell _ _ _ _ (fun e => hne (by first | exact e | exact e.symm))⟩
theorem SoSt.ext {b : Nat} {w A B : World} {d : List Stk} (h : SoSt b w A d) (k : Ext A B) (hb : b < A.heap.size) : SoSt b w B d := ⟨h.at_.ext k, h.own.trans (Own1.ext k (Nat.le_of_lt hb))⟩
set_option maxHeartbeats 8000000 in
set_option maxRecDepth 100000 in
theorem insertion_any (l : List Stk) (b cap : Nat) (w : World) (hl : l.length ≤ 12) (h : StksAt w b l) (hb : b < w.heap.size) :
    Calls Tryd.prog 90 #[.slice (some ⟨b, 0, none⟩) l.length cap, .int .i64 0, .int .i64 (l.length : Int), .func (.func 69) #[] #[]] w fun e w' => e = .returned (.tuple #[]) ∧ SoSt b w w' (isortK l) := by
  have M0 : Hid (SoSt b w w (sortedTo l 1)) := ⟨by rw [sortedTo_one]; exact h, Own1.ext (Ext.refl _) (Nat.le_of_lt hb)⟩
  clear h
  go_enter Tryd.func90, Tryd.ntmps90
  go_wp2
  go_loopw [8] (fun i wr => ∃ k : Nat, 1 ≤ k ∧ (k ≤ l.length ∨ k = 1) ∧ i = .int .i64 k ∧ Hid (SoSt b w wr (sortedTo l k))) (fun i _ => l.length + 1 - (intOf i).toNat)
  case atStart => exact ⟨1, by omega, .inr rfl, rfl, M0⟩
  case round =>
    obtain ⟨k, hk1, hk, rfl, M⟩ := hrel
    clear M0
    by_cases hlt : k < l.length
    · have hs := InSt.start l hlt
      have HSU := Lib.hid (sortedTo_succ l hlt)
      have hdl := sortedTo_length l k
      generalize (insR (l.getD k stk0) (sortR (l.take k).reverse)).reverse = R at hs HSU
      generalize l.getD k stk0 = x at hs HSU
      generalize l.drop (k + 1) = S at hs HSU
      obtain ⟨d, hd⟩ : ∃ d, d = sortedTo l k := ⟨_, rfl⟩
      rw [← hd] at hs M hdl
      have HIN := Lib.hid hs
      clear hd hs
      go_wp2
      obtain ⟨wo, rfl⟩ : ∃ wo : World, wo = wr := ⟨_, rfl⟩
      go_loopw [9] (fun i wr => ∃ j : Nat, j ≤ k ∧ i = .int .i64 j ∧ ∃ d : List Stk, d.length = l.length ∧ Hid (InSt x S R d j) ∧ Hid (SoSt b w wr d)) (fun i _ => (intOf i).toNat)
      case atStart => exact ⟨k, Nat.le_refl _, rfl, d, hdl, HIN, M⟩
      case round =>
        clear M HIN
        obtain ⟨j, hj, rfl, d', hdl', HIN, M⟩ := hrel
        have zb : b < wr.heap.size := Nat.lt_of_lt_of_le hb M.out.own.1.size
        by_cases hj0 : j = 0
        · subst hj0
          have ME : Hid (SoSt b w wr (sortedTo l (k + 1))) := by
            show SoSt _ _ _ _
            rw [HSU.out, ← HIN.out.zero]; exact M.out
          go_wp2
          go_quiet (fail)
          go_wp2
          refine ⟨⟨k + 1, by omega, .inl (by omega), by go_num, ME.out.ext extA zb⟩, by simp [intOf]; omega⟩
        · obtain ⟨q, rfl⟩ : ∃ q, j = q + 1 := ⟨j - 1, by omega⟩
          clear hj0
          have hjl := HIN.out.len
          obtain ⟨⟨e1, e2⟩, e3, e4⟩ := M.out.at_ (q + 1) (by omega)
          obtain ⟨⟨f1, f2⟩, f3, f4⟩ := M.out.at_ q (by omega)
          rw [HIN.out.at] at e1 e2
          have HST := Lib.hid (fun hn => HIN.out.stop hn)
          have HSW := Lib.hid (fun hn => HIN.out.swap hn)
          generalize d'.getD q stk0 = y at f1 f2 HST HSW
          have z1 := cell_lt e1
          have hq2 : ((q : Int) + 1 - 1).toNat = q := by omega
          have hq3 : ((q + 1 : Nat) : Int) - 1 = (q : Int) := by omega
          have hq4 : IntKind.i64.wrap (((q + 1 : Nat) : Int) - 1) = (q : Int) := by rw [hq3]; exact IntWalk.i64_in _ (by omega)
          have hq5 : decide (((q + 1 : Nat) : Int) > 0) = true := by simp
          have hgt : (0 : Int) < ((q + 1 : Nat) : Int) := by omega
          have hq6 : (0 : Int) ≤ (q : Int) := by omega
          have hq7 : (q : Int) < (l.length : Int) := by omega
          have hq8 : (q : Int) + 1 < (l.length : Int) := by omega
          have hq9 : q < l.length := by omega
          have hq11 : (0 : Int) ≤ (q : Int) + 1 := by omega
          have hq10 : q + 1 < l.length := by omega
          by_cases hlt2 : x.1 < y.1
          · have hc : cmpI x.1 y.1 = -1 := by unfold cmpI; rw [if_pos hlt2]
            have HC := Lib.hid hc
            clear hc
            go_wp2
            have hwq : IntKind.i64.wrap (q : Int) = (q : Int) := IntWalk.i64_in _ (by omega)
            go_region_held3 (fun w' => Sees wr w') ((repeat (first | exact Sees.refl _ | assumption | apply Sees.drew | apply Sees.alloc | (refine Sees.ext ?_ (by assumption))))) (first | (go_at_call 69; refine (sorted1_any x y _).mono ?_; rintro e w' ⟨rfl, hE⟩; rw [HC.out]))
            have hSee : Sees wr w' := by assumption
            have M2 : Hid (SoSt b w w' d') := M.out.ext hSee.2.2 zb
            have zb2 : b < w'.heap.size := Nat.lt_of_lt_of_le zb hSee.2.2.size
            clear M
            go_wp2
            refine wp_region_heldE 15 (fun w'' => w''.cell? ⟨b, (q + 1) * 2, none⟩ = some (.int .i64 x.1) ∧ w''.cell? ⟨b, (q + 1) * 2 + 1, none⟩ = some (.bool x.2) ∧ w''.cell? ⟨b, q * 2, none⟩ = some (.int .i64 y.1) ∧ w''.cell? ⟨b, q * 2 + 1, none⟩ = some (.bool y.2)) (by kernel_rfl) ?_
            have ED : Ext w' w'.drew := extA
            have EA := hSee.2.2.trans ED
            have e3 := (Below.frozen (p := ⟨b, (q + 1) * 2, none⟩) EA (cell_lt e1)).trans e3
            have e4 := (Below.frozen (p := ⟨b, (q + 1) * 2 + 1, none⟩) EA (cell_lt e2)).trans e4
            have f3 := (Below.frozen (p := ⟨b, q * 2, none⟩) EA (cell_lt f1)).trans f3
            have f4 := (Below.frozen (p := ⟨b, q * 2 + 1, none⟩) EA (cell_lt f2)).trans f4
            have e1 := EA.cell e1
            have e2 := EA.cell e2
            have f1 := EA.cell f1
            have f2 := EA.cell f2
            have M3 : Hid (SoSt b w w'.drew d') := M2.out.ext ED zb2
            clear M2
            have hS : w'.drew.cell? ⟨b, (q + 1) * 2, none⟩ = some (.int .i64 x.1) ∧ w'.drew.cell? ⟨b, (q + 1) * 2 + 1, none⟩ = some (.bool x.2) ∧ w'.drew.cell? ⟨b, q * 2, none⟩ = some (.int .i64 y.1) ∧ w'.drew.cell? ⟨b, q * 2 + 1, none⟩ = some (.bool y.2) := ⟨e1, e2, f1, f2⟩
            generalize w'.drew = W at M3 e1 e2 e3 e4 f1 f2 f3 f4 hS ⊢
            ((refine eTk 0 ?_); (refine eTk 1 ?_); (refine eTk 5 ?_); (refine eTk 6 ?_); (refine eTk 7 ?_); (refine eTk 8 ?_); (refine eTk 9 ?_))
            ((refine ePu 2 ?_); (refine ePu 3 ?_); (refine ePu 4 ?_); (refine ePu 10 ?_); (refine ePu 11 ?_); (refine ePu 12 ?_))
            (refine eTk 13 ?_)
            (refine ePu 14 ?_)
            (refine wpAnyE_free (i := 15) (o := ?_) ?_ (by kernel_rfl) (by kernel_rfl) (fun K hK => ?_); rotate_left; (focus ((simp only [List.getElem?_toArray, List.getElem?_cons_succ, List.getElem?_cons_zero]; exact rfl))); go_simp; refine hK.out _ _ ?_; clear hK K; (try simp only [Act.put, List.setIfInBounds_toArray, List.set_cons_zero, List.set_cons_succ]))
            (refine ePu 16 ?_)
            (refine wpAnyE_free (i := 17) (o := ?_) ?_ (by kernel_rfl) (by kernel_rfl) (fun K hK => ?_); rotate_left; (focus ((simp only [List.getElem?_toArray, List.getElem?_cons_succ, List.getElem?_cons_zero]; exact rfl))); go_simp; refine hK.out _ _ ?_; clear hK K; (try simp only [Act.put, List.setIfInBounds_toArray, List.set_cons_zero, List.set_cons_succ]))
            refine wpAnyE_done (by kernel_rfl) ?_ _
            have hsoA : StksAt ((W.setCell ⟨b, (q + 1) * 2, none⟩ (.int .i64 y.1)).setCell ⟨b, (q + 1) * 2 + 1, none⟩ (.bool y.2)) b (d'.set (q + 1) y) := M3.out.at_.set hjl y
            have hsoB : StksAt ((((W.setCell ⟨b, (q + 1) * 2, none⟩ (.int .i64 y.1)).setCell ⟨b, (q + 1) * 2 + 1, none⟩ (.bool y.2)).setCell ⟨b, q * 2, none⟩ (.int .i64 x.1)).setCell ⟨b, q * 2 + 1, none⟩ (.bool x.2)) b ((d'.set (q + 1) y).set q x) := hsoA.set (by rw [List.length_set]; omega) x
            have hoB : Own1 b w ((((W.setCell ⟨b, (q + 1) * 2, none⟩ (.int .i64 y.1)).setCell ⟨b, (q + 1) * 2 + 1, none⟩ (.bool y.2)).setCell ⟨b, q * 2, none⟩ (.int .i64 x.1)).setCell ⟨b, q * 2 + 1, none⟩ (.bool x.2)) := (((M3.out.own.trans (Own1.setCell _ _)).trans (Own1.setCell _ _)).trans (Own1.setCell _ _)).trans (Own1.setCell _ _)
            have M4 : Hid (SoSt b w ((((W.setCell ⟨b, (q + 1) * 2, none⟩ (.int .i64 y.1)).setCell ⟨b, (q + 1) * 2 + 1, none⟩ (.bool y.2)).setCell ⟨b, q * 2, none⟩ (.int .i64 x.1)).setCell ⟨b, q * 2 + 1, none⟩ (.bool x.2)) ((d'.set (q + 1) y).set q x)) := ⟨hsoB, hoB⟩
            have hb4 : b < ((((W.setCell ⟨b, (q + 1) * 2, none⟩ (.int .i64 y.1)).setCell ⟨b, (q + 1) * 2 + 1, none⟩ (.bool y.2)).setCell ⟨b, q * 2, none⟩ (.int .i64 x.1)).setCell ⟨b, q * 2 + 1, none⟩ (.bool x.2)).heap.size := Nat.lt_of_lt_of_le hb hoB.1.size
            have HI4 : Hid (InSt x S R ((d'.set (q + 1) y).set q x) q) := HSW.out hlt2
            have hl4 : ((d'.set (q + 1) y).set q x).length = l.length := by rw [List.length_set, List.length_set]; exact hdl'
            clear hsoA hsoB hoB e1 e2 e3 e4 f1 f2 f3 f4 hS M3
            generalize ((((W.setCell ⟨b, (q + 1) * 2, none⟩ (.int .i64 y.1)).setCell ⟨b, (q + 1) * 2 + 1, none⟩ (.bool y.2)).setCell ⟨b, q * 2, none⟩ (.int .i64 x.1)).setCell ⟨b, q * 2 + 1, none⟩ (.bool x.2)) = W5 at M4 hb4 ⊢
            generalize (d'.set (q + 1) y).set q x = d5 at M4 HI4 hl4
            go_wp2
            refine ⟨⟨q, by omega, by go_num, d5, hl4, HI4, M4.out.ext extA hb4⟩, by simp [intOf]⟩
          · have hc : 0 ≤ cmpI x.1 y.1 := by unfold cmpI; rw [if_neg hlt2]; split <;> omega
            have HC := Lib.hid hc
            clear hc
            have hd5 := HST.out hlt2
            have ME : Hid (SoSt b w wr (sortedTo l (k + 1))) := by
              show SoSt _ _ _ _
              rw [HSU.out, ← hd5]; exact M.out
            clear hd5
            go_wp2
            have hwq : IntKind.i64.wrap (q : Int) = (q : Int) := IntWalk.i64_in _ (by omega)
            have hcn : ¬ cmpI x.1 y.1 < 0 := by have := HC.out; omega
            go_region_held3 (fun w' => Sees wr w') ((repeat (first | exact Sees.refl _ | assumption | apply Sees.drew | apply Sees.alloc | (refine Sees.ext ?_ (by assumption))))) (first | (go_at_call 69; refine (sorted1_any x y _).mono ?_; rintro e w' ⟨rfl, hE⟩))
            have hSee : Sees wr w' := by assumption
            have M2 : Hid (SoSt b w w' (sortedTo l (k + 1))) := ME.out.ext hSee.2.2 zb
            have zb2 : b < w'.heap.size := Nat.lt_of_lt_of_le zb hSee.2.2.size
            clear M ME hSee
            go_wp2
            refine ⟨⟨k + 1, by omega, .inl (by omega), by go_num, M2.out.ext extA zb2⟩, by simp [intOf]; omega⟩
    · have ME : Hid (SoSt b w wr (isortK l)) := by
        show SoSt _ _ _ _
        rcases hk with hk | hk
        · have : k = l.length := by omega
          subst this
          rw [← sortedTo_end]; exact M.out
        · subst hk
          have h0 : l.length ≤ 1 := by omega
          have : isortK l = sortedTo l 1 := by
            rw [sortedTo_one]
            match l, h0 with
            | [], _ => rfl
            | [y], _ => rfl
          rw [this]; exact M.out
      clear M
      go_wp2
      exact bodyPost_end (v := .tuple #[]) (results_none rfl _ _ _) rfl ⟨rfl, ME.out⟩
end Go.Proofs.YtdolibeceijnnaaDoor
namespace Go.Proofs.YtdolibeceijnnaaDoor
open Go.RowKit
set_option maxHeartbeats 8000000 in
set_option maxRecDepth 100000 in
theorem len64_any (x : Int) (w : World) (h0 : 0 ≤ x) (h1 : x < 256) : Calls Tryd.prog 99 #[.int .u64 x] w fun e w' => (∃ m : Int, e = .returned (.int .i64 m)) ∧ w' = w := by
  go_enter Tryd.func99, Tryd.ntmps99
  go_wp2
  exact bodyPost_ret (results_tmp rfl _ _ _) rfl ⟨⟨_, rfl⟩, rfl⟩
set_option maxHeartbeats 8000000 in
set_option maxRecDepth 100000 in
theorem len_any (x : Int) (w : World) (h0 : 0 ≤ x) (h1 : x < 256) : Calls Tryd.prog 82 #[.int .u64 x] w fun e w' => (∃ m : Int, e = .returned (.int .i64 m)) ∧ w' = w := by
  go_enter Tryd.func82, Tryd.ntmps82
  go_wp2_with (go_at_call 99; refine (len64_any x _ h0 h1).mono ?_; rintro e w' ⟨⟨m, rfl⟩, rfl⟩)
  exact bodyPost_ret (results_tmp rfl _ _ _) rfl ⟨⟨_, rfl⟩, rfl⟩
theorem pdq_any (l : List Stk) (b cap : Nat) (m : Int) (w : World) (hl : l.length ≤ 12) (h : StksAt w b l) (hb : b < w.heap.size) :
    Calls Tryd.prog 81 #[.slice (some ⟨b, 0, none⟩) l.length cap, .int .i64 0, .int .i64 (l.length : Int), .int .i64 m, .func (.func 69) #[] #[]] w fun e w' => e = .returned (.tuple #[]) ∧ SoSt b w w' (isortK l) := by
  have HS := Lib.hid h
  clear h
  go_enter Tryd.func81, Tryd.ntmps81
  go_wp2
  go_loopw [1, 2] (fun i j wr => i = .int .i64 0 ∧ j = .int .i64 (l.length : Int) ∧ wr = w) (fun _ _ _ => 0)
  case atStart => exact ⟨rfl, rfl, rfl⟩
  case round =>
    obtain ⟨rfl, rfl, rfl⟩ := hrel
    have hw : IntKind.i64.wrap ((l.length : Int) - 0) = (l.length : Int) := IntWalk.i64_in _ (by omega)
    have hle : ((l.length : Int) ≤ 12) := by omega
    go_wp2_with (go_at_call 90; refine (insertion_any l b cap _ hl HS.out hb).mono ?_; rintro e w' ⟨rfl, hso⟩; have HSO := Lib.hid hso; clear hso)
    exact bodyPost_ret (v := .tuple #[]) (results_none rfl _ _ _) rfl ⟨rfl, HSO.out⟩
set_option maxHeartbeats 8000000 in
set_option maxRecDepth 100000 in
theorem SortFunc_any (l : List Stk) (b cap : Nat) (w : World) (hl : l.length ≤ 12) (h : StksAt w b l) (hb : b < w.heap.size) :
    Calls Tryd.prog 68 #[.slice (some ⟨b, 0, none⟩) l.length cap, .func (.func 69) #[] #[]] w fun e w' => e = .returned (.tuple #[]) ∧ SoSt b w w' (isortK l) := by
  have HS := Lib.hid h
  clear h
  go_enter Tryd.func68, Tryd.ntmps68
  have h0 : (0 : Int) ≤ (l.length : Int) := by omega
  have h1 : (l.length : Int) < 256 := by omega
  have hw : IntKind.u64.wrap (l.length : Int) = (l.length : Int) := by show (l.length : Int) % 2 ^ 64 = _; omega
  go_wp2_with (first | (go_at_call 82; refine (len_any (l.length : Int) _ h0 h1).mono ?_; rintro e w' ⟨⟨m, rfl⟩, rfl⟩) | (go_at_call 81; refine (pdq_any l b cap _ _ hl HS.out hb).mono ?_; rintro e w' ⟨rfl, hso⟩; have HSO := Lib.hid hso; clear hso))
  exact bodyPost_end (v := .tuple #[]) (results_none rfl _ _ _) rfl ⟨rfl, HSO.out⟩
set_option maxHeartbeats 8000000 in
set_option maxRecDepth 100000 in
theorem sorted_any (l : List Stk) (b cap : Nat) (w : World) (hl : l.length ≤ 12) (h : StksAt w b l) (hb : b < w.heap.size) :
    Calls Tryd.prog 48 #[.slice (some ⟨b, 0, none⟩) l.length cap] w fun e w' => e = .returned (.slice (some ⟨b, 0, none⟩) l.length cap) ∧ SoSt b w w' (isortK l) := by
  have HS := Lib.hid h
  clear h
  go_enter Tryd.func48, Tryd.ntmps48
  go_wp2_with (go_at_call 68; refine (SortFunc_any l b cap _ hl HS.out hb).mono ?_; rintro e w' ⟨rfl, hso⟩; have HSO := Lib.hid hso; clear hso)
  exact bodyPost_ret (results_tmp rfl _ _ _) rfl ⟨rfl, HSO.out⟩
end Go.Proofs.YtdolibeceijnnaaDoor
namespace Go.Proofs.YtdolibeceijnnaaDoor
open Go.RowKit
end Go.Proofs.YtdolibeceijnnaaDoor
namespace Go.Proofs.YtdolibeceijnnaaDoor
open Go.RowKit
end Go.Proofs.YtdolibeceijnnaaDoor
namespace Go.Proofs.YtdolibeceijnnaaDoor
open Go.RowKit
end Go.Proofs.YtdolibeceijnnaaDoor
namespace Go.Proofs.YtdolibeceijnnaaDoor
open Go.RowKit
theorem flat2_set (l : List (Value × Value)) : ∀ (k : Nat), k < l.length → ∀ p : Value × Value, ((flat2 l).set (k * 2) p.1).set (k * 2 + 1) p.2 = flat2 (l.set k p) := by
  induction l with
  | nil => intro k hk; simp at hk
  | cons x l ih =>
    intro k hk p
    cases k with
    | zero => simp [flat2]
    | succ k =>
      have := ih k (by simpa using hk) p
      rw [show (k + 1) * 2 = k * 2 + 1 + 1 by omega]
      simp only [flat2, List.flatMap_cons, List.set_cons_succ, List.cons_append, List.nil_append] at this ⊢
      rw [this]
theorem flat2_take (l : List (Value × Value)) : ∀ k, (flat2 l).take (k * 2) = flat2 (l.take k) := by
  induction l with
  | nil => intro k; simp [flat2]
  | cons x l ih =>
    intro k
    cases k with
    | zero => simp [flat2]
    | succ k =>
      have := ih k
      rw [show (k + 1) * 2 = k * 2 + 1 + 1 by omega]
      simp only [flat2, List.flatMap_cons, List.take_succ_cons, List.cons_append, List.nil_append] at this ⊢
      rw [this]
theorem flat2_drop (l : List (Value × Value)) : ∀ k, (flat2 l).drop (k * 2) = flat2 (l.drop k) := by
  induction l with
  | nil => intro k; simp [flat2]
  | cons x l ih =>
    intro k
    cases k with
    | zero => simp [flat2]
    | succ k =>
      have := ih k
      rw [show (k + 1) * 2 = k * 2 + 1 + 1 by omega]
      simp only [flat2, List.flatMap_cons, List.drop_succ_cons, List.cons_append, List.nil_append] at this ⊢
      rw [this]
theorem Chg.cell {B : Nat → Prop} {A C : World} (h : Chg B A C) {p : Addr} {v : Value} (hp : ¬ B p.block) (hc : A.cell? p = some v) : C.cell? p = some v := (World.cell?_of_block (h.2 p.block (cell_lt hc) hp)).trans hc
theorem Chg.frozen {B : Nat → Prop} {A C : World} (h : Chg B A C) {p : Addr} {v : Value} (hp : ¬ B p.block) (hc : A.cell? p = some v) : C.frozen? p = A.frozen? p := World.frozen?_of_block (h.2 p.block (cell_lt hc) hp)
theorem pairP_set (ps : List (Value × Stp)) (k : Nat) (p : Value × Stp) : pairP (ps.set k p) = (pairP ps).set k (p.1, .int .i64 p.2.2) := by unfold pairP; rw [List.map_set]
theorem OwnsP.put {X : Nat → Prop} {A : World} {l : List Stp} {g vc : Nat} (h : OwnsP X A (.slice (some ⟨g, 0, none⟩) l.length vc) l) (k : Nat) (hk : k < l.length) (sv : Value) (y : Stp) :
    ∃ ps : List (Value × Stp), ps.map (·.2) = l ∧ (∀ p ∈ ps, SliceKX (fun b => X b ∨ b = g) A p.1 p.2.1) ∧
      ((A.setCell ⟨g, k * 2, none⟩ sv).setCell ⟨g, k * 2 + 1, none⟩ (.int .i64 y.2)).ownsRow 0 65 2 (.slice (some ⟨g, 0, none⟩) l.length vc) l.length (flat2 (pairP (ps.set k (sv, y)))) ∧
      (∃ u1, A.cell? ⟨g, k * 2, none⟩ = some u1) ∧ (∃ u2, A.cell? ⟨g, k * 2 + 1, none⟩ = some u2) ∧ A.frozen? ⟨g, k * 2, none⟩ = false ∧ A.frozen? ⟨g, k * 2 + 1, none⟩ = false := by
  obtain ⟨ps, h1, h2, h3⟩ := h
  have hl : ps.length = l.length := by rw [← h1]; simp
  have hg := flat2_get (pairP ps) k (by simp [pairP, hl]; exact hk)
  refine ⟨ps, h1, fun p hp => (h3 p hp).monoX (fun b hb => hb.imp id (fun e => by rw [e]; rfl)), ?_, ⟨_, (h2.cellAt _ (by omega)).trans hg.1⟩, ⟨_, (h2.cellAt _ (by omega)).trans hg.2⟩, h2.frozenAt _, h2.frozenAt _⟩
  have s1 := (h2.stored (k * 2) sv).1
  have s2 := (s1.stored (k * 2 + 1) (.int .i64 y.2)).1
  rw [flat2_set (pairP ps) k (by simp [pairP, hl]; exact hk) (sv, .int .i64 y.2)] at s2
  rw [pairP_set]
  exact s2
theorem Asc.diff {l : List Stk} (h : Asc l) : Diff l := h.imp fun hab e => by omega
theorem ckStrokes_asc {l : List Stk} {z : Int} (h : ckStrokes z l = 0) : Asc l ∧ ∀ y ∈ l, z < y.1 := by
  induction l generalizing z with
  | nil => exact ⟨List.Pairwise.nil, fun y hy => by cases hy⟩
  | cons x l ih =>
    unfold ckStrokes at h
    by_cases h1 : x.1 < 0 ∨ 6 ≤ x.1
    · rw [if_pos h1] at h; cases h
    · rw [if_neg h1] at h
      by_cases h2 : x.1 = z
      · rw [if_pos h2] at h; cases h
      · rw [if_neg h2] at h
        by_cases h3 : x.1 < z
        · rw [if_pos h3] at h; cases h
        · rw [if_neg h3] at h
          obtain ⟨i1, i2⟩ := ih h
          refine ⟨List.Pairwise.cons (fun y hy => i2 y hy) i1, fun y hy => ?_⟩
          rcases List.mem_cons.1 hy with rfl | hy
          · omega
          · have := i2 y hy; omega
theorem OwnsP.up {X : Nat → Prop} {A : World} {v : Value} {ys : List Stp} (h : OwnsP X A v ys) : OwnsP (fun b => X b ∨ A.heap.size ≤ b) A v ys := by
  obtain ⟨ps, h1, h2, h3⟩ := h
  refine ⟨ps, h1, h2, fun p hp => (h3 p hp).chgX (Chg.refl _ A) (fun b hb hh => ?_)⟩
  rcases hh with (hh | hh) | hh
  · exact .inl hh
  · omega
  · exact .inr hh
theorem OwnsK.stksAt {A : World} {v : Value} {l : List Stk} (h : OwnsK A v l) (h0 : 0 < l.length) : ∃ b cap, v = .slice (some ⟨b, 0, none⟩) l.length cap ∧ StksAt A b l ∧ v.ownBlock = some b := by
  obtain ⟨a, cap, hv, hc, hm, hf⟩ := h.reads
  obtain ⟨b, off, ha, _, _⟩ := hc 0 h0
  have hne : l ≠ [] := List.length_pos_iff.1 h0
  obtain ⟨e0, hb, hfr⟩ := hf b off ha hne
  subst e0
  refine ⟨b, cap, by rw [hv, ha], fun i hi => ?_, hb⟩
  obtain ⟨b', off', e, c1, c2⟩ := hc i hi
  rw [ha] at e
  cases e
  rw [Nat.zero_add] at c1 c2
  exact ⟨⟨c1, c2⟩, (hfr i hi).1, (hfr i hi).2⟩
theorem StksAt.slice {A : World} {b cap : Nat} {l : List Stk} (h : StksAt A b l) (hm : l.length ≤ maxLen) : SliceK A (.slice (some ⟨b, 0, none⟩) l.length cap) l :=
  ⟨_, cap, rfl, fun i hi => ⟨b, 0, rfl, by rw [Nat.zero_add]; exact (h i hi).1.1, by rw [Nat.zero_add]; exact (h i hi).1.2⟩, hm⟩
end Go.Proofs.YtdolibeceijnnaaDoor
namespace Go.Proofs.YtdolibeceijnnaaDoor
open Go.RowKit
end Go.Proofs.YtdolibeceijnnaaDoor
namespace Go.Proofs.YtdolibeceijnnaaDoor
open Go.RowKit
theorem ownsK_succ {w : World} {v : Value} {l : List Stk} {x : Stk} (h : w.ownsRow 0 67 2 v (l.length + 1) (flatK l ++ [.int .i64 x.1, .bool x.2])) : OwnsK w v (l ++ [x]) := by
  unfold OwnsK
  rw [List.length_append, flatK_append]
  exact h
end Go.Proofs.YtdolibeceijnnaaDoor
namespace Go.Proofs.YtdolibeceijnnaaDoor
open Go.RowKit
set_option maxHeartbeats 1000000 in
theorem placeR_any (l : List Int) (x : Int) (a : Option Addr) (cap : Nat) (w : World) (hl : l.length ≤ maxLen) (hc : CellsI w a l) :
    Calls Tryd.prog 41 #[.slice a l.length cap, .int .i64 x] w (AnyPost (mem1 l x) w) := by
  unfold maxLen at hl
  have HC := Lib.hid hc
  clear hc
  go_enter Tryd.func41, Tryd.ntmps41
  go_wp2
  go_loop [5] (fun i => ∃ k : Nat, k ≤ l.length ∧ i = .int .i64 k ∧ Hid (∀ j : Nat, j < k → l.getD j 0 ≠ x)) (fun i => l.length - (intOf i).toNat)
  case atStart => exact ⟨0, Nat.zero_le _, rfl, fun j hj => by omega⟩
  case round =>
    obtain ⟨k, hk, rfl, hnn⟩ := hrel
    by_cases hlt : k < l.length
    · obtain ⟨b, off, rfl, c1⟩ := HC.out k hlt
      by_cases hx : l.getD k 0 = x
      · have HB : Hid (mem1 l x = true) := by
          show _ = _
          unfold mem1
          rw [List.contains_iff_mem, ← hx, List.getD_eq_getElem?_getD, List.getElem?_eq_getElem hlt]
          simp
        rw [hx] at c1
        have hxx : (x == x) = true := by simp
        clear hx
        go_wp2
        go_ret
        exact ⟨(k : Int), rfl, by rw [HB.out]; simp, Ext.refl _⟩
      · have HX := Lib.hid hx
        have hx' : (l.getD k 0 == x) = false := by simpa using hx
        clear hx
        generalize hy : l.getD k 0 = y at c1 HX hx'
        have HY := Lib.hid hy
        clear hy
        go_wp2
        refine ⟨⟨k + 1, by omega, by go_num, fun j hj => ?_⟩, by simp [intOf]; omega⟩
        rcases Nat.lt_or_eq_of_le (Nat.le_of_lt_succ hj) with h | rfl
        · exact hnn.out j h
        · rw [HY.out]; exact HX.out
    · have HB : Hid (mem1 l x = false) := by
        show _ = _
        unfold mem1
        rw [← Bool.not_eq_true, List.contains_iff_mem]
        intro hm
        obtain ⟨j, hj, e⟩ := List.mem_iff_getElem.1 hm
        refine hnn.out j (by omega) ?_
        rw [List.getD_eq_getElem?_getD, List.getElem?_eq_getElem hj, e]; rfl
      go_wp2
      go_ret
      exact ⟨-1, rfl, by rw [HB.out]; simp, Ext.refl _⟩
theorem drop_end (l : List Int) {k : Nat} (h : l.length ≤ k) : l.drop k = [] := List.drop_eq_nil_of_le h
end Go.Proofs.YtdolibeceijnnaaDoor
namespace Go.Proofs.YtdolibeceijnnaaDoor
open Go.RowKit
end Go.Proofs.YtdolibeceijnnaaDoor
namespace Go.Proofs.YtdolibeceijnnaaDoor
open Go.RowKit
theorem renGo_drop (n : Int) (l : List Int) (k : Nat) (h : k < l.length) (r : Int) (e : renGo n (l.take k) (l.drop k) = r) :
    ((l.getD k 0 < 0 ∨ n ≤ l.getD k 0) → r = 2) ∧ (¬ (l.getD k 0 < 0 ∨ n ≤ l.getD k 0) → (mem1 (l.take k) (l.getD k 0) = true → r = 7) ∧ (mem1 (l.take k) (l.getD k 0) = false → renGo n (l.take (k + 1)) (l.drop (k + 1)) = r)) := by
  rw [drop_cons l 0 h] at e
  unfold renGo at e
  refine ⟨fun h1 => ?_, fun h1 => ⟨fun h2 => ?_, fun h2 => ?_⟩⟩
  · rw [if_pos h1] at e; exact e.symm
  · unfold mem1 at h2; rw [if_neg h1, if_pos h2] at e; exact e.symm
  · rw [if_neg h1, if_neg (by unfold mem1 at h2; rw [h2]; decide)] at e
    rw [List.take_succ_eq_append_getElem h]
    rw [List.getD_eq_getElem?_getD, List.getElem?_eq_getElem h] at e
    exact e
theorem CellsI.take {w : World} {a : Option Addr} {l : List Int} (h : CellsI w a l) (k : Nat) : CellsI w a (l.take k) := fun i hi => by
  rw [List.length_take] at hi
  have e : (l.take k).getD i 0 = l.getD i 0 := by
    rw [List.getD_eq_getElem?_getD, List.getD_eq_getElem?_getD, List.getElem?_take_of_lt (by omega)]
  rw [e]
  exact h i (by omega)
set_option maxHeartbeats 4000000 in
theorem RenamingR_any (l : List Int) (n : Int) (a : Option Addr) (cap : Nat) (w : World) (_hl : l.length ≤ maxLen) (hcap : l.length ≤ cap) (hcm : cap ≤ maxLen) (hc : CellsI w a l) :
    Calls Tryd.prog 14 #[.slice a l.length cap, .int .i64 n] w fun r w' => r = .returned (.int .i64 (renE l n)) ∧ Ext w w' := by
  have HC := Lib.hid hc
  unfold maxLen at _hl hcm
  clear hc
  by_cases hn : (l.length : Int) = n
  · subst hn
    have hre : Hid (renE l (l.length : Int) = renGo (l.length : Int) [] l) := by show _ = _; unfold renE; rw [if_neg (by simp)]
    have hnn : ((l.length : Int) != (l.length : Int)) = false := by simp
    go_enter Tryd.func14, Tryd.ntmps14
    go_wp2
    go_loopw [5] (fun i wr => ∃ k : Nat, k ≤ l.length ∧ i = .int .i64 k ∧ Hid (renGo (l.length : Int) (l.take k) (l.drop k) = renGo (l.length : Int) [] l) ∧ Ext w wr) (fun i _ => l.length - (intOf i).toNat)
    case atStart => exact ⟨0, Nat.zero_le _, rfl, by show _ = _; rfl, Ext.refl _⟩
    case round =>
      obtain ⟨k, hk, rfl, hz, he⟩ := hrel
      by_cases hlt : k < l.length
      · obtain ⟨b, off, rfl, c1⟩ := HC.out k hlt
        have c1 := he.cell c1
        have HZ := Lib.hid (renGo_drop (l.length : Int) l k hlt _ hz.out)
        have HT : Hid (CellsI wr (some ⟨b, off, none⟩) (l.take k)) := (HC.out.ext he).take k
        clear hz
        generalize l.getD k 0 = x at c1 HZ
        have z1 := cell_lt c1
        dsimp only at z1
        by_cases h2 : x < 0
        · have HE := Lib.hid (HZ.out.1 (.inl h2))
          clear HZ
          go_wp2
          go_ret
          exact ⟨ret_int (by rw [hre.out, HE.out]), he⟩
        · by_cases h3 : (l.length : Int) ≤ x
          · have HE := Lib.hid (HZ.out.1 (.inr h3))
            clear HZ
            go_wp2
            go_ret
            exact ⟨ret_int (by rw [hre.out, HE.out]), he⟩
          · have HZ2 := Lib.hid (HZ.out.2 (by omega))
            have hkc : k ≤ cap := by omega
            obtain ⟨T, hT⟩ : ∃ T, T = l.take k := ⟨_, rfl⟩
            have hTl : T.length = k := by rw [hT, List.length_take]; omega
            rw [← hT] at HT HZ2
            have HPL := Lib.hid (placeR_any T x (some ⟨b, off, none⟩) cap)
            rw [hTl] at HPL
            have HTL := Lib.hid hTl
            clear hT hTl HZ
            go_wp2
            go_region_held3 (fun w' => Sees wr w') ((repeat (first | exact Sees.refl _ | assumption | apply Sees.drew | apply Sees.alloc | (refine Sees.ext ?_ (by assumption))))) (first | (go_at_call 41; refine (HPL.out _ (by unfold maxLen; omega) (HT.out.ext (by exact (show Sees wr _ by assumption).2.2))).mono ?_; rintro e w' ⟨r, rfl, hr, hE⟩; have HRR := Lib.hid hr; clear hr))
            have hSee : Sees wr w' := by assumption
            have E5 : Ext w w' := he.trans hSee.2.2
            clear hSee
            cases hm : mem1 T x
            · have HZ3 := Lib.hid (HZ2.out.2 hm)
              rw [hm] at HRR
              have hr2 : ¬ (0 ≤ r) := by simpa using HRR.out
              clear HZ2 HRR hm
              go_wp2
              refine ⟨⟨k + 1, by omega, by go_num, HZ3, E5⟩, by simp [intOf]; omega⟩
            · have HZ3 := Lib.hid (HZ2.out.1 hm)
              rw [hm] at HRR
              have hr2 : 0 ≤ r := by simpa using HRR.out
              clear HZ2 HRR hm
              go_wp2
              go_ret
              exact ⟨ret_int (by rw [hre.out, HZ3.out]), E5⟩
      · have hz2 := hz.out
        rw [drop_end l (k := k) (by omega)] at hz2
        have HZ3 := Lib.hid hz2
        clear hz hz2
        go_wp2
        go_ret
        exact ⟨ret_int (by rw [hre.out, ← HZ3.out]; rfl), he⟩
  · have hnn : ((l.length : Int) != n) = true := by simpa using hn
    have hre : Hid (renE l n = 8) := by show _ = _; unfold renE; rw [if_pos hn]
    clear hn
    go_enter Tryd.func14, Tryd.ntmps14
    go_wp2
    go_ret
    exact ⟨ret_int (by rw [hre.out]), Ext.refl _⟩
end Go.Proofs.YtdolibeceijnnaaDoor
namespace Go.Proofs.YtdolibeceijnnaaDoor
open Go.RowKit
end Go.Proofs.YtdolibeceijnnaaDoor
namespace Go.Proofs.YtdolibeceijnnaaDoor
open Go.RowKit
end Go.Proofs.YtdolibeceijnnaaDoor
namespace Go.Proofs.YtdolibeceijnnaaDoor
open Go.RowKit
end Go.Proofs.YtdolibeceijnnaaDoor
namespace Go.Proofs.YtdolibeceijnnaaDoor
open Go.RowKit
end Go.Proofs.YtdolibeceijnnaaDoor
namespace Go.Proofs.YtdolibeceijnnaaDoor
open Go.RowKit
def insI (c : Int → Int → Int) (x : Int) : List Int → List Int
  | [] => [x]
  | y :: r => if c x y < 0 then y :: insI c x r else x :: y :: r
def sortI (c : Int → Int → Int) : List Int → List Int
  | [] => []
  | x :: r => insI c x (sortI c r)
theorem insI_length (c : Int → Int → Int) (x : Int) (r : List Int) : (insI c x r).length = r.length + 1 := by
  induction r with
  | nil => rfl
  | cons y r ih => unfold insI; split <;> simp [ih]
theorem sortI_length (c : Int → Int → Int) (r : List Int) : (sortI c r).length = r.length := by
  induction r with
  | nil => rfl
  | cons x r ih => unfold sortI; rw [insI_length, ih]; rfl
def sortedI (c : Int → Int → Int) (l : List Int) (i : Nat) : List Int := (sortI c (l.take i).reverse).reverse ++ l.drop i
structure InI (c : Int → Int → Int) (x : Int) (S R d : List Int) (j : Nat) : Prop where
  ex : ∃ P M, d = P ++ x :: M ++ S ∧ P.length = j ∧ (insI c x P.reverse).reverse ++ M = R
theorem InI.start (c : Int → Int → Int) (l : List Int) {i : Nat} (h : i < l.length) : InI c (l.getD i 0) (l.drop (i + 1)) (insI c (l.getD i 0) (sortI c (l.take i).reverse)).reverse (sortedI c l i) i :=
  ⟨(sortI c (l.take i).reverse).reverse, [], by unfold sortedI; rw [drop_cons l 0 h]; simp, by rw [List.length_reverse, sortI_length, List.length_reverse, List.length_take]; omega, by rw [List.reverse_reverse, List.append_nil]⟩
theorem InI.at {c : Int → Int → Int} {x : Int} {S R d : List Int} {j : Nat} (h : InI c x S R d j) : d.getD j 0 = x := by
  obtain ⟨P, M, rfl, rfl, _⟩ := h.ex
  rw [List.append_assoc, List.getD_eq_getElem?_getD, List.getElem?_append_right (Nat.le_refl _), Nat.sub_self]; rfl
theorem InI.zero {c : Int → Int → Int} {x : Int} {S R d : List Int} (h : InI c x S R d 0) : d = R ++ S := by
  obtain ⟨P, M, rfl, hp, hr⟩ := h.ex
  have : P = [] := List.eq_nil_of_length_eq_zero hp
  subst this
  rw [← hr]; rfl
theorem InI.stop {c : Int → Int → Int} {x : Int} {S R d : List Int} {j : Nat} (h : InI c x S R d (j + 1)) (hn : ¬ c x (d.getD j 0) < 0) : d = R ++ S := by
  obtain ⟨P, M, rfl, hp, hr⟩ := h.ex
  obtain ⟨P', y, rfl⟩ : ∃ P' y, P = P' ++ [y] := by
    rcases List.eq_nil_or_concat P with rfl | ⟨P', y, rfl⟩
    · simp at hp
    · exact ⟨P', y, by simp⟩
  have hj : P'.length = j := by simp at hp; exact hp
  have hy : ((P' ++ [y]) ++ x :: M ++ S).getD j 0 = y := by
    rw [List.getD_eq_getElem?_getD, List.append_assoc, List.append_assoc, List.getElem?_append_right (by omega), hj, Nat.sub_self]; rfl
  rw [hy] at hn
  rw [List.reverse_append] at hr
  have e : insI c x ([y].reverse ++ P'.reverse) = x :: y :: P'.reverse := by show insI c x (y :: P'.reverse) = _; unfold insI; rw [if_neg hn]
  rw [e] at hr
  rw [← hr]
  simp
theorem InI.swap {c : Int → Int → Int} {x : Int} {S R d : List Int} {j : Nat} (h : InI c x S R d (j + 1)) (hn : c x (d.getD j 0) < 0) : InI c x S R ((d.set (j + 1) (d.getD j 0)).set j x) j := by
  obtain ⟨P, M, rfl, hp, hr⟩ := h.ex
  obtain ⟨P', y, rfl⟩ : ∃ P' y, P = P' ++ [y] := by
    rcases List.eq_nil_or_concat P with rfl | ⟨P', y, rfl⟩
    · simp at hp
    · exact ⟨P', y, by simp⟩
  have hj : P'.length = j := by simp at hp; exact hp
  have hy : ((P' ++ [y]) ++ x :: M ++ S).getD j 0 = y := by
    rw [List.getD_eq_getElem?_getD, List.append_assoc, List.append_assoc, List.getElem?_append_right (by omega), hj, Nat.sub_self]; rfl
  rw [hy] at hn ⊢
  rw [List.reverse_append] at hr
  have e : insI c x ([y].reverse ++ P'.reverse) = y :: insI c x P'.reverse := by show insI c x (y :: P'.reverse) = _; rw [insI, if_pos hn]
  rw [e] at hr
  refine ⟨P', y :: M, ?_, hj, ?_⟩
  · have e1 : (P' ++ [y]) ++ x :: M ++ S = P' ++ (y :: x :: (M ++ S)) := by simp
    rw [e1, List.set_append, if_neg (by omega), List.set_append, if_neg (by simp; omega)]
    have e2 : j + 1 - P'.length = 1 := by omega
    have e3 : j - P'.length = 0 := by omega
    rw [e2, e3]
    simp
  · rw [← hr]; simp
theorem InI.len {c : Int → Int → Int} {x : Int} {S R d : List Int} {j : Nat} (h : InI c x S R d j) : j < d.length := by
  obtain ⟨P, M, rfl, rfl, _⟩ := h.ex
  simp
def IntsAt (w : World) (b : Nat) (d : List Int) : Prop := ∀ i, i < d.length → w.cell? ⟨b, i, none⟩ = some (.int .i64 (d.getD i 0)) ∧ w.frozen? ⟨b, i, none⟩ = false
theorem IntsAt.ext {A B : World} {b : Nat} {d : List Int} (h : IntsAt A b d) (k : Ext A B) : IntsAt B b d := fun i hi => by
  obtain ⟨h1, h3⟩ := h i hi
  exact ⟨k.cell h1, (Below.frozen (p := ⟨b, _, none⟩) k (cell_lt h1)).trans h3⟩
theorem IntsAt.set {w : World} {b : Nat} {d : List Int} (h : IntsAt w b d) {i : Nat} (hi : i < d.length) (x : Int) : IntsAt (w.setCell ⟨b, i, none⟩ (.int .i64 x)) b (d.set i x) := fun j hj => by
  rw [List.length_set] at hj
  obtain ⟨h1, h3⟩ := h j hj
  obtain ⟨k1, _⟩ := h i hi
  refine ⟨?_, by rw [World.frozen?_setCell]; exact h3⟩
  by_cases e : i = j
  · subst e
    rw [World.cell?_setCell_same _ _ _ k1]
    simp [List.getD_eq_getElem?_getD, hi]
  · rw [World.cell?_setCell_other _ _ _ _ (fun h => by simp only [Addr.mk.injEq] at h; omega), h1]
    simp [List.getD_eq_getElem?_getD, e]
structure SiSt (b : Nat) (w wr : World) (d : List Int) : Prop where
  at_ : IntsAt wr b d
  own : Own1 b w wr
theorem SiSt.ext {b : Nat} {w A B : World} {d : List Int} (h : SiSt b w A d) (k : Ext A B) (hb : b < A.heap.size) : SiSt b w B d := ⟨h.at_.ext k, h.own.trans (Own1.ext k (Nat.le_of_lt hb))⟩
end Go.Proofs.YtdolibeceijnnaaDoor
namespace Go.Proofs.YtdolibeceijnnaaDoor
open Go.RowKit
end Go.Proofs.YtdolibeceijnnaaDoor
namespace Go.Proofs.YtdolibeceijnnaaDoor
open Go.RowKit
def bf (l : List Stp) (b a : Int) : Bool := lexLt (movesOf l b) (movesOf l a) || (decide (b < a) && (movesOf l b == movesOf l a))
theorem ints_length (n : Int) : (ints n).length = n.toNat := by unfold ints; simp
theorem ints_mem {n a : Int} : a ∈ ints n ↔ 0 ≤ a ∧ a < n := by
  unfold ints
  rw [List.mem_map]
  constructor
  · rintro ⟨k, hk, rfl⟩
    rw [List.mem_range] at hk
    show (0 : Int) ≤ (k : Int) ∧ (k : Int) < n
    omega
  · intro h
    exact ⟨a.toNat, by rw [List.mem_range]; omega, by show ((a.toNat : Nat) : Int) = a; omega⟩
end Go.Proofs.YtdolibeceijnnaaDoor
namespace Go.Proofs.YtdolibeceijnnaaDoor
open Go.RowKit
theorem step_append_run {P : Program} {ops : Array Oper} {o : Oper} {a : Act} {w : World} {K : Act → World → Prop} {Q : Exit → Act → World → Prop} {E : Prop} (hgd : o.guard = none) (s x : Operand) (t u : TypeId)
    (ho : o.op = .call { callee := .builtin .append, args := #[s, x], argTypes := #[t, u] }) (v y : Value) (hs : a.eval s = v) (hx : a.eval x = y)
    (v' : Value) (w' : World) (hr : (Builtin.append_ #[t, u] o.type #[v, y]).run P w = .ok v' w')
    (h : K (a.put o.dst v') w') :
    if Region.wanted o (yielded ops a.tmps) = true then Oper.wp P o a w K Q else E := by
  have hw : Region.wanted o (yielded ops a.tmps) = true := by simp [Region.wanted, hgd]
  rw [if_pos hw]
  unfold Oper.wp execOp
  simp only [ho, resolve, invoke, builtin, Sem.run_bind, Sem.run_pure, Result.andThen_ok, List.map_toArray, List.map_cons, List.map_nil, hs, hx, hr]
  exact h
theorem PairsAt.take {w : World} {b off : Nat} {ps : List (Value × Stp)} (h : PairsAt w (some ⟨b, off, none⟩) ps) (k : Nat) : PairsAt w (some ⟨b, off, none⟩) (ps.take k) := by
  refine ⟨?_, fun p hp => h.2.1 p (List.mem_of_mem_take hp), fun u hu => ?_⟩
  · right
    refine ⟨b, off, rfl, fun j u hu => ?_⟩
    rcases h.1 with e | ⟨b', off', e, hc⟩
    · rw [e, List.take_nil] at hu; simp [pairP, flat2] at hu
    · cases e
      refine hc j u ?_
      have e2 : flat2 (pairP (ps.take k)) = (flat2 (pairP ps)).take (k * 2) := by rw [flat2_take]; unfold pairP; rw [List.map_take]
      rw [e2] at hu
      exact List.getElem?_eq_some_iff.2 (by
        obtain ⟨h1, h2⟩ := List.getElem?_eq_some_iff.1 hu
        rw [List.length_take] at h1
        exact ⟨by omega, by rw [← h2, List.getElem_take]⟩)
  · have e2 : flat2 (pairP (ps.take k)) = (flat2 (pairP ps)).take (k * 2) := by rw [flat2_take]; unfold pairP; rw [List.map_take]
    rw [e2] at hu
    exact h.2.2 u (List.mem_of_mem_take hu)
theorem PairsAt.drop {w : World} {b off : Nat} {ps : List (Value × Stp)} (h : PairsAt w (some ⟨b, off, none⟩) ps) (k : Nat) : PairsAt w (some ⟨b, off + k * 2, none⟩) (ps.drop k) := by
  have e2 : flat2 (pairP (ps.drop k)) = (flat2 (pairP ps)).drop (k * 2) := by rw [flat2_drop]; unfold pairP; rw [List.map_drop]
  refine ⟨.inr ⟨b, off + k * 2, rfl, fun j u hu => ?_⟩, fun p hp => h.2.1 p (List.mem_of_mem_drop hp), fun u hu => ?_⟩
  · rw [e2, List.getElem?_drop] at hu
    rcases h.1 with e | ⟨b', off', e, hc⟩
    · rw [e] at hu; simp [pairP, flat2] at hu
    · cases e
      have := hc _ u hu
      rw [Addr.add_lit] at this ⊢
      rw [Nat.add_assoc]
      exact this
  · rw [e2] at hu
    exact h.2.2 u (List.mem_of_mem_drop hu)
theorem PairsAt.nil (w : World) (a : Option Addr) : PairsAt w a [] := ⟨.inl rfl, (fun p hp => by cases hp), (fun u hu => by simp [pairP, flat2] at hu)⟩
end Go.Proofs.YtdolibeceijnnaaDoor
namespace Go.Proofs.YtdolibeceijnnaaDoor
open Go.RowKit
end Go.Proofs.YtdolibeceijnnaaDoor
namespace Go.Proofs.YtdolibeceijnnaaDoor
open Go.RowKit
end Go.Proofs.YtdolibeceijnnaaDoor
namespace Go.Proofs.YtdolibeceijnnaaDoor
open Go.RowKit
theorem Full.append {l q : List Stp} (h : Full l) (k : Full q) : Full (l ++ q) := fun i hi => by
  rw [List.getD_eq_getElem?_getD]
  by_cases c : i < l.length
  · rw [List.getElem?_append_left c]
    have := h i c
    rw [List.getD_eq_getElem?_getD] at this
    exact this
  · rw [List.getElem?_append_right (by omega)]
    have := k (i - l.length) (by rw [List.length_append] at hi; omega)
    rw [List.getD_eq_getElem?_getD] at this
    exact this
end Go.Proofs.YtdolibeceijnnaaDoor
namespace Go.Proofs.YtdolibeceijnnaaDoor
open Go.RowKit
structure BkSt (o : Nat) (wa : Int) (W0 wr : World) (ys : List Stk) : Prop where
  be : Below o W0 wr
  c1 : wr.cell? ⟨o, 1, none⟩ = some (.int .i64 wa)
  f0 : wr.frozen? ⟨o, 0, none⟩ = false
  v : ∃ v, wr.cell? ⟨o, 0, none⟩ = some v ∧ OwnsK wr v ys ∧ ∀ b, v.ownBlock = some b → o < b
end Go.Proofs.YtdolibeceijnnaaDoor
namespace Go.Proofs.YtdolibeceijnnaaDoor
open Go.RowKit
end Go.Proofs.YtdolibeceijnnaaDoor
namespace Go.Proofs.YtdolibeceijnnaaDoor
open Go.RowKit
open Go.Maps
def MapAt (w : World) (b m : Nat) (f : Int → Int) : Prop :=
  ∃ D : DataW Unit, w.ownsMap Tryd.prog 3 (plainElem Tryd.prog 3) b m D ∧ IsMap D ∧ ∀ a : Int, D.atKey (.int .i64 a) (.lit (.int .i64 0)) = .lit (.int .i64 (f a))
theorem listFn_take (l : List Int) (k : Nat) (_h : k < l.length) (a : Int) : listFn (l.take (k + 1)) a = if a = (k : Int) then l.getD k 0 else listFn (l.take k) a := by
  unfold listFn
  by_cases h0 : a < 0
  · rw [if_pos h0, if_pos h0, if_neg (by omega)]
  · rw [if_neg h0, if_neg h0]
    by_cases h1 : a = (k : Int)
    · rw [if_pos h1, List.getD_eq_getElem?_getD, List.getElem?_take, if_pos (by omega), List.getD_eq_getElem?_getD, show a.toNat = k by omega]
    · rw [if_neg h1, List.getD_eq_getElem?_getD, List.getElem?_take, List.getD_eq_getElem?_getD (l := l.take k), List.getElem?_take]
      by_cases h2 : a.toNat < k
      · rw [if_pos (by omega), if_pos h2]
      · rw [if_neg (by omega), if_neg h2]
theorem wfInt (x : Int) (h : 0 ≤ x ∧ x < 1000) : (Lit.int .i64 x).wf = true := by
  have h1 : IntKind.i64.min = -9223372036854775808 := by decide
  have h2 : IntKind.i64.max = 9223372036854775807 := by decide
  simp [Lit.wf, h1, h2]; omega
theorem plainInt (x : Int) (h : 0 ≤ x ∧ x < 1000) : plainElem (H := Unit) Tryd.prog 3 (.int .i64 x) = some (.lit (.int .i64 x), []) := by
  simp [plainElem, Tryd.underlying3, wfInt x h]
theorem keyInt (x : Int) (h : 0 ≤ x ∧ x < 1000) : keyOf Tryd.prog 3 (.int .i64 x) = some (.int .i64 x) := by simp [keyOf, mapKey, Tryd.underlying3, wfInt x h]
theorem isKeyInt (x : Int) : WideAt.IsKeyLit (.int .i64 x) := by trivial
theorem MapAt.new (w : World) : MapAt (w.alloc (.map #[] 0)) w.heap.size 0 (listFn []) :=
  ⟨.map [], World.ownsMap_made w _ _ _, ⟨[], rfl⟩, fun a => by
    have : listFn [] a = 0 := by unfold listFn; simp
    rw [this]; rfl⟩
theorem grown_below {w w' : World} {b B : Nat} (h : w.grownBy w' (some b)) (hb : B ≤ b) (hB : B ≤ w.heap.size) : Below B w w' :=
  ⟨h.os, h.tape, h.output, h.size, fun k hk => h.block k (Nat.lt_of_lt_of_le hk hB) (fun e => by injection e with e; omega)⟩
set_option maxHeartbeats 4000000 in
set_option maxRecDepth 100000 in
theorem letters_any (l : List Int) (a : Option Addr) (cap : Nat) (w : World) (hl : l.length ≤ 100) (hc : CellsI w a l) (hx : ∀ k, k < l.length → 0 ≤ l.getD k 0 ∧ l.getD k 0 < 1000) :
    Calls Tryd.prog 43 #[.slice a l.length cap] w fun r w' => ∃ b, r = .returned (.map (some b)) ∧ MapAt w' b l.length (listFn l) ∧ w.heap.size ≤ b ∧ Ext w w' := by
  have HC := Lib.hid hc
  have HX := Lib.hid hx
  clear hc hx
  have hmm : ∀ (t : TypeId) (w : World), (Instr.makeMap t none).run Tryd.prog w = .ok (.map (some w.heap.size)) (w.alloc (.map #[] 0)) := fun _ _ => rfl
  go_enter Tryd.func43, Tryd.ntmps43
  go_wp2
  have M0 : Hid (MapAt (w.alloc (.map #[] 0)) w.heap.size 0 (listFn (l.take 0))) := MapAt.new w
  have E1 : Ext w (w.alloc (.map #[] 0)) := extA
  have hz1 : w.heap.size < (w.alloc (.map #[] 0)).heap.size := by show _ < (w.heap.push _).size; rw [Array.size_push]; omega
  obtain ⟨b, hb⟩ : ∃ b, b = w.heap.size := ⟨_, rfl⟩
  rw [← hb] at M0 hz1 ⊢
  have HB := Lib.hid hb
  clear hb
  generalize w.alloc (.map #[] 0) = W at M0 E1 hz1 ⊢
  go_loopw [9] (fun i wr => ∃ k : Nat, k ≤ l.length ∧ i = .int .i64 k ∧ Hid (MapAt wr b k (listFn (l.take k))) ∧ Ext w wr ∧ b < wr.heap.size) (fun i _ => l.length - (intOf i).toNat)
  case atStart => exact ⟨0, Nat.zero_le _, rfl, M0, E1, hz1⟩
  case round =>
    obtain ⟨k, hk, rfl, M, he, hbz⟩ := hrel
    by_cases hlt : k < l.length
    · obtain ⟨kb, ko, ha, c1⟩ := HC.out k hlt
      subst ha
      have c1 := he.cell c1
      have HXK := Lib.hid (HX.out k hlt)
      have HFN := Lib.hid (listFn_take l k hlt)
      generalize l.getD k 0 = x at c1 HXK HFN
      obtain ⟨D, hown, hm, hat⟩ := M.out
      have HOWN := Lib.hid hown
      have HM := Lib.hid hm
      have HAT := Lib.hid hat
      clear hown hm hat M
      go_wp2_with (first | (at_mapUpdate; refine wpList_mapUpdate_own _ rfl _ _ _ 80 rfl 3 3 (int_keyed Tryd.underlying3) Tryd.underlying80 _ b k D rfl HOWN.out (by unfold maxLen; omega) _ _ (.int .i64 k) rfl rfl (keyInt _ (by omega)) (.lit (.int .i64 x)) [] (plainInt _ HXK.out) ?_; intro w5 hown5 hgr5) | fail)
      have MN : Hid (MapAt w5 b (k + 1) (listFn (l.take (k + 1)))) := by
        refine ⟨_, hown5, HM.out.put _ _, fun z => ?_⟩
        rw [HFN.out z]
        by_cases hz : z = (k : Int)
        · subst hz
          rw [if_pos rfl]
          exact atKey_put_same HM.out (isKeyInt _) _ _
        · rw [if_neg hz, atKey_put_other (by intro h; injection h with _ h; exact hz h)]
          exact HAT.out z
      have he5 : Ext w w5 := he.trans' (grown_below hgr5 (Nat.le_refl b) (Nat.le_of_lt hbz)) (Nat.le_of_eq HB.out.symm)
      have hbz5 : b < w5.heap.size := Nat.lt_of_lt_of_le hbz hgr5.size
      clear hown5 hgr5 HOWN HM HAT
      go_wp2
      refine ⟨⟨k + 1, by omega, by go_num, MN, he5, hbz5⟩, by simp [intOf]; omega⟩
    · have hke : k = l.length := by omega
      subst hke
      go_wp2
      go_ret
      exact ⟨b, rfl, by have := M.out; rwa [List.take_length] at this, Nat.le_of_eq HB.out.symm, he⟩
end Go.Proofs.YtdolibeceijnnaaDoor
namespace Go.Proofs.YtdolibeceijnnaaDoor
open Go.RowKit
open Go.Maps
def renTo (f : Int → Int) (st : List Stk) (k : Nat) : List Stk := (st.take k).map (fun y => (f y.1, y.2)) ++ st.drop k
theorem renTo_zero (f : Int → Int) (st : List Stk) : renTo f st 0 = st := by simp [renTo]
theorem renTo_end (f : Int → Int) (st : List Stk) : renTo f st st.length = st.map (fun y => (f y.1, y.2)) := by simp [renTo]
theorem renTo_len (f : Int → Int) (st : List Stk) (k : Nat) : (renTo f st k).length = st.length := by
  unfold renTo
  rw [List.length_append, List.length_map, List.length_take, List.length_drop]; omega
theorem renTo_at (f : Int → Int) (st : List Stk) {k : Nat} (h : k < st.length) : (renTo f st k).getD k stk0 = st.getD k stk0 := by
  unfold renTo
  rw [List.getD_eq_getElem?_getD, List.getElem?_append_right (by simp; omega), List.getD_eq_getElem?_getD, List.getElem?_drop]
  congr 2
  simp
  omega
theorem renTo_succ (f : Int → Int) (st : List Stk) {k : Nat} (h : k < st.length) : renTo f st (k + 1) = (renTo f st k).set k (f (st.getD k stk0).1, (st.getD k stk0).2) := by
  unfold renTo
  rw [List.set_append, if_neg (by simp; omega), drop_cons st stk0 h]
  have : k - ((st.take k).map (fun y : Stk => (f y.1, y.2))).length = 0 := by simp; omega
  rw [this, List.set_cons_zero, List.take_succ_eq_append_getElem h, List.map_append, List.append_assoc]
  congr 1
  rw [List.getD_eq_getElem?_getD, List.getElem?_eq_getElem h]
  rfl
theorem MapAt.same {A B : World} {b m : Nat} {f : Int → Int} (h : MapAt A b m f) (e : B.heap[b]? = A.heap[b]?) : MapAt B b m f := by
  obtain ⟨D, ⟨es, ck, h1, h2, h3, h4⟩, h5, h6⟩ := h
  exact ⟨D, ⟨es, ck, e.trans h1, h2, h3, h4⟩, h5, h6⟩
theorem MapAt.lt {A : World} {b m : Nat} {f : Int → Int} (h : MapAt A b m f) : b < A.heap.size := by
  obtain ⟨D, h1, _⟩ := h
  exact h1.lt
theorem MapAt.ext {A B : World} {b m : Nat} {f : Int → Int} (h : MapAt A b m f) (k : Ext A B) : MapAt B b m f := h.same (Below.block k b h.lt)
theorem Own1.cell {n : Nat} {A B : World} (h : Own1 n A B) {p : Addr} {v : Value} (hp : p.block ≠ n) (hc : A.cell? p = some v) : B.cell? p = some v :=
  (World.cell?_of_block (h.2 p.block (cell_lt hc) hp)).trans hc
theorem Own1.frozen {n : Nat} {A B : World} (h : Own1 n A B) {p : Addr} {v : Value} (hp : p.block ≠ n) (hc : A.cell? p = some v) : B.frozen? p = A.frozen? p :=
  World.frozen?_of_block (h.2 p.block (cell_lt hc) hp)
theorem StksAt.set1 {w : World} {b : Nat} {d : List Stk} (h : StksAt w b d) {i : Nat} (hi : i < d.length) (x : Int) : StksAt (w.setCell ⟨b, i * 2, none⟩ (.int .i64 x)) b (d.set i (x, (d.getD i stk0).2)) := fun j hj => by
  rw [List.length_set] at hj
  obtain ⟨⟨h1, h2⟩, h3, h4⟩ := h j hj
  have g2 : (w.setCell ⟨b, i * 2, none⟩ (.int .i64 x)).cell? ⟨b, j * 2 + 1, none⟩ = some (.bool (d.getD j stk0).2) := by
    rw [World.cell?_setCell_other _ _ _ _ (fun h => by simp only [Addr.mk.injEq] at h; omega)]; exact h2
  refine ⟨?_, by rw [World.frozen?_setCell]; exact h3, by rw [World.frozen?_setCell]; exact h4⟩
  by_cases hij : j = i
  · subst hij
    have e : (d.set j (x, (d.getD j stk0).2)).getD j stk0 = (x, (d.getD j stk0).2) := by simp [List.getD_eq_getElem?_getD, hi]
    rw [e]
    exact ⟨World.cell?_setCell_same _ _ _ h1, g2⟩
  · have e : (d.set i (x, (d.getD i stk0).2)).getD j stk0 = d.getD j stk0 := by simp [List.getD_eq_getElem?_getD, Ne.symm hij]
    rw [e]
    exact ⟨by rw [World.cell?_setCell_other _ _ _ _ (fun h => by simp only [Addr.mk.injEq] at h; omega)]; exact h1, g2⟩
set_option maxHeartbeats 8000000 in
set_option maxRecDepth 100000 in
theorem renamed1_any (st : List Stk) (wait : Int) (k0 : Nat) (v : Value) (pb mb m : Nat) (f : Int → Int) (w : World) (h0 : 0 < st.length) (h12 : st.length ≤ 12) (_hm : m ≤ 1000) (ho : OwnsK w v st)
    (hp : w.cell? ⟨pb, 0, none⟩ = some (.map (some mb))) (hM : MapAt w mb m f) (hpb : ∀ b, v.ownBlock = some b → b ≠ pb ∧ b ≠ mb)
    (hx : ∀ i, i < st.length → 0 ≤ (st.getD i stk0).1 ∧ (st.getD i stk0).1 < 6) (hd : Diff (st.map fun y => (f y.1, y.2))) (hf : ∀ y ∈ st, 0 ≤ f y.1 ∧ f y.1 < 6) :
    Calls Tryd.prog 65 #[.int .i64 (k0 : Int), .agg #[v, .int .i64 wait], .pointer (some ⟨pb, 0, none⟩)] w (ChPost (renStep f (st, wait)) v w) := by
  obtain ⟨b, cap, rfl, hst, hvb⟩ := ho.stksAt h0
  obtain ⟨hb1, hb2⟩ := hpb b hvb
  have hb : b < w.heap.size := rowLt ho hvb
  have hml : st.length ≤ maxLen := by unfold maxLen; omega
  have HX := Lib.hid hx
  have HMM := Lib.hid hM
  have HE : Hid (isortK (renTo f st st.length) = (renStep f (st, wait)).1) := by
    show _ = _
    rw [renTo_end]
    exact isortK_ordered hd (fun y hy => by obtain ⟨z, hz, rfl⟩ := List.mem_map.1 hy; exact hf z hz)
  have HW : Hid ((renStep f (st, wait)).2 = wait) := rfl
  obtain ⟨q, hq⟩ : ∃ q, q = renStep f (st, wait) := ⟨_, rfl⟩
  rw [← hq] at HE HW ⊢
  clear hq hd hf hx hpb ho hM
  have zp := cell_lt hp
  dsimp only at zp
  go_enter Tryd.func65, Tryd.ntmps65
  go_wp2
  have E1 : Ext w ((w.alloc (.cells #[.slice (some ⟨b, 0, none⟩) st.length cap, .int .i64 wait] 65)).alloc (.cells #[.slice none 0 0, .int .i64 0] 65)) := extA
  have c0 : ((w.alloc (.cells #[.slice (some ⟨b, 0, none⟩) st.length cap, .int .i64 wait] 65)).alloc (.cells #[.slice none 0 0, .int .i64 0] 65)).cell? ⟨w.heap.size, 0, none⟩ = some (.slice (some ⟨b, 0, none⟩) st.length cap) := by go_simp
  have c1 : ((w.alloc (.cells #[.slice (some ⟨b, 0, none⟩) st.length cap, .int .i64 wait] 65)).alloc (.cells #[.slice none 0 0, .int .i64 0] 65)).cell? ⟨w.heap.size, 1, none⟩ = some (.int .i64 wait) := by go_simp
  have c2 : ((w.alloc (.cells #[.slice (some ⟨b, 0, none⟩) st.length cap, .int .i64 wait] 65)).alloc (.cells #[.slice none 0 0, .int .i64 0] 65)).cell? ⟨w.heap.size + 1, 0, none⟩ = some (.slice none 0 0) := by go_simp
  have c3 : ((w.alloc (.cells #[.slice (some ⟨b, 0, none⟩) st.length cap, .int .i64 wait] 65)).alloc (.cells #[.slice none 0 0, .int .i64 0] 65)).cell? ⟨w.heap.size + 1, 1, none⟩ = some (.int .i64 0) := by go_simp
  have f0 : ((w.alloc (.cells #[.slice (some ⟨b, 0, none⟩) st.length cap, .int .i64 wait] 65)).alloc (.cells #[.slice none 0 0, .int .i64 0] 65)).frozen? ⟨w.heap.size, 0, none⟩ = false := by go_simp
  have f2 : ((w.alloc (.cells #[.slice (some ⟨b, 0, none⟩) st.length cap, .int .i64 wait] 65)).alloc (.cells #[.slice none 0 0, .int .i64 0] 65)).frozen? ⟨w.heap.size + 1, 0, none⟩ = false := by go_simp
  have f3 : ((w.alloc (.cells #[.slice (some ⟨b, 0, none⟩) st.length cap, .int .i64 wait] 65)).alloc (.cells #[.slice none 0 0, .int .i64 0] 65)).frozen? ⟨w.heap.size + 1, 1, none⟩ = false := by go_simp
  generalize ((w.alloc (.cells #[.slice (some ⟨b, 0, none⟩) st.length cap, .int .i64 wait] 65)).alloc (.cells #[.slice none 0 0, .int .i64 0] 65)) = W at E1 c0 c1 c2 c3 f0 f2 f3 ⊢
  have hp := E1.cell hp
  have MW := Lib.hid (HMM.out.ext E1)
  have hbW := E1.size_lt hb
  have M0 : Hid (SoSt b W W (renTo f st 0)) := ⟨by rw [renTo_zero]; exact hst.ext E1, Own1.ext (Ext.refl _) (Nat.le_of_lt hbW)⟩
  clear hst
  go_loopw [11] (fun i wr => ∃ k : Nat, k ≤ st.length ∧ i = .int .i64 k ∧ Hid (SoSt b W wr (renTo f st k))) (fun i _ => st.length - (intOf i).toNat)
  case atStart => exact ⟨0, Nat.zero_le _, rfl, M0⟩
  case round =>
    obtain ⟨k, hk, rfl, M⟩ := hrel
    clear M0
    have hO := M.out.own
    have zb : b < wr.heap.size := Nat.lt_of_lt_of_le hbW hO.1.size
    have c0r := hO.cell (p := ⟨w.heap.size, 0, none⟩) (by show w.heap.size ≠ b; omega) c0
    have c1r := hO.cell (p := ⟨w.heap.size, 1, none⟩) (by show w.heap.size ≠ b; omega) c1
    have c2r := hO.cell (p := ⟨w.heap.size + 1, 0, none⟩) (by show w.heap.size + 1 ≠ b; omega) c2
    have c3r := hO.cell (p := ⟨w.heap.size + 1, 1, none⟩) (by show w.heap.size + 1 ≠ b; omega) c3
    have f0r := (hO.frozen (p := ⟨w.heap.size, 0, none⟩) (by show w.heap.size ≠ b; omega) c0).trans f0
    have f2r := (hO.frozen (p := ⟨w.heap.size + 1, 0, none⟩) (by show w.heap.size + 1 ≠ b; omega) c2).trans f2
    have f3r := (hO.frozen (p := ⟨w.heap.size + 1, 1, none⟩) (by show w.heap.size + 1 ≠ b; omega) c3).trans f3
    have hpr := hO.cell (p := ⟨pb, 0, none⟩) (by show pb ≠ b; omega) hp
    have MR := Lib.hid (MW.out.same (hO.2 mb MW.out.lt (by omega)))
    by_cases hlt : k < st.length
    · have hren := renTo_len f st k
      obtain ⟨⟨s1, s2⟩, s3, s4⟩ := M.out.at_ k (by omega)
      rw [renTo_at f st hlt] at s1 s2
      have HXK := Lib.hid (HX.out k hlt)
      have HSE : Hid (∀ A, StksAt A b (renTo f st k) → StksAt (A.setCell ⟨b, k * 2, none⟩ (.int .i64 (f (st.getD k stk0).1))) b (renTo f st (k + 1))) := fun A hA => by
        rw [renTo_succ f st hlt]
        have h9 := hA.set1 (i := k) (by omega) (f (st.getD k stk0).1)
        rw [renTo_at f st hlt] at h9
        exact h9
      generalize st.getD k stk0 = y at s1 s2 HXK HSE
      obtain ⟨ya, yo⟩ := y
      dsimp only at s1 s2 HXK HSE
      obtain ⟨D, hown, hmm, hat⟩ := MR.out
      have HOWN := Lib.hid hown
      have HAT := Lib.hid hat
      have zz := cell_lt c0r
      have zp2 := cell_lt hpr
      have EA : Ext wr (wr.alloc (.cells #[.int .i64 ya, .bool yo] 67)) := extA
      clear hown hat hmm
      go_wp2_with (first | (at_lookup; refine wpList_lookup_own_int _ rfl _ _ 80 rfl 3 3 .i64 (int_keyed Tryd.underlying3) Tryd.underlying80 Tryd.underlying3 rfl mb m D rfl (HOWN.out.alloc _) _ (.int .i64 ya) rfl (keyInt _ (by have := HXK.out; omega)) ?_; intro c hat hwc) | fail)
      have hca : c = f ya := by
        have h9 := HAT.out ya
        rw [hat] at h9
        injection h9 with h9
        injection h9
      subst hca
      clear hat hwc
      go_wp2
      have MN : Hid (SoSt b W ((wr.setCell ⟨b, k * 2, none⟩ (.int .i64 (f ya))).alloc (.cells #[.int .i64 ya, .bool yo] 67)) (renTo f st (k + 1))) := by
        have h9 : SoSt b W (wr.setCell ⟨b, k * 2, none⟩ (.int .i64 (f ya))) (renTo f st (k + 1)) := ⟨HSE.out _ M.out.at_, M.out.own.trans (Own1.setCell _ _)⟩
        exact h9.ext extA (Nat.lt_of_lt_of_le hbW h9.own.1.size)
      refine ⟨⟨k + 1, by omega, by go_num, MN⟩, by simp [intOf]; omega⟩
    · have hke : k = st.length := by omega
      subst hke
      have hren := renTo_len f st st.length
      have HSO := Lib.hid (sorted_any (renTo f st st.length) b cap wr (by omega) M.out.at_ zb)
      rw [hren] at HSO
      rw [HE.out] at HSO
      go_wp2_with fail
      refine (HSO.out).mono ?_
      rintro e w5 ⟨rfl, hS⟩
      have HS := Lib.hid hS
      have c0 := hS.own.cell (p := ⟨w.heap.size, 0, none⟩) (by show w.heap.size ≠ b; omega) c0r
      have c1 := hS.own.cell (p := ⟨w.heap.size, 1, none⟩) (by show w.heap.size ≠ b; omega) c1r
      have c2 := hS.own.cell (p := ⟨w.heap.size + 1, 0, none⟩) (by show w.heap.size + 1 ≠ b; omega) c2r
      have c3 := hS.own.cell (p := ⟨w.heap.size + 1, 1, none⟩) (by show w.heap.size + 1 ≠ b; omega) c3r
      have f0 := (hS.own.frozen (p := ⟨w.heap.size, 0, none⟩) (by show w.heap.size ≠ b; omega) c0r).trans f0r
      have f2 := (hS.own.frozen (p := ⟨w.heap.size + 1, 0, none⟩) (by show w.heap.size + 1 ≠ b; omega) c2r).trans f2r
      have f3 := (hS.own.frozen (p := ⟨w.heap.size + 1, 1, none⟩) (by show w.heap.size + 1 ≠ b; omega) c3r).trans f3r
      have B5 : Below b w w5 := (((E1.mono (Nat.le_of_lt hb)).trans hO.1).trans hS.own.1)
      clear hS c0r c1r c2r c3r f0r f2r f3r
      go_wp2
      have hl5 : q.1.length = st.length := by rw [← HE.out, isortK_length]; exact hren
      have S5 : StksAt (((w5.setCell ⟨w.heap.size, 0, none⟩ (.slice (some ⟨b, 0, none⟩) st.length cap)).setCell ⟨w.heap.size + 1, 0, none⟩ (.slice (some ⟨b, 0, none⟩) st.length cap)).setCell ⟨w.heap.size + 1, 1, none⟩ (.int .i64 wait)) b q.1 := fun i hi => by
        obtain ⟨⟨g1, g2⟩, g3, g4⟩ := HS.out.at_ i hi
        refine ⟨⟨?_, ?_⟩, ?_, ?_⟩
        · rw [World.cell?_setCell_other _ _ _ _ (fun h => by simp only [Addr.mk.injEq] at h; omega), World.cell?_setCell_other _ _ _ _ (fun h => by simp only [Addr.mk.injEq] at h; omega), World.cell?_setCell_other _ _ _ _ (fun h => by simp only [Addr.mk.injEq] at h; omega)]; exact g1
        · rw [World.cell?_setCell_other _ _ _ _ (fun h => by simp only [Addr.mk.injEq] at h; omega), World.cell?_setCell_other _ _ _ _ (fun h => by simp only [Addr.mk.injEq] at h; omega), World.cell?_setCell_other _ _ _ _ (fun h => by simp only [Addr.mk.injEq] at h; omega)]; exact g2
        · rw [World.frozen?_setCell, World.frozen?_setCell, World.frozen?_setCell]; exact g3
        · rw [World.frozen?_setCell, World.frozen?_setCell, World.frozen?_setCell]; exact g4
      refine bodyPost_ret (v := .agg #[.slice (some ⟨b, 0, none⟩) st.length cap, .int .i64 wait]) (by rw [results_cell1 rfl]; go_simp) rfl ?_
      refine ⟨.slice (some ⟨b, 0, none⟩) st.length cap, by rw [HW.out], by have h9 := S5.slice (cap := cap) (by rw [hl5]; exact hml); rw [hl5] at h9; exact h9, fun b' hb' => .inl hb', ⟨_, cap, by rw [hl5], fun b' off' h => by cases h; rfl⟩, fun n hn hv => ?_⟩
      have hnb := hv b rfl
      exact (((B5.mono hnb).setCell (p := ⟨w.heap.size, 0, none⟩) hn _).setCell (p := ⟨w.heap.size + 1, 0, none⟩) (by show n ≤ w.heap.size + 1; omega) _).setCell (p := ⟨w.heap.size + 1, 1, none⟩) (by show n ≤ w.heap.size + 1; omega) _
end Go.Proofs.YtdolibeceijnnaaDoor
namespace Go.Proofs.YtdolibeceijnnaaDoor
open Go.RowKit
open Go.Maps
def RenOk (f : Int → Int) (l : List Stp) : Prop := ∀ k, k < l.length → 0 < (l.getD k stp0).1.length ∧ (l.getD k stp0).1.length ≤ 12 ∧
  (∀ i, i < (l.getD k stp0).1.length → 0 ≤ ((l.getD k stp0).1.getD i stk0).1 ∧ ((l.getD k stp0).1.getD i stk0).1 < 6) ∧ Diff ((l.getD k stp0).1.map fun y => (f y.1, y.2)) ∧ ∀ y ∈ (l.getD k stp0).1, 0 ≤ f y.1 ∧ f y.1 < 6
theorem RenOk.full {f : Int → Int} {l : List Stp} (h : RenOk f l) : Full l := fun k hk => by
  obtain ⟨h1, h2, _⟩ := h k hk
  exact ⟨h1, by omega⟩
theorem mapK_ren (f : Int → Int) (l : List Stp) : mapK (fun _ x => renStep f x) l l.length = l.map (renStep f) := by
  unfold mapK
  apply list_ext_getD stp0 (by simp)
  intro j hj
  have : j < l.length := by simpa using hj
  simp [List.getD, this]
theorem renamed_own (n : Int) (l : List Stp) (a : Option Addr) (cap mb m : Nat) (f : Int → Int) (w : World) (hl : l.length ≤ 200) (hr : RenOk f l) (hc : CellsP w a l) (hm : m ≤ 1000) (hM : MapAt w mb m f) :
    Calls Tryd.prog 42 #[.agg #[.int .i64 n, .slice a l.length cap], .map (some mb)] w (OwnPost (ren f (n, l)) w) := by
  have HC := Lib.hid hc
  have HR := Lib.hid hr
  have HL := Lib.hid hl
  have HM := Lib.hid hM
  have hren : Hid (ren f (n, l) = (n, mapK (fun _ x => renStep f x) l l.length)) := by show _ = _; rw [mapK_ren]; rfl
  clear hc hr hl hM
  obtain ⟨q, hq⟩ : ∃ q, q = ren f (n, l) := ⟨_, rfl⟩
  rw [← hq] at hren ⊢
  clear hq
  go_enter Tryd.func42, Tryd.ntmps42
  go_wp2_with fail
  have E1 : Ext w (((w.alloc (.cells #[.int .i64 n, .slice a l.length cap] 24)).alloc (.cells #[.map (some mb)] 80)).alloc (.cells #[.int .i64 0, .slice none 0 0] 24)) := extA
  have c0 : (((w.alloc (.cells #[.int .i64 n, .slice a l.length cap] 24)).alloc (.cells #[.map (some mb)] 80)).alloc (.cells #[.int .i64 0, .slice none 0 0] 24)).cell? ⟨w.heap.size + 1, 0, none⟩ = some (.map (some mb)) := by go_simp
  have c1 : (((w.alloc (.cells #[.int .i64 n, .slice a l.length cap] 24)).alloc (.cells #[.map (some mb)] 80)).alloc (.cells #[.int .i64 0, .slice none 0 0] 24)).cell? ⟨w.heap.size + 1 + 1, 0, none⟩ = some (.int .i64 0) := by go_simp
  have c2 : (((w.alloc (.cells #[.int .i64 n, .slice a l.length cap] 24)).alloc (.cells #[.map (some mb)] 80)).alloc (.cells #[.int .i64 0, .slice none 0 0] 24)).cell? ⟨w.heap.size + 1 + 1, 1, none⟩ = some (.slice none 0 0) := by go_simp
  have f1 : (((w.alloc (.cells #[.int .i64 n, .slice a l.length cap] 24)).alloc (.cells #[.map (some mb)] 80)).alloc (.cells #[.int .i64 0, .slice none 0 0] 24)).frozen? ⟨w.heap.size + 1 + 1, 0, none⟩ = false := by go_simp
  have f2 : (((w.alloc (.cells #[.int .i64 n, .slice a l.length cap] 24)).alloc (.cells #[.map (some mb)] 80)).alloc (.cells #[.int .i64 0, .slice none 0 0] 24)).frozen? ⟨w.heap.size + 1 + 1, 1, none⟩ = false := by go_simp
  generalize (((w.alloc (.cells #[.int .i64 n, .slice a l.length cap] 24)).alloc (.cells #[.map (some mb)] 80)).alloc (.cells #[.int .i64 0, .slice none 0 0] 24)) = W at E1 c0 c1 c2 f1 f2 ⊢
  have MW := Lib.hid (HM.out.ext E1)
  have hlt1 := cell_lt c0
  dsimp only at hlt1
  refine (mapped_own n l a cap W 65 #[.pointer (some ⟨w.heap.size + 1, 0, none⟩)] (fun _ x => renStep f x) HL.out HR.out.full (HC.out.ext E1) (enters_of Tryd.func65 (by kernel_rfl) rfl) (fun k v w' hk hE ho hb => ?_)).mono ?_
  · obtain ⟨r1, r2, r3, r4, r5⟩ := HR.out k hk
    exact renamed1_any _ _ k v (w.heap.size + 1) mb m f w' r1 r2 hm ho (hE.cell c0) (MW.out.ext hE) (fun b h => ⟨fun e => by have := hb b h; omega, fun e => by have := hb b h; have := MW.out.lt; omega⟩) r3 r4 r5
  rintro e w2 ⟨o, v, ho, rfl, hv, hob, hE⟩
  dsimp only at hv
  have HV := Lib.hid hv
  have HOB := Lib.hid hob
  have hz1 : w.heap.size + 1 + 1 < W.heap.size := cell_lt c1
  obtain ⟨ua, uc, rfl, _, _⟩ := hv.reads
  have g1 := (Below.frozen (p := ⟨w.heap.size + 1 + 1, 0, none⟩) hE (cell_lt c1)).trans f1
  have g2 := (Below.frozen (p := ⟨w.heap.size + 1 + 1, 1, none⟩) hE (cell_lt c2)).trans f2
  have c1 := hE.cell c1
  have c2 := hE.cell c2
  clear hv hob
  dsimp only
  generalize hP : mapK (fun _ x => renStep f x) l l.length = P at HV HOB hren ⊢
  clear hP
  go_wp2
  have EF : Ext w ((w2.setCell ⟨w.heap.size + 1 + 1, 0, none⟩ (.int .i64 n)).setCell ⟨w.heap.size + 1 + 1, 1, none⟩ (.slice ua P.length uc)) := extA
  have hc : Chg (fun b => b ≤ o) w2 ((w2.setCell ⟨w.heap.size + 1 + 1, 0, none⟩ (.int .i64 n)).setCell ⟨w.heap.size + 1 + 1, 1, none⟩ (.slice ua P.length uc)) :=
    (Chg.setCell (B := fun b => b ≤ o) ⟨w.heap.size + 1 + 1, 0, none⟩ _ (by show w.heap.size + 1 + 1 ≤ o; omega)).trans (Chg.setCell (B := fun b => b ≤ o) ⟨w.heap.size + 1 + 1, 1, none⟩ _ (by show w.heap.size + 1 + 1 ≤ o; omega))
  refine bodyPost_ret (v := .agg #[.int .i64 n, .slice ua P.length uc]) (by rw [results_cell1 rfl]; go_simp) rfl ?_
  rw [hren.out]
  exact ⟨o, _, by omega, rfl, HV.out.chg hc (fun b hb e => by have := HOB.out b hb; omega), HOB.out, EF⟩
end Go.Proofs.YtdolibeceijnnaaDoor
namespace Go.Proofs.YtdolibeceijnnaaDoor
open Go.RowKit
open Go.Maps
theorem ckStrokes_diff {x : Stp} (h : ckStep x = 0) : Diff x.1 := (ckStrokes_asc (ckStep_strokes h).1).1.diff
theorem renOk_inj {f : Int → Int} {n : Int} {l : List Stp} (h : Fine n l) (hi : ∀ a b, 0 ≤ a ∧ a < n → 0 ≤ b ∧ b < n → f a = f b → a = b) (hr : ∀ a, 0 ≤ a ∧ a < n → 0 ≤ f a ∧ f a < 6) : RenOk f l := fun k hk => by
  obtain ⟨h1, h2⟩ := h k hk
  have h3 := ckStep_strokes h1
  have hm : ∀ y ∈ (l.getD k stp0).1, 0 ≤ y.1 ∧ y.1 < n := fun y hy => by
    obtain ⟨j, hj, e⟩ := List.mem_iff_getElem.1 hy
    have := h2 j hj
    rw [List.getD_eq_getElem?_getD (l := (l.getD k stp0).1), List.getElem?_eq_getElem hj] at this
    rw [← e]; exact this
  refine ⟨h3.2.2.1, by omega, ckStep_known h1, ?_, fun y hy => hr _ (hm y hy)⟩
  unfold Diff
  rw [List.pairwise_map]
  refine List.Pairwise.imp_of_mem (fun {a b} ha hb hab e => hab (hi _ _ (hm a ha) (hm b hb) e)) (ckStrokes_diff h1)
theorem IntsAt.cells {A : World} {b : Nat} {l : List Int} (h : IntsAt A b l) : CellsI A (some ⟨b, 0, none⟩) l := fun i hi => ⟨b, 0, rfl, by rw [Nat.zero_add]; exact (h i hi).1⟩
end Go.Proofs.YtdolibeceijnnaaDoor
namespace Go.Proofs.YtdolibeceijnnaaDoor
open Go.RowKit
structure Bij (P : Int → Prop) (n : Int) (f g : Int → Int) : Prop where
  rng : ∀ a, P a → 0 ≤ f a ∧ f a < n
  gp : ∀ a, 0 ≤ a ∧ a < n → P (g a)
  gf : ∀ a, P a → g (f a) = a
  fg : ∀ a, 0 ≤ a ∧ a < n → f (g a) = a
theorem Bij.inj {P : Int → Prop} {n : Int} {f g : Int → Int} (h : Bij P n f g) {a b : Int} (ha : P a) (hb : P b) (e : f a = f b) : a = b := by
  rw [← h.gf a ha, ← h.gf b hb, e]
def In (n : Int) (a : Int) : Prop := 0 ≤ a ∧ a < n
def FineP (P : Int → Prop) (x : Stp) : Prop := ckStep x = 0 ∧ ∀ y ∈ x.1, P y.1
theorem FineP.asc {P : Int → Prop} {x : Stp} (h : FineP P x) : Asc x.1 := (ckStrokes_asc (ckStep_strokes h.1).1).1
theorem FineP.diff {P : Int → Prop} {x : Stp} (h : FineP P x) : Diff x.1 := h.asc.diff
theorem Fine.all {n : Int} {l : List Stp} (h : Fine n l) : ∀ x ∈ l, FineP (In n) x := fun x hx => by
  obtain ⟨k, hk, e⟩ := List.mem_iff_getElem.1 hx
  obtain ⟨h1, h2⟩ := h k hk
  rw [List.getD_eq_getElem?_getD, List.getElem?_eq_getElem hk] at h1 h2
  have h1 : ckStep l[k] = 0 := h1
  have h2 : ∀ j, j < (l[k]).1.length → 0 ≤ ((l[k]).1.getD j stk0).1 ∧ ((l[k]).1.getD j stk0).1 < n := h2
  rw [e] at h1 h2
  refine ⟨h1, fun y hy => ?_⟩
  obtain ⟨j, hj, e⟩ := List.mem_iff_getElem.1 hy
  have := h2 j hj
  rw [List.getD_eq_getElem?_getD, List.getElem?_eq_getElem hj] at this
  rw [← e]; exact this
theorem asc_ck {l : List Stk} {z : Int} (h : Asc l) (hz : ∀ y ∈ l, z < y.1) (hk : ∀ y ∈ l, 0 ≤ y.1 ∧ y.1 < 6) : ckStrokes z l = 0 := by
  induction l generalizing z with
  | nil => rfl
  | cons y l ih =>
    have h1 := hz y (List.mem_cons_self ..)
    have h2 := hk y (List.mem_cons_self ..)
    obtain ⟨p1, p2⟩ := List.pairwise_cons.1 h
    unfold ckStrokes
    rw [if_neg (by omega), if_neg (by omega), if_neg (by omega)]
    exact ih p2 p1 fun y hy => hk y (List.mem_cons_of_mem _ hy)
theorem ckStep_of {x : Stp} (h1 : 0 < x.1.length) (h2 : x.1.length ≤ 6) (h3 : ckStrokes (-1) x.1 = 0) (h4 : 0 ≤ x.2 ∧ x.2 ≤ 1000000) : ckStep x = 0 := by
  unfold ckStep
  rw [if_neg (by omega), if_neg (by omega), if_neg (by simp [h3]), if_neg (by omega)]
section
variable {P : Int → Prop} {n : Int} {f g : Int → Int}
theorem ren_diff (h : Bij P n f g) {x : Stp} (hx : FineP P x) : Diff (x.1.map fun y => (f y.1, y.2)) := by
  unfold Diff
  rw [List.pairwise_map]
  exact List.Pairwise.imp_of_mem (fun {a b} ha hb hab e => hab (h.inj (hx.2 a ha) (hx.2 b hb) e)) hx.diff
theorem ren_mem (h : Bij P n f g) (hn : n ≤ 6) {x : Stp} (hx : FineP P x) (z : Stk) : z ∈ (renStep f x).1 ↔ ∃ y ∈ x.1, (f y.1, y.2) = z := by
  show z ∈ ordered (x.1.map fun y => (f y.1, y.2)) ↔ _
  rw [ordered_mem, List.mem_map]
  refine ⟨fun h => h.1, fun h1 => ⟨h1, ?_⟩⟩
  obtain ⟨y, hy, rfl⟩ := h1
  have := h.rng _ (hx.2 y hy)
  dsimp only
  omega
theorem renStep_asc (h : Bij P n f g) {x : Stp} (hx : FineP P x) : Asc (renStep f x).1 := ordered_asc (ren_diff h hx)
theorem renStep_len (h : Bij P n f g) (hn : n ≤ 6) {x : Stp} (hx : FineP P x) : (renStep f x).1.length = x.1.length := by
  show (ordered (x.1.map fun y => (f y.1, y.2))).length = _
  rw [← isortK_ordered (ren_diff h hx), isortK_length, List.length_map]
  intro y hy
  obtain ⟨z, hz, rfl⟩ := List.mem_map.1 hy
  have := h.rng _ (hx.2 z hz)
  dsimp only
  omega
theorem renStep_fine (h : Bij P n f g) (hn : n ≤ 6) {x : Stp} (hx : FineP P x) : FineP (In n) (renStep f x) := by
  have hs := ckStep_strokes hx.1
  have hm : ∀ y ∈ (renStep f x).1, 0 ≤ y.1 ∧ y.1 < n := fun y hy => by
    obtain ⟨z, hz, rfl⟩ := (ren_mem h hn hx y).1 hy
    exact h.rng _ (hx.2 z hz)
  refine ⟨ckStep_of (by rw [renStep_len h hn hx]; omega) (by rw [renStep_len h hn hx]; omega) (asc_ck (renStep_asc h hx) (fun y hy => by have := hm y hy; omega) (fun y hy => by have := hm y hy; omega)) ⟨hs.2.2.2.1, hs.2.2.2.2⟩, hm⟩
theorem movesIn_iff (a : Int) (x : Stp) : movesIn a x = true ↔ ∃ y ∈ x.1, y.1 = a := by
  unfold movesIn
  rw [List.any_eq_true]
  constructor
  · rintro ⟨y, hy, e⟩; exact ⟨y, hy, by simpa using e⟩
  · rintro ⟨y, hy, e⟩; exact ⟨y, hy, by simpa using e⟩
theorem bool_iff {a b : Bool} (h : a = true ↔ b = true) : a = b := by cases a <;> cases b <;> simp_all
theorem movesIn_ren (h : Bij P n f g) (hn : n ≤ 6) {x : Stp} (hx : FineP P x) {a : Int} (ha : P a) : movesIn (f a) (renStep f x) = movesIn a x := by
  apply bool_iff
  rw [movesIn_iff, movesIn_iff]
  constructor
  · rintro ⟨y, hy, e⟩
    obtain ⟨z, hz, rfl⟩ := (ren_mem h hn hx y).1 hy
    exact ⟨z, hz, h.inj (hx.2 z hz) ha e⟩
  · rintro ⟨y, hy, rfl⟩
    exact ⟨_, (ren_mem h hn hx _).2 ⟨y, hy, rfl⟩, rfl⟩
theorem beh_cons (e : Int → Bool) (y : Stk) (l : List Stk) : beh e (y :: l) = beh (fun i => if i = y.1 then y.2 else e i) l := rfl
theorem beh_not {e : Int → Bool} {l : List Stk} {a : Int} (h : ∀ y ∈ l, y.1 ≠ a) : beh e l a = e a := by
  induction l generalizing e with
  | nil => rfl
  | cons y l ih =>
    rw [beh_cons, ih fun y hy => h y (List.mem_cons_of_mem _ hy)]
    exact if_neg fun e => h y (List.mem_cons_self ..) e.symm
theorem beh_mem {e : Int → Bool} {l : List Stk} (hd : Diff l) {y : Stk} (hy : y ∈ l) : beh e l y.1 = y.2 := by
  induction l generalizing e with
  | nil => cases hy
  | cons z l ih =>
    obtain ⟨h1, h2⟩ := List.pairwise_cons.1 hd
    rw [beh_cons]
    rcases List.mem_cons.1 hy with rfl | hy
    · rw [beh_not fun z hz e => h1 z hz e.symm]
      exact if_pos rfl
    · exact ih h2 hy
theorem beh_ren (h : Bij P n f g) (hn : n ≤ 6) {x : Stp} (hx : FineP P x) {e e' : Int → Bool} (he : ∀ a, P a → e' (f a) = e a) : ∀ a, P a → beh e' (renStep f x).1 (f a) = beh e x.1 a := fun a ha => by
  cases hm : movesIn a x
  · have h1 : ∀ y ∈ x.1, y.1 ≠ a := fun y hy e => by
      have := (movesIn_iff a x).2 ⟨y, hy, e⟩
      rw [hm] at this; cases this
    rw [beh_not h1, beh_not, he a ha]
    intro y hy e
    obtain ⟨z, hz, rfl⟩ := (ren_mem h hn hx y).1 hy
    exact h1 z hz (h.inj (hx.2 z hz) ha e)
  · obtain ⟨y, hy, rfl⟩ := (movesIn_iff a x).1 hm
    rw [beh_mem hx.diff hy]
    exact beh_mem (renStep_asc h hx).diff (y := (f y.1, y.2)) ((ren_mem h hn hx _).2 ⟨y, hy, rfl⟩)
theorem ckFit_iff {m : Int} {x : Stp} {e : Int → Bool} : ckFit m x e = 0 ↔ ckStep x = 0 ∧ (∀ y ∈ x.1, y.1 < m) ∧ ∀ y ∈ x.1, e y.1 = !y.2 := by
  unfold ckFit
  by_cases h1 : ckStep x = 0
  · rw [if_neg (by simp [h1])]
    cases h2 : anyHigh m x.1
    · have h2' : ∀ y ∈ x.1, y.1 < m := fun y hy => by
        have := (List.any_eq_false.1 h2) y hy
        simp at this; omega
      cases h3 : anySame e x.1
      · refine ⟨fun _ => ⟨h1, h2', fun y hy => ?_⟩, fun _ => rfl⟩
        have := (List.any_eq_false.1 h3) y hy
        cases ha : e y.1 <;> cases hb : y.2 <;> simp_all
      · refine ⟨fun h => by simp at h, fun ⟨_, _, h⟩ => ?_⟩
        obtain ⟨y, hy, hh⟩ := List.any_eq_true.1 h3
        rw [h y hy] at hh
        cases hb : y.2 <;> rw [hb] at hh <;> cases hh
    · refine ⟨fun h => by simp at h, fun ⟨_, h, _⟩ => ?_⟩
      obtain ⟨y, hy, hh⟩ := List.any_eq_true.1 h2
      have := h y hy
      simp at hh; omega
  · rw [if_pos h1]
    exact ⟨fun h => absurd h h1, fun h => absurd h.1 h1⟩
theorem ckWalk_iff {m : Int} {e : Int → Bool} {x : Stp} {l : List Stp} : ckWalk m e (x :: l) = 0 ↔ ckFit m x e = 0 ∧ ckWalk m (beh e x.1) l = 0 := by
  show (if ckFit m x e ≠ 0 then ckFit m x e else ckWalk m (beh e x.1) l) = 0 ↔ _
  by_cases h : ckFit m x e = 0
  · rw [if_neg (by simp [h])]; exact ⟨fun k => ⟨h, k⟩, fun k => k.2⟩
  · rw [if_pos h]; exact ⟨fun k => absurd k h, fun k => absurd k.1 h⟩
theorem ckWalk_ren (h : Bij P n f g) (hn : n ≤ 6) {m : Int} {l : List Stp} (hl : ∀ x ∈ l, FineP P x) {e e' : Int → Bool} (he : ∀ a, P a → e' (f a) = e a) (hk : ckWalk m e l = 0) : ckWalk n e' (l.map (renStep f)) = 0 := by
  induction l generalizing e e' with
  | nil => rfl
  | cons x l ih =>
    have hx := hl x (List.mem_cons_self ..)
    obtain ⟨h1, h2⟩ := ckWalk_iff.1 hk
    obtain ⟨_, _, h3⟩ := ckFit_iff.1 h1
    have hf := renStep_fine h hn hx
    rw [List.map_cons]
    refine ckWalk_iff.2 ⟨ckFit_iff.2 ⟨hf.1, fun y hy => (hf.2 y hy).2, fun y hy => ?_⟩, ih (fun x hx => hl x (List.mem_cons_of_mem _ hx)) (beh_ren h hn hx he) h2⟩
    obtain ⟨z, hz, rfl⟩ := (ren_mem h hn hx y).1 hy
    rw [he _ (hx.2 z hz)]
    exact h3 z hz
theorem behAll_cons (e : Int → Bool) (x : Stp) (l : List Stp) : behAll e (x :: l) = behAll (beh e x.1) l := rfl
theorem behAll_ren (h : Bij P n f g) (hn : n ≤ 6) {l : List Stp} (hl : ∀ x ∈ l, FineP P x) {e e' : Int → Bool} (he : ∀ a, P a → e' (f a) = e a) : ∀ a, P a → behAll e' (l.map (renStep f)) (f a) = behAll e l a := by
  induction l generalizing e e' with
  | nil => exact he
  | cons x l ih =>
    rw [List.map_cons, behAll_cons, behAll_cons]
    exact ih (fun x hx => hl x (List.mem_cons_of_mem _ hx)) (beh_ren h hn (hl x (List.mem_cons_self ..)) he)
theorem movedIn_iff (a : Int) (l : List Stp) : movedIn a l = true ↔ ∃ x ∈ l, movesIn a x = true := by
  unfold movedIn
  exact List.any_eq_true
theorem movedIn_ren (h : Bij P n f g) (hn : n ≤ 6) {l : List Stp} (hl : ∀ x ∈ l, FineP P x) {a : Int} (ha : P a) : movedIn (f a) (l.map (renStep f)) = movedIn a l := by
  apply bool_iff
  rw [movedIn_iff, movedIn_iff]
  constructor
  · rintro ⟨y, hy, e⟩
    obtain ⟨x, hx, rfl⟩ := List.mem_map.1 hy
    exact ⟨x, hx, by rw [← movesIn_ren h hn (hl x hx) ha]; exact e⟩
  · rintro ⟨x, hx, e⟩
    exact ⟨_, List.mem_map.2 ⟨x, hx, rfl⟩, by rw [movesIn_ren h hn (hl x hx) ha]; exact e⟩
theorem ints_all (p : Int → Bool) (m : Int) : (ints m).any p = false ↔ ∀ a, 0 ≤ a ∧ a < m → p a = false := by
  rw [List.any_eq_false]
  constructor
  · intro h a ha; have := h a (ints_mem.2 ha); simpa using this
  · intro h a ha; simp [h a (ints_mem.1 ha)]
theorem ckSeq_of {m : Int} {l : List Stp} (h1 : 1 ≤ m ∧ m ≤ 6) (h2 : 0 < l.length ∧ l.length ≤ 64) (h3 : ckWalk m none6 l = 0) (h4 : ∀ a, 0 ≤ a ∧ a < m → behAll none6 l a = false) (h5 : ∀ a, 0 ≤ a ∧ a < m → movedIn a l = true) : ckSeq (m, l) = 0 := by
  have h4' := (ints_all (behAll none6 l) m).2 h4
  have h5' : (ints m).any (fun a => !movedIn a l) = false := (ints_all _ m).2 fun a ha => by rw [h5 a ha]; rfl
  unfold ckSeq
  dsimp only
  rw [if_neg (by omega), if_neg (by omega), if_neg (by omega), if_neg (by simp [h3]), h4', h5']
  rfl
structure Right (m : Int) (l : List Stp) : Prop where
  act : 1 ≤ m ∧ m ≤ 6
  len : 0 < l.length ∧ l.length ≤ 64
  walk : ckWalk m none6 l = 0
  back : ∀ a, 0 ≤ a ∧ a < m → behAll none6 l a = false
  moved : ∀ a, 0 ≤ a ∧ a < m → movedIn a l = true
theorem ckSeq_right {m : Int} {l : List Stp} (h : ckSeq (m, l) = 0) : Right m l := by
  obtain ⟨h1, h2, h3, h4, h5, h6, h7⟩ := ckSeq_zero h
  refine ⟨⟨h1, h2⟩, ⟨h3, h4⟩, h5, (ints_all _ _).1 h6, fun a ha => ?_⟩
  have := (ints_all _ _).1 h7 a ha
  simpa using this
theorem Right.fine {m : Int} {l : List Stp} (h : Right m l) : ∀ x ∈ l, FineP (In m) x := (ckWalk_fine h.walk).all
theorem ckSeq_ren (h : Bij (In n) n f g) {l : List Stp} (hk : ckSeq (n, l) = 0) : ckSeq (ren f (n, l)) = 0 := by
  have hr := ckSeq_right hk
  have hn := hr.act.2
  show ckSeq (n, l.map (renStep f)) = 0
  refine ckSeq_of hr.act (by rw [List.length_map]; exact hr.len) (ckWalk_ren h hn hr.fine (fun _ _ => rfl) hr.walk) (fun a ha => ?_) (fun a ha => ?_)
  · rw [← h.fg a ha, behAll_ren h hn hr.fine (fun _ _ => rfl) _ (h.gp a ha)]
    exact hr.back _ (h.gp a ha)
  · rw [← h.fg a ha, movedIn_ren h hn hr.fine (h.gp a ha)]
    exact hr.moved _ (h.gp a ha)
end
theorem sub_len {α : Type} [DecidableEq α] {l m : List α} (hd : l.Nodup) (h : ∀ x ∈ l, x ∈ m) : l.length ≤ m.length := by
  induction l generalizing m with
  | nil => simp
  | cons x l ih =>
    obtain ⟨h1, h2⟩ := List.nodup_cons.1 hd
    have hm := h x (List.mem_cons_self ..)
    have := ih (m := m.erase x) h2 fun y hy => (List.mem_erase_of_ne (fun e => by subst e; exact h1 hy)).2 (h y (List.mem_cons_of_mem _ hy))
    rw [List.length_erase_of_mem hm] at this
    have := List.length_pos_of_mem hm
    simp only [List.length_cons]
    omega
theorem renGo_zero {n : Int} : ∀ (l bef : List Int), renGo n bef l = 0 → (∀ x ∈ l, 0 ≤ x ∧ x < n) ∧ l.Nodup ∧ ∀ x ∈ l, x ∉ bef := by
  intro l
  induction l with
  | nil => intro bef _; exact ⟨by simp, List.Pairwise.nil, by simp⟩
  | cons y l ih =>
    intro bef h
    unfold renGo at h
    by_cases h1 : y < 0 ∨ n ≤ y
    · rw [if_pos h1] at h; cases h
    · rw [if_neg h1] at h
      by_cases h2 : bef.contains y = true
      · rw [if_pos h2] at h; cases h
      · rw [if_neg h2] at h
        obtain ⟨i1, i2, i3⟩ := ih _ h
        refine ⟨fun x hx => ?_, List.nodup_cons.2 ⟨fun hy => i3 y hy (by simp), i2⟩, fun x hx => ?_⟩
        · rcases List.mem_cons.1 hx with rfl | hx
          · omega
          · exact i1 x hx
        · rcases List.mem_cons.1 hx with rfl | hx
          · intro hb; exact h2 (by simpa using hb)
          · intro hb; exact i3 x hx (by simp [hb])
theorem listFn_at (t : List Int) {k : Nat} : listFn t (k : Int) = t.getD k 0 := by
  unfold listFn
  rw [if_neg (by omega)]; rfl
theorem bij_list {t b : List Int} {n : Int} (ht : renE t n = 0) (hb : ∀ k, k < t.length → b.getD (t.getD k 0).toNat 0 = (k : Int)) : Bij (In n) n (listFn t) (listFn b) := by
  unfold renE at ht
  by_cases hl : (t.length : Int) ≠ n
  · rw [if_pos hl] at ht; cases ht
  rw [if_neg hl] at ht
  have hl : (t.length : Int) = n := by omega
  obtain ⟨h1, h2, _⟩ := renGo_zero t [] ht
  have hrng : ∀ a, In n a → In n (listFn t a) := fun a ha => by
    obtain ⟨k, rfl⟩ := Int.eq_ofNat_of_zero_le ha.1
    have hk : k < t.length := by have := ha.2; omega
    rw [listFn_at]
    exact h1 _ (by rw [List.getD_eq_getElem?_getD, List.getElem?_eq_getElem hk]; exact List.getElem_mem hk)
  have hgf : ∀ a, In n a → listFn b (listFn t a) = a := fun a ha => by
    have hr := hrng a ha
    obtain ⟨k, rfl⟩ := Int.eq_ofNat_of_zero_le ha.1
    have hk : k < t.length := by have := ha.2; omega
    rw [listFn_at] at hr ⊢
    unfold listFn
    rw [if_neg (by have := hr.1; omega)]
    exact hb k hk
  have hsur : ∀ v, In n v → ∃ a, In n a ∧ listFn t a = v := fun v hv => by
    by_cases hm : v ∈ t
    · obtain ⟨k, hk, e⟩ := List.mem_iff_getElem.1 hm
      refine ⟨(k : Int), ⟨by omega, by omega⟩, ?_⟩
      rw [listFn_at, List.getD_eq_getElem?_getD, List.getElem?_eq_getElem hk]; exact e
    · exfalso
      have := sub_len (l := v :: t) (m := ints n) (List.nodup_cons.2 ⟨hm, h2⟩) (fun x hx => by
        rcases List.mem_cons.1 hx with rfl | hx
        · exact ints_mem.2 hv
        · exact ints_mem.2 (h1 x hx))
      rw [ints_length, List.length_cons] at this
      omega
  refine ⟨hrng, fun v hv => ?_, hgf, fun v hv => ?_⟩
  · obtain ⟨a, ha, rfl⟩ := hsur v hv
    rw [hgf a ha]; exact ha
  · obtain ⟨a, ha, rfl⟩ := hsur v hv
    rw [hgf a ha]
end Go.Proofs.YtdolibeceijnnaaDoor
namespace Go.Proofs.YtdolibeceijnnaaDoor
open Go.RowKit
def aloneFn (l : List Stp) (k : Nat) (a : Int) : Int := if (0 ≤ a ∧ a < (k : Int)) ∧ movedIn a l = true then partFn l a else 0
theorem aloneFn_zero (l : List Stp) (a : Int) : aloneFn l 0 a = 0 := by unfold aloneFn; rw [if_neg (by omega)]
theorem getD_mem {α : Type} {l : List α} {k : Nat} (d : α) (h : k < l.length) : l.getD k d ∈ l := by
  rw [List.getD_eq_getElem?_getD, List.getElem?_eq_getElem h]; exact List.getElem_mem h
theorem mem_getD {α : Type} {l : List α} {x : α} (d : α) (h : x ∈ l) : ∃ k, k < l.length ∧ l.getD k d = x := by
  obtain ⟨k, hk, e⟩ := List.mem_iff_getElem.1 h
  exact ⟨k, hk, by rw [List.getD_eq_getElem?_getD, List.getElem?_eq_getElem hk]; exact e⟩
end Go.Proofs.YtdolibeceijnnaaDoor
namespace Go.Proofs.YtdolibeceijnnaaDoor
open Go.RowKit
open Go.Maps
def AlMap (w : World) (b : Nat) (l : List Stp) (k : Nat) : Prop :=
  ∃ D : DataW Unit, w.ownsMap Tryd.prog 3 (plainElem Tryd.prog 3) b k D ∧ Tidy D ∧ (Maps.size D : Int) = partFn l (k : Int) ∧ (∀ a : Int, (k : Int) ≤ a → has D (.int .i64 a) = false) ∧ ∀ a : Int, D.atKey (.int .i64 a) (.lit (.int .i64 0)) = .lit (.int .i64 (aloneFn l k a))
theorem AlMap.new (w : World) (l : List Stp) : AlMap (w.alloc (.map #[] 0)) w.heap.size l 0 :=
  ⟨.map [], World.ownsMap_made w _ _ _, tidy_empty, rfl, fun _ _ => rfl, fun a => by rw [aloneFn_zero]; rfl⟩
theorem AlMap.same {A B : World} {b k : Nat} {l : List Stp} (h : AlMap A b l k) (e : B.heap[b]? = A.heap[b]?) : AlMap B b l k := by
  obtain ⟨D, ⟨es, ck, h1, h2, h3, h4⟩, h5⟩ := h
  exact ⟨D, ⟨es, ck, e.trans h1, h2, h3, h4⟩, h5⟩
theorem AlMap.lt {A : World} {b k : Nat} {l : List Stp} (h : AlMap A b l k) : b < A.heap.size := by
  obtain ⟨D, h1, _⟩ := h
  exact h1.lt
theorem AlMap.ext {A B : World} {b m : Nat} {l : List Stp} (h : AlMap A b l m) (k : Ext A B) : AlMap B b l m := h.same (Below.block k b h.lt)
theorem AlMap.map {A : World} {b k : Nat} {l : List Stp} (h : AlMap A b l k) : MapAt A b k (aloneFn l k) := by
  obtain ⟨D, h1, h2, _, _, h5⟩ := h
  exact ⟨D, h1, h2.isMap, h5⟩
end Go.Proofs.YtdolibeceijnnaaDoor
namespace Go.Proofs.YtdolibeceijnnaaDoor
open Go.RowKit
def QU (X : Nat → Prop) (w : World) (u : Value) (l : List Stp) : Prop := OwnsP X w u l ∧ ∀ b, u.ownBlock = some b → ¬ X b
theorem QU.chg {X : Nat → Prop} {A B : World} {u : Value} {l : List Stp} (h : QU X A u l) (c : Chg X A B) : QU X B u l := ⟨h.1.chg c h.2, h.2⟩
theorem QU.mono {X Y : Nat → Prop} {A : World} {u : Value} {l : List Stp} (h : QU X A u l) (k : ∀ b, Y b → X b) : QU Y A u l := ⟨h.1.mono k, fun b hb hy => h.2 b hb (k b hy)⟩
theorem OwnsP.lt {X : Nat → Prop} {A : World} {u : Value} {l : List Stp} (h : OwnsP X A u l) {b : Nat} (hb : u.ownBlock = some b) : b < A.heap.size := by
  obtain ⟨ps, h1, h2, h3⟩ := h
  exact rowLt h2 hb
theorem QU.up {X : Nat → Prop} {A : World} {u : Value} {l : List Stp} (h : QU X A u l) : QU (fun b => X b ∨ A.heap.size ≤ b) A u l :=
  ⟨h.1.up, fun b hb hx => by
    rcases hx with hx | hx
    · exact h.2 b hb hx
    · have := h.1.lt hb; omega⟩
def pairQ (ps : List (Value × Sq)) : List (Value × Value) := ps.map fun p => (.int .i64 p.2.1, p.1)
def OwnsQ (w : World) (v : Value) (ys : List Sq) : Prop :=
  ∃ ps : List (Value × Sq), ps.map (·.2) = ys ∧ w.ownsRow 0 24 2 v ys.length (flat2 (pairQ ps)) ∧ ∀ p ∈ ps, QU (fun b => v.ownBlock = some b) w p.1 p.2.2
theorem OwnsQ.nil (w : World) : OwnsQ w (.slice none 0 0) [] := ⟨[], rfl, World.ownsRow_nil w 0 _ _, fun p hp => by cases hp⟩
theorem OwnsQ.ext {A B : World} {v : Value} {ys : List Sq} (h : OwnsQ A v ys) (k : Ext A B) : OwnsQ B v ys := by
  obtain ⟨ps, h1, h2, h3⟩ := h
  exact ⟨ps, h1, rowExt h2 k, fun p hp => (h3 p hp).chg (Chg.ext k)⟩
theorem OwnsQ.reads {A : World} {v : Value} {ys : List Sq} (h : OwnsQ A v ys) : ∃ a cap, v = .slice a ys.length cap ∧ CellsQ A a ys ∧ ys.length ≤ maxLen := by
  obtain ⟨ps, h1, h2, h3⟩ := h
  obtain ⟨a, cap, hv, hm, hr⟩ := rowReads h2
  refine ⟨a, cap, hv, fun i hi => ?_, hm⟩
  have hl : ps.length = ys.length := by rw [← h1]; simp
  have hi' : i < (pairQ ps).length := by simp [pairQ]; omega
  have hip : i < ps.length := by omega
  have hg := flat2_get (pairQ ps) i hi'
  have e1 : (pairQ ps)[i].1 = .int .i64 ps[i].2.1 := by simp [pairQ]
  have e2 : (pairQ ps)[i].2 = ps[i].1 := by simp [pairQ]
  rw [e1, e2] at hg
  have ey : ys.getD i sq0 = ps[i].2 := by rw [← h1]; simp [List.getD, hip]
  obtain ⟨b, hb, _, g1, _⟩ := hr _ _ hg.1
  obtain ⟨b', hb', _, g2, _⟩ := hr _ _ hg.2
  rw [hb] at hb'
  cases hb'
  refine ⟨b, 0, ps[i].1, hb, ?_, ?_, ?_⟩
  · rw [ey, Nat.zero_add]; exact g1
  · rw [Nat.zero_add]; exact g2
  · rw [ey]; exact (h3 _ (List.getElem_mem hip)).1.reads
theorem OwnsQ.app {A B : World} {v v' : Value} {ys : List Sq} {u : Value} {y : Sq} (h : OwnsQ A v ys) (hu : QU (fun b => v.ownBlock = some b) A u y.2)
    (hown : B.ownsRow 0 24 2 v' (ys.length + 1) (flat2 (pairQ (Classical.choose h)) ++ [.int .i64 y.1, u])) (he : AppEnd A B v v') : OwnsQ B v' (ys ++ [y]) := by
  obtain ⟨h1, h2, h3⟩ := Classical.choose_spec h
  refine ⟨Classical.choose h ++ [(u, y)], by rw [List.map_append, h1]; rfl, ?_, ?_⟩
  · unfold pairQ at hown ⊢
    rw [List.length_append, List.map_append, flat2_append]
    exact hown
  · have c : Chg (fun b => v.ownBlock = some b ∨ A.heap.size ≤ b) A B := (Chg.app (B := fun b => v.ownBlock = some b) he (fun b hb => hb)).mono (fun b h => .inl h)
    have hy : ∀ b, v'.ownBlock = some b → v.ownBlock = some b ∨ A.heap.size ≤ b := he.chg.2.2
    intro p hp
    rcases List.mem_append.1 hp with hp | hp
    · exact ((h3 p hp).up.chg c).mono hy
    · rcases List.mem_singleton.1 hp with rfl
      exact (hu.up.chg c).mono hy
theorem CellsQ.nil (w : World) (a : Option Addr) : CellsQ w a [] := fun i hi => by simp at hi
theorem Fine.of_mem {n : Int} {l m : List Stp} (h : Fine n l) (k : ∀ x ∈ m, x ∈ l) : Fine n m := fun i hi => by
  have hm := k _ (getD_mem stp0 hi)
  obtain ⟨j, hj, e⟩ := mem_getD stp0 hm
  rw [← e]
  exact h j hj
theorem Fine.part {n : Int} {l : List Stp} (h : Fine n l) (e k : Nat) : Fine n ((l.take e).drop k) := h.of_mem fun _x hx => List.mem_of_mem_take (List.mem_of_mem_drop hx)
end Go.Proofs.YtdolibeceijnnaaDoor
namespace Go.Proofs.YtdolibeceijnnaaDoor
open Go.RowKit
theorem behAll_not {e : Int → Bool} {l : List Stp} {a : Int} (h : ∀ x ∈ l, movesIn a x = false) : behAll e l a = e a := by
  induction l generalizing e with
  | nil => rfl
  | cons x l ih =>
    rw [behAll_cons, ih fun y hy => h y (List.mem_cons_of_mem _ hy)]
    refine beh_not fun y hy ee => ?_
    have := (movesIn_iff a x).2 ⟨y, hy, ee⟩
    rw [h x (List.mem_cons_self ..)] at this; cases this
theorem Right.notIn {m : Int} {l : List Stp} (h : Right m l) {a : Int} (ha : ¬ In m a) : ∀ x ∈ l, movesIn a x = false := fun x hx => by
  cases hm : movesIn a x
  · rfl
  · obtain ⟨y, hy, rfl⟩ := (movesIn_iff a x).1 hm
    exact absurd ((h.fine x hx).2 y hy) ha
theorem Right.none {m : Int} {l : List Stp} (h : Right m l) : behAll none6 l = none6 := by
  funext a
  by_cases ha : In m a
  · exact h.back a ha
  · exact behAll_not (h.notIn ha)
theorem Right.ck {m : Int} {l : List Stp} (h : Right m l) : ckSeq (m, l) = 0 := ckSeq_of h.act h.len h.walk h.back h.moved
end Go.Proofs.YtdolibeceijnnaaDoor
namespace Go.Proofs.YtdolibeceijnnaaDoor
open Go.RowKit
end Go.Proofs.YtdolibeceijnnaaDoor
namespace Go.Proofs.YtdolibeceijnnaaDoor
def okF (f : Nat → Stp) (i j : Nat) : Bool := (List.range j).all fun q => (List.range q).all fun p => decide (p < i) || apart (f p) (f q)
theorem okF_iff {f : Nat → Stp} {i j : Nat} : okF f i j = true ↔ ∀ p q, i ≤ p → p < q → q < j → apart (f p) (f q) = true := by
  unfold okF
  rw [List.all_eq_true]
  refine ⟨fun h p q h1 h2 h3 => ?_, fun h q hq => ?_⟩
  · have := h q (List.mem_range.2 h3)
    rw [List.all_eq_true] at this
    have := this p (List.mem_range.2 h2)
    rw [Bool.or_eq_true, decide_eq_true_eq] at this
    rcases this with h4 | h4
    · omega
    · exact h4
  · rw [List.all_eq_true]
    intro p hp
    rw [Bool.or_eq_true, decide_eq_true_eq]
    by_cases hi : p < i
    · exact .inl hi
    · exact .inr (h p q (by omega) (List.mem_range.1 hp) (List.mem_range.1 hq))
theorem okF_her (f : Nat → Stp) : Her (okF f) :=
  ⟨fun i => okF_iff.2 fun p q h1 h2 h3 => by omega, fun i j i' j' h1 h2 _ h => okF_iff.2 fun p q g1 g2 g3 => okF_iff.1 h p q (by omega) g2 (by omega)⟩
theorem okF_shift {f g : Nat → Stp} {t : Nat} (h : ∀ p, g p = f (p + t)) (i j : Nat) : okF g i j = okF f (i + t) (j + t) := by
  refine bool_iff ?_
  rw [okF_iff, okF_iff]
  refine ⟨fun e p q h1 h2 h3 => ?_, fun e p q h1 h2 h3 => ?_⟩
  · have := e (p - t) (q - t) (by omega) (by omega) (by omega)
    rw [h, h, show p - t + t = p by omega, show q - t + t = q by omega] at this
    exact this
  · rw [h, h]; exact e _ _ (by omega) (by omega) (by omega)
theorem okF_congr {f g : Nat → Stp} {i j : Nat} (h : ∀ p q, p < j → q < j → apart (g p) (g q) = apart (f p) (f q)) : okF g i j = okF f i j := by
  refine bool_iff ?_
  rw [okF_iff, okF_iff]
  refine ⟨fun e p q h1 h2 h3 => ?_, fun e p q h1 h2 h3 => ?_⟩
  · rw [← h p q (by omega) h3]; exact e p q h1 h2 h3
  · rw [h p q (by omega) h3]; exact e p q h1 h2 h3
theorem apart_iff {a b : Stp} : apart a b = true ↔ ∀ y ∈ a.1, ∀ z ∈ b.1, z.1 ≠ y.1 := by
  unfold apart
  rw [List.all_eq_true]
  refine ⟨fun h y hy z hz e => ?_, fun h y hy => ?_⟩
  · have := h y hy
    rw [Bool.not_eq_true'] at this
    rw [(movesIn_iff _ _).2 ⟨z, hz, e⟩] at this
    cases this
  · rw [Bool.not_eq_true']
    cases hm : movesIn y.1 b
    · rfl
    · obtain ⟨z, hz, e⟩ := (movesIn_iff _ _).1 hm
      exact absurd e (h y hy z hz)
def cyc (l : List Stp) (p : Nat) : Stp := l.getD (p % l.length) stp0
def lin (l : List Stp) (p : Nat) : Stp := l.getD p stp0
theorem cyc_lin {l : List Stp} {p : Nat} (h : p < l.length) : cyc l p = lin l p := by unfold cyc lin; rw [Nat.mod_eq_of_lt h]
theorem cyc_per (l : List Stp) : Per (okF (cyc l)) l.length := fun i j => (okF_shift (fun p => by unfold cyc; rw [Nat.add_mod_right]) i j).symm
theorem Greedy.congr {ok ok' : Nat → Nat → Bool} {a b k n : Nat} (h : Greedy ok a b k) (hb : b ≤ n) (e : ∀ i j, i ≤ n → j ≤ n → ok i j = ok' i j) : Greedy ok' a b k := by
  induction h with
  | nil => exact .nil _
  | cons h1 h2 h3 h4 ih =>
    rename_i a c b k
    have hcb := h4.div.le
    refine .cons h1 (by rw [← e _ _ (by omega) (by omega)]; exact h2) ?_ (ih hb)
    rcases h3 with h3 | ⟨h3, h5⟩
    · exact .inl h3
    · exact .inr ⟨h3, by rw [← e _ _ (by omega) (by omega)]; exact h5⟩
theorem Greedy.up {ok ok' : Nat → Nat → Bool} {t a b k : Nat} (e : ∀ i j, ok' i j = ok (i + t) (j + t)) (h : Greedy ok' a b k) : Greedy ok (a + t) (b + t) k := by
  induction h with
  | nil => exact .nil _
  | cons h1 h2 h3 _ ih =>
    refine .cons (by omega) (by rw [← e]; exact h2) ?_ ih
    rcases h3 with h3 | ⟨h3, h5⟩
    · exact .inl (by omega)
    · exact .inr ⟨by omega, by rw [e] at h5; rw [← h5]; congr 1; omega⟩
theorem ren_apart {P : Int → Prop} {n : Int} {f g : Int → Int} (h : Bij P n f g) (hn : n ≤ 6) {a b : Stp} (ha : FineP P a) (hb : FineP P b) : apart (renStep f a) (renStep f b) = apart a b := by
  refine bool_iff ?_
  rw [apart_iff, apart_iff]
  refine ⟨fun e y hy z hz hyz => ?_, fun e y hy z hz hyz => ?_⟩
  · exact e (f y.1, y.2) ((ren_mem h hn ha _).2 ⟨y, hy, rfl⟩) (f z.1, z.2) ((ren_mem h hn hb _).2 ⟨z, hz, rfl⟩) (by dsimp only; rw [hyz])
  · obtain ⟨y', hy', rfl⟩ := (ren_mem h hn ha _).1 hy
    obtain ⟨z', hz', rfl⟩ := (ren_mem h hn hb _).1 hz
    exact e y' hy' z' hz' (h.inj (hb.2 z' hz') (ha.2 y' hy') hyz)
theorem ren_okF {P : Int → Prop} {n : Int} {f g : Int → Int} (h : Bij P n f g) (hn : n ≤ 6) {l : List Stp} (hl : ∀ x ∈ l, FineP P x) (h0 : 0 < l.length) : okF (cyc (l.map (renStep f))) = okF (cyc l) := by
  funext i j
  have hc : ∀ p, ∃ x ∈ l, cyc l p = x ∧ cyc (l.map (renStep f)) p = renStep f x := fun p => by
    have hr : p % l.length < l.length := Nat.mod_lt _ h0
    refine ⟨l[p % l.length], List.getElem_mem _, ?_, ?_⟩
    · unfold cyc; simp [List.getD, hr]
    · unfold cyc; rw [List.length_map]; simp [List.getD, hr]
  refine okF_congr fun p q _ _ => ?_
  obtain ⟨x, hx, e1, e2⟩ := hc p
  obtain ⟨y, hy, e3, e4⟩ := hc q
  rw [e1, e2, e3, e4, ren_apart h hn (hl x hx) (hl y hy)]
end Go.Proofs.YtdolibeceijnnaaDoor
namespace Go.Proofs.YtdolibeceijnnaaDoor
open Go.RowKit
def mskF (f : Nat → Stp) (i : Nat) : Nat → Nat
  | 0 => 0
  | k + 1 => mskF f i k ||| mskK (f (i + k)).1
theorem mskF_bit (f : Nat → Stp) (i b : Nat) : ∀ k, (mskF f i k).testBit b = true ↔ ∃ t, t < k ∧ ∃ y ∈ (f (i + t)).1, y.1.toNat = b := by
  intro k
  induction k with
  | zero => unfold mskF; simp
  | succ k ih =>
    unfold mskF
    rw [Nat.testBit_or, Bool.or_eq_true, ih, msk_bit, List.any_eq_true]
    constructor
    · rintro (⟨t, h1, h2⟩ | ⟨y, h1, h2⟩)
      · exact ⟨t, by omega, h2⟩
      · exact ⟨k, by omega, y, h1, of_decide_eq_true h2⟩
    · rintro ⟨t, h1, y, h2, h3⟩
      by_cases ht : t = k
      · subst ht; exact .inr ⟨y, h2, decide_eq_true h3⟩
      · exact .inl ⟨t, by omega, y, h2, h3⟩
def RngF (f : Nat → Stp) : Prop := ∀ p, ∀ y ∈ (f p).1, 0 ≤ y.1 ∧ y.1 < 6
theorem mskF_lt {f : Nat → Stp} (h : RngF f) (i : Nat) : ∀ k, mskF f i k < 64 := by
  intro k
  induction k with
  | zero => unfold mskF; omega
  | succ k ih =>
    unfold mskF
    exact Nat.or_lt_two_pow (n := 6) ih (msk_lt (h _))
theorem and_zero (a b : Nat) : a &&& b = 0 ↔ ∀ i, a.testBit i = true → b.testBit i = false := by
  constructor
  · intro h i hi
    have := Nat.testBit_and a b i
    rw [h, Nat.zero_testBit, hi, Bool.true_and] at this
    exact this.symm
  · intro h
    refine Nat.eq_of_testBit_eq fun i => ?_
    rw [Nat.testBit_and, Nat.zero_testBit]
    cases hx : a.testBit i
    · rfl
    · rw [h i hx]; rfl
theorem msk_apart {x y : Stp} (hx : ∀ z ∈ x.1, 0 ≤ z.1 ∧ z.1 < 6) (hy : ∀ z ∈ y.1, 0 ≤ z.1 ∧ z.1 < 6) : mskK x.1 &&& mskK y.1 = 0 ↔ apart x y = true := by
  rw [and_zero, apart_iff]
  constructor
  · intro h u hu v hv e
    have h1 := h u.1.toNat (by rw [msk_bit, List.any_eq_true]; exact ⟨u, hu, by simp⟩)
    rw [msk_bit, List.any_eq_false] at h1
    exact h1 v hv (by simp [e])
  · intro h i hi
    rw [msk_bit, List.any_eq_true] at hi
    obtain ⟨u, hu, e⟩ := hi
    rw [msk_bit, List.any_eq_false]
    intro v hv e2
    have e := of_decide_eq_true e
    have e2 := of_decide_eq_true e2
    have := hx u hu
    have := hy v hv
    exact h u hu v hv (by omega)
theorem once_step {f : Nat → Stp} (hr : RngF f) {i k : Nat} (h : okF f i (i + k) = true) : (mskF f i k &&& mskK (f (i + k)).1 = 0) ↔ okF f i (i + (k + 1)) = true := by
  rw [okF_iff] at h ⊢
  rw [and_zero]
  constructor
  · intro e p q h1 h2 h3
    by_cases hq : q = i + k
    · subst hq
      rw [apart_iff]
      intro y hy z hz hyz
      have h4 := e y.1.toNat ((mskF_bit f i _ k).2 ⟨p - i, by omega, y, by rw [show i + (p - i) = p by omega]; exact hy, rfl⟩)
      rw [msk_bit, List.any_eq_false] at h4
      exact h4 z hz (by simp [hyz])
    · exact h p q h1 h2 (by omega)
  · intro e b hb
    obtain ⟨t, ht, y, hy, hyb⟩ := (mskF_bit f i b k).1 hb
    rw [msk_bit, List.any_eq_false]
    intro z hz hzb
    have hzb := of_decide_eq_true hzb
    have h4 := apart_iff.1 (e (i + t) (i + k) (by omega) (by omega) (by omega)) y hy z hz
    have := hr _ y hy
    have := hr _ z hz
    omega
theorem rng_cyc {l : List Stp} (h : ∀ x ∈ l, ∀ y ∈ x.1, 0 ≤ y.1 ∧ y.1 < 6) : RngF (cyc l) := fun p y hy => by
  unfold cyc at hy
  by_cases hp : p % l.length < l.length
  · exact h _ (getD_inn hp) y hy
  · rw [List.getD_eq_getElem?_getD, List.getElem?_eq_none (by omega)] at hy
    simp [stp0] at hy
structure SeqG (w : World) (a : Option Addr) (l : List Stp) : Prop where
  cells : CellsP w a l
  rng : ∀ x ∈ l, ∀ y ∈ x.1, 0 ≤ y.1 ∧ y.1 < 6
  pos : 0 < l.length
  len : l.length ≤ 64
  bits : GBits w
theorem SeqG.ext {w w' : World} {a : Option Addr} {l : List Stp} (h : SeqG w a l) (e : Ext w w') : SeqG w' a l := ⟨h.cells.ext e, h.rng, h.pos, h.len, h.bits.ext e⟩
set_option maxHeartbeats 8000000 in
set_option maxRecDepth 100000 in
theorem once_any (n : Int) (l : List Stp) (a : Option Addr) (cap : Nat) (i c : Nat) (w : World) (hi : i ≤ 1000) (hcn : c ≤ 1000) (h : SeqG w a l) :
    Calls Tryd.prog 40 #[.agg #[.int .i64 n, .slice a l.length cap], .int .i64 i, .int .i64 c] w fun r w' => (∃ m : Int, r = .returned (.tuple #[.int .u64 m, .bool (okF (cyc l) i (i + c))])) ∧ Ext w w' := by
  have HH := Lib.hid h
  have hl0 := h.pos
  have hl := h.len
  have HR := Lib.hid (rng_cyc h.rng)
  clear h
  go_enter Tryd.func40, Tryd.ntmps40
  go_wp2_with fail
  have E1 : Ext w (w.alloc (.cells #[.int .i64 n, .slice a l.length cap] 24)) := extA
  have c1 : ((w.alloc (.cells #[.int .i64 n, .slice a l.length cap] 24))).cell? ⟨w.heap.size, 1, none⟩ = some (.slice a l.length cap) := by go_simp
  obtain ⟨bs, hbs⟩ : ∃ bs, bs = w.heap.size := ⟨_, rfl⟩
  rw [← hbs] at c1 ⊢
  clear hbs
  generalize (w.alloc (.cells #[.int .i64 n, .slice a l.length cap] 24)) = W at E1 c1 ⊢
  replace HH := Lib.hid (HH.out.ext E1)
  go_wp2
  go_loopw [12, 8] (fun x v wr => ∃ k : Nat, k ≤ c ∧ x = .int .i64 k ∧ v = .int .u64 ((mskF (cyc l) i k : Nat) : Int) ∧ Hid (okF (cyc l) i (i + k) = true) ∧ Ext W wr) (fun x _ _ => c - (intOf x).toNat)
  case atStart => exact ⟨0, Nat.zero_le _, rfl, rfl, okF_iff.2 fun p q h1 h2 h3 => by omega, Ext.refl _⟩
  case round =>
    obtain ⟨k, hk, rfl, rfl, hok, he⟩ := hrel
    have d1 := he.cell c1
    by_cases hlt : k < c
    · obtain ⟨r, hr⟩ : ∃ r, r = (i + k) % l.length := ⟨_, rfl⟩
      have hrl : r < l.length := by rw [hr]; exact Nat.mod_lt _ hl0
      obtain ⟨b, off, v, ha, e1, e2, e3⟩ := HH.out.cells.ext he r hrl
      subst ha
      obtain ⟨sa, sc, rfl, hsc, hsm⟩ := e2
      have hmod : ((i : Int) + (k : Int)).tmod (l.length : Int) = (r : Int) := by
        rw [Int.tmod_eq_emod_of_nonneg (by omega), hr]; rfl
      have hcy : cyc l (i + k) = l.getD r stp0 := by unfold cyc; rw [hr]
      have hst := once_step HR.out hok.out
      rw [hcy] at hst
      have hrg := HR.out (i + k)
      rw [hcy] at hrg
      have hml := msk_lt hrg
      have hfl := mskF_lt HR.out i k
      have hsucc : mskF (cyc l) i (k + 1) = mskF (cyc l) i k ||| mskK (l.getD r stp0).1 := by rw [← hcy]; rfl
      have HMV := Lib.hid (fun W' hG hC => moving_any (l.getD r stp0).1 (l.getD r stp0).2 sa sc W' hsm hrg hG hC)
      have HX := Lib.hid hsc
      clear hcy hr hrg
      generalize l.getD r stp0 = x at e1 e3 HMV HX hst hml hsucc hsm
      obtain ⟨st, wt⟩ := x
      dsimp only at e1 e3 HMV HX hst hml hsucc hsm
      have u1 : IntKind.i64.wrap ((i : Int) + (k : Int)) = (i : Int) + (k : Int) := IntWalk.i64_in _ (by omega)
      have u2 : IntKind.i64.wrap (r : Int) = (r : Int) := IntWalk.i64_in _ (by omega)
      have u3 : ((l.length : Int) == 0) = false := beq_eq_false_iff_ne.2 (by omega)
      have u4 : ¬ (l = []) := fun h => by rw [h] at hl0; simp at hl0
      have HA := bits_and_u64_nat (mskF (cyc l) i k) (mskK st) (by omega) (by omega)
      have HO := bits_or_u64_nat (mskF (cyc l) i k) (mskK st) (by omega) (by omega)
      rw [← hsucc] at HO
      have HST := Lib.hid hst
      have z1 := cell_lt d1
      have z2 := cell_lt e1
      dsimp only at z1 z2
      clear hsucc hml hfl hst hsm
      obtain ⟨m2, hm2⟩ : ∃ m, m = mskF (cyc l) i (k + 1) := ⟨_, rfl⟩
      rw [← hm2] at HO
      have HM2 := Lib.hid hm2
      clear hm2
      generalize mskF (cyc l) i k = m1 at HA HO HST ⊢
      generalize mskK st = ms at HA HO HST HMV ⊢
      go_wp2
      go_region_held3 (fun w' => Sees wr w') ((repeat (first | exact Sees.refl _ | assumption | apply Sees.drew | apply Sees.alloc | (refine Sees.ext ?_ (by assumption))))) (first | (go_at_call 46; refine (HMV.out _ (HH.out.bits.ext (he.trans (by exact (show Sees wr _ by assumption).2.2))) (HX.out.ext (by exact (show Sees wr _ by assumption).2.2))).mono ?_; rintro e w' ⟨rfl, hE⟩))
      have F := he.trans (show Sees wr _ by assumption).2.2
      by_cases hz : m1 &&& ms = 0
      · have HZ : Hid (okF (cyc l) i (i + (k + 1)) = true) := HST.out.1 hz
        have hz2 : (((m1 &&& ms : Nat) : Int) != 0) = false := by rw [hz]; rfl
        clear HST hz
        go_wp2
        refine ⟨⟨k + 1, by omega, by go_num, by rw [HM2.out], HZ, F⟩, by simp [intOf]; omega⟩
      · have hz2 : (((m1 &&& ms : Nat) : Int) != 0) = true := by rw [bne_iff_ne]; omega
        have hno : okF (cyc l) i (i + c) = false := by
          cases hx : okF (cyc l) i (i + c)
          · rfl
          · exact absurd (HST.out.2 ((okF_her _).part i (i + c) i (i + (k + 1)) (Nat.le_refl _) (by omega) (by omega) hx)) hz
        have HN := Lib.hid hno
        clear HST hz hno
        go_wp2
        go_ret2
        exact ⟨⟨(m1 : Int), by rw [HN.out]; rfl⟩, E1.trans F⟩
    · have : k = c := by omega
      subst this
      go_wp2
      go_ret2
      exact ⟨⟨((mskF (cyc l) i k : Nat) : Int), by rw [hok.out]; rfl⟩, E1.trans he⟩
end Go.Proofs.YtdolibeceijnnaaDoor
namespace Go.Proofs.YtdolibeceijnnaaDoor
open Go.RowKit
def intsN (l : List Nat) : List Int := l.map fun (n : Nat) => (n : Int)
theorem intsN_len (l : List Nat) : (intsN l).length = l.length := List.length_map ..
theorem intsN_get (l : List Nat) (k : Nat) : (intsN l).getD k 0 = ((l.getD k 0 : Nat) : Int) := by
  unfold intsN
  rw [List.getD_eq_getElem?_getD, List.getD_eq_getElem?_getD, List.getElem?_map]
  cases l[k]? <;> rfl
theorem ownsI_one (w : World) (x : Int) : OwnsI (w.alloc (.cells #[.int .i64 x] 3)) (.slice (some ⟨w.heap.size, 0, none⟩) 1 1) [x] :=
  ⟨by simp, .inr ⟨w.heap.size, 1, #[.int .i64 x], rfl, Nat.zero_le _, heap_alloc_new w _, Nat.le_refl _, by decide, rfl, rfl⟩⟩
def OwnNatPost (l : List Nat) (w : World) (e : Ending) (w' : World) : Prop := ∃ v, e = .returned v ∧ OwnsI w' v (intsN l) ∧ (∀ b, v.ownBlock = some b → w.heap.size ≤ b) ∧ Ext w w'
theorem lng_succ_yes {ok : Nat → Nat → Bool} {b n k last : Nat} (hk : k < n) (h : ok last (b + k + 1) = true) : lngS ok b (n - k) k last = lngS ok b (n - (k + 1)) (k + 1) last := by
  rw [show n - k = n - (k + 1) + 1 by omega]
  conv => lhs; unfold lngS
  rw [if_pos h]
theorem lng_succ_no {ok : Nat → Nat → Bool} {b n k last : Nat} (hk : k < n) (h : ok last (b + k + 1) = false) : lngS ok b (n - k) k last = (b + k) :: lngS ok b (n - (k + 1)) (k + 1) (b + k) := by
  rw [show n - k = n - (k + 1) + 1 by omega]
  conv => lhs; unfold lngS
  rw [if_neg (by simp [h])]
set_option maxHeartbeats 8000000 in
set_option maxRecDepth 100000 in
theorem longest_any (n : Int) (l : List Stp) (a : Option Addr) (cap : Nat) (b : Nat) (w : World) (hb : b ≤ 64) (h : SeqG w a l) :
    Calls Tryd.prog 36 #[.agg #[.int .i64 n, .slice a l.length cap], .int .i64 b] w (OwnNatPost (longS (okF (cyc l)) l.length b) w) := by
  have HH := Lib.hid h
  have hl0 := h.pos
  have hl := h.len
  clear h
  obtain ⟨i0, hi, hi0, hi1, hi2⟩ := info_parts infoInt
  go_enter Tryd.func36, Tryd.ntmps36
  go_wp2_with fail
  have E0 : Ext w (w.alloc (.cells #[.int .i64 n, .slice a l.length cap] 24)) := extA
  have E1 : Ext (w.alloc (.cells #[.int .i64 n, .slice a l.length cap] 24)) ((w.alloc (.cells #[.int .i64 n, .slice a l.length cap] 24)).alloc (.cells #[.int .i64 (b : Int)] 3)) := extA
  have c0 : ((w.alloc (.cells #[.int .i64 n, .slice a l.length cap] 24))).cell? ⟨w.heap.size, 0, none⟩ = some (.int .i64 n) := by go_simp
  have c1 : ((w.alloc (.cells #[.int .i64 n, .slice a l.length cap] 24))).cell? ⟨w.heap.size, 1, none⟩ = some (.slice a l.length cap) := by go_simp
  have hvs : ((w.alloc (.cells #[.int .i64 n, .slice a l.length cap] 24))).heap.size = w.heap.size + 1 := Array.size_push _
  have O0 : Hid (OwnsI ((w.alloc (.cells #[.int .i64 n, .slice a l.length cap] 24)).alloc (.cells #[.int .i64 (b : Int)] 3)) (.slice (some ⟨w.heap.size + 1, 0, none⟩) 1 1) [(b : Int)]) := by
    have h9 := ownsI_one (w.alloc (.cells #[.int .i64 n, .slice a l.length cap] 24)) (b : Int)
    rw [hvs] at h9
    exact h9
  replace HH := Lib.hid (HH.out.ext E0)
  generalize ((w.alloc (.cells #[.int .i64 n, .slice a l.length cap] 24)).alloc (.cells #[.int .i64 (b : Int)] 3)) = W at E1 O0 ⊢
  generalize (w.alloc (.cells #[.int .i64 n, .slice a l.length cap] 24)) = V at E0 E1 c0 c1 HH hvs
  obtain ⟨bs, hbs⟩ : ∃ bs, bs = w.heap.size := ⟨_, rfl⟩
  rw [← hbs] at c0 c1 O0 hvs ⊢
  have HVS := Lib.hid hvs
  clear hbs hvs
  go_wp2
  go_loopw [7, 5, 6] (fun x v z wr => ∃ (k last : Nat) (pre : List Nat), k ≤ l.length ∧ last ≤ b + k ∧ x = .int .i64 k ∧ (∃ vv, v = vv ∧ Hid (OwnsI wr vv (intsN (pre ++ [last])) ∧ (∀ g, vv.ownBlock = some g → V.heap.size ≤ g) ∧ pre.length ≤ k ∧ pre ++ last :: lngS (okF (cyc l)) b (l.length - k) k last = longS (okF (cyc l)) l.length b)) ∧ z = .int .i64 ((b : Int) + (k : Int) - (last : Int)) ∧ Ext V wr) (fun x _ _ _ => l.length - (intOf x).toNat)
  case atStart => exact ⟨0, b, [], Nat.zero_le _, by omega, rfl, ⟨_, rfl, O0.out, fun g hg => by cases hg; have := HVS.out; exact Nat.le_of_eq this, Nat.le_refl _, rfl⟩, by simp, E1⟩
  case round =>
    obtain ⟨k, last, pre, hk, hlast, rfl, ⟨vv, hvv, hO⟩, rfl, he⟩ := hrel
    obtain rfl := hvv.symm
    have d0 := he.cell c0
    have d1 := he.cell c1
    by_cases hlt : k < l.length
    · obtain ⟨va, vc, hv, hvc, hvr⟩ := hO.out.1.reads
      have hplen : (intsN (pre ++ [last])).length = pre.length + 1 := by rw [intsN_len, List.length_append]; rfl
      have hp := hO.out.2.2.1
      obtain ⟨vb, vo, rfl, e1⟩ := hvc pre.length (by omega)
      rw [intsN_get, show (pre ++ [last]).getD pre.length 0 = last by simp] at e1
      obtain ⟨L, hL⟩ : ∃ L, L = pre.length + 1 := ⟨_, rfl⟩
      rw [hplen, ← hL] at hv
      obtain ⟨p, hp2⟩ : ∃ p, p = pre.length := ⟨_, rfl⟩
      have hpL : p < L := by omega
      have hL64 : L ≤ 65 := by omega
      have z0 := cell_lt d0
      have z1 := cell_lt e1
      dsimp only at z0 z1
      have HON := Lib.hid (fun W' hs => once_any n l a cap last (b + k + 1 - last) W' (by omega) (by omega) hs)
      rw [show last + (b + k + 1 - last) = b + k + 1 by omega] at HON
      have hcs : ((b + k + 1 - last : Nat) : Int) = (b : Int) + (k : Int) - (last : Int) + 1 := by omega
      rw [hcs] at HON
      have u1 : IntKind.i64.wrap ((b : Int) + (k : Int) - (last : Int) + 1) = (b : Int) + (k : Int) - (last : Int) + 1 := IntWalk.i64_in _ (by omega)
      have u2 : IntKind.i64.wrap ((L : Int) - 1) = (p : Int) := by rw [IntWalk.i64_in _ (by omega)]; omega
      rw [← hp2] at e1
      subst hv
      have HLP := Lib.hid (And.intro hL hp2)
      clear hvc hvr hplen hL hp2 hp
      have hcond : ∃ q, okF (cyc l) last (b + k + 1) = q := ⟨_, rfl⟩
      obtain ⟨q, hq⟩ := hcond
      rw [hq] at HON
      have HQ := Lib.hid hq
      clear hq hcs
      go_wp2
      go_region_held3 (fun w' => Sees wr w') ((repeat (first | exact Sees.refl _ | assumption | apply Sees.drew | apply Sees.alloc | (refine Sees.ext ?_ (by assumption))))) (first | (go_at_call 40; refine (HON.out _ (HH.out.ext (he.trans (by exact (show Sees wr _ by assumption).2.2)))).mono ?_; rintro e w' ⟨⟨m, rfl⟩, hE⟩))
      have F := (show Sees wr _ by assumption).2.2
      have O2 := Lib.hid (hO.out.1.ext F)
      have OB := Lib.hid hO.out.2.1
      have OE := Lib.hid hO.out.2.2
      clear hO
      have G := he.trans F
      generalize w' = w2 at G O2 ⊢
      cases q
      · have hnx := lng_succ_no (ok := okF (cyc l)) (b := b) hlt HQ.out
        have u3 : IntKind.i64.wrap ((b : Int) + (k : Int)) = ((b + k : Nat) : Int) := by rw [IntWalk.i64_in _ (by omega)]; omega
        have hsz2 := G.size
        have HNX := Lib.hid hnx
        clear hnx
        go_wp2_with (at_builtin; refine wpList_append1 _ rfl _ _ 27 rfl 3 i0 (.int .i64 0) 1 8 Tryd.underlying27 hi hi0 hi1 hi2 rfl (by decide) (.slice (some ⟨vb, vo, none⟩) L vc) (intsN (pre ++ [last])).length ((intsN (pre ++ [last])).map (Value.int .i64)) rfl ?ho ⟨w2.heap.size, 0, none⟩ 1 1 (by decide) [.int .i64 ((b + k : Nat) : Int)] rfl rfl ?hn ?c1 ?c2 ?c3 ?c4)
        case ho => exact O2.out.ext ((Ext.refl _).alloc _)
        case hn => exact cells_one _ _ _
        case c1 => intro u hu; simp at hu; subst hu; rfl
        case c2 => have := HLP.out; have := OE.out.1; rw [intsN_len, List.length_append, List.length_singleton]; unfold maxLen; omega
        case c3 => have := HLP.out; have := OE.out.1; rw [intsN_len, List.length_append, List.length_singleton]; omega
        case c4 =>
          intro v' w5 hown5 hend5
          have O5 : Hid (OwnsI w5 v' (intsN ((pre ++ [last]) ++ [b + k]))) := by
            show OwnsI _ _ _
            have h9 := ownsI_succ hown5
            unfold intsN at h9 ⊢
            rw [List.map_append]
            exact h9
          have B5 : Ext V w5 := (G.trans ((Ext.refl _).alloc _)).trans' (hend5.below (n := V.heap.size) (by simp; omega) OB.out) (Nat.le_refl _)
          have OB5 : Hid (∀ b, v'.ownBlock = some b → V.heap.size ≤ b) := hend5.ge (n := V.heap.size) (by simp; omega) OB.out
          clear hown5 hend5 O2 OB
          go_wp2
          refine ⟨⟨k + 1, b + k, pre ++ [last], by omega, by omega, by go_num, ⟨v', rfl, O5.out, OB5.out, by have := OE.out.1; rw [List.length_append, List.length_singleton]; omega, ?_⟩, by simp; omega, B5⟩, by simp [intOf]; omega⟩
          have h9 := OE.out.2
          rw [HNX.out] at h9
          rw [List.append_assoc]
          exact h9
      · have hnx := lng_succ_yes (ok := okF (cyc l)) (b := b) hlt HQ.out
        have HNX := Lib.hid hnx
        clear hnx
        go_wp2
        refine ⟨⟨k + 1, last, pre, by omega, by omega, by go_num, ⟨_, rfl, O2.out, OB.out, by have := OE.out.1; omega, ?_⟩, by simp; omega, G⟩, by simp [intOf]; omega⟩
        have h9 := OE.out.2
        rw [HNX.out] at h9
        exact h9
    · have hke : k = l.length := by omega
      subst hke
      have h9 := hO.out.2.2.2
      rw [Nat.sub_self] at h9
      have H9 := Lib.hid h9
      clear h9
      go_wp2
      go_ret
      have HVS2 := HVS.out
      have h0 := E0.size
      refine ⟨vv, rfl, ?_, fun g hg => Nat.le_trans h0 (hO.out.2.1 g hg), E0.trans he⟩
      have h8 := hO.out.1
      rw [show pre ++ [last] = longS (okF (cyc l)) l.length b from H9.out] at h8
      exact h8
end Go.Proofs.YtdolibeceijnnaaDoor
