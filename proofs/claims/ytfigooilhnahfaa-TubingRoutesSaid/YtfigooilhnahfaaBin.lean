/- The binary search among the blocked cells. -/
import Derived.Test.YtfigooilhnahfaaGrid
namespace Go.Proofs.Ytfigooilhnahfaa
open Go.RowKit

def BsPost (b : Bool) (w : World) (e : Ending) (w' : World) : Prop := ∃ n : Int, e = .returned (.tuple #[.int .i64 n, .bool b]) ∧ Ext w w'

theorem bs_mem (l : List Pt) (p : Pt) (m : Nat) (ha : Asc l) (hlo : ∀ k, k < m → ordP (pt l k) p < 0) (hhi : ∀ k, m ≤ k → k < l.length → 0 ≤ ordP (pt l k) p) :
    decide (p ∈ l) = (decide (m < l.length) && decide (ordP (pt l m) p = 0)) := by
  rw [Bool.eq_iff_iff]
  simp only [Bool.and_eq_true, decide_eq_true_eq]
  constructor
  · intro hm
    obtain ⟨j, hj, ej⟩ := List.getElem_of_mem hm
    have hpj : pt l j = p := by unfold pt; rw [List.getD_eq_getElem?_getD, List.getElem?_eq_getElem hj]; simpa using ej
    have h1 : ¬ j < m := fun hjm => by
      have h := hlo j hjm
      rw [hpj] at h
      have := (ordP_eq p p).2 rfl
      omega
    have h2 : ¬ m < j := fun hmj => by
      have h3 := hhi m (Nat.le_refl _) (by omega)
      have h4 : bef (pt l m) (pt l j) = true := ha.lt hmj hj
      rw [hpj] at h4
      have := (ordP_lt _ _).2 h4
      omega
    have h3 : j = m := by omega
    subst h3
    exact ⟨hj, (ordP_eq _ _).2 hpj⟩
  · rintro ⟨h1, h2⟩
    rw [← (ordP_eq _ _).1 h2]
    unfold pt
    rw [List.getD_eq_getElem?_getD, List.getElem?_eq_getElem h1]
    simp

set_option maxHeartbeats 1000000 in
theorem bsearch_any (l : List Pt) (p : Pt) (a : Option Addr) (cap : Nat) (w : World) (hl : l.length ≤ 256) (hasc : Asc l) (hc : Cells2 w a l) :
    Calls Try.prog 77 #[.slice a l.length cap, .agg #[.int .i64 p.1, .int .i64 p.2], .func (.func 55) #[] #[]] w (BsPost (decide (p ∈ l)) w) := by
  have HA := Lib.hid hasc
  clear hasc
  go_enter Try.func77, Try.ntmps77
  go_wp2
  have H : Ext w (w.alloc (.cells #[.int .i64 p.1, .int .i64 p.2] 26)) := (Ext.refl _).alloc _
  have c1 : (w.alloc (.cells #[.int .i64 p.1, .int .i64 p.2] 26)).cell? ⟨w.heap.size, 0, none⟩ = some (.int .i64 p.1) := by go_simp
  have c2 : (w.alloc (.cells #[.int .i64 p.1, .int .i64 p.2] 26)).cell? ⟨w.heap.size, 1, none⟩ = some (.int .i64 p.2) := by go_simp
  generalize w.alloc (.cells #[.int .i64 p.1, .int .i64 p.2] 26) = W at H c1 c2 ⊢
  have hc := hc.ext H
  go_loopw [9, 10] (fun i j wr => ∃ m n : Nat, m ≤ n ∧ n ≤ l.length ∧ i = .int .i64 m ∧ j = .int .i64 n ∧ Hid (∀ k, k < m → ordP (pt l k) p < 0) ∧ Hid (∀ k, n ≤ k → k < l.length → 0 ≤ ordP (pt l k) p) ∧ Ext W wr) (fun i j _ => (intOf j).toNat - (intOf i).toNat)
  case atStart => exact ⟨0, l.length, Nat.zero_le _, Nat.le_refl _, rfl, rfl, fun k hk => by omega, fun k h1 h2 => by omega, Ext.refl _⟩
  case round =>
    obtain ⟨m, n, hmn, hn, rfl, rfl, hlo, hhi, he⟩ := hrel
    by_cases hlt : m < n
    · obtain ⟨h, hm1, hm2, e0⟩ : ∃ h : Nat, m ≤ h ∧ h < n ∧ ((m : Int) + (n : Int)) / 2 = (h : Int) := ⟨(m + n) / 2, by omega, by omega, by omega⟩
      have d1 := he.cell c1
      have d2 := he.cell c2
      have d3 := cell_lt d1
      obtain ⟨b, off, ha, e1, e2⟩ := hc.ext he h (by omega)
      have e3 := cell_lt e1
      subst ha
      clear hc c1 c2
      dsimp only at d3 e3
      have i0 : (0 : Int) ≤ (h : Int) := Int.natCast_nonneg h
      have i1 : (h : Int) < (l.length : Int) := by omega
      by_cases hb : ordP (pt l h) p < 0
      · go_wp2
        clear e0
        go_region_held3 (fun w' => Sees wr w') ((repeat (first | exact Sees.refl _ | assumption | apply Sees.drew | apply Sees.alloc | (refine Sees.ext ?_ (by assumption))))) (first | (go_at_call 55; refine (order_any (pt l h) p _).mono ?_; rintro e w' ⟨rfl, hE⟩))
        go_wp2
        refine ⟨⟨h + 1, n, by omega, hn, by go_num, rfl, ?_, hhi, he.trans (show Sees wr _ by assumption).2.2⟩, by simp [intOf]; omega⟩
        intro k hk
        by_cases e : k = h
        · subst e; exact hb
        · have hkl : bef (pt l k) (pt l h) = true := HA.out.lt (by omega) (by omega)
          exact (ordP_lt _ _).2 (bef_trans hkl ((ordP_lt _ _).1 hb))
      · go_wp2
        clear e0
        go_region_held3 (fun w' => Sees wr w') ((repeat (first | exact Sees.refl _ | assumption | apply Sees.drew | apply Sees.alloc | (refine Sees.ext ?_ (by assumption))))) (first | (go_at_call 55; refine (order_any (pt l h) p _).mono ?_; rintro e w' ⟨rfl, hE⟩))
        go_wp2
        refine ⟨⟨m, h, by omega, by omega, rfl, rfl, hlo, ?_, he.trans (show Sees wr _ by assumption).2.2⟩, by simp [intOf]; omega⟩
        intro k hk1 hk2
        refine Int.not_lt.1 (fun hk3 => ?_)
        by_cases e : k = h
        · subst e; omega
        · have hkl : bef (pt l h) (pt l k) = true := HA.out.lt (by omega) hk2
          have := (ordP_lt _ _).2 (bef_trans hkl ((ordP_lt _ _).1 hk3))
          omega
    · have hmn' : m = n := by omega
      subst hmn'
      have hmem : Hid (decide (p ∈ l) = (decide (m < l.length) && decide (ordP (pt l m) p = 0))) := bs_mem l p m HA.out hlo.out hhi.out
      have d1 := he.cell c1
      have d2 := he.cell c2
      have d3 := cell_lt d1
      dsimp only at d3
      clear c1 c2
      by_cases hlt2 : m < l.length
      · obtain ⟨b, off, ha, e1, e2⟩ := hc.ext he m hlt2
        have e3 := cell_lt e1
        subst ha
        clear hc
        dsimp only at e3
        by_cases hz : ordP (pt l m) p = 0
        · have hfin : Hid (decide (p ∈ l) = true) := by show _ = _; rw [hmem.out]; simp [hz, hlt2]
          have hzz : (ordP (pt l m) p == 0) = true := by simp [hz]
          clear hz
          go_wp2
          go_region_held3 (fun w' => Sees wr w') ((repeat (first | exact Sees.refl _ | assumption | apply Sees.drew | apply Sees.alloc | (refine Sees.ext ?_ (by assumption))))) (first | (go_at_call 55; refine (order_any (pt l m) p _).mono ?_; rintro e w' ⟨rfl, hE⟩))
          go_wp2
          go_ret2
          exact ⟨m, by rw [hfin.out]; rfl, (H.trans he).trans (show Sees wr _ by assumption).2.2⟩
        · have hfin : Hid (decide (p ∈ l) = false) := by show _ = _; rw [hmem.out]; simp [hz]
          have hzz : (ordP (pt l m) p == 0) = false := by simp [hz]
          clear hz
          go_wp2
          go_region_held3 (fun w' => Sees wr w') ((repeat (first | exact Sees.refl _ | assumption | apply Sees.drew | apply Sees.alloc | (refine Sees.ext ?_ (by assumption))))) (first | (go_at_call 55; refine (order_any (pt l m) p _).mono ?_; rintro e w' ⟨rfl, hE⟩))
          go_wp2
          go_ret2
          exact ⟨m, by rw [hfin.out]; rfl, (H.trans he).trans (show Sees wr _ by assumption).2.2⟩
      · have hfin : Hid (decide (p ∈ l) = false) := by show _ = _; rw [hmem.out]; simp [hlt2]
        have hd : decide ((m : Int) < (l.length : Int)) = false := by simp; omega
        clear hc
        go_wp2
        go_quiet (fail)
        go_wp2
        go_ret2
        exact ⟨m, by rw [hfin.out]; rfl, (H.trans he).drewN _⟩
end Go.Proofs.Ytfigooilhnahfaa
