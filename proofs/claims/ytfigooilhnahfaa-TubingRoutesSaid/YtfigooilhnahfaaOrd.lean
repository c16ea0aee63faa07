/- cmp.Compare, cmp.Or and order: what they return. -/
import Derived.Test.YtfigooilhnahfaaBase
import Derived.Test.YtfigooilhnahfaaSpec
namespace Go.Proofs.Ytfigooilhnahfaa
open Go.RowKit

set_option maxHeartbeats 400000 in
theorem isNaN_any (a : Int) (w : World) :
    Calls Try.prog 83 #[.int .i64 a] w fun e w' => e = .returned (.bool false) ∧ w = w' := by
  go_enter Try.func83, Try.ntmps83
  go_wp2
  all_goals go_ret
  all_goals simp

set_option maxHeartbeats 400000 in
theorem Compare_any (a b : Int) (w : World) :
    Calls Try.prog 76 #[.int .i64 a, .int .i64 b] w fun e w' => e = .returned (.int .i64 (cmpI a b)) ∧ w = w' := by
  unfold cmpI
  by_cases h1 : a < b
  · rw [if_pos h1]
    go_enter Try.func76, Try.ntmps76
    go_wp2_with (go_at_call 83; refine (isNaN_any _ _).mono ?_; rintro e w' ⟨rfl, rfl⟩)
    all_goals go_ret
    all_goals exact ⟨rfl, rfl⟩
  · rw [if_neg h1]
    by_cases h2 : b < a
    · rw [if_pos h2]
      go_enter Try.func76, Try.ntmps76
      go_wp2_with (go_at_call 83; refine (isNaN_any _ _).mono ?_; rintro e w' ⟨rfl, rfl⟩)
      all_goals go_ret
      all_goals exact ⟨rfl, rfl⟩
    · rw [if_neg h2]
      go_enter Try.func76, Try.ntmps76
      go_wp2_with (go_at_call 83; refine (isNaN_any _ _).mono ?_; rintro e w' ⟨rfl, rfl⟩)
      all_goals go_ret
      all_goals exact ⟨rfl, rfl⟩

set_option maxHeartbeats 800000 in
theorem Or2_any (a b : Int) (bk off cap : Nat) (w : World) (h0 : w.cell? ⟨bk, off, none⟩ = some (.int .i64 a)) (h1 : w.cell? ⟨bk, off+1, none⟩ = some (.int .i64 b)) :
    Calls Try.prog 75 #[.slice (some ⟨bk, off, none⟩) 2 cap] w fun e w' => e = .returned (.int .i64 (or2 a b)) ∧ w = w' := by
  unfold or2
  by_cases ha : a = 0
  · subst ha
    rw [if_pos rfl]
    by_cases hb : b = 0
    · subst hb
      go_enter Try.func75, Try.ntmps75
      go_wp2
      refine wp_loop_rounds 3 ?_
      repeat any_goals (rw [rounds_succ]; go_wp2)
      all_goals go_ret
      all_goals exact ⟨rfl, rfl⟩
    · go_enter Try.func75, Try.ntmps75
      go_wp2
      refine wp_loop_rounds 2 ?_
      repeat any_goals (rw [rounds_succ]; go_wp2)
      all_goals go_ret
      all_goals exact ⟨rfl, rfl⟩
  · rw [if_neg ha]
    go_enter Try.func75, Try.ntmps75
    go_wp2
    refine wp_loop_rounds 1 ?_
    repeat any_goals (rw [rounds_succ]; go_wp2)
    all_goals go_ret
    all_goals exact ⟨rfl, rfl⟩

set_option maxHeartbeats 800000 in
theorem order_any (a b : Pt) (w : World) :
    Calls Try.prog 55 #[.agg #[.int .i64 a.1, .int .i64 a.2], .agg #[.int .i64 b.1, .int .i64 b.2]] w fun e w' => e = .returned (.int .i64 (ordP a b)) ∧ Ext w w' := by
  go_enter Try.func55, Try.ntmps55
  go_wp2
  have H : Ext w ((w.alloc (.cells #[.int .i64 a.1, .int .i64 a.2] 26)).alloc (.cells #[.int .i64 b.1, .int .i64 b.2] 26)) := ((Ext.refl _).alloc _).alloc _
  go_region_held3 (fun w' => Sees ((w.alloc (.cells #[.int .i64 a.1, .int .i64 a.2] 26)).alloc (.cells #[.int .i64 b.1, .int .i64 b.2] 26)) w') ((repeat (first | exact Sees.refl _ | assumption | apply Sees.drew | apply Sees.alloc | (refine Sees.ext ?_ (by assumption))))) (first | (go_at_call 76; refine (Compare_any _ _ _).mono ?_; rintro e w' ⟨rfl, rfl⟩) | (go_at_call 75; refine (Or2_any (cmpI a.1 b.1) (cmpI a.2 b.2) _ _ _ _ (by go_simp) (by go_simp)).mono ?_; rintro e w' ⟨rfl, rfl⟩))
  all_goals go_wp2
  all_goals go_ret
  exact ⟨rfl, H.trans ((Ext.refl _).alloc _).drew⟩
end Go.Proofs.Ytfigooilhnahfaa
