/- The reference's Check. -/
import Derived.Test.YtfigooilhnahfaaChk
namespace Go.Proofs.Ytfigooilhnahfaa
open Go.RowKit

set_option maxHeartbeats 2000000 in
theorem CheckR_any (g : Gr) (ga : Option Addr) (gc : Nat) (w : World) (hl : g.bl.length ≤ maxLen) (hc : Cells2 w ga g.bl) :
    Calls Try.prog 25 #[.agg #[.int .i64 g.rows, .int .i64 g.cols, .slice ga g.bl.length gc]] w fun e w' => e = .returned (.int .i64 (chk g)) ∧ Ext w w' := by
  unfold maxLen at hl
  have H : Ext w (w.alloc (.cells #[.int .i64 g.rows, .int .i64 g.cols, .slice ga g.bl.length gc] 24)) := (Ext.refl _).alloc _
  have HC : Hid (Cells2 w ga g.bl) := hc
  clear hc
  by_cases h1 : g.rows < 1
  · have hz : Hid (chk g = 2) := by show _ = _; unfold chk; rw [if_pos (Or.inl h1)]
    go_enter Try.func25, Try.ntmps25
    go_wp2
    all_goals go_ret
    all_goals exact ⟨ret_int hz.out.symm, H⟩
  · by_cases h2 : 64 < g.rows
    · have hz : Hid (chk g = 2) := by show _ = _; unfold chk; rw [if_pos (Or.inr h2)]
      go_enter Try.func25, Try.ntmps25
      go_wp2
      all_goals go_ret
      all_goals exact ⟨ret_int hz.out.symm, H⟩
    · by_cases h3 : g.cols < 1
      · have hz : Hid (chk g = 2) := by show _ = _; unfold chk; rw [if_neg (by omega), if_pos (Or.inl h3)]
        go_enter Try.func25, Try.ntmps25
        go_wp2
        all_goals go_ret
        all_goals exact ⟨ret_int hz.out.symm, H⟩
      · by_cases h4 : 64 < g.cols
        · have hz : Hid (chk g = 2) := by show _ = _; unfold chk; rw [if_neg (by omega), if_pos (Or.inr h4)]
          go_enter Try.func25, Try.ntmps25
          go_wp2
          all_goals go_ret
          all_goals exact ⟨ret_int hz.out.symm, H⟩
        · by_cases h5 : 256 < g.bl.length
          · have hz : Hid (chk g = 5) := by show _ = _; unfold chk; rw [if_neg (by omega), if_neg (by omega), if_pos h5]
            go_enter Try.func25, Try.ntmps25
            go_wp2
            all_goals go_ret
            all_goals exact ⟨ret_int hz.out.symm, H⟩
          · have hz : Hid (chk g = chkFrom g g.bl.length 0) := by show _ = _; unfold chk; rw [if_neg (by omega), if_neg (by omega), if_neg h5]
            go_enter Try.func25, Try.ntmps25
            go_wp2
            have d1 : (w.alloc (.cells #[.int .i64 g.rows, .int .i64 g.cols, .slice ga g.bl.length gc] 24)).cell? ⟨w.heap.size, 0, none⟩ = some (.int .i64 g.rows) := by go_simp
            have d2 : (w.alloc (.cells #[.int .i64 g.rows, .int .i64 g.cols, .slice ga g.bl.length gc] 24)).cell? ⟨w.heap.size, 1, none⟩ = some (.int .i64 g.cols) := by go_simp
            have d3 : (w.alloc (.cells #[.int .i64 g.rows, .int .i64 g.cols, .slice ga g.bl.length gc] 24)).cell? ⟨w.heap.size, 2, none⟩ = some (.slice ga g.bl.length gc) := by go_simp
            generalize w.alloc (.cells #[.int .i64 g.rows, .int .i64 g.cols, .slice ga g.bl.length gc] 24) = W at H d1 d2 d3 ⊢
            clear h1 h2 h3 h4
            go_loopw [3] (fun i wr => ∃ k : Nat, k ≤ g.bl.length ∧ i = .int .i64 k ∧ Hid (chkFrom g g.bl.length 0 = chkFrom g (g.bl.length - k) k) ∧ Ext W wr) (fun i _ => g.bl.length - (intOf i).toNat)
            case atStart => exact ⟨0, Nat.zero_le _, rfl, by show _ = _; rw [Nat.sub_zero], Ext.refl _⟩
            case round =>
              obtain ⟨k, hk, rfl, hn, he⟩ := hrel
              have b1 := he.cell d1
              have b2 := he.cell d2
              have b3 := he.cell d3
              have b4 := cell_lt b1
              dsimp only at b4
              by_cases hlt : k < g.bl.length
              · have hst : Hid (chkFrom g (g.bl.length - k) k = if inside g (pt g.bl k) = false then 2 else if k ≠ 0 ∧ bef (pt g.bl (k - 1)) (pt g.bl k) = false then 9 else chkFrom g (g.bl.length - (k + 1)) (k + 1)) := by
                  show _ = _
                  rw [show g.bl.length - k = (g.bl.length - (k + 1)) + 1 from by omega]
                  rfl
                obtain ⟨b, off, ha, e1, e2⟩ := HC.out.ext (H.trans he) k hlt
                have e3 := cell_lt e1
                dsimp only at e3
                by_cases hin : inside g (pt g.bl k) = false
                · clear HC
                  subst ha
                  clear d1 d2 d3
                  go_wp2
                  go_region_held3 (fun w' => Sees wr w') ((repeat (first | exact Sees.refl _ | assumption | apply Sees.drew | apply Sees.alloc | (refine Sees.ext ?_ (by assumption))))) (first | (go_at_call 58; refine (Cell_any g (pt g.bl k) _ _).mono ?_; rintro e w1 ⟨rfl, hE⟩))
                  go_wp2
                  go_ret
                  exact ⟨ret_int (by rw [hz.out, hn.out, hst.out, if_pos hin]), (H.trans he).trans (show Sees wr _ by assumption).2.2⟩
                · have hin' : inside g (pt g.bl k) = true := by simpa using hin
                  clear hin
                  by_cases hk0 : k = 0
                  · have hd : decide (0 < k) = false := by simp; omega
                    have hst2 : Hid (chkFrom g (g.bl.length - k) k = chkFrom g (g.bl.length - (k + 1)) (k + 1)) := by
                      show _ = _
                      rw [hst.out, if_neg (by simp [hin']), if_neg (by omega)]
                    clear HC hk0
                    subst ha
                    clear d1 d2 d3
                    go_wp2
                    go_region_held3 (fun w' => Sees wr w') ((repeat (first | exact Sees.refl _ | assumption | apply Sees.drew | apply Sees.alloc | (refine Sees.ext ?_ (by assumption))))) (first | (go_at_call 58; refine (Cell_any g (pt g.bl k) _ _).mono ?_; rintro e w1 ⟨rfl, hE⟩))
                    go_wp2
                    go_quiet (fail)
                    go_wp2
                    refine ⟨⟨k + 1, by omega, by go_num, by show _ = _; rw [hn.out, hst2.out], he.trans (Ext.drewN (show Sees wr _ by assumption).2.2 _)⟩, by simp [intOf]; omega⟩
                  · obtain ⟨b', off', ha', e1', e2'⟩ := HC.out.ext (H.trans he) (k - 1) (by omega)
                    subst ha
                    cases ha'
                    have hk1 : 0 < k := by omega
                    have q1 : ((k : Int) - 1).toNat = k - 1 := by omega
                    have q2 : (1 : Int) ≤ (k : Int) := by omega
                    have q3 : 1 ≤ k := by omega
                    have q4 : (k : Int) - 1 < (g.bl.length : Int) := by omega
                    have q5 : 0 ≤ (k : Int) - 1 := by omega
                    have q6 : IntKind.i64.wrap ((k : Int) - 1) = (k : Int) - 1 := IntWalk.i64_in _ (by omega)
                    clear d1 d2 d3 HC
                    cases hb : bef (pt g.bl (k - 1)) (pt g.bl k)
                    · have hst2 : Hid (chkFrom g (g.bl.length - k) k = 9) := by
                        show _ = _
                        rw [hst.out, if_neg (by simp [hin'])]
                        exact if_pos ⟨hk0, hb⟩
                      clear hk0
                      go_wp2
                      go_region_held3 (fun w' => Sees wr w') ((repeat (first | exact Sees.refl _ | assumption | apply Sees.drew | apply Sees.alloc | (refine Sees.ext ?_ (by assumption))))) (first | (go_at_call 58; refine (Cell_any g (pt g.bl k) _ _).mono ?_; rintro e w1 ⟨rfl, hE⟩))
                      go_wp2
                      go_region_held3 (fun w' => Sees wr w') ((repeat (first | exact Sees.refl _ | assumption | apply Sees.drew | apply Sees.alloc | (refine Sees.ext ?_ (by assumption))))) (first | (go_at_call 65; refine (Before_any (pt g.bl (k - 1)) (pt g.bl k) _).mono ?_; rintro e w' ⟨rfl, hE2⟩))
                      go_wp2
                      go_ret
                      exact ⟨ret_int (by rw [hz.out, hn.out, hst2.out]), (H.trans he).trans (show Sees wr _ by assumption).2.2⟩
                    · have hst2 : Hid (chkFrom g (g.bl.length - k) k = chkFrom g (g.bl.length - (k + 1)) (k + 1)) := by
                        show _ = _
                        rw [hst.out, if_neg (by simp [hin']), if_neg (by rw [hb]; simp)]
                      clear hk0
                      go_wp2
                      go_region_held3 (fun w' => Sees wr w') ((repeat (first | exact Sees.refl _ | assumption | apply Sees.drew | apply Sees.alloc | (refine Sees.ext ?_ (by assumption))))) (first | (go_at_call 58; refine (Cell_any g (pt g.bl k) _ _).mono ?_; rintro e w1 ⟨rfl, hE⟩))
                      go_wp2
                      go_region_held3 (fun w' => Sees wr w') ((repeat (first | exact Sees.refl _ | assumption | apply Sees.drew | apply Sees.alloc | (refine Sees.ext ?_ (by assumption))))) (first | (go_at_call 65; refine (Before_any (pt g.bl (k - 1)) (pt g.bl k) _).mono ?_; rintro e w' ⟨rfl, hE2⟩))
                      go_wp2
                      refine ⟨⟨k + 1, by omega, by go_num, by show _ = _; rw [hn.out, hst2.out], he.trans (show Sees wr _ by assumption).2.2⟩, by simp [intOf]; omega⟩
              · go_wp2
                go_ret
                exact ⟨ret_int (by rw [hz.out, hn.out, show g.bl.length - k = 0 from by omega]; rfl), H.trans he⟩
end Go.Proofs.Ytfigooilhnahfaa
