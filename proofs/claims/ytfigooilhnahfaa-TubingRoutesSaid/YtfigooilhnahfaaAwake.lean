/- The examples of the chapter. -/
import Derived.Test.YtfigooilhnahfaaWallE
import Derived.Test.YtfigooilhnahfaaLawFn
import Derived.Test.YtfigooilhnahfaaSame
import Derived.Test.YtfigooilhnahfaaSameI
import Derived.Test.YtfigooilhnahfaaRouteA
namespace Go.Proofs.Ytfigooilhnahfaa
open Go.RowKit

theorem cells2_five {w : World} {b : Nat} {p q r s t : Pt} (h1 : w.cell? ⟨b, 0, none⟩ = some (.int .i64 p.1)) (h2 : w.cell? ⟨b, 1, none⟩ = some (.int .i64 p.2)) (h3 : w.cell? ⟨b, 2, none⟩ = some (.int .i64 q.1)) (h4 : w.cell? ⟨b, 3, none⟩ = some (.int .i64 q.2)) (h5 : w.cell? ⟨b, 4, none⟩ = some (.int .i64 r.1)) (h6 : w.cell? ⟨b, 5, none⟩ = some (.int .i64 r.2))
    (h7 : w.cell? ⟨b, 6, none⟩ = some (.int .i64 s.1)) (h8 : w.cell? ⟨b, 7, none⟩ = some (.int .i64 s.2)) (h9 : w.cell? ⟨b, 8, none⟩ = some (.int .i64 t.1)) (h10 : w.cell? ⟨b, 9, none⟩ = some (.int .i64 t.2)) : Cells2 w (some ⟨b, 0, none⟩) [p, q, r, s, t] := fun i hi => by
  have : i = 0 ∨ i = 1 ∨ i = 2 ∨ i = 3 ∨ i = 4 := by simp at hi; omega
  rcases this with rfl | rfl | rfl | rfl | rfl
  · exact ⟨b, 0, rfl, by simpa [pt] using h1, by simpa [pt] using h2⟩
  · exact ⟨b, 0, rfl, by simpa [pt] using h3, by simpa [pt] using h4⟩
  · exact ⟨b, 0, rfl, by simpa [pt] using h5, by simpa [pt] using h6⟩
  · exact ⟨b, 0, rfl, by simpa [pt] using h7, by simpa [pt] using h8⟩
  · exact ⟨b, 0, rfl, by simpa [pt] using h9, by simpa [pt] using h10⟩
theorem cellsI_one {w : World} {b : Nat} {x : Int} (h : w.cell? ⟨b, 0, none⟩ = some (.int .i64 x)) : CellsI w (some ⟨b, 0, none⟩) [x] := fun i hi => by
  have : i = 0 := by simp at hi; omega
  subst this
  exact ⟨b, 0, rfl, by simpa using h⟩
theorem cells4_two {w : World} {b : Nat} {p q r s : Pt} (h1 : w.cell? ⟨b, 0, none⟩ = some (.int .i64 p.1)) (h2 : w.cell? ⟨b, 1, none⟩ = some (.int .i64 p.2)) (h3 : w.cell? ⟨b, 2, none⟩ = some (.int .i64 q.1)) (h4 : w.cell? ⟨b, 3, none⟩ = some (.int .i64 q.2))
    (h5 : w.cell? ⟨b, 4, none⟩ = some (.int .i64 r.1)) (h6 : w.cell? ⟨b, 5, none⟩ = some (.int .i64 r.2)) (h7 : w.cell? ⟨b, 6, none⟩ = some (.int .i64 s.1)) (h8 : w.cell? ⟨b, 7, none⟩ = some (.int .i64 s.2)) :
    Cells4 w (some ⟨b, 0, none⟩) [(p, q), (r, s)] := fun i hi => by
  have : i = 0 ∨ i = 1 := by simp at hi; omega
  rcases this with rfl | rfl
  · exact ⟨b, 0, rfl, by simpa [ph] using h1, by simpa [ph] using h2, by simpa [ph] using h3, by simpa [ph] using h4⟩
  · exact ⟨b, 0, rfl, by simpa [ph] using h5, by simpa [ph] using h6, by simpa [ph] using h7, by simpa [ph] using h8⟩

set_option maxHeartbeats 4000000 in
set_option maxRecDepth 100000 in
theorem awake_any (w : World) : Calls Try.prog 13 #[] w fun e w' => e = .returned (.bool true) ∧ Ext w w' := by
  go_enter Try.func13, Try.ntmps13
  go_wp2_with fail
  refine (Wall_any _).mono ?_
  rintro e w1 ⟨a, rfl, hW, hE⟩
  have HB := Lib.hid hW
  clear hW
  go_wp2_with fail
  refine (sent_any wallG a 2 _).mono ?_
  rintro e w2 ⟨rfl, hE2⟩
  have E2 := hE.trans hE2
  have HB2 := Lib.hid (HB.out.ext hE2)
  clear hE hE2 HB
  go_wp2_with fail
  have E3 : Ext w2 (w2.alloc (.cells #[.int .i64 wallG.rows, .int .i64 wallG.cols, .slice a wallG.bl.length 2] 33)) := (Ext.refl _).alloc _
  have a1 : (w2.alloc (.cells #[.int .i64 wallG.rows, .int .i64 wallG.cols, .slice a wallG.bl.length 2] 33)).cell? ⟨w2.heap.size, 0, none⟩ = some (.int .i64 wallG.rows) := by go_simp
  have a2 : (w2.alloc (.cells #[.int .i64 wallG.rows, .int .i64 wallG.cols, .slice a wallG.bl.length 2] 33)).cell? ⟨w2.heap.size, 1, none⟩ = some (.int .i64 wallG.cols) := by go_simp
  have a3 : (w2.alloc (.cells #[.int .i64 wallG.rows, .int .i64 wallG.cols, .slice a wallG.bl.length 2] 33)).cell? ⟨w2.heap.size, 2, none⟩ = some (.slice a wallG.bl.length 2) := by go_simp
  have HB3 := Lib.hid (HB2.out.ext E3)
  have EV3 := E2.trans E3
  obtain ⟨gb, hgb⟩ : ∃ gb, gb = w2.heap.size := ⟨_, rfl⟩
  rw [← hgb] at a1 a2 a3 ⊢
  clear hgb E2 HB2 E3
  generalize w2.alloc (.cells #[.int .i64 wallG.rows, .int .i64 wallG.cols, .slice a wallG.bl.length 2] 33) = W3 at a1 a2 a3 HB3 EV3 ⊢
  have z3 := cell_lt a1
  dsimp only at z3
  have hml : wallG.bl.length ≤ maxLen := by decide
  have HML := Lib.hid hml
  clear hml
  -- Route
  go_region_held3 (fun w' => Sees W3 w') ((repeat (first | exact Sees.refl _ | assumption | apply Sees.drew | apply Sees.alloc | (refine Sees.ext ?_ (by assumption))))) (first | (go_at_call 45; refine (at_any _ _ _).mono ?_; rintro e w' ⟨rfl, hE2⟩) | (go_at_call 29; refine (Route_any wallG (0, 1) (2, 1) a 2 _ HML.out (HB3.out.ext (by exact (show Sees W3 _ by assumption).2.2))).mono ?_; rintro e w' ⟨v, rfl, hO, hE2⟩))
  have hS := (show Sees W3 _ by assumption).2.2
  rw [wall_route.1] at hO
  rw [wall_route.2]
  obtain ⟨la, lc, rfl, hlc, _⟩ := hO.reads
  have HL := Lib.hid hlc
  have EV4 := EV3.trans hS
  have a1 := hS.cell a1
  have a2 := hS.cell a2
  have a3 := hS.cell a3
  have HB4 := Lib.hid (HB3.out.ext hS)
  clear hS hO hlc HB3 EV3 z3
  generalize w' = W4 at a1 a2 a3 HL EV4 HB4 ⊢
  -- Bends
  go_wp2_with fail
  refine (Bends_any wallG [(0, 1), (0, 0), (1, 0), (2, 0), (2, 1)] a 2 la lc _ HML.out HB4.out (by decide) HL.out).mono ?_
  rintro e W5 ⟨rfl, hE⟩
  rw [wall_bends.1, wall_bends.2]
  have EV5 := EV4.trans hE
  have a1 := hE.cell a1
  have a2 := hE.cell a2
  have a3 := hE.cell a3
  have HB5 := Lib.hid (HB4.out.ext hE)
  have HL5 := Lib.hid (HL.out.ext hE)
  clear hE HB4 EV4 HL
  have z5 := cell_lt a1
  dsimp only at z5
  go_wp2_with fail
  go_cut [6, 7, 8] (fun p n e wx => ∃ pb, p = .pointer (some ⟨pb, 0, none⟩) ∧ n = .int .i64 5 ∧ e = .int .i64 0 ∧ wx.cell? ⟨pb, 0, none⟩ = some (.int .i64 0) ∧ wx.cell? ⟨pb, 1, none⟩ = some (.int .i64 0) ∧ Ext W5 wx)
  case first =>
    have HM := Lib.hid wall_meet
    go_region_held3 (fun w' => Sees W5 w') ((repeat (first | exact Sees.refl _ | assumption | apply Sees.store | apply Sees.drew | apply Sees.alloc | (refine Sees.ext ?_ (by assumption))))) (first | (go_at_call 45; refine (at_any _ _ _).mono ?_; rintro e w' ⟨rfl, hE2⟩; (first | (have kN := (New2.made _ _ _ _).ext hE2; obtain ⟨k1, k2, k3, k4⟩ := kN) | (have kN := (New2.made _ _ _ _).drew.ext hE2; obtain ⟨k1, k2, k3, k4⟩ := kN) | (have kN := (New2.mk (by assumption) (by assumption) (by assumption) (by assumption)).ext hE2; obtain ⟨k1, k2, k3, k4⟩ := kN) | skip)) | (go_at_call 14; refine (Meet_any wallG (0, 0) (0, 3) (2, 0) a 2 _ HML.out (HB5.out.ext (by exact (show Sees W5 _ by assumption).2.2))).mono ?_; rintro e w' ⟨rfl, hE2⟩; rw [wall_meet.1, wall_meet.2.1, wall_meet.2.2]; dsimp only; (first | (have kN := (New2.made _ _ _ _).ext hE2; obtain ⟨k1, k2, k3, k4⟩ := kN) | (have kN := (New2.made _ _ _ _).drew.ext hE2; obtain ⟨k1, k2, k3, k4⟩ := kN) | (have kN := (New2.mk (by assumption) (by assumption) (by assumption) (by assumption)).ext hE2; obtain ⟨k1, k2, k3, k4⟩ := kN) | skip)))
    all_goals (go_wp2_with fail; go_meet)
    all_goals exact ⟨_, rfl, rfl, rfl, by go_simp, by go_simp, (show Sees W5 _ by assumption).2.2⟩
  case rest =>
    obtain ⟨pb, rfl, rfl, rfl, k1, k2, EX⟩ := hcut
    have EV6 := EV5.trans EX
    have a1 := EX.cell a1
    have a2 := EX.cell a2
    have a3 := EX.cell a3
    have HB6 := Lib.hid (HB5.out.ext EX)
    have HL6 := Lib.hid (HL5.out.ext EX)
    clear EX EV5 HB5 HL5 z5
    generalize wc = W6 at a1 a2 a3 HB6 HL6 EV6 k1 k2 ⊢
    have z6 := cell_lt a1
    have z7 := cell_lt k1
    dsimp only at z6 z7
    go_wp2_with fail
    go_region_held3 (fun w' => Sees W6 w') ((repeat (first | exact Sees.refl _ | assumption | apply Sees.store | apply Sees.drew | apply Sees.alloc | (refine Sees.ext ?_ (by assumption))))) (first | (go_at_call 45; refine (at_any _ _ _).mono ?_; rintro e w' ⟨rfl, hE2⟩) | (go_at_call 17; refine (Ducts_any wallG [((0, 0), (0, 3)), ((0, 1), (2, 0))] a 2 _ _ _ HML.out (HB6.out.ext (by exact (show Sees W6 _ by assumption).2.2)) (by decide) (cells4_two (by go_simp) (by go_simp) (by go_simp) (by go_simp) (by go_simp) (by go_simp) (by go_simp) (by go_simp)) (fun _ _ => trivial)).mono ?_; rintro e w' ⟨da, dc, rfl, hD, hE2⟩))
    have hS := (show Sees W6 _ by assumption).2.2
    rw [wall_duct.1, wall_duct.2]
    have EV7 := EV6.trans hS
    have a1 := hS.cell a1
    have a2 := hS.cell a2
    have a3 := hS.cell a3
    have k1 := hS.cell k1
    have k2 := hS.cell k2
    have HB7 := Lib.hid (HB6.out.ext hS)
    have HL7 := Lib.hid (HL6.out.ext hS)
    clear hS hD hE2 HB6 HL6 EV6 z6 z7
    generalize w' = W7 at a1 a2 a3 HB7 HL7 EV7 k1 k2 ⊢
    go_wp2_with fail
    refine (Parts_any wallG a 2 _ HML.out HB7.out).mono ?_
    rintro e W8 ⟨pa, pc, rfl, hP, hE⟩
    have EV8 := EV7.trans hE
    have a1 := hE.cell a1
    have k1 := hE.cell k1
    have k2 := hE.cell k2
    have HL8 := Lib.hid (HL7.out.ext hE)
    have HP8 := Lib.hid hP
    rw [wall_parts] at HP8
    rw [wall_parts, wall_chk]
    clear hE hP HB7 HL7 EV7 a2 a3
    have z8 := cell_lt k1
    dsimp only at z8
    go_wp2_with fail
    go_region_held3 (fun w' => Sees W8 w') ((repeat (first | exact Sees.refl _ | assumption | apply Sees.store | apply Sees.drew | apply Sees.alloc | (refine Sees.ext ?_ (by assumption))))) (first | (go_at_call 45; refine (at_any _ _ _).mono ?_; rintro e w' ⟨rfl, hE2⟩) | (go_at_call 46; refine (EqualP_any [(0, 1), (0, 0), (1, 0), (2, 0), (2, 1)] [(0, 1), (0, 0), (1, 0), (2, 0), (2, 1)] la _ lc _ _ (by decide) (HL8.out.ext (by exact (show Sees W8 _ by assumption).2.2)) (cells2_five (by go_simp) (by go_simp) (by go_simp) (by go_simp) (by go_simp) (by go_simp) (by go_simp) (by go_simp) (by go_simp) (by go_simp))).mono ?_; rintro e w' ⟨rfl, hE2⟩) | (go_at_call 47; refine (EqualI_any [10] [10] pa _ pc _ _ (by decide) (HP8.out.ext (by exact (show Sees W8 _ by assumption).2.2)) (cellsI_one (by go_simp))).mono ?_; rintro e w' ⟨rfl, hE2⟩))
    have hS := (show Sees W8 _ by assumption).2.2
    go_wp2
    go_ret
    exact ⟨rfl, EV8.trans hS⟩
end Go.Proofs.Ytfigooilhnahfaa
