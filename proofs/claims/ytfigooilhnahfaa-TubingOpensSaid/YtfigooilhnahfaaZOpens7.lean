/- Steps of the proof: Awake, LOpens, Open, OpenH. No conditions. -/
import Derived.ProofKit
import Derived.OpenShut
import Derived.Lib.SmallJoins
import Derived.Deep.Slices
import Derived.Test.YtfigooilhnahfaaZOpens1
import Derived.Test.YtfigooilhnahfaaZOpens2
import Derived.Test.YtfigooilhnahfaaZOpens3
import Derived.Test.YtfigooilhnahfaaZOpens4
import Derived.Test.YtfigooilhnahfaaZOpens5
import Derived.Test.YtfigooilhnahfaaZOpens6
/- The examples of the chapter. -/
namespace Go.Proofs.Ytfigooilhnahfaa
open Go.RowKit

theorem cells2_five {w : World} {b : Nat} {p q r s t : Pt} (h1 : w.cell? ⟨b, 0, none⟩ = some (.int .i64 p.1)) (h2 : w.cell? ⟨b, 1, none⟩ = some (.int .i64 p.2)) (h3 : w.cell? ⟨b, 2, none⟩ = some (.int .i64 q.1)) (h4 : w.cell? ⟨b, 3, none⟩ = some (.int .i64 q.2)) (h5 : w.cell? ⟨b, 4, none⟩ = some (.int .i64 r.1)) (h6 : w.cell? ⟨b, 5, none⟩ = some (.int .i64 r.2))
    (h7 : w.cell? ⟨b, 6, none⟩ = some (.int .i64 s.1)) (h8 : w.cell? ⟨b, 7, none⟩ = some (.int .i64 s.2)) (h9 : w.cell? ⟨b, 8, none⟩ = some (.int .i64 t.1)) (h10 : w.cell? ⟨b, 9, none⟩ = some (.int .i64 t.2)) : Cells2 w (some ⟨b, 0, none⟩) [p, q, r, s, t] := fun i hi => by
  have : i = 0 ∨ i = 1 ∨ i = 2 ∨ i = 3 ∨ i = 4 := by simp at hi; omega
  rcases this with rfl | rfl | rfl | rfl | rfl
  · exact ⟨b, 0, rfl, by simpa [pt] using h1, by simpa [pt] using h2⟩
  · exact ⟨b, 0, rfl, by simpa [pt] using h3, by simpa [pt] using h4⟩
  · exact ⟨b, 0, rfl, by simpa [pt] using h5, by simpa [pt] using h6⟩
  · exact ⟨b, 0, rfl, by simpa [pt] using h7, by simpa [pt] using h8⟩
  · exact ⟨b, 0, rfl, by simpa [pt] using h9, by simpa [pt] using h10⟩
theorem cellsI_one {w : World} {b : Nat} {x : Int} (h : w.cell? ⟨b, 0, none⟩ = some (.int .i64 x)) : CellsI w (some ⟨b, 0, none⟩) [x] := fun i hi => by
  have : i = 0 := by simp at hi; omega
  subst this
  exact ⟨b, 0, rfl, by simpa using h⟩
theorem cells4_two {w : World} {b : Nat} {p q r s : Pt} (h1 : w.cell? ⟨b, 0, none⟩ = some (.int .i64 p.1)) (h2 : w.cell? ⟨b, 1, none⟩ = some (.int .i64 p.2)) (h3 : w.cell? ⟨b, 2, none⟩ = some (.int .i64 q.1)) (h4 : w.cell? ⟨b, 3, none⟩ = some (.int .i64 q.2))
    (h5 : w.cell? ⟨b, 4, none⟩ = some (.int .i64 r.1)) (h6 : w.cell? ⟨b, 5, none⟩ = some (.int .i64 r.2)) (h7 : w.cell? ⟨b, 6, none⟩ = some (.int .i64 s.1)) (h8 : w.cell? ⟨b, 7, none⟩ = some (.int .i64 s.2)) :
    Cells4 w (some ⟨b, 0, none⟩) [(p, q), (r, s)] := fun i hi => by
  have : i = 0 ∨ i = 1 := by simp at hi; omega
  rcases this with rfl | rfl
  · exact ⟨b, 0, rfl, by simpa [ph] using h1, by simpa [ph] using h2, by simpa [ph] using h3, by simpa [ph] using h4⟩
  · exact ⟨b, 0, rfl, by simpa [ph] using h5, by simpa [ph] using h6, by simpa [ph] using h7, by simpa [ph] using h8⟩

set_option maxHeartbeats 4000000 in
set_option maxRecDepth 100000 in
theorem awake_any (w : World) : Calls Try.prog 13 #[] w fun e w' => e = .returned (.bool true) ∧ Ext w w' := by
  go_enter Try.func13, Try.ntmps13
  go_wp2_with fail
  refine (Wall_any _).mono ?_
  rintro e w1 ⟨a, rfl, hW, hE⟩
  have HB := Lib.hid hW
  clear hW
  go_wp2_with fail
  refine (sent_any wallG a 2 _).mono ?_
  rintro e w2 ⟨rfl, hE2⟩
  have E2 := hE.trans hE2
  have HB2 := Lib.hid (HB.out.ext hE2)
  clear hE hE2 HB
  go_wp2_with fail
  have E3 : Ext w2 (w2.alloc (.cells #[.int .i64 wallG.rows, .int .i64 wallG.cols, .slice a wallG.bl.length 2] 33)) := (Ext.refl _).alloc _
  have a1 : (w2.alloc (.cells #[.int .i64 wallG.rows, .int .i64 wallG.cols, .slice a wallG.bl.length 2] 33)).cell? ⟨w2.heap.size, 0, none⟩ = some (.int .i64 wallG.rows) := by go_simp
  have a2 : (w2.alloc (.cells #[.int .i64 wallG.rows, .int .i64 wallG.cols, .slice a wallG.bl.length 2] 33)).cell? ⟨w2.heap.size, 1, none⟩ = some (.int .i64 wallG.cols) := by go_simp
  have a3 : (w2.alloc (.cells #[.int .i64 wallG.rows, .int .i64 wallG.cols, .slice a wallG.bl.length 2] 33)).cell? ⟨w2.heap.size, 2, none⟩ = some (.slice a wallG.bl.length 2) := by go_simp
  have HB3 := Lib.hid (HB2.out.ext E3)
  have EV3 := E2.trans E3
  obtain ⟨gb, hgb⟩ : ∃ gb, gb = w2.heap.size := ⟨_, rfl⟩
  rw [← hgb] at a1 a2 a3 ⊢
  clear hgb E2 HB2 E3
  generalize w2.alloc (.cells #[.int .i64 wallG.rows, .int .i64 wallG.cols, .slice a wallG.bl.length 2] 33) = W3 at a1 a2 a3 HB3 EV3 ⊢
  have z3 := cell_lt a1
  dsimp only at z3
  have hml : wallG.bl.length ≤ maxLen := by decide
  have HML := Lib.hid hml
  clear hml
  -- Route
  go_region_held3 (fun w' => Sees W3 w') ((repeat (first | exact Sees.refl _ | assumption | apply Sees.drew | apply Sees.alloc | (refine Sees.ext ?_ (by assumption))))) (first | (go_at_call 45; refine (at_any _ _ _).mono ?_; rintro e w' ⟨rfl, hE2⟩) | (go_at_call 29; refine (Route_any wallG (0, 1) (2, 1) a 2 _ HML.out (HB3.out.ext (by exact (show Sees W3 _ by assumption).2.2))).mono ?_; rintro e w' ⟨v, rfl, hO, hE2⟩))
  have hS := (show Sees W3 _ by assumption).2.2
  rw [wall_route.1] at hO
  rw [wall_route.2]
  obtain ⟨la, lc, rfl, hlc, _⟩ := hO.reads
  have HL := Lib.hid hlc
  have EV4 := EV3.trans hS
  have a1 := hS.cell a1
  have a2 := hS.cell a2
  have a3 := hS.cell a3
  have HB4 := Lib.hid (HB3.out.ext hS)
  clear hS hO hlc HB3 EV3 z3
  generalize w' = W4 at a1 a2 a3 HL EV4 HB4 ⊢
  -- Bends
  go_wp2_with fail
  refine (Bends_any wallG [(0, 1), (0, 0), (1, 0), (2, 0), (2, 1)] a 2 la lc _ HML.out HB4.out (by decide) HL.out).mono ?_
  rintro e W5 ⟨rfl, hE⟩
  rw [wall_bends.1, wall_bends.2]
  have EV5 := EV4.trans hE
  have a1 := hE.cell a1
  have a2 := hE.cell a2
  have a3 := hE.cell a3
  have HB5 := Lib.hid (HB4.out.ext hE)
  have HL5 := Lib.hid (HL.out.ext hE)
  clear hE HB4 EV4 HL
  have z5 := cell_lt a1
  dsimp only at z5
  go_wp2_with fail
  go_cut [6, 7, 8] (fun p n e wx => ∃ pb, p = .pointer (some ⟨pb, 0, none⟩) ∧ n = .int .i64 5 ∧ e = .int .i64 0 ∧ wx.cell? ⟨pb, 0, none⟩ = some (.int .i64 0) ∧ wx.cell? ⟨pb, 1, none⟩ = some (.int .i64 0) ∧ Ext W5 wx)
  case first =>
    have HM := Lib.hid wall_meet
    go_region_held3 (fun w' => Sees W5 w') ((repeat (first | exact Sees.refl _ | assumption | apply Sees.store | apply Sees.drew | apply Sees.alloc | (refine Sees.ext ?_ (by assumption))))) (first | (go_at_call 45; refine (at_any _ _ _).mono ?_; rintro e w' ⟨rfl, hE2⟩; (first | (have kN := (New2.made _ _ _ _).ext hE2; obtain ⟨k1, k2, k3, k4⟩ := kN) | (have kN := (New2.made _ _ _ _).drew.ext hE2; obtain ⟨k1, k2, k3, k4⟩ := kN) | (have kN := (New2.mk (by assumption) (by assumption) (by assumption) (by assumption)).ext hE2; obtain ⟨k1, k2, k3, k4⟩ := kN) | skip)) | (go_at_call 14; refine (Meet_any wallG (0, 0) (0, 3) (2, 0) a 2 _ HML.out (HB5.out.ext (by exact (show Sees W5 _ by assumption).2.2))).mono ?_; rintro e w' ⟨rfl, hE2⟩; rw [wall_meet.1, wall_meet.2.1, wall_meet.2.2]; dsimp only; (first | (have kN := (New2.made _ _ _ _).ext hE2; obtain ⟨k1, k2, k3, k4⟩ := kN) | (have kN := (New2.made _ _ _ _).drew.ext hE2; obtain ⟨k1, k2, k3, k4⟩ := kN) | (have kN := (New2.mk (by assumption) (by assumption) (by assumption) (by assumption)).ext hE2; obtain ⟨k1, k2, k3, k4⟩ := kN) | skip)))
    all_goals (go_wp2_with fail; go_meet)
    all_goals exact ⟨_, rfl, rfl, rfl, by go_simp, by go_simp, (show Sees W5 _ by assumption).2.2⟩
  case rest =>
    obtain ⟨pb, rfl, rfl, rfl, k1, k2, EX⟩ := hcut
    have EV6 := EV5.trans EX
    have a1 := EX.cell a1
    have a2 := EX.cell a2
    have a3 := EX.cell a3
    have HB6 := Lib.hid (HB5.out.ext EX)
    have HL6 := Lib.hid (HL5.out.ext EX)
    clear EX EV5 HB5 HL5 z5
    generalize wc = W6 at a1 a2 a3 HB6 HL6 EV6 k1 k2 ⊢
    have z6 := cell_lt a1
    have z7 := cell_lt k1
    dsimp only at z6 z7
    go_wp2_with fail
    go_region_held3 (fun w' => Sees W6 w') ((repeat (first | exact Sees.refl _ | assumption | apply Sees.store | apply Sees.drew | apply Sees.alloc | (refine Sees.ext ?_ (by assumption))))) (first | (go_at_call 45; refine (at_any _ _ _).mono ?_; rintro e w' ⟨rfl, hE2⟩) | (go_at_call 17; refine (Ducts_any wallG [((0, 0), (0, 3)), ((0, 1), (2, 0))] a 2 _ _ _ HML.out (HB6.out.ext (by exact (show Sees W6 _ by assumption).2.2)) (by decide) (cells4_two (by go_simp) (by go_simp) (by go_simp) (by go_simp) (by go_simp) (by go_simp) (by go_simp) (by go_simp)) (fun _ _ => trivial)).mono ?_; rintro e w' ⟨da, dc, rfl, hD, hE2⟩))
    have hS := (show Sees W6 _ by assumption).2.2
    rw [wall_duct.1, wall_duct.2]
    have EV7 := EV6.trans hS
    have a1 := hS.cell a1
    have a2 := hS.cell a2
    have a3 := hS.cell a3
    have k1 := hS.cell k1
    have k2 := hS.cell k2
    have HB7 := Lib.hid (HB6.out.ext hS)
    have HL7 := Lib.hid (HL6.out.ext hS)
    clear hS hD hE2 HB6 HL6 EV6 z6 z7
    generalize w' = W7 at a1 a2 a3 HB7 HL7 EV7 k1 k2 ⊢
    go_wp2_with fail
    refine (Parts_any wallG a 2 _ HML.out HB7.out).mono ?_
    rintro e W8 ⟨pa, pc, rfl, hP, hE⟩
    have EV8 := EV7.trans hE
    have a1 := hE.cell a1
    have k1 := hE.cell k1
    have k2 := hE.cell k2
    have HL8 := Lib.hid (HL7.out.ext hE)
    have HP8 := Lib.hid hP
    rw [wall_parts] at HP8
    rw [wall_parts, wall_chk]
    clear hE hP HB7 HL7 EV7 a2 a3
    have z8 := cell_lt k1
    dsimp only at z8
    go_wp2_with fail
    go_region_held3 (fun w' => Sees W8 w') ((repeat (first | exact Sees.refl _ | assumption | apply Sees.store | apply Sees.drew | apply Sees.alloc | (refine Sees.ext ?_ (by assumption))))) (first | (go_at_call 45; refine (at_any _ _ _).mono ?_; rintro e w' ⟨rfl, hE2⟩) | (go_at_call 46; refine (EqualP_any [(0, 1), (0, 0), (1, 0), (2, 0), (2, 1)] [(0, 1), (0, 0), (1, 0), (2, 0), (2, 1)] la _ lc _ _ (by decide) (HL8.out.ext (by exact (show Sees W8 _ by assumption).2.2)) (cells2_five (by go_simp) (by go_simp) (by go_simp) (by go_simp) (by go_simp) (by go_simp) (by go_simp) (by go_simp) (by go_simp) (by go_simp))).mono ?_; rintro e w' ⟨rfl, hE2⟩) | (go_at_call 47; refine (EqualI_any [10] [10] pa _ pc _ _ (by decide) (HP8.out.ext (by exact (show Sees W8 _ by assumption).2.2)) (cellsI_one (by go_simp))).mono ?_; rintro e w' ⟨rfl, hE2⟩))
    have hS := (show Sees W8 _ by assumption).2.2
    go_wp2
    go_ret
    exact ⟨rfl, EV8.trans hS⟩
end Go.Proofs.Ytfigooilhnahfaa
/- The law TubingOpens: its walk. -/
namespace Go.Proofs.Ytfigooilhnahfaa
open Go.RowKit

/-- a new block of three cells is there behind a call -/
structure New3 (w : World) (pb : Nat) (a b c : Value) : Prop where
  c0 : w.cell? ⟨pb, 0, none⟩ = some a
  c1 : w.cell? ⟨pb, 1, none⟩ = some b
  c2 : w.cell? ⟨pb, 2, none⟩ = some c
  f0 : w.frozen? ⟨pb, 0, none⟩ = false
  f1 : w.frozen? ⟨pb, 1, none⟩ = false
  f2 : w.frozen? ⟨pb, 2, none⟩ = false
theorem New3.chg {A B : World} {pb : Nat} {X : Nat → Prop} {a b c : Value} (h : New3 A pb a b c) (x : Chg X A B) (hn : ¬ X pb) : New3 B pb a b c := by
  have hb := x.2 pb (cell_lt h.c0) hn
  exact ⟨(World.cell?_of_block (w := A) (a := ⟨pb, 0, none⟩) hb).trans h.c0, (World.cell?_of_block (w := A) (a := ⟨pb, 1, none⟩) hb).trans h.c1, (World.cell?_of_block (w := A) (a := ⟨pb, 2, none⟩) hb).trans h.c2,
    (World.frozen?_of_block (w := A) (a := ⟨pb, 0, none⟩) hb).trans h.f0, (World.frozen?_of_block (w := A) (a := ⟨pb, 1, none⟩) hb).trans h.f1, (World.frozen?_of_block (w := A) (a := ⟨pb, 2, none⟩) hb).trans h.f2⟩
theorem New3.ext {A B : World} {pb : Nat} {a b c : Value} (h : New3 A pb a b c) (x : Ext A B) : New3 B pb a b c := h.chg (Chg.ext (B := fun _ => False) x) id
theorem New3.made (w : World) (a b c : Value) (t : TypeId) : New3 (w.alloc (.cells #[a, b, c] t)) w.heap.size a b c :=
  ⟨by rw [World.cell?_alloc_new]; rfl, by rw [World.cell?_alloc_new]; rfl, by rw [World.cell?_alloc_new]; rfl, World.frozen?_alloc_new _ _ _ _, World.frozen?_alloc_new _ _ _ _, World.frozen?_alloc_new _ _ _ _⟩
theorem Cells2.set {w : World} {b : Nat} {l : List Pt} (h : Cells2 w (some ⟨b, 0, none⟩) l) (p : Addr) (v : Value) (hp : p.block ≠ b) : Cells2 (w.setCell p v) (some ⟨b, 0, none⟩) l := fun i hi => by
  obtain ⟨b', off', h1, h2, h3⟩ := h i hi
  cases h1
  exact ⟨b, 0, rfl, (World.cell?_setCell_other _ _ _ _ (fun e => hp (by rw [e]))).trans h2, (World.cell?_setCell_other _ _ _ _ (fun e => hp (by rw [e]))).trans h3⟩
theorem Clone_blk (l : List Pt) (n : Nat) (a : Option Addr) (cap : Nat) (w : World) (hn : l.length = n) (hp : 0 < n) (hl : n ≤ 100000) (hc : Cells2 w a l) :
    Calls Try.prog 39 #[.slice a n cap] w fun e w' => ∃ b c, e = .returned (.slice (some ⟨b, 0, none⟩) n c) ∧ Owns w' (.slice (some ⟨b, 0, none⟩) l.length c) l ∧ w.heap.size ≤ b ∧ b < w'.heap.size ∧ Ext w w' := by
  subst hn
  refine (CloneP_any l a cap w (List.length_pos_iff.1 hp) hl hc).mono ?_
  rintro e w' ⟨v, rfl, hO, hob, hE⟩
  rcases hO.2 with ⟨_, h0⟩ | ⟨b, c, cur, rfl, _⟩
  · omega
  · exact ⟨b, c, rfl, hO, hob b rfl, hO.lt rfl, hE⟩

set_option maxHeartbeats 8000000 in
set_option maxRecDepth 100000 in
theorem TubingOpens_any (g : Gr) (p q : Pt) (iv : Int) (ga : Option Addr) (gc : Nat) (w : World) (hiv : 0 ≤ iv ∧ iv ≤ 255) (hg : g.bl.length ≤ maxLen) (hc : Cells2 w ga g.bl) :
    Calls Try.prog 10 #[.agg #[.int .i64 g.rows, .int .i64 g.cols, .slice ga g.bl.length gc], .agg #[.int .i64 p.1, .int .i64 p.2, .int .i64 q.1, .int .i64 q.2], .int .u8 iv] w fun e w' => e = .returned (.bool true) ∧ Ext w w' := by
  have HC : Hid (Cells2 w ga g.bl) := hc
  have HG := Lib.hid hg
  clear hc hg
  obtain ⟨W0, hW0⟩ : ∃ W0, (((w).alloc (.cells #[.int .i64 g.rows, .int .i64 g.cols, .slice ga g.bl.length gc] 24))).alloc (.cells #[.int .i64 p.1, .int .i64 p.2, .int .i64 q.1, .int .i64 q.2] 74) = W0 := ⟨_, rfl⟩
  have E0 : Ext w W0 := by rw [← hW0]; exact ((Ext.refl _).alloc _).alloc _
  have a1 : W0.cell? ⟨w.heap.size, 0, none⟩ = some (.int .i64 g.rows) := by rw [← hW0]; clear hW0; go_simp
  have a2 : W0.cell? ⟨w.heap.size, 1, none⟩ = some (.int .i64 g.cols) := by rw [← hW0]; clear hW0; go_simp
  have a3 : W0.cell? ⟨w.heap.size, 2, none⟩ = some (.slice ga g.bl.length gc) := by rw [← hW0]; clear hW0; go_simp
  have p1 : W0.cell? ⟨w.heap.size + 1, 0, none⟩ = some (.int .i64 p.1) := by rw [← hW0]; clear hW0; go_simp
  have p2 : W0.cell? ⟨w.heap.size + 1, 1, none⟩ = some (.int .i64 p.2) := by rw [← hW0]; clear hW0; go_simp
  have q1 : W0.cell? ⟨w.heap.size + 1, 2, none⟩ = some (.int .i64 q.1) := by rw [← hW0]; clear hW0; go_simp
  have q2 : W0.cell? ⟨w.heap.size + 1, 3, none⟩ = some (.int .i64 q.2) := by rw [← hW0]; clear hW0; go_simp
  go_enter Try.func10, Try.ntmps10
  go_wp2_with fail
  clear hW0
  refine (right_any g ga gc _ HG.out (HC.out.ext E0)).mono ?_
  rintro e W1 ⟨rfl, hE⟩
  have E1 := E0.trans hE
  have a1 := hE.cell a1
  have a2 := hE.cell a2
  have a3 := hE.cell a3
  have p1 := hE.cell p1
  have p2 := hE.cell p2
  have q1 := hE.cell q1
  have q2 := hE.cell q2
  clear hE E0
  cases hf : rightB g
  · clear hf
    go_wp2_with fail
    refine (awake_any _).mono ?_
    rintro e W2 ⟨rfl, hE⟩
    go_wp2
    go_ret
    exact ⟨rfl, E1.trans hE⟩
  · by_cases hz : g.bl.length = 0
    · have hz1 : (g.bl.length : Int) = 0 := by omega
      have hz2 : ((g.bl.length : Int) == 0) = true := by simp [hz1]
      clear hf
      go_wp2_with fail
      refine (awake_any _).mono ?_
      rintro e W2 ⟨rfl, hE⟩
      go_wp2
      go_ret
      exact ⟨rfl, E1.trans hE⟩
    · obtain ⟨_, _, hk⟩ := rightB_ok hf
      have hR := right_of_chk hk
      have hfew := hR.few
      have HR := Lib.hid hR
      obtain ⟨n, hn⟩ : ∃ n, n = g.bl.length := ⟨_, rfl⟩
      obtain ⟨k, hkk⟩ : ∃ k, k = iv.toNat % n := ⟨_, rfl⟩
      have hkn : k < n := by rw [hkk]; exact Nat.mod_lt _ (by omega)
      have m1 : iv.tmod (n : Int) = (k : Int) := by
        rw [hkk, Int.tmod_eq_emod_of_nonneg hiv.1]
        obtain ⟨j, hj⟩ : ∃ j : Nat, iv = (j : Int) := ⟨iv.toNat, by omega⟩
        rw [hj]
        exact (Int.natCast_emod _ _).symm
      have m2 : IntKind.i64.wrap iv = iv := IntWalk.i64_in _ (by omega)
      have m3 : ((n : Int) == 0) = false := by simp; omega
      have m4 : ¬ (n : Int) = 0 := by omega
      have m5 : IntKind.i64.wrap (k : Int) = (k : Int) := IntWalk.i64_in _ (by omega)
      have m6 : IntKind.i64.wrap ((k : Int) + 1) = (k : Int) + 1 := IntWalk.i64_in _ (by omega)
      obtain ⟨r, hr⟩ : ∃ r, n = k + 1 + r := ⟨n - (k + 1), by omega⟩
      have HN := Lib.hid hn
      have HRR := Lib.hid hr
      rw [← hn] at a3 hfew hz ⊢
      clear hf hk hR hkk hn hr
      go_wp2_with fail
      have HCL : Hid (∀ W', Ext w W' → Calls Try.prog 39 #[.slice ga n gc] W' fun e w' => ∃ b c, e = .returned (.slice (some ⟨b, 0, none⟩) n c) ∧ Owns w' (.slice (some ⟨b, 0, none⟩) g.bl.length c) g.bl ∧ W'.heap.size ≤ b ∧ b < w'.heap.size ∧ Ext W' w') := fun W' hW => Clone_blk g.bl n ga gc W' HN.out.symm (by omega) (by omega) (HC.out.ext hW)
      have HDE : Hid (∀ (W' : World) (b c : Nat), Owns W' (.slice (some ⟨b, 0, none⟩) g.bl.length c) g.bl → Calls Try.prog 38 #[.slice (some ⟨b, 0, none⟩) n c, .int .i64 k, .int .i64 ((k : Int) + 1)] W' fun e w' => e = .returned (.slice (some ⟨b, 0, none⟩) (k + r) c) ∧ Cells2 w' (some ⟨b, 0, none⟩) (g.bl.eraseIdx k) ∧ Chg (fun x => x = b) W' w' ∧ Below b W' w') := fun W' b c hO => by
        rw [HRR.out]
        exact DeleteP_any g.bl b c k r W' (by rw [← HN.out]; exact HRR.out) (by rw [← HN.out]; omega) hO
      have z1 := cell_lt a1
      have z2 := cell_lt p1
      dsimp only at z1 z2
      clear m1 m2 m3 m4 hz
      go_cut [8] (fun x wx => ∃ hb b c, x = .pointer (some ⟨hb, 0, none⟩) ∧ wx.cell? ⟨hb, 0, none⟩ = some (.int .i64 g.rows) ∧ wx.cell? ⟨hb, 1, none⟩ = some (.int .i64 g.cols) ∧ wx.cell? ⟨hb, 2, none⟩ = some (.slice (some ⟨b, 0, none⟩) (k + r) c) ∧ Cells2 wx (some ⟨b, 0, none⟩) (g.bl.eraseIdx k) ∧ Ext W1 wx)
      case first =>
        go_region_held3 (fun w' => Sees W1 w') ((repeat (first | exact Sees.refl _ | assumption | apply Sees.store | apply Sees.drew | apply Sees.alloc | (refine Sees.ext ?_ (by assumption))))) (first | (go_at_call 39; refine (HCL.out _ (E1.trans (by exact (show Sees W1 _ by assumption).2.2))).mono ?_; rintro e w' ⟨b, c, rfl, hO, hob, hblt, hE2⟩; have hob2 := Nat.le_trans (show Sees W1 _ by assumption).2.2.size hob; (first | (have kN0 := (New3.made _ _ _ _ _).ext hE2; have hne0 : W1.heap.size ≠ b := (by simp at hob; omega)) | (have kN0 := (New3.ext (New3.made _ _ _ _ _) ((Ext.refl _).drew)).ext hE2; have hne0 : W1.heap.size ≠ b := (by simp at hob; omega)) | skip)) | (go_at_call 38; refine (HDE.out _ b c (by first | exact hO | exact hO.ext ((Ext.refl _).alloc _) | exact hO.ext (((Ext.refl _).alloc _).drew))).mono ?_; rintro e w' ⟨rfl, hcell, hch, hbel⟩; have hS9 : Sees W1 w' := sees (Below.trans (show Sees W1 _ by assumption).2.2 (hbel.mono hob2)); (first | (have kN := kN0.chg hch (fun h => by first | exact hne0 h | omega); obtain ⟨k1, k2, k3, k4, k5, k6⟩ := kN) | (have kN := (New3.made _ _ _ _ _).chg hch (fun h => by omega); obtain ⟨k1, k2, k3, k4, k5, k6⟩ := kN) | skip)))
        all_goals (go_wp2_with fail; go_meet)
        all_goals refine ⟨_, b, c, rfl, by go_simp, by go_simp, by go_simp, ?_, (show Sees W1 _ by assumption).2.2⟩
        all_goals first | exact hcell.ext ((Ext.refl _).alloc _) | exact ((hcell.set ⟨_, 0, none⟩ _ (fun e => by dsimp only at e; omega)).set ⟨_, 1, none⟩ _ (fun e => by dsimp only at e; omega)).set ⟨_, 2, none⟩ _ (fun e => by dsimp only at e; omega)
      case rest =>
        obtain ⟨hb, b, c, rfl, h1, h2, h3, h4, EX⟩ := hcut
        have E2 := E1.trans EX
        have HC2 : Hid (Cells2 wc (some ⟨b, 0, none⟩) (less g k).bl) := h4
        have a1 := EX.cell a1
        have a2 := EX.cell a2
        have a3 := EX.cell a3
        have p1 := EX.cell p1
        have p2 := EX.cell p2
        have q1 := EX.cell q1
        have q2 := EX.cell q2
        have hlk : (less g k).bl.length = k + r := by
          show (g.bl.eraseIdx k).length = _
          have h5 := HN.out
          have h6 := HRR.out
          rw [List.length_eraseIdx, if_pos (by omega)]; omega
        have HLK := Lib.hid hlk
        have hkb : k < g.bl.length := by rw [← HN.out]; exact hkn
        have HKB := Lib.hid hkb
        clear EX E1 z1 z2 h4 HCL HDE hlk hkb
        generalize wc = W2 at a1 a2 a3 p1 p2 q1 q2 h1 h2 h3 E2 HC2 ⊢
        have HS1 : Hid (∀ W', Calls Try.prog 15 #[.agg #[.int .i64 g.rows, .int .i64 g.cols, .slice ga n gc]] W' fun e w' => e = .returned (.agg #[.int .i64 g.rows, .int .i64 g.cols, .slice ga n gc]) ∧ Ext W' w') := fun W' => by
          rw [HN.out]; exact sent_any g ga gc W'
        have HS2 : Hid (∀ W', Calls Try.prog 15 #[.agg #[.int .i64 g.rows, .int .i64 g.cols, .slice (some ⟨b, 0, none⟩) (k + r) c]] W' fun e w' => e = .returned (.agg #[.int .i64 g.rows, .int .i64 g.cols, .slice (some ⟨b, 0, none⟩) (k + r) c]) ∧ Ext W' w') := fun W' => by
          rw [← HLK.out]; exact sent_any (less g k) _ c W'
        have HP1 : Hid (∀ W', Ext W2 W' → Calls Try.prog 22 #[.agg #[.int .i64 g.rows, .int .i64 g.cols, .slice ga n gc]] W' fun e w' => ∃ a cp, e = .returned (.tuple #[.slice a (partsL g).length cp, .int .i64 0]) ∧ CellsI w' a (partsL g) ∧ Ext W' w') := fun W' hW => by
          rw [HN.out]
          have := Parts_any g ga gc W' HG.out (HC.out.ext (E2.trans hW))
          unfold PartsPost at this
          rw [chk_of_right HR.out] at this
          exact this
        have HP2 : Hid (∀ W', Ext W2 W' → Calls Try.prog 22 #[.agg #[.int .i64 g.rows, .int .i64 g.cols, .slice (some ⟨b, 0, none⟩) (k + r) c]] W' fun e w' => ∃ a cp, e = .returned (.tuple #[.slice a (partsL (less g k)).length cp, .int .i64 0]) ∧ CellsI w' a (partsL (less g k)) ∧ Ext W' w') := fun W' hW => by
          rw [← HLK.out]
          have := Parts_any (less g k) (some ⟨b, 0, none⟩) c W' (by rw [HLK.out]; have := HRR.out; unfold maxLen; omega) (HC2.out.ext hW)
          unfold PartsPost at this
          rw [chk_of_right (right_less HR.out HKB.out)] at this
          exact this
        have HL1 : Hid (∀ W', Ext W2 W' → Calls Try.prog 27 #[.agg #[.int .i64 g.rows, .int .i64 g.cols, .slice ga n gc], .agg #[.int .i64 p.1, .int .i64 p.2], .agg #[.int .i64 q.1, .int .i64 q.2]] W' fun e w' => e = .returned (.tuple #[.int .i64 (lenN g p q), .int .i64 (lenE g p q)]) ∧ Ext W' w') := fun W' hW => by
          rw [HN.out]
          exact Length_any g p q ga gc W' HG.out (HC.out.ext (E2.trans hW))
        have HL2 : Hid (∀ W', Ext W2 W' → Calls Try.prog 27 #[.agg #[.int .i64 g.rows, .int .i64 g.cols, .slice (some ⟨b, 0, none⟩) (k + r) c], .agg #[.int .i64 p.1, .int .i64 p.2], .agg #[.int .i64 q.1, .int .i64 q.2]] W' fun e w' => e = .returned (.tuple #[.int .i64 (lenN (less g k) p q), .int .i64 (lenE (less g k) p q)]) ∧ Ext W' w') := fun W' hW => by
          rw [← HLK.out]
          exact Length_any (less g k) p q (some ⟨b, 0, none⟩) c W' (by rw [HLK.out]; have := HRR.out; unfold maxLen; omega) (HC2.out.ext hW)
        obtain ⟨bd1, bl1⟩ := partsL_bd g
        obtain ⟨bd2, bl2⟩ := partsL_bd (less g k)
        have hsum := less_sum HR.out HKB.out
        have hdesc := partsL_desc (less g k)
        have HLS := Lib.hid (fun h => len_less (p := p) (q := q) HKB.out h)
        generalize partsL g = La at HP1 bd1 bl1 hsum
        generalize partsL (less g k) = Lb at HP2 bd2 bl2 hsum hdesc
        generalize lenN g p q = n1 at HL1 HLS
        generalize lenE g p q = e1 at HL1 HLS
        generalize lenN (less g k) p q = n2 at HL2 HLS
        generalize lenE (less g k) p q = e2 at HL2 HLS
        obtain ⟨ma, hma⟩ : ∃ ma, ma = La.length := ⟨_, rfl⟩
        obtain ⟨mb, hmb⟩ : ∃ mb, mb = Lb.length := ⟨_, rfl⟩
        have HSUM : Hid (1 + sumT La ma - sumT Lb mb = 0) := by show _ = _; rw [hma, hmb]; exact hsum
        rw [← hma] at HP1 bl1
        rw [← hmb] at HP2 bl2
        have HMA := Lib.hid hma
        have HMB := Lib.hid hmb
        have HDB : Hid (Desc Lb ∧ ∀ x ∈ Lb, 0 ≤ x ∧ x ≤ 4096) := ⟨hdesc, bd2⟩
        have SBA := Lib.hid (sumT_bd bd1)
        have SBB := Lib.hid (sumT_bd bd2)
        have BDA := Lib.hid bd1
        have BDB := Lib.hid bd2
        clear hma hmb hsum hdesc bd1 bd2 HC2
        go_wp2_with fail
        refine (HS1.out _).mono ?_
        rintro e W3 ⟨rfl, hE⟩
        have X3 := hE
        have a1 := hE.cell a1
        have a2 := hE.cell a2
        have a3 := hE.cell a3
        have p1 := hE.cell p1
        have p2 := hE.cell p2
        have q1 := hE.cell q1
        have q2 := hE.cell q2
        have h1 := hE.cell h1
        have h2 := hE.cell h2
        have h3 := hE.cell h3
        clear hE
        go_wp2_with fail
        refine (HP1.out _ X3).mono ?_
        rintro e W4 ⟨pa, pac, rfl, hI, hE⟩
        have X4 := X3.trans hE
        have HIA := Lib.hid hI
        have a1 := hE.cell a1
        have a2 := hE.cell a2
        have a3 := hE.cell a3
        have p1 := hE.cell p1
        have p2 := hE.cell p2
        have q1 := hE.cell q1
        have q2 := hE.cell q2
        have h1 := hE.cell h1
        have h2 := hE.cell h2
        have h3 := hE.cell h3
        clear hE X3 hI
        go_wp2_with fail
        refine (HS2.out _).mono ?_
        rintro e W5 ⟨rfl, hE⟩
        have X5 := X4.trans hE
        have HIA := Lib.hid (HIA.out.ext hE)
        have a1 := hE.cell a1
        have a2 := hE.cell a2
        have a3 := hE.cell a3
        have p1 := hE.cell p1
        have p2 := hE.cell p2
        have q1 := hE.cell q1
        have q2 := hE.cell q2
        have h1 := hE.cell h1
        have h2 := hE.cell h2
        have h3 := hE.cell h3
        clear hE X4
        go_wp2_with fail
        refine (HP2.out _ X5).mono ?_
        rintro e W6 ⟨qa, qac, rfl, hI, hE⟩
        have X6 := X5.trans hE
        have HIA := Lib.hid (HIA.out.ext hE)
        have HIB := Lib.hid hI
        have a1 := hE.cell a1
        have a2 := hE.cell a2
        have a3 := hE.cell a3
        have p1 := hE.cell p1
        have p2 := hE.cell p2
        have q1 := hE.cell q1
        have q2 := hE.cell q2
        have h1 := hE.cell h1
        have h2 := hE.cell h2
        have h3 := hE.cell h3
        clear hE X5 hI HP1 HP2
        go_wp2_with fail
        go_loopw [13, 68] (fun s i wr => ∃ j : Nat, j ≤ ma ∧ i = .int .i64 j ∧ s = .int .i64 (1 + sumT La j) ∧ Ext W6 wr) (fun _ i _ => ma - (intOf i).toNat)
        case atStart => exact ⟨0, Nat.zero_le _, rfl, rfl, Ext.refl _⟩
        case round =>
          obtain ⟨j, hj, rfl, rfl, he⟩ := hrel
          have hsb := SBA.out j
          by_cases hlt : j < ma
          · have hlt' : (j : Int) < (ma : Int) := by omega
            obtain ⟨fb, foff, rfl, d1⟩ := HIA.out.ext he j (by rw [← HMA.out]; exact hlt)
            have hx : 0 ≤ La.getD j 0 ∧ La.getD j 0 ≤ 4096 := BDA.out _ (by have h := HMA.out; rw [List.getD_eq_getElem?_getD, List.getElem?_eq_getElem (show j < La.length by omega)]; simp)
            have hnx : 1 + sumT La (j + 1) = 1 + sumT La j + La.getD j 0 := by show 1 + (sumT La j + La.getD j 0) = _; omega
            generalize La.getD j 0 = x at d1 hx hnx
            generalize sumT La j = s0 at hsb hnx ⊢
            have HNX := Lib.hid hnx
            have q5 : IntKind.i64.wrap (1 + s0 + x) = 1 + s0 + x := IntWalk.i64_in _ (by omega)
            have z5 := cell_lt d1
            dsimp only at z5
            clear hnx
            go_wp2
            exact ⟨⟨j + 1, by omega, by go_num, by rw [HNX.out], he⟩, by simp [intOf]; omega⟩
          · have hje : j = ma := by omega
            subst hje
            have hlt' : ¬ (j : Int) < (j : Int) := by omega
            have X7 := X6.trans he
            have HIB := Lib.hid (HIB.out.ext he)
            have a1 := he.cell a1
            have a2 := he.cell a2
            have a3 := he.cell a3
            have p1 := he.cell p1
            have p2 := he.cell p2
            have q1 := he.cell q1
            have q2 := he.cell q2
            have h1 := he.cell h1
            have h2 := he.cell h2
            have h3 := he.cell h3
            generalize sumT La j = sa at hsb HSUM ⊢
            clear X6 HIA HMA SBA BDA he
            generalize wr = W7 at a1 a2 a3 p1 p2 q1 q2 h1 h2 h3 X7 HIB ⊢
            go_wp2_with fail
            go_loopw [13, 78] (fun s i wr => ∃ t : Nat, t ≤ mb ∧ i = .int .i64 t ∧ s = .int .i64 (1 + sa - sumT Lb t) ∧ Ext W7 wr) (fun _ i _ => mb - (intOf i).toNat)
            case atStart => exact ⟨0, Nat.zero_le _, rfl, by simp [sumT], Ext.refl _⟩
            case round =>
              obtain ⟨t, ht, rfl, rfl, he⟩ := hrel
              have hsb2 := SBB.out t
              by_cases hlt : t < mb
              · have hlt' : (t : Int) < (mb : Int) := by omega
                obtain ⟨fb, foff, rfl, d1⟩ := HIB.out.ext he t (by rw [← HMB.out]; exact hlt)
                have hx : 0 ≤ Lb.getD t 0 ∧ Lb.getD t 0 ≤ 4096 := BDB.out _ (by have h := HMB.out; rw [List.getD_eq_getElem?_getD, List.getElem?_eq_getElem (show t < Lb.length by omega)]; simp)
                have hnx : 1 + sa - sumT Lb (t + 1) = 1 + sa - sumT Lb t - Lb.getD t 0 := by show 1 + sa - (sumT Lb t + Lb.getD t 0) = _; omega
                generalize Lb.getD t 0 = x at d1 hx hnx
                generalize sumT Lb t = s0 at hsb2 hnx ⊢
                have HNX := Lib.hid hnx
                have q5 : IntKind.i64.wrap (1 + sa - s0 - x) = 1 + sa - s0 - x := IntWalk.i64_in _ (by omega)
                have z5 := cell_lt d1
                dsimp only at z5
                clear hnx
                go_wp2
                exact ⟨⟨t + 1, by omega, by go_num, by rw [HNX.out], he⟩, by simp [intOf]; omega⟩
              · have hte : t = mb := by omega
                subst hte
                have hlt' : ¬ (t : Int) < (t : Int) := by omega
                have X8 := X7.trans he
                have HIB := Lib.hid (HIB.out.ext he)
                have a1 := he.cell a1
                have a2 := he.cell a2
                have a3 := he.cell a3
                have p1 := he.cell p1
                have p2 := he.cell p2
                have q1 := he.cell q1
                have q2 := he.cell q2
                have h1 := he.cell h1
                have h2 := he.cell h2
                have h3 := he.cell h3
                rw [HSUM.out]
                have HIS : Hid (∀ W', Ext wr W' → Calls Try.prog 40 #[.slice qa t qac, .func (.func 41) #[] #[]] W' fun e w' => e = .returned (.bool true) ∧ Ext W' w') := fun W' hW => IsSorted_any Lb qa qac t W' HMB.out bl2 HDB.out.1 HDB.out.2 (HIB.out.ext hW)
                clear X7 he HIB SBB BDB HMB hsb hsb2 HSUM
                go_wp2_with fail
                refine (HIS.out _ (Ext.refl _)).mono ?_
                rintro e W9 ⟨rfl, hE⟩
                have X9 := X8.trans hE
                have a1 := hE.cell a1
                have a2 := hE.cell a2
                have a3 := hE.cell a3
                have p1 := hE.cell p1
                have p2 := hE.cell p2
                have q1 := hE.cell q1
                have q2 := hE.cell q2
                have h1 := hE.cell h1
                have h2 := hE.cell h2
                have h3 := hE.cell h3
                clear hE X8 HIS
                have z1 := cell_lt a1
                have z2 := cell_lt p1
                have z3 := cell_lt h1
                dsimp only at z1 z2 z3
                go_wp2_with fail
                go_region_held3 (fun w' => Sees W9 w') ((repeat (first | exact Sees.refl _ | assumption | apply Sees.drew | apply Sees.alloc | (refine Sees.ext ?_ (by assumption))))) (first | (go_at_call 15; refine (HS1.out _).mono ?_; rintro e w' ⟨rfl, hE2⟩) | (go_at_call 27; refine (HL1.out _ (X9.trans (by exact (show Sees W9 _ by assumption).2.2))).mono ?_; rintro e w' ⟨rfl, hE2⟩))
                have hS := (show Sees W9 _ by assumption).2.2
                have XA := X9.trans hS
                have a1 := hS.cell a1
                have a2 := hS.cell a2
                have a3 := hS.cell a3
                have p1 := hS.cell p1
                have p2 := hS.cell p2
                have q1 := hS.cell q1
                have q2 := hS.cell q2
                have h1 := hS.cell h1
                have h2 := hS.cell h2
                have h3 := hS.cell h3
                clear hS X9 z1 z2 z3 HS1 HL1
                generalize w' = WA at a1 a2 a3 p1 p2 q1 q2 h1 h2 h3 XA ⊢
                have z1 := cell_lt a1
                have z2 := cell_lt p1
                have z3 := cell_lt h1
                dsimp only at z1 z2 z3
                go_wp2_with fail
                go_region_held3 (fun w' => Sees WA w') ((repeat (first | exact Sees.refl _ | assumption | apply Sees.drew | apply Sees.alloc | (refine Sees.ext ?_ (by assumption))))) (first | (go_at_call 15; refine (HS2.out _).mono ?_; rintro e w' ⟨rfl, hE2⟩) | (go_at_call 27; refine (HL2.out _ (XA.trans (by exact (show Sees WA _ by assumption).2.2))).mono ?_; rintro e w' ⟨rfl, hE2⟩))
                have hS := (show Sees WA _ by assumption).2.2
                have XB := XA.trans hS
                clear hS XA z1 z2 z3 HS2 HL2 a1 a2 a3 p1 p2 q1 q2 h1 h2 h3
                generalize w' = WB at XB ⊢
                by_cases he1 : e1 = 0
                · obtain ⟨he2, hle⟩ := HLS.out he1
                  subst he1; subst he2
                  go_wp2_with fail
                  refine (awake_any _).mono ?_
                  rintro e Wz ⟨rfl, hE⟩
                  go_wp2
                  go_ret
                  exact ⟨rfl, (E2.trans XB).trans hE⟩
                · have hb1 : (e1 != 0) = true := by simp [he1]
                  have hb2 : (e1 == 0) = false := by simp [he1]
                  clear he1
                  go_wp2_with fail
                  refine (awake_any _).mono ?_
                  rintro e Wz ⟨rfl, hE⟩
                  go_wp2
                  go_ret
                  exact ⟨rfl, (E2.trans XB).trans hE⟩
end Go.Proofs.Ytfigooilhnahfaa
/- The arguments of the laws, opened: grids, places. -/
namespace Go.Proofs.Ytfigooilhnahfaa
open Go.RowKit Go.ChangeShapes Go.WideShapes Go.Joins Go.Deep

def WfP (p : Pt) : Prop := (Lit.int .i64 p.1).wf = true ∧ (Lit.int .i64 p.2).wf = true
theorem list2 {α : Type} {l : List α} (h : l.length = 2) : ∃ a b, l = [a, b] := by
  match l, h with
  | [a, b], _ => exact ⟨a, b, rfl⟩
theorem list6 {α : Type} {l : List α} (h : l.length = 6) : ∃ a b c d e f, l = [a, b, c, d, e, f] := by
  match l, h with
  | [a, b, c, d, e, f], _ => exact ⟨a, b, c, d, e, f, rfl⟩
theorem cellsOfPl : Try.prog.cellsOf 26 = 2 := by kernel_rfl
theorem cellsOfInt : Try.prog.cellsOf 3 = 1 := by kernel_rfl

section
variable {H : Type} {enc : TypeId × Value → H} {w : World} {base : Nat} {spare : Nat → Bool} {held : Bool}
theorem open_place {fuel : Nat} {cs : List Value} {x : DataW H × List MemPlace} (h : DataW.trod enc Try.prog w base spare held fuel 26 cs = some x) : ∃ p : Pt, cs = [.int .i64 p.1, .int .i64 p.2] ∧ WfP p := by
  obtain ⟨y0, y1, n, _, hl, h0, h1⟩ := trod_struct2 Try.underlying26 h
  rw [cellsOfPl] at hl
  obtain ⟨a, b, rfl⟩ := list2 hl
  rw [cellsOfInt] at h0 h1
  obtain ⟨i, e0, _, w0⟩ := DataW.trod_int Try.underlying3 h0
  obtain ⟨j, e1, _, w1⟩ := DataW.trod_int Try.underlying3 h1
  simp at e0 e1
  subst e0; subst e1
  exact ⟨(i, j), rfl, w0, w1⟩
theorem open_places {a : Addr} {len : Nat} (h : ∀ i, i < len → ∃ cs' n x, w.cells? base (a.add (i * 2)) 2 = some cs' ∧ DataW.trod enc Try.prog w base spare held n 26 cs' = some x) : ∃ l : List Pt, l.length = len ∧ Cells2 w (some a) l ∧ ∀ p ∈ l, WfP p := by
  have key : ∀ i, i < len → ∃ p : Pt, w.cell? (a.add (i * 2)) = some (.int .i64 p.1) ∧ w.cell? ((a.add (i * 2)).add 1) = some (.int .i64 p.2) ∧ WfP p := fun i hi => by
    obtain ⟨cs', n, x, h1, h2⟩ := h i hi
    obtain ⟨p, rfl, hw⟩ := open_place h2
    obtain ⟨_, _, hc⟩ := World.cells?_some h1
    have c0 := hc 0 (by omega)
    have c1 := hc 1 (by omega)
    refine ⟨p, ?_, c1, hw⟩
    have e : (a.add (i * 2)).add 0 = a.add (i * 2) := by simp [Addr.add]
    rw [e] at c0
    exact c0
  obtain ⟨f, hf⟩ := choose_lt (α := Pt) key
  refine ⟨(List.range len).map f, by simp, fun i hi => ?_, fun p hp => ?_⟩
  · have hi' : i < len := by simpa using hi
    obtain ⟨h1, h2, _⟩ := hf i hi'
    have hp : pt ((List.range len).map f) i = f i := by simp [pt, List.getD, hi']
    rw [hp]
    obtain ⟨b, off, spot⟩ := a
    have hs : spot = none := by
      have h0 := World.cell?_spot (hf 0 (by omega)).1
      simpa [Addr.add] using h0
    subst hs
    rw [Addr.add_lit] at h1 h2
    rw [Addr.add_lit] at h2
    exact ⟨b, off, rfl, h1, h2⟩
  · obtain ⟨i, hi, rfl⟩ := List.mem_map.1 hp
    exact (hf i (by simpa using hi)).2.2
theorem open_slicePl {fuel : Nat} {v : Value} {x : DataW H × List MemPlace} (h : DataW.trod enc Try.prog w base spare held fuel 22 [v] = some x) :
    ∃ (l : List Pt) (a : Option Addr) (cap : Nat), v = .slice a l.length cap ∧ Cells2 w a l ∧ l.length ≤ maxLen ∧ ∀ p ∈ l, WfP p := by
  rcases open_slice Try.underlying22 h with ⟨h1, _⟩ | ⟨a, len, cap, m, n, D, Pl, h1, hb, hl, hm, hmm, _, hx⟩
  · simp at h1
    exact ⟨[], none, 0, h1, fun i hi => by simp at hi, by simp, fun p hp => by cases hp⟩
  · simp at h1
    rw [cellsOfPl] at hx
    have hlm : len ≤ m := by rw [hmm]; split <;> omega
    obtain ⟨l, hll, hc, hw⟩ := open_places (enc := enc) (spare := spare) (held := held) (w := w) (base := base) (a := a) (len := len) (fun i hi => by
      obtain ⟨cs', h2, h3⟩ := hx i (by omega)
      exact ⟨cs', n, _, h2, h3⟩)
    exact ⟨l, some a, cap, by rw [h1, hll], hc, by rw [hll]; omega, hw⟩
set_option maxRecDepth 100000 in
theorem open_grid {r : Reach} {b0 : Nat} {v : Value} {d : DataW H} {p : List MemPlace} (hv : Value.okWide Try.prog w r b0 24 v) (h : DataW.Trod enc Try.prog w base spare held 24 v d p) :
    ∃ (g : Gr) (ga : Option Addr) (gc : Nat), v = .agg #[.int .i64 g.rows, .int .i64 g.cols, .slice ga g.bl.length gc] ∧ Cells2 w ga g.bl ∧ g.bl.length ≤ maxLen ∧ (Lit.int .i64 g.rows).wf = true ∧ (Lit.int .i64 g.cols).wf = true ∧ ∀ p ∈ g.bl, WfP p := by
  obtain ⟨c0, c1, c2, y0, y1, y2, n, rfl, _, _, h0, h1, h2⟩ := open_agg3 Try.underlying24 (by kernel_rfl) (by kernel_rfl) hv h
  obtain ⟨i, e0, _, w0⟩ := DataW.trod_int Try.underlying3 h0
  obtain ⟨j, e1, _, w1⟩ := DataW.trod_int Try.underlying3 h1
  obtain ⟨l, a, cap, e2, hc, hl, hw⟩ := open_slicePl h2
  simp at e0 e1
  subst e0; subst e1; subst e2
  exact ⟨⟨i, j, l⟩, a, cap, rfl, hc, hl, w0, w1, hw⟩
set_option maxRecDepth 100000 in
theorem open_three {r : Reach} {b0 : Nat} {v : Value} {d : DataW H} {p : List MemPlace} (hv : Value.okWide Try.prog w r b0 27 v) (h : DataW.Trod enc Try.prog w base spare held 27 v d p) :
    ∃ p q r : Pt, v = .agg #[.int .i64 p.1, .int .i64 p.2, .int .i64 q.1, .int .i64 q.2, .int .i64 r.1, .int .i64 r.2] ∧ WfP p ∧ WfP q ∧ WfP r := by
  simp only [Value.okWide, Try.underlying27] at hv
  obtain ⟨cs, rfl, _, _⟩ := hv
  obtain ⟨fuel, hf⟩ := h
  obtain ⟨xs, m, _, _, hl, hxs, hx⟩ := DataW.trod_array Try.underlying27 hf
  have hl6 : cs.toList.length = 6 := hl.trans (by kernel_rfl)
  obtain ⟨a, b, c, d, e, f, hcs⟩ := list6 hl6
  have hc : (Value.agg cs).cells.toList = [a, b, c, d, e, f] := hcs
  rw [hc, cellsOfPl] at hx
  have get : ∀ i, i < 3 → ∃ y, xs[i]? = some y := fun i hi => ⟨xs[i], List.getElem?_eq_getElem (by omega)⟩
  obtain ⟨y0, g0⟩ := get 0 (by omega)
  obtain ⟨y1, g1⟩ := get 1 (by omega)
  obtain ⟨y2, g2⟩ := get 2 (by omega)
  have k0 := hx 0 (by omega)
  have k1 := hx 1 (by omega)
  have k2 := hx 2 (by omega)
  rw [g0] at k0
  rw [g1] at k1
  rw [g2] at k2
  obtain ⟨p, e0, w0⟩ := open_place k0
  obtain ⟨q, e1, w1⟩ := open_place k1
  obtain ⟨r, e2, w2⟩ := open_place k2
  simp at e0 e1 e2
  obtain ⟨rfl, rfl⟩ := e0
  obtain ⟨rfl, rfl⟩ := e1
  obtain ⟨rfl, rfl⟩ := e2
  refine ⟨p, q, r, ?_, w0, w1, w2⟩
  rw [show cs = cs.toList.toArray by simp, hcs]
end
end Go.Proofs.Ytfigooilhnahfaa
/- The arguments of the laws, opened: lists of hoses, pairs of places. -/
namespace Go.Proofs.Ytfigooilhnahfaa
open Go.RowKit Go.ChangeShapes Go.WideShapes Go.Joins Go.Deep

theorem list4 {α : Type} {l : List α} (h : l.length = 4) : ∃ a b c d, l = [a, b, c, d] := by
  match l, h with
  | [a, b, c, d], _ => exact ⟨a, b, c, d, rfl⟩
theorem cellsOfHs : Try.prog.cellsOf 74 = 4 := by kernel_rfl

section
variable {H : Type} {enc : TypeId × Value → H} {w : World} {base : Nat} {spare : Nat → Bool} {held : Bool}
theorem open_hose {fuel : Nat} {cs : List Value} {x : DataW H × List MemPlace} (h : DataW.trod enc Try.prog w base spare held fuel 74 cs = some x) : ∃ p : Hose, cs = [.int .i64 p.1.1, .int .i64 p.1.2, .int .i64 p.2.1, .int .i64 p.2.2] ∧ WfP p.1 ∧ WfP p.2 := by
  obtain ⟨xs, m, _, _, hl, hxs, hx⟩ := DataW.trod_array Try.underlying74 h
  have hl4 : cs.length = 4 := hl.trans (by kernel_rfl)
  obtain ⟨a, b, c, d, hcs⟩ := list4 hl4
  rw [hcs, cellsOfPl] at hx
  have get : ∀ i, i < 2 → ∃ y, xs[i]? = some y := fun i hi => ⟨xs[i], List.getElem?_eq_getElem (by omega)⟩
  obtain ⟨y0, g0⟩ := get 0 (by omega)
  obtain ⟨y1, g1⟩ := get 1 (by omega)
  have k0 := hx 0 (by omega)
  have k1 := hx 1 (by omega)
  rw [g0] at k0
  rw [g1] at k1
  obtain ⟨p, e0, w0⟩ := open_place k0
  obtain ⟨q, e1, w1⟩ := open_place k1
  simp at e0 e1
  obtain ⟨rfl, rfl⟩ := e0
  obtain ⟨rfl, rfl⟩ := e1
  exact ⟨(p, q), hcs, w0, w1⟩
theorem open_hosesC {a : Addr} {len : Nat} (h : ∀ i, i < len → ∃ cs' n x, w.cells? base (a.add (i * 4)) 4 = some cs' ∧ DataW.trod enc Try.prog w base spare held n 74 cs' = some x) : ∃ l : List Hose, l.length = len ∧ Cells4 w (some a) l := by
  have key : ∀ i, i < len → ∃ p : Hose, w.cell? (a.add (i * 4)) = some (.int .i64 p.1.1) ∧ w.cell? ((a.add (i * 4)).add 1) = some (.int .i64 p.1.2) ∧ w.cell? ((a.add (i * 4)).add 2) = some (.int .i64 p.2.1) ∧ w.cell? ((a.add (i * 4)).add 3) = some (.int .i64 p.2.2) := fun i hi => by
    obtain ⟨cs', n, x, h1, h2⟩ := h i hi
    obtain ⟨p, rfl, _, _⟩ := open_hose h2
    obtain ⟨_, _, hc⟩ := World.cells?_some h1
    have c0 := hc 0 (by omega)
    have c1 := hc 1 (by omega)
    have c2 := hc 2 (by omega)
    have c3 := hc 3 (by omega)
    refine ⟨p, ?_, c1, c2, c3⟩
    have e : (a.add (i * 4)).add 0 = a.add (i * 4) := by simp [Addr.add]
    rw [e] at c0
    exact c0
  obtain ⟨f, hf⟩ := choose_lt (α := Hose) key
  refine ⟨(List.range len).map f, by simp, fun i hi => ?_⟩
  have hi' : i < len := by simpa using hi
  obtain ⟨h1, h2, h3, h4⟩ := hf i hi'
  have hp : ph ((List.range len).map f) i = f i := by simp [ph, List.getD, hi']
  rw [hp]
  obtain ⟨b, off, spot⟩ := a
  have hs : spot = none := by
    have h0 := World.cell?_spot (hf 0 (by omega)).1
    simpa [Addr.add] using h0
  subst hs
  rw [Addr.add_lit] at h1 h2 h3 h4
  rw [Addr.add_lit] at h2 h3 h4
  exact ⟨b, off, rfl, h1, h2, h3, h4⟩
theorem open_hosesV {fuel : Nat} {v : Value} {x : DataW H × List MemPlace} (h : DataW.trod enc Try.prog w base spare held fuel 38 [v] = some x) :
    ∃ (l : List Hose) (a : Option Addr) (cap : Nat), v = .slice a l.length cap ∧ Cells4 w a l ∧ l.length ≤ maxLen := by
  rcases open_slice Try.underlying38 h with ⟨h1, _⟩ | ⟨a, len, cap, m, n, D, Pl, h1, hb, hl, hm, hmm, _, hx⟩
  · simp at h1
    exact ⟨[], none, 0, h1, fun i hi => by simp at hi, by simp⟩
  · simp at h1
    rw [cellsOfHs] at hx
    have hlm : len ≤ m := by rw [hmm]; split <;> omega
    obtain ⟨l, hll, hc⟩ := open_hosesC (enc := enc) (spare := spare) (held := held) (w := w) (base := base) (a := a) (len := len) (fun i hi => by
      obtain ⟨cs', h2, h3⟩ := hx i (by omega)
      exact ⟨cs', n, _, h2, h3⟩)
    exact ⟨l, some a, cap, by rw [h1, hll], hc, by rw [hll]; omega⟩
set_option maxRecDepth 100000 in
theorem open_hs {r : Reach} {b0 : Nat} {v : Value} {d : DataW H} {p : List MemPlace} (hv : Value.okWide Try.prog w r b0 38 v) (h : DataW.Trod enc Try.prog w base spare held 38 v d p) :
    ∃ (l : List Hose) (a : Option Addr) (cap : Nat), v = .slice a l.length cap ∧ Cells4 w a l ∧ l.length ≤ maxLen := by
  have key : v.cells.toList = [v] := by
    simp only [Value.okWide, Try.underlying38] at hv
    cases v <;> first | rfl | (simp [Cell.okWide, Cell.ok, Try.underlying38] at hv)
  obtain ⟨fuel, hf⟩ := h
  rw [key] at hf
  exact open_hosesV hf
set_option maxRecDepth 100000 in
theorem open_two {r : Reach} {b0 : Nat} {v : Value} {d : DataW H} {p : List MemPlace} (hv : Value.okWide Try.prog w r b0 74 v) (h : DataW.Trod enc Try.prog w base spare held 74 v d p) :
    ∃ x : Hose, v = .agg #[.int .i64 x.1.1, .int .i64 x.1.2, .int .i64 x.2.1, .int .i64 x.2.2] := by
  simp only [Value.okWide, Try.underlying74] at hv
  obtain ⟨cs, rfl, _, _⟩ := hv
  obtain ⟨fuel, hf⟩ := h
  obtain ⟨x, hx, _, _⟩ := open_hose hf
  refine ⟨x, ?_⟩
  have : cs.toList = [.int .i64 x.1.1, .int .i64 x.1.2, .int .i64 x.2.1, .int .i64 x.2.2] := hx
  rw [show cs = cs.toList.toArray by simp, this]
end
end Go.Proofs.Ytfigooilhnahfaa
