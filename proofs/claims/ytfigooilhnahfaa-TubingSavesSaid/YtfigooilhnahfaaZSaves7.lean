/- Steps of the proof: LJoins, LSaves, Open, OpenH. No conditions. -/
import Derived.ProofKit
import Derived.OpenShut
import Derived.Lib.SmallJoins
import Derived.Deep.Slices
import Derived.Test.YtfigooilhnahfaaZSaves1
import Derived.Test.YtfigooilhnahfaaZSaves2
import Derived.Test.YtfigooilhnahfaaZSaves3
import Derived.Test.YtfigooilhnahfaaZSaves4
import Derived.Test.YtfigooilhnahfaaZSaves5
import Derived.Test.YtfigooilhnahfaaZSaves6
/- The law TubingJoins: its walk. -/
namespace Go.Proofs.Ytfigooilhnahfaa
open Go.RowKit

/-- what a call of Length answers, in all worlds from W on -/
def LenC (g : Gr) (ga : Option Addr) (gc : Nat) (W : World) (a b : Pt) (n : Int) : Prop :=
  ∀ W', Ext W W' → Calls Try.prog 27 #[.agg #[.int .i64 g.rows, .int .i64 g.cols, .slice ga g.bl.length gc], .agg #[.int .i64 a.1, .int .i64 a.2], .agg #[.int .i64 b.1, .int .i64 b.2]] W' fun e w' => e = .returned (.tuple #[.int .i64 n, .int .i64 0]) ∧ Ext W' w'
theorem LenC.of {g : Gr} {ga : Option Addr} {gc : Nat} {W : World} {a b : Pt} {n : Int} (hg : g.bl.length ≤ maxLen) (hc : Cells2 W ga g.bl) (h : lenE g a b = 0) (hn : lenN g a b = n) : LenC g ga gc W a b n := fun W' hW => by
  have := Length_any g a b ga gc W' hg (hc.ext hW)
  rw [h, hn] at this
  exact this

set_option maxHeartbeats 8000000 in
set_option maxRecDepth 100000 in
theorem TubingJoins_any (g : Gr) (p q r : Pt) (ga : Option Addr) (gc : Nat) (w : World) (hg : g.bl.length ≤ maxLen) (hc : Cells2 w ga g.bl) :
    Calls Try.prog 8 #[.agg #[.int .i64 g.rows, .int .i64 g.cols, .slice ga g.bl.length gc], .agg #[.int .i64 p.1, .int .i64 p.2, .int .i64 q.1, .int .i64 q.2, .int .i64 r.1, .int .i64 r.2]] w fun e w' => e = .returned (.bool true) ∧ Ext w w' := by
  have HC : Hid (Cells2 w ga g.bl) := hc
  have HG := Lib.hid hg
  clear hc hg
  obtain ⟨W0, hW0⟩ : ∃ W0, (((w).alloc (.cells #[.int .i64 g.rows, .int .i64 g.cols, .slice ga g.bl.length gc] 24))).alloc (.cells #[.int .i64 p.1, .int .i64 p.2, .int .i64 q.1, .int .i64 q.2, .int .i64 r.1, .int .i64 r.2] 27) = W0 := ⟨_, rfl⟩
  have E0 : Ext w W0 := by rw [← hW0]; exact ((Ext.refl _).alloc _).alloc _
  have a1 : W0.cell? ⟨w.heap.size, 0, none⟩ = some (.int .i64 g.rows) := by rw [← hW0]; clear hW0; go_simp
  have a2 : W0.cell? ⟨w.heap.size, 1, none⟩ = some (.int .i64 g.cols) := by rw [← hW0]; clear hW0; go_simp
  have a3 : W0.cell? ⟨w.heap.size, 2, none⟩ = some (.slice ga g.bl.length gc) := by rw [← hW0]; clear hW0; go_simp
  have p1 : W0.cell? ⟨w.heap.size + 1, 0, none⟩ = some (.int .i64 p.1) := by rw [← hW0]; clear hW0; go_simp
  have p2 : W0.cell? ⟨w.heap.size + 1, 1, none⟩ = some (.int .i64 p.2) := by rw [← hW0]; clear hW0; go_simp
  have p3 : W0.cell? ⟨w.heap.size + 1, 2, none⟩ = some (.int .i64 q.1) := by rw [← hW0]; clear hW0; go_simp
  have p4 : W0.cell? ⟨w.heap.size + 1, 3, none⟩ = some (.int .i64 q.2) := by rw [← hW0]; clear hW0; go_simp
  have p5 : W0.cell? ⟨w.heap.size + 1, 4, none⟩ = some (.int .i64 r.1) := by rw [← hW0]; clear hW0; go_simp
  have p6 : W0.cell? ⟨w.heap.size + 1, 5, none⟩ = some (.int .i64 r.2) := by rw [← hW0]; clear hW0; go_simp
  go_enter Try.func8, Try.ntmps8
  go_wp2_with fail
  clear hW0
  refine (right_any g ga gc _ HG.out (HC.out.ext E0)).mono ?_
  rintro e W1 ⟨rfl, hE⟩
  have E1 := E0.trans hE
  have a1 := hE.cell a1
  have a2 := hE.cell a2
  have a3 := hE.cell a3
  have p1 := hE.cell p1
  have p2 := hE.cell p2
  have p3 := hE.cell p3
  have p4 := hE.cell p4
  have p5 := hE.cell p5
  have p6 := hE.cell p6
  clear hE E0
  cases hf : rightB g
  · clear hf
    go_wp2_with fail
    refine (awake_any _).mono ?_
    rintro e W2 ⟨rfl, hE⟩
    go_wp2
    go_ret
    exact ⟨rfl, E1.trans hE⟩
  · clear hf
    have z1 := cell_lt a1
    have z2 := cell_lt p1
    dsimp only at z1 z2
    go_wp2_with fail
    go_cut [5, 6, 7] (fun x n e wx => ∃ pb, x = .pointer (some ⟨pb, 0, none⟩) ∧ n = .int .i64 (meetN g p q r) ∧ e = .int .i64 (meetE g p q r) ∧ wx.cell? ⟨pb, 0, none⟩ = some (.int .i64 (meetP g p q r).1) ∧ wx.cell? ⟨pb, 1, none⟩ = some (.int .i64 (meetP g p q r).2) ∧ Ext W1 wx)
    case first =>
      go_region_held3 (fun w' => Sees W1 w') ((repeat (first | exact Sees.refl _ | assumption | apply Sees.store | apply Sees.drew | apply Sees.alloc | (refine Sees.ext ?_ (by assumption))))) (first | (go_at_call 15; refine (sent_any g ga gc _).mono ?_; rintro e w' ⟨rfl, hE2⟩; (first | (have kN := (New2.made _ _ _ _).ext hE2; obtain ⟨k1, k2, k3, k4⟩ := kN) | (have kN := (New2.made _ _ _ _).drew.ext hE2; obtain ⟨k1, k2, k3, k4⟩ := kN) | (have kN := (New2.mk (by assumption) (by assumption) (by assumption) (by assumption)).ext hE2; obtain ⟨k1, k2, k3, k4⟩ := kN) | skip)) | (go_at_call 14; refine (Meet_any g p q r ga gc _ HG.out (HC.out.ext (E1.trans (by exact (show Sees W1 _ by assumption).2.2)))).mono ?_; rintro e w' ⟨rfl, hE2⟩; (first | (have kN := (New2.made _ _ _ _).ext hE2; obtain ⟨k1, k2, k3, k4⟩ := kN) | (have kN := (New2.made _ _ _ _).drew.ext hE2; obtain ⟨k1, k2, k3, k4⟩ := kN) | (have kN := (New2.mk (by assumption) (by assumption) (by assumption) (by assumption)).ext hE2; obtain ⟨k1, k2, k3, k4⟩ := kN) | skip)))
      all_goals (go_wp2_with fail; go_meet)
      all_goals exact ⟨_, rfl, rfl, rfl, by go_simp, by go_simp, (show Sees W1 _ by assumption).2.2⟩
    case rest =>
      obtain ⟨pb, rfl, rfl, rfl, k1, k2, EX⟩ := hcut
      have E2 := E1.trans EX
      have a1 := EX.cell a1
      have a2 := EX.cell a2
      have a3 := EX.cell a3
      have p1 := EX.cell p1
      have p2 := EX.cell p2
      have p3 := EX.cell p3
      have p4 := EX.cell p4
      have p5 := EX.cell p5
      have p6 := EX.cell p6
      clear EX E1 z1 z2
      generalize wc = W2 at a1 a2 a3 p1 p2 p3 p4 p5 p6 k1 k2 E2 ⊢
      have z1 := cell_lt a1
      have z2 := cell_lt p1
      dsimp only at z1 z2
      by_cases h0 : meetE g p q r = 0
      · have HF := meet_facts h0
        rw [h0]
        clear h0
        obtain ⟨P, hP⟩ : ∃ P, P = meetP g p q r := ⟨_, rfl⟩
        obtain ⟨S, hS⟩ : ∃ S, S = meetN g p q r := ⟨_, rfl⟩
        rw [← hP, ← hS] at HF
        rw [← hP] at k1 k2
        rw [← hS]
        clear hP hS
        obtain ⟨e1, e2, e3, pq, pr, qr, qp, rp, rq, sum, u1, u2, u3, two⟩ := HF
        have Cn1 := Lib.hid (LenC.of (gc := gc) HG.out HC.out e1 rfl)
        have Bn1 := len_bd (g := g) (p := P) (q := p)
        generalize lenN g P p = n1 at Cn1 Bn1 sum u1 u2 u3 two
        have Cn2 := Lib.hid (LenC.of (gc := gc) HG.out HC.out e2 rfl)
        have Bn2 := len_bd (g := g) (p := P) (q := q)
        generalize lenN g P q = n2 at Cn2 Bn2 sum u1 u2 u3 two
        have Cn3 := Lib.hid (LenC.of (gc := gc) HG.out HC.out e3 rfl)
        have Bn3 := len_bd (g := g) (p := P) (q := r)
        generalize lenN g P r = n3 at Cn3 Bn3 sum u1 u2 u3 two
        have Cx12 := Lib.hid (LenC.of (gc := gc) HG.out HC.out pq rfl)
        have Bx12 := len_bd (g := g) (p := p) (q := q)
        generalize lenN g p q = x12 at Cx12 Bx12 sum u1 u2 u3 two
        have Cx13 := Lib.hid (LenC.of (gc := gc) HG.out HC.out pr rfl)
        have Bx13 := len_bd (g := g) (p := p) (q := r)
        generalize lenN g p r = x13 at Cx13 Bx13 sum u1 u2 u3 two
        have Cx23 := Lib.hid (LenC.of (gc := gc) HG.out HC.out qr rfl)
        have Bx23 := len_bd (g := g) (p := q) (q := r)
        generalize lenN g q r = x23 at Cx23 Bx23 sum u1 u2 u3 two
        have Cx21 := Lib.hid (LenC.of (gc := gc) HG.out HC.out qp rfl)
        have Bx21 := len_bd (g := g) (p := q) (q := p)
        generalize lenN g q p = x21 at Cx21 Bx21 sum u1 u2 u3 two
        have Cx31 := Lib.hid (LenC.of (gc := gc) HG.out HC.out rp rfl)
        have Bx31 := len_bd (g := g) (p := r) (q := p)
        generalize lenN g r p = x31 at Cx31 Bx31 sum u1 u2 u3 two
        have Cx32 := Lib.hid (LenC.of (gc := gc) HG.out HC.out rq rfl)
        have Bx32 := len_bd (g := g) (p := r) (q := q)
        generalize lenN g r q = x32 at Cx32 Bx32 sum u1 u2 u3 two
        clear e1 e2 e3 pq pr qr qp rp rq
        have S0 : 0 ≤ S := by omega
        have S1 : S ≤ 8192 := by omega
        have ws1 : IntKind.i64.wrap (n1 + n2) = n1 + n2 := IntWalk.i64_in _ (by omega)
        have wws1 : wrap64 (n1 + n2) = n1 + n2 := by unfold wrap64; omega
        have ws2 : IntKind.i64.wrap (n1 + n2 + n3) = n1 + n2 + n3 := IntWalk.i64_in _ (by omega)
        have wws2 : wrap64 (n1 + n2 + n3) = n1 + n2 + n3 := by unfold wrap64; omega
        have wt1 : IntKind.i64.wrap (x12 + x13) = x12 + x13 := IntWalk.i64_in _ (by omega)
        have wwt1 : wrap64 (x12 + x13) = x12 + x13 := by unfold wrap64; omega
        have wt2 : IntKind.i64.wrap (x23 + x21) = x23 + x21 := IntWalk.i64_in _ (by omega)
        have wwt2 : wrap64 (x23 + x21) = x23 + x21 := by unfold wrap64; omega
        have wt3 : IntKind.i64.wrap (x31 + x32) = x31 + x32 := IntWalk.i64_in _ (by omega)
        have wwt3 : wrap64 (x31 + x32) = x31 + x32 := by unfold wrap64; omega
        have wr2 : IntKind.i64.wrap (x12 + x23) = x12 + x23 := IntWalk.i64_in _ (by omega)
        have wwr2 : wrap64 (x12 + x23) = x12 + x23 := by unfold wrap64; omega
        have wr3 : IntKind.i64.wrap (x12 + x23 + x31) = x12 + x23 + x31 := IntWalk.i64_in _ (by omega)
        have wwr3 : wrap64 (x12 + x23 + x31) = x12 + x23 + x31 := by unfold wrap64; omega
        have wm2 : IntKind.i64.wrap (2 * S) = 2 * S := IntWalk.i64_in _ (by omega)
        have wwm2 : wrap64 (2 * S) = 2 * S := by unfold wrap64; omega
        have wn1a : IntKind.i64.wrap (0 + n1) = 0 + n1 := IntWalk.i64_in _ (by omega)
        have wwn1a : wrap64 (0 + n1) = 0 + n1 := by unfold wrap64; omega
        have wx1a : IntKind.i64.wrap (0 + x12) = 0 + x12 := IntWalk.i64_in _ (by omega)
        have wwx1a : wrap64 (0 + x12) = 0 + x12 := by unfold wrap64; omega
        have wn1 : IntKind.i64.wrap (n1) = n1 := IntWalk.i64_in _ (by omega)
        have wwn1 : wrap64 (n1) = n1 := by unfold wrap64; omega
        have wx12 : IntKind.i64.wrap (x12) = x12 := IntWalk.i64_in _ (by omega)
        have wwx12 : wrap64 (x12) = x12 := by unfold wrap64; omega
        have wSS : IntKind.i64.wrap (S) = S := IntWalk.i64_in _ (by omega)
        have wwSS : wrap64 (S) = S := by unfold wrap64; omega
        have v1 : ¬ x12 + x13 < S := by omega
        have v2 : ¬ x23 + x21 < S := by omega
        have v3 : ¬ x31 + x32 < S := by omega
        have vs : (n1 + n2 + n3 == S) = true := by simp [sum]
        have vs2 : n1 + n2 + n3 = S := sum
        have vt : x12 + x23 + x31 ≤ 2 * S := two
        clear sum u1 u2 u3 two S0 S1 Bn1 Bn2 Bn3 Bx12 Bx13 Bx23 Bx21 Bx31 Bx32
        have k1w : IntKind.i64.wrap 1 = 1 := by decide
        have k2w : IntKind.i64.wrap 2 = 2 := by decide
        have k3w : IntKind.i64.wrap 3 = 3 := by decide
        have k4w : IntKind.i64.wrap 4 = 4 := by decide
        have i0 : ∀ w, (Instr.index 27 (.agg #[.int .i64 p.1, .int .i64 p.2, .int .i64 q.1, .int .i64 q.2, .int .i64 r.1, .int .i64 r.2]) (.int .i64 0)).run Try.prog w = .ok (.agg #[.int .i64 p.1, .int .i64 p.2]) w := fun _ => by kernel_rfl
        have i1 : ∀ w, (Instr.index 27 (.agg #[.int .i64 p.1, .int .i64 p.2, .int .i64 q.1, .int .i64 q.2, .int .i64 r.1, .int .i64 r.2]) (.int .i64 1)).run Try.prog w = .ok (.agg #[.int .i64 q.1, .int .i64 q.2]) w := fun _ => by kernel_rfl
        have i2 : ∀ w, (Instr.index 27 (.agg #[.int .i64 p.1, .int .i64 p.2, .int .i64 q.1, .int .i64 q.2, .int .i64 r.1, .int .i64 r.2]) (.int .i64 2)).run Try.prog w = .ok (.agg #[.int .i64 r.1, .int .i64 r.2]) w := fun _ => by kernel_rfl
        go_wp2_with fail
        refine wp_loop_rounds 4 ?_
        -- round 0
        rw [rounds_succ]
        go_wp2_with fail
        have ha : Ext W2 ((( W2).alloc (.cells #[.int .i64 p.1, .int .i64 p.2] 26))) := (Ext.refl _).alloc _
        have c1 : ((( W2).alloc (.cells #[.int .i64 p.1, .int .i64 p.2] 26))).cell? ⟨W2.heap.size, 0, none⟩ = some (.int .i64 p.1) := by go_simp
        have c2 : ((( W2).alloc (.cells #[.int .i64 p.1, .int .i64 p.2] 26))).cell? ⟨W2.heap.size, 1, none⟩ = some (.int .i64 p.2) := by go_simp
        have a1 := ha.cell a1
        have a2 := ha.cell a2
        have a3 := ha.cell a3
        have p1 := ha.cell p1
        have p2 := ha.cell p2
        have p3 := ha.cell p3
        have p4 := ha.cell p4
        have p5 := ha.cell p5
        have p6 := ha.cell p6
        have k1 := ha.cell k1
        have k2 := ha.cell k2
        have E3 := E2.trans ha
        clear ha E2 z1 z2
        obtain ⟨qb0, hqb⟩ : ∃ b, b = W2.heap.size := ⟨_, rfl⟩
        rw [← hqb] at c1 c2 ⊢
        clear hqb
        generalize (( W2).alloc (.cells #[.int .i64 p.1, .int .i64 p.2] 26)) = W3 at a1 a2 a3 p1 p2 p3 p4 p5 p6 k1 k2 c1 c2 E3 ⊢
        have z1 := cell_lt a1
        have z2 := cell_lt p1
        have z3 := cell_lt k1
        have z4 := cell_lt c1
        dsimp only at z1 z2 z3 z4
        go_region_held3 (fun w' => Sees W3 w') ((repeat (first | exact Sees.refl _ | assumption | apply Sees.drew | apply Sees.alloc | (refine Sees.ext ?_ (by assumption))))) (first | (go_at_call 15; refine (sent_any g ga gc _).mono ?_; rintro e w' ⟨rfl, hE2⟩) | (go_at_call 27; refine (Cn1.out _ (E3.trans (by exact (show Sees W3 _ by assumption).2.2))).mono ?_; rintro e w' ⟨rfl, hE2⟩))
        have hS := (show Sees W3 _ by assumption).2.2
        have E4 := E3.trans hS
        have a1 := hS.cell a1
        have a2 := hS.cell a2
        have a3 := hS.cell a3
        have p1 := hS.cell p1
        have p2 := hS.cell p2
        have p3 := hS.cell p3
        have p4 := hS.cell p4
        have p5 := hS.cell p5
        have p6 := hS.cell p6
        have k1 := hS.cell k1
        have k2 := hS.cell k2
        have c1 := hS.cell c1
        have c2 := hS.cell c2
        clear hS E3 z1 z2 z3 z4
        generalize w' = W4 at a1 a2 a3 p1 p2 p3 p4 p5 p6 k1 k2 c1 c2 E4 ⊢
        have z1 := cell_lt a1
        have z2 := cell_lt p1
        have z3 := cell_lt k1
        have z4 := cell_lt c1
        dsimp only at z1 z2 z3 z4
        go_wp2_with fail
        go_region_held3 (fun w' => Sees W4 w') ((repeat (first | exact Sees.refl _ | assumption | apply Sees.drew | apply Sees.alloc | (refine Sees.ext ?_ (by assumption))))) (first | (go_at_call 15; refine (sent_any g ga gc _).mono ?_; rintro e w' ⟨rfl, hE2⟩) | (go_at_call 27; refine (Cx12.out _ (E4.trans (by exact (show Sees W4 _ by assumption).2.2))).mono ?_; rintro e w' ⟨rfl, hE2⟩))
        have hS := (show Sees W4 _ by assumption).2.2
        have E5 := E4.trans hS
        have a1 := hS.cell a1
        have a2 := hS.cell a2
        have a3 := hS.cell a3
        have p1 := hS.cell p1
        have p2 := hS.cell p2
        have p3 := hS.cell p3
        have p4 := hS.cell p4
        have p5 := hS.cell p5
        have p6 := hS.cell p6
        have k1 := hS.cell k1
        have k2 := hS.cell k2
        have c1 := hS.cell c1
        have c2 := hS.cell c2
        clear hS E4 z1 z2 z3 z4
        generalize w' = W5 at a1 a2 a3 p1 p2 p3 p4 p5 p6 k1 k2 c1 c2 E5 ⊢
        have z1 := cell_lt a1
        have z2 := cell_lt p1
        have z3 := cell_lt k1
        have z4 := cell_lt c1
        dsimp only at z1 z2 z3 z4
        go_wp2_with fail
        go_region_held3 (fun w' => Sees W5 w') ((repeat (first | exact Sees.refl _ | assumption | apply Sees.drew | apply Sees.alloc | (refine Sees.ext ?_ (by assumption))))) (first | (go_at_call 15; refine (sent_any g ga gc _).mono ?_; rintro e w' ⟨rfl, hE2⟩) | (go_at_call 27; refine (Cx13.out _ (E5.trans (by exact (show Sees W5 _ by assumption).2.2))).mono ?_; rintro e w' ⟨rfl, hE2⟩))
        have hS := (show Sees W5 _ by assumption).2.2
        have E6 := E5.trans hS
        have a1 := hS.cell a1
        have a2 := hS.cell a2
        have a3 := hS.cell a3
        have p1 := hS.cell p1
        have p2 := hS.cell p2
        have p3 := hS.cell p3
        have p4 := hS.cell p4
        have p5 := hS.cell p5
        have p6 := hS.cell p6
        have k1 := hS.cell k1
        have k2 := hS.cell k2
        have c1 := hS.cell c1
        have c2 := hS.cell c2
        clear hS E5 z1 z2 z3 z4
        generalize w' = W6 at a1 a2 a3 p1 p2 p3 p4 p5 p6 k1 k2 c1 c2 E6 ⊢
        have z1 := cell_lt a1
        have z2 := cell_lt p1
        have z3 := cell_lt k1
        have z4 := cell_lt c1
        dsimp only at z1 z2 z3 z4
        go_wp2_with fail
        clear c1 c2
        -- round 1
        rw [rounds_succ]
        go_wp2_with fail
        have ha : Ext W6 ((( W6).alloc (.cells #[.int .i64 q.1, .int .i64 q.2] 26))) := (Ext.refl _).alloc _
        have c1 : ((( W6).alloc (.cells #[.int .i64 q.1, .int .i64 q.2] 26))).cell? ⟨W6.heap.size, 0, none⟩ = some (.int .i64 q.1) := by go_simp
        have c2 : ((( W6).alloc (.cells #[.int .i64 q.1, .int .i64 q.2] 26))).cell? ⟨W6.heap.size, 1, none⟩ = some (.int .i64 q.2) := by go_simp
        have a1 := ha.cell a1
        have a2 := ha.cell a2
        have a3 := ha.cell a3
        have p1 := ha.cell p1
        have p2 := ha.cell p2
        have p3 := ha.cell p3
        have p4 := ha.cell p4
        have p5 := ha.cell p5
        have p6 := ha.cell p6
        have k1 := ha.cell k1
        have k2 := ha.cell k2
        have E7 := E6.trans ha
        clear ha E6 z1 z2 z3 z4
        obtain ⟨qb1, hqb⟩ : ∃ b, b = W6.heap.size := ⟨_, rfl⟩
        rw [← hqb] at c1 c2 ⊢
        clear hqb
        generalize (( W6).alloc (.cells #[.int .i64 q.1, .int .i64 q.2] 26)) = W7 at a1 a2 a3 p1 p2 p3 p4 p5 p6 k1 k2 c1 c2 E7 ⊢
        have z1 := cell_lt a1
        have z2 := cell_lt p1
        have z3 := cell_lt k1
        have z4 := cell_lt c1
        dsimp only at z1 z2 z3 z4
        go_region_held3 (fun w' => Sees W7 w') ((repeat (first | exact Sees.refl _ | assumption | apply Sees.drew | apply Sees.alloc | (refine Sees.ext ?_ (by assumption))))) (first | (go_at_call 15; refine (sent_any g ga gc _).mono ?_; rintro e w' ⟨rfl, hE2⟩) | (go_at_call 27; refine (Cn2.out _ (E7.trans (by exact (show Sees W7 _ by assumption).2.2))).mono ?_; rintro e w' ⟨rfl, hE2⟩))
        have hS := (show Sees W7 _ by assumption).2.2
        have E8 := E7.trans hS
        have a1 := hS.cell a1
        have a2 := hS.cell a2
        have a3 := hS.cell a3
        have p1 := hS.cell p1
        have p2 := hS.cell p2
        have p3 := hS.cell p3
        have p4 := hS.cell p4
        have p5 := hS.cell p5
        have p6 := hS.cell p6
        have k1 := hS.cell k1
        have k2 := hS.cell k2
        have c1 := hS.cell c1
        have c2 := hS.cell c2
        clear hS E7 z1 z2 z3 z4
        generalize w' = W8 at a1 a2 a3 p1 p2 p3 p4 p5 p6 k1 k2 c1 c2 E8 ⊢
        have z1 := cell_lt a1
        have z2 := cell_lt p1
        have z3 := cell_lt k1
        have z4 := cell_lt c1
        dsimp only at z1 z2 z3 z4
        go_wp2_with fail
        go_region_held3 (fun w' => Sees W8 w') ((repeat (first | exact Sees.refl _ | assumption | apply Sees.drew | apply Sees.alloc | (refine Sees.ext ?_ (by assumption))))) (first | (go_at_call 15; refine (sent_any g ga gc _).mono ?_; rintro e w' ⟨rfl, hE2⟩) | (go_at_call 27; refine (Cx23.out _ (E8.trans (by exact (show Sees W8 _ by assumption).2.2))).mono ?_; rintro e w' ⟨rfl, hE2⟩))
        have hS := (show Sees W8 _ by assumption).2.2
        have E9 := E8.trans hS
        have a1 := hS.cell a1
        have a2 := hS.cell a2
        have a3 := hS.cell a3
        have p1 := hS.cell p1
        have p2 := hS.cell p2
        have p3 := hS.cell p3
        have p4 := hS.cell p4
        have p5 := hS.cell p5
        have p6 := hS.cell p6
        have k1 := hS.cell k1
        have k2 := hS.cell k2
        have c1 := hS.cell c1
        have c2 := hS.cell c2
        clear hS E8 z1 z2 z3 z4
        generalize w' = W9 at a1 a2 a3 p1 p2 p3 p4 p5 p6 k1 k2 c1 c2 E9 ⊢
        have z1 := cell_lt a1
        have z2 := cell_lt p1
        have z3 := cell_lt k1
        have z4 := cell_lt c1
        dsimp only at z1 z2 z3 z4
        go_wp2_with fail
        go_region_held3 (fun w' => Sees W9 w') ((repeat (first | exact Sees.refl _ | assumption | apply Sees.drew | apply Sees.alloc | (refine Sees.ext ?_ (by assumption))))) (first | (go_at_call 15; refine (sent_any g ga gc _).mono ?_; rintro e w' ⟨rfl, hE2⟩) | (go_at_call 27; refine (Cx21.out _ (E9.trans (by exact (show Sees W9 _ by assumption).2.2))).mono ?_; rintro e w' ⟨rfl, hE2⟩))
        have hS := (show Sees W9 _ by assumption).2.2
        have E10 := E9.trans hS
        have a1 := hS.cell a1
        have a2 := hS.cell a2
        have a3 := hS.cell a3
        have p1 := hS.cell p1
        have p2 := hS.cell p2
        have p3 := hS.cell p3
        have p4 := hS.cell p4
        have p5 := hS.cell p5
        have p6 := hS.cell p6
        have k1 := hS.cell k1
        have k2 := hS.cell k2
        have c1 := hS.cell c1
        have c2 := hS.cell c2
        clear hS E9 z1 z2 z3 z4
        generalize w' = W10 at a1 a2 a3 p1 p2 p3 p4 p5 p6 k1 k2 c1 c2 E10 ⊢
        have z1 := cell_lt a1
        have z2 := cell_lt p1
        have z3 := cell_lt k1
        have z4 := cell_lt c1
        dsimp only at z1 z2 z3 z4
        go_wp2_with fail
        clear c1 c2
        -- round 2
        rw [rounds_succ]
        go_wp2_with fail
        have ha : Ext W10 ((( W10).alloc (.cells #[.int .i64 r.1, .int .i64 r.2] 26))) := (Ext.refl _).alloc _
        have c1 : ((( W10).alloc (.cells #[.int .i64 r.1, .int .i64 r.2] 26))).cell? ⟨W10.heap.size, 0, none⟩ = some (.int .i64 r.1) := by go_simp
        have c2 : ((( W10).alloc (.cells #[.int .i64 r.1, .int .i64 r.2] 26))).cell? ⟨W10.heap.size, 1, none⟩ = some (.int .i64 r.2) := by go_simp
        have a1 := ha.cell a1
        have a2 := ha.cell a2
        have a3 := ha.cell a3
        have p1 := ha.cell p1
        have p2 := ha.cell p2
        have p3 := ha.cell p3
        have p4 := ha.cell p4
        have p5 := ha.cell p5
        have p6 := ha.cell p6
        have k1 := ha.cell k1
        have k2 := ha.cell k2
        have E11 := E10.trans ha
        clear ha E10 z1 z2 z3 z4
        obtain ⟨qb2, hqb⟩ : ∃ b, b = W10.heap.size := ⟨_, rfl⟩
        rw [← hqb] at c1 c2 ⊢
        clear hqb
        generalize (( W10).alloc (.cells #[.int .i64 r.1, .int .i64 r.2] 26)) = W11 at a1 a2 a3 p1 p2 p3 p4 p5 p6 k1 k2 c1 c2 E11 ⊢
        have z1 := cell_lt a1
        have z2 := cell_lt p1
        have z3 := cell_lt k1
        have z4 := cell_lt c1
        dsimp only at z1 z2 z3 z4
        go_region_held3 (fun w' => Sees W11 w') ((repeat (first | exact Sees.refl _ | assumption | apply Sees.drew | apply Sees.alloc | (refine Sees.ext ?_ (by assumption))))) (first | (go_at_call 15; refine (sent_any g ga gc _).mono ?_; rintro e w' ⟨rfl, hE2⟩) | (go_at_call 27; refine (Cn3.out _ (E11.trans (by exact (show Sees W11 _ by assumption).2.2))).mono ?_; rintro e w' ⟨rfl, hE2⟩))
        have hS := (show Sees W11 _ by assumption).2.2
        have E12 := E11.trans hS
        have a1 := hS.cell a1
        have a2 := hS.cell a2
        have a3 := hS.cell a3
        have p1 := hS.cell p1
        have p2 := hS.cell p2
        have p3 := hS.cell p3
        have p4 := hS.cell p4
        have p5 := hS.cell p5
        have p6 := hS.cell p6
        have k1 := hS.cell k1
        have k2 := hS.cell k2
        have c1 := hS.cell c1
        have c2 := hS.cell c2
        clear hS E11 z1 z2 z3 z4
        generalize w' = W12 at a1 a2 a3 p1 p2 p3 p4 p5 p6 k1 k2 c1 c2 E12 ⊢
        have z1 := cell_lt a1
        have z2 := cell_lt p1
        have z3 := cell_lt k1
        have z4 := cell_lt c1
        dsimp only at z1 z2 z3 z4
        go_wp2_with fail
        go_region_held3 (fun w' => Sees W12 w') ((repeat (first | exact Sees.refl _ | assumption | apply Sees.drew | apply Sees.alloc | (refine Sees.ext ?_ (by assumption))))) (first | (go_at_call 15; refine (sent_any g ga gc _).mono ?_; rintro e w' ⟨rfl, hE2⟩) | (go_at_call 27; refine (Cx31.out _ (E12.trans (by exact (show Sees W12 _ by assumption).2.2))).mono ?_; rintro e w' ⟨rfl, hE2⟩))
        have hS := (show Sees W12 _ by assumption).2.2
        have E13 := E12.trans hS
        have a1 := hS.cell a1
        have a2 := hS.cell a2
        have a3 := hS.cell a3
        have p1 := hS.cell p1
        have p2 := hS.cell p2
        have p3 := hS.cell p3
        have p4 := hS.cell p4
        have p5 := hS.cell p5
        have p6 := hS.cell p6
        have k1 := hS.cell k1
        have k2 := hS.cell k2
        have c1 := hS.cell c1
        have c2 := hS.cell c2
        clear hS E12 z1 z2 z3 z4
        generalize w' = W13 at a1 a2 a3 p1 p2 p3 p4 p5 p6 k1 k2 c1 c2 E13 ⊢
        have z1 := cell_lt a1
        have z2 := cell_lt p1
        have z3 := cell_lt k1
        have z4 := cell_lt c1
        dsimp only at z1 z2 z3 z4
        go_wp2_with fail
        go_region_held3 (fun w' => Sees W13 w') ((repeat (first | exact Sees.refl _ | assumption | apply Sees.drew | apply Sees.alloc | (refine Sees.ext ?_ (by assumption))))) (first | (go_at_call 15; refine (sent_any g ga gc _).mono ?_; rintro e w' ⟨rfl, hE2⟩) | (go_at_call 27; refine (Cx32.out _ (E13.trans (by exact (show Sees W13 _ by assumption).2.2))).mono ?_; rintro e w' ⟨rfl, hE2⟩))
        have hS := (show Sees W13 _ by assumption).2.2
        have E14 := E13.trans hS
        have a1 := hS.cell a1
        have a2 := hS.cell a2
        have a3 := hS.cell a3
        have p1 := hS.cell p1
        have p2 := hS.cell p2
        have p3 := hS.cell p3
        have p4 := hS.cell p4
        have p5 := hS.cell p5
        have p6 := hS.cell p6
        have k1 := hS.cell k1
        have k2 := hS.cell k2
        have c1 := hS.cell c1
        have c2 := hS.cell c2
        clear hS E13 z1 z2 z3 z4
        generalize w' = W14 at a1 a2 a3 p1 p2 p3 p4 p5 p6 k1 k2 c1 c2 E14 ⊢
        have z1 := cell_lt a1
        have z2 := cell_lt p1
        have z3 := cell_lt k1
        have z4 := cell_lt c1
        dsimp only at z1 z2 z3 z4
        go_wp2_with fail
        clear c1 c2
        rw [rounds_succ]
        go_wp2_with fail
        refine (awake_any _).mono ?_
        rintro e Wz ⟨rfl, hE⟩
        go_wp2
        go_ret
        exact ⟨rfl, E14.trans hE⟩
      · have hbad := meet_bad h0
        have hb : (meetE g p q r != 0) = true := by simp [h0]
        have hb2 : (meetE g p q r == 0) = false := by simp [h0]
        clear h0
        go_wp2_with fail
        go_region_held3 (fun w' => Sees W2 w') ((repeat (first | exact Sees.refl _ | assumption | apply Sees.drew | apply Sees.alloc | (refine Sees.ext ?_ (by assumption))))) (first | (go_at_call 15; refine (sent_any g ga gc _).mono ?_; rintro e w' ⟨rfl, hE2⟩) | (go_at_call 27; refine (Length_any g p q ga gc _ HG.out (HC.out.ext (E2.trans (by exact (show Sees W2 _ by assumption).2.2)))).mono ?_; rintro e w' ⟨rfl, hE2⟩))
        have hS := (show Sees W2 _ by assumption).2.2
        have E3 := E2.trans hS
        have a1 := hS.cell a1
        have a2 := hS.cell a2
        have a3 := hS.cell a3
        have p1 := hS.cell p1
        have p2 := hS.cell p2
        have p3 := hS.cell p3
        have p4 := hS.cell p4
        have p5 := hS.cell p5
        have p6 := hS.cell p6
        clear hS E2 z1 z2
        generalize w' = W3 at a1 a2 a3 p1 p2 p3 p4 p5 p6 E3 ⊢
        have z1 := cell_lt a1
        have z2 := cell_lt p1
        dsimp only at z1 z2
        go_wp2_with fail
        go_region_held3 (fun w' => Sees W3 w') ((repeat (first | exact Sees.refl _ | assumption | apply Sees.drew | apply Sees.alloc | (refine Sees.ext ?_ (by assumption))))) (first | (go_at_call 15; refine (sent_any g ga gc _).mono ?_; rintro e w' ⟨rfl, hE2⟩) | (go_at_call 27; refine (Length_any g p r ga gc _ HG.out (HC.out.ext (E3.trans (by exact (show Sees W3 _ by assumption).2.2)))).mono ?_; rintro e w' ⟨rfl, hE2⟩))
        have hS := (show Sees W3 _ by assumption).2.2
        have E4 := E3.trans hS
        have a1 := hS.cell a1
        have a2 := hS.cell a2
        have a3 := hS.cell a3
        have p1 := hS.cell p1
        have p2 := hS.cell p2
        have p3 := hS.cell p3
        have p4 := hS.cell p4
        have p5 := hS.cell p5
        have p6 := hS.cell p6
        clear hS E3 z1 z2
        generalize w' = W4 at a1 a2 a3 p1 p2 p3 p4 p5 p6 E4 ⊢
        have z1 := cell_lt a1
        have z2 := cell_lt p1
        dsimp only at z1 z2
        by_cases h1 : lenE g p q = 0
        · have h2 : lenE g p r ≠ 0 := hbad.resolve_left (fun h => h h1)
          have hc : (lenE g p r != 0) = true := by simp [h2]
          have hc2 : (lenE g p r == 0) = false := by simp [h2]
          rw [h1]
          clear h1 h2 hbad
          go_wp2_with fail
          refine (awake_any _).mono ?_
          rintro e W5 ⟨rfl, hE⟩
          go_wp2
          go_ret
          exact ⟨rfl, E4.trans hE⟩
        · have hc : (lenE g p q != 0) = true := by simp [h1]
          have hc2 : (lenE g p q == 0) = false := by simp [h1]
          clear h1 hbad
          go_wp2_with fail
          refine (awake_any _).mono ?_
          rintro e W5 ⟨rfl, hE⟩
          go_wp2
          go_ret
          exact ⟨rfl, E4.trans hE⟩
end Go.Proofs.Ytfigooilhnahfaa
/- The law TubingSaves: its walk. -/
namespace Go.Proofs.Ytfigooilhnahfaa
open Go.RowKit

theorem ways_get (g : Gr) (hs : List Hose) : ∀ k i, i < k → (ways g hs k).getD i [] = wayOf g (ph hs i) := by
  intro k
  induction k with
  | zero => intro i h; omega
  | succ k ih =>
    intro i h
    show (ways g hs k ++ [way g (ph hs k).1 (ph hs k).2]).getD i [] = _
    have hl := ways_len g hs k
    by_cases e : i < k
    · rw [List.getD_eq_getElem?_getD, List.getElem?_append_left (by omega), ← List.getD_eq_getElem?_getD, ih i e]
    · obtain rfl : i = k := by omega
      rw [List.getD_eq_getElem?_getD, List.getElem?_append_right (by omega), hl]
      simp [wayOf]
theorem ductL_ok {g : Gr} {hs : List Hose} (h : ductE g hs = 0) : (ductL g hs).length = hs.length ∧ ∀ i, i < hs.length → (ductL g hs).getD i [] = wayOf g (ph hs i) := by
  unfold ductL
  rw [if_neg (by simp [h])]
  exact ⟨ways_len g hs _, fun i hi => ways_get g hs _ i hi⟩

set_option maxHeartbeats 8000000 in
set_option maxRecDepth 100000 in
theorem TubingSaves_any (g : Gr) (hs : List Hose) (ga : Option Addr) (gc : Nat) (ha : Option Addr) (hcap : Nat) (w : World) (hg : g.bl.length ≤ maxLen) (hc : Cells2 w ga g.bl) (hl : hs.length ≤ maxLen) (hch : Cells4 w ha hs) :
    Calls Try.prog 9 #[.agg #[.int .i64 g.rows, .int .i64 g.cols, .slice ga g.bl.length gc], .slice ha hs.length hcap] w fun e w' => e = .returned (.bool true) ∧ Ext w w' := by
  have HC : Hid (Cells2 w ga g.bl) := hc
  have HH : Hid (Cells4 w ha hs) := hch
  have HG := Lib.hid hg
  have HML := Lib.hid hl
  clear hc hg hch
  have E0 : Ext w ((w).alloc (.cells #[.int .i64 g.rows, .int .i64 g.cols, .slice ga g.bl.length gc] 24)) := (Ext.refl _).alloc _
  have a1 : ((w).alloc (.cells #[.int .i64 g.rows, .int .i64 g.cols, .slice ga g.bl.length gc] 24)).cell? ⟨w.heap.size, 0, none⟩ = some (.int .i64 g.rows) := by go_simp
  have a2 : ((w).alloc (.cells #[.int .i64 g.rows, .int .i64 g.cols, .slice ga g.bl.length gc] 24)).cell? ⟨w.heap.size, 1, none⟩ = some (.int .i64 g.cols) := by go_simp
  have a3 : ((w).alloc (.cells #[.int .i64 g.rows, .int .i64 g.cols, .slice ga g.bl.length gc] 24)).cell? ⟨w.heap.size, 2, none⟩ = some (.slice ga g.bl.length gc) := by go_simp
  go_enter Try.func9, Try.ntmps9
  go_wp2_with fail
  refine (right_any g ga gc _ HG.out (HC.out.ext E0)).mono ?_
  rintro e W1 ⟨rfl, hE⟩
  have E1 := E0.trans hE
  have a1 := hE.cell a1
  have a2 := hE.cell a2
  have a3 := hE.cell a3
  clear hE E0
  cases hf : rightB g
  · clear hf
    go_wp2_with fail
    refine (awake_any _).mono ?_
    rintro e W2 ⟨rfl, hE⟩
    go_wp2
    go_ret
    exact ⟨rfl, E1.trans hE⟩
  · by_cases h5 : 5 < hs.length
    · clear hf
      have h5' : (5 : Int) < (hs.length : Int) := by omega
      go_wp2_with fail
      refine (awake_any _).mono ?_
      rintro e W2 ⟨rfl, hE⟩
      go_wp2
      go_ret
      exact ⟨rfl, E1.trans hE⟩
    · have h5' : ¬ (5 : Int) < (hs.length : Int) := by omega
      obtain ⟨_, _, hk⟩ := rightB_ok hf
      have HK := Lib.hid hk
      clear hf hk
      go_wp2_with fail
      refine (sent_any g ga gc _).mono ?_
      rintro e W2 ⟨rfl, hE⟩
      have E2 := E1.trans hE
      have a1 := hE.cell a1
      have a2 := hE.cell a2
      have a3 := hE.cell a3
      clear hE E1
      go_wp2_with fail
      refine (Ducts_any g hs ga gc ha hcap _ HG.out (HC.out.ext E2) HML.out (HH.out.ext E2) (fun _ _ => trivial)).mono ?_
      rintro e W3 ⟨da, dc, rfl, hR, hE⟩
      have E3 := E2.trans hE
      have a1 := hE.cell a1
      have a2 := hE.cell a2
      have a3 := hE.cell a3
      have HRR := Lib.hid hR
      clear hE E2 hR
      by_cases h0 : ductE g hs = 0
      · have HF := Lib.hid (save_facts HK.out (by omega) h0)
        obtain ⟨hL1, hL2⟩ := ductL_ok h0
        have HLG := Lib.hid hL2
        have HLL := Lib.hid hL1
        rw [h0, hL1]
        have hN : 0 ≤ ductN g hs := by unfold ductN; split <;> omega
        have hle := HF.out.le
        have hge := HF.out.ge
        have hsb := sumK_bd g hs hs.length
        clear h0 hL1 hL2
        obtain ⟨M, hM⟩ : ∃ M, M = hs.length := ⟨_, rfl⟩
        have HMM := Lib.hid hM
        rw [← hM] at h5 h5' hle hge hsb ⊢
        obtain ⟨n, hn⟩ : ∃ n, n = ductN g hs := ⟨_, rfl⟩
        have HNN := Lib.hid hn
        rw [← hn] at hN hle hge ⊢
        clear hM hn
        go_wp2_with fail
        go_loopw [8, 9, 38] (fun s m i wr => ∃ k : Nat, k ≤ M ∧ i = .int .i64 k ∧ s = .int .i64 (sumK g hs k) ∧ m = .int .i64 (mostK g hs k) ∧ Ext W3 wr) (fun _ _ i _ => M - (intOf i).toNat)
        case atStart => exact ⟨0, Nat.zero_le _, rfl, rfl, rfl, Ext.refl _⟩
        case round =>
          obtain ⟨k, hk, rfl, rfl, rfl, he⟩ := hrel
          have a1 := he.cell a1
          have a2 := he.cell a2
          have a3 := he.cell a3
          have E4 := E3.trans he
          by_cases hlt : k < M
          · have hlt' : (k : Int) < (M : Int) := by omega
            obtain ⟨hb, hoff, rfl, c1, c2, c3, c4⟩ := HH.out.ext E4 k (by rw [← HMM.out]; exact hlt)
            have CL := Lib.hid (LenC.of (gc := gc) HG.out HC.out (HF.out.len k (by rw [← HMM.out]; exact hlt)) rfl)
            have hrow := HF.out.row k (by rw [← HMM.out]; exact hlt)
            obtain ⟨rb, roff, ai, ci, hda, r1, r2⟩ := HRR.out.ext he k (by rw [HLL.out, ← HMM.out]; exact hlt)
            subst hda
            rw [HLG.out k (by rw [← HMM.out]; exact hlt)] at r1
            have hs1 : sumK g hs (k + 1) = sumK g hs k + lenN g (ph hs k).1 (ph hs k).2 := rfl
            have hs2 : mostK g hs (k + 1) = max (mostK g hs k) (lenN g (ph hs k).1 (ph hs k).2) := rfl
            have hbd1 := sumK_bd g hs k
            have hbd2 := mostK_bd g hs k
            have hbd3 := len_bd (g := g) (p := (ph hs k).1) (q := (ph hs k).2)
            generalize (wayOf g (ph hs k)).length = R at hrow r1
            generalize lenN g (ph hs k).1 (ph hs k).2 = x at CL hrow hs1 hs2 hbd3
            generalize ph hs k = ho at c1 c2 c3 c4 CL
            generalize sumK g hs k = sk at hs1 hbd1 ⊢
            generalize mostK g hs k = mk at hs2 hbd2 ⊢
            have zb := cell_lt c1
            have zr := cell_lt r1
            dsimp only at zb zr
            have q1 : IntKind.i64.wrap (x + 1) = x + 1 := IntWalk.i64_in _ (by omega)
            have q2 : ((R : Int) != x + 1) = false := by simp; omega
            have q2' : (R : Int) = x + 1 := by omega
            have q3 : IntKind.i64.wrap (sk + x) = sk + x := IntWalk.i64_in _ (by omega)
            have q4 : ¬ (M : Int) ≤ (k : Int) := by omega
            have HS1 := Lib.hid hs1
            have HS2 := Lib.hid hs2
            clear hs1 hs2 r2
            go_wp2_with fail
            have E5 : Ext wr (wr.alloc (.cells #[.int .i64 ho.1.1, .int .i64 ho.1.2, .int .i64 ho.2.1, .int .i64 ho.2.2] 74)) := (Ext.refl _).alloc _
            have d1 : (wr.alloc (.cells #[.int .i64 ho.1.1, .int .i64 ho.1.2, .int .i64 ho.2.1, .int .i64 ho.2.2] 74)).cell? ⟨wr.heap.size, 0, none⟩ = some (.int .i64 ho.1.1) := by go_simp
            have d2 : (wr.alloc (.cells #[.int .i64 ho.1.1, .int .i64 ho.1.2, .int .i64 ho.2.1, .int .i64 ho.2.2] 74)).cell? ⟨wr.heap.size, 1, none⟩ = some (.int .i64 ho.1.2) := by go_simp
            have d3 : (wr.alloc (.cells #[.int .i64 ho.1.1, .int .i64 ho.1.2, .int .i64 ho.2.1, .int .i64 ho.2.2] 74)).cell? ⟨wr.heap.size, 2, none⟩ = some (.int .i64 ho.2.1) := by go_simp
            have d4 : (wr.alloc (.cells #[.int .i64 ho.1.1, .int .i64 ho.1.2, .int .i64 ho.2.1, .int .i64 ho.2.2] 74)).cell? ⟨wr.heap.size, 3, none⟩ = some (.int .i64 ho.2.2) := by go_simp
            have a1 := E5.cell a1
            have a2 := E5.cell a2
            have a3 := E5.cell a3
            have r1 := E5.cell r1
            have EV5 := he.trans E5
            have E6 := E4.trans E5
            obtain ⟨qb, hqb⟩ : ∃ b, b = wr.heap.size := ⟨_, rfl⟩
            rw [← hqb] at d1 d2 d3 d4 ⊢
            clear hqb E5 c1 c2 c3 c4 zb zr
            generalize wr.alloc (.cells #[.int .i64 ho.1.1, .int .i64 ho.1.2, .int .i64 ho.2.1, .int .i64 ho.2.2] 74) = W5 at a1 a2 a3 r1 d1 d2 d3 d4 EV5 E6 ⊢
            have zb := cell_lt d1
            have zr := cell_lt r1
            have za := cell_lt a1
            dsimp only at zb zr za
            go_region_held3 (fun w' => Sees W5 w') ((repeat (first | exact Sees.refl _ | assumption | apply Sees.drew | apply Sees.alloc | (refine Sees.ext ?_ (by assumption))))) (first | (go_at_call 15; refine (sent_any g ga gc _).mono ?_; rintro e w' ⟨rfl, hE2⟩) | (go_at_call 27; refine (CL.out _ (E6.trans (by exact (show Sees W5 _ by assumption).2.2))).mono ?_; rintro e w' ⟨rfl, hE2⟩))
            have hS := (show Sees W5 _ by assumption).2.2
            have r1 := hS.cell r1
            have EV6 := EV5.trans hS
            have zr := cell_lt r1
            dsimp only at zr
            clear hS d1 d2 d3 d4 a1 a2 a3 zb za
            generalize w' = W6 at r1 zr EV6 ⊢
            go_wp2
            all_goals refine ⟨⟨k + 1, by omega, by go_num, by rw [HS1.out], ?_, EV6⟩, by simp [intOf]; omega⟩
            all_goals (first | (rw [HS2.out]; done) | (rw [HS2.out]; congr 1; omega))
          · have hke : k = M := by omega
            subst hke
            have hlt' : ¬ (k : Int) < (k : Int) := by omega
            generalize sumK g hs k = sk at hle hsb ⊢
            generalize mostK g hs k = mk at hge ⊢
            have v1 : ¬ sk < n := by omega
            have v2 : ¬ n < mk := by omega
            have HDU : Hid (∀ (W' : World) (a : Option Addr) (c M2 : Nat), M2 = (hs ++ hs).length → Ext w W' → Cells4 W' a (hs ++ hs) → Calls Try.prog 17 #[.agg #[.int .i64 g.rows, .int .i64 g.cols, .slice ga g.bl.length gc], .slice a M2 c] W' fun e w' => ∃ x, e = .returned (.tuple #[x, .int .i64 n, .int .i64 0]) ∧ Ext W' w') := fun W' a c M2 hM2 hW h1 => by
              subst hM2
              refine (Ducts_any g (hs ++ hs) ga gc a c W' HG.out (HC.out.ext hW) (by rw [List.length_append, ← HMM.out]; unfold maxLen; omega) h1 (fun _ _ => trivial)).mono ?_
              rintro e w' ⟨xa, xc, h2, _, h3⟩
              rw [HF.out.err2, HF.out.n2, ← HNN.out] at h2
              exact ⟨_, h2, h3⟩
            have HCL : Hid (∀ (W' : World), Ext w W' → Calls Try.prog 37 #[.slice ha k hcap] W' fun e w' => ∃ v, e = .returned v ∧ (ha = none → v = .slice none 0 0) ∧ (ha ≠ none → Owns4 w' v hs ∧ ∀ b, v.ownBlock = some b → W'.heap.size ≤ b) ∧ Ext W' w') := fun W' hW => by
              rw [HMM.out]
              exact CloneH_any hs ha hcap W' (by rw [← HMM.out]; omega) (HH.out.ext hW)
            have HK5 : Hid (hs.length ≤ 5) := by show _ ≤ _; rw [← HMM.out]; omega
            clear hle hge hsb h5 h5'
            go_wp2_with fail
            refine (sent_any g ga gc _).mono ?_
            rintro e W5 ⟨rfl, hE⟩
            have E5 := E4.trans hE
            clear hE E4 E3 a1 a2 a3
            go_wp2_with fail
            refine (HCL.out _ E5).mono ?_
            rintro e W6 ⟨v, rfl, hv1, hv2, hE⟩
            have HV1 := Lib.hid hv1
            have HV2 := Lib.hid hv2
            have E6 := E5.trans hE
            clear hv1 hv2 hE
            cases ha with
            | none =>
              have hs0 : hs = [] := by
                cases hs with
                | nil => rfl
                | cons x l => obtain ⟨b, off, h, _⟩ := HH.out 0 (by simp); cases h
              have hk0 : k = 0 := by rw [HMM.out, hs0]; rfl
              have hvn := HV1.out rfl
              subst hvn
              subst hk0
              have HS0 := Lib.hid hs0
              clear hs0
              go_wp2_with fail
              refine (HDU.out _ none 0 0 (by rw [HS0.out]; rfl) E6 (by rw [HS0.out]; exact fun i hi => by simp at hi)).mono ?_
              rintro e W7 ⟨x, rfl, hE⟩
              have E7 := E6.trans hE
              clear hE E6
              go_wp2_with fail
              refine (awake_any _).mono ?_
              rintro e Wz ⟨rfl, hE⟩
              go_wp2
              go_ret
              exact ⟨rfl, E7.trans hE⟩
            | some ad =>
              obtain ⟨HO, hnew⟩ := HV2.out (by simp)
              have HOO := Lib.hid HO
              have HNW := Lib.hid hnew
              have HH6 := Lib.hid (HH.out.ext E6)
              clear HO hnew
              obtain ⟨i0, hi, hi0, hi1, hi2⟩ := info_parts infoHs
              go_wp2_with (at_builtin; refine wpList_append_own _ rfl _ _ 38 rfl 0 74 i0 (.agg #[.int .i64 0, .int .i64 0, .int .i64 0, .int .i64 0]) 4 32 Try.underlying38 hi hi0 hi1 hi2 rfl (by decide) v hs.length (flat4 hs) rfl HOO.out ad k hcap (flat4 hs) rfl ?c1 ?c2 ?c3 ?c4 ?c5 ?c6 ?_)
              case c1 => rw [flat4_length, HMM.out]
              case c2 => exact fun j u hj => Cells4.flat HH6.out j u hj
              case c3 => exact flat4_one hs
              case c4 => have := HK5.out; have := HMM.out; unfold maxLen; omega
              case c5 => have := HK5.out; have := HMM.out; omega
              case c6 => exact Nat.zero_le _
              intro v' w7 hown hgrow _
              have HO7 := (owns4_of (l := hs ++ hs) (by rw [flat4_append]; exact hown)).1
              obtain ⟨va, vc, rfl, hv⟩ := HO7.reads
              have HV := Lib.hid hv
              have E7 : Ext w w7 := Below.grown E6 hgrow E6.size (fun b hb => Nat.le_trans E5.size (HNW.out b hb))
              clear hown hgrow HO7 hv HOO HNW HH6 E6 E5
              obtain ⟨M2, hM2⟩ : ∃ M2, M2 = (hs ++ hs).length := ⟨_, rfl⟩
              rw [← hM2]
              have HM2 := Lib.hid hM2
              clear hM2
              go_wp2_with fail
              refine (HDU.out _ va vc M2 HM2.out E7 HV.out).mono ?_
              rintro e W8 ⟨x, rfl, hE⟩
              have E8 := E7.trans hE
              clear hE E7
              go_wp2_with fail
              refine (awake_any _).mono ?_
              rintro e Wz ⟨rfl, hE⟩
              go_wp2
              go_ret
              exact ⟨rfl, E8.trans hE⟩
      · have hb : (ductE g hs != 0) = true := by simp [h0]
        have hb2 : (ductE g hs == 0) = false := by simp [h0]
        clear h0
        go_wp2_with fail
        refine (awake_any _).mono ?_
        rintro e W4 ⟨rfl, hE⟩
        go_wp2
        go_ret
        exact ⟨rfl, E3.trans hE⟩
end Go.Proofs.Ytfigooilhnahfaa
/- The arguments of the laws, opened: grids, places. -/
namespace Go.Proofs.Ytfigooilhnahfaa
open Go.RowKit Go.ChangeShapes Go.WideShapes Go.Joins Go.Deep

def WfP (p : Pt) : Prop := (Lit.int .i64 p.1).wf = true ∧ (Lit.int .i64 p.2).wf = true
theorem list2 {α : Type} {l : List α} (h : l.length = 2) : ∃ a b, l = [a, b] := by
  match l, h with
  | [a, b], _ => exact ⟨a, b, rfl⟩
theorem list6 {α : Type} {l : List α} (h : l.length = 6) : ∃ a b c d e f, l = [a, b, c, d, e, f] := by
  match l, h with
  | [a, b, c, d, e, f], _ => exact ⟨a, b, c, d, e, f, rfl⟩
theorem cellsOfPl : Try.prog.cellsOf 26 = 2 := by kernel_rfl
theorem cellsOfInt : Try.prog.cellsOf 3 = 1 := by kernel_rfl

section
variable {H : Type} {enc : TypeId × Value → H} {w : World} {base : Nat} {spare : Nat → Bool} {held : Bool}
theorem open_place {fuel : Nat} {cs : List Value} {x : DataW H × List MemPlace} (h : DataW.trod enc Try.prog w base spare held fuel 26 cs = some x) : ∃ p : Pt, cs = [.int .i64 p.1, .int .i64 p.2] ∧ WfP p := by
  obtain ⟨y0, y1, n, _, hl, h0, h1⟩ := trod_struct2 Try.underlying26 h
  rw [cellsOfPl] at hl
  obtain ⟨a, b, rfl⟩ := list2 hl
  rw [cellsOfInt] at h0 h1
  obtain ⟨i, e0, _, w0⟩ := DataW.trod_int Try.underlying3 h0
  obtain ⟨j, e1, _, w1⟩ := DataW.trod_int Try.underlying3 h1
  simp at e0 e1
  subst e0; subst e1
  exact ⟨(i, j), rfl, w0, w1⟩
theorem open_places {a : Addr} {len : Nat} (h : ∀ i, i < len → ∃ cs' n x, w.cells? base (a.add (i * 2)) 2 = some cs' ∧ DataW.trod enc Try.prog w base spare held n 26 cs' = some x) : ∃ l : List Pt, l.length = len ∧ Cells2 w (some a) l ∧ ∀ p ∈ l, WfP p := by
  have key : ∀ i, i < len → ∃ p : Pt, w.cell? (a.add (i * 2)) = some (.int .i64 p.1) ∧ w.cell? ((a.add (i * 2)).add 1) = some (.int .i64 p.2) ∧ WfP p := fun i hi => by
    obtain ⟨cs', n, x, h1, h2⟩ := h i hi
    obtain ⟨p, rfl, hw⟩ := open_place h2
    obtain ⟨_, _, hc⟩ := World.cells?_some h1
    have c0 := hc 0 (by omega)
    have c1 := hc 1 (by omega)
    refine ⟨p, ?_, c1, hw⟩
    have e : (a.add (i * 2)).add 0 = a.add (i * 2) := by simp [Addr.add]
    rw [e] at c0
    exact c0
  obtain ⟨f, hf⟩ := choose_lt (α := Pt) key
  refine ⟨(List.range len).map f, by simp, fun i hi => ?_, fun p hp => ?_⟩
  · have hi' : i < len := by simpa using hi
    obtain ⟨h1, h2, _⟩ := hf i hi'
    have hp : pt ((List.range len).map f) i = f i := by simp [pt, List.getD, hi']
    rw [hp]
    obtain ⟨b, off, spot⟩ := a
    have hs : spot = none := by
      have h0 := World.cell?_spot (hf 0 (by omega)).1
      simpa [Addr.add] using h0
    subst hs
    rw [Addr.add_lit] at h1 h2
    rw [Addr.add_lit] at h2
    exact ⟨b, off, rfl, h1, h2⟩
  · obtain ⟨i, hi, rfl⟩ := List.mem_map.1 hp
    exact (hf i (by simpa using hi)).2.2
theorem open_slicePl {fuel : Nat} {v : Value} {x : DataW H × List MemPlace} (h : DataW.trod enc Try.prog w base spare held fuel 22 [v] = some x) :
    ∃ (l : List Pt) (a : Option Addr) (cap : Nat), v = .slice a l.length cap ∧ Cells2 w a l ∧ l.length ≤ maxLen ∧ ∀ p ∈ l, WfP p := by
  rcases open_slice Try.underlying22 h with ⟨h1, _⟩ | ⟨a, len, cap, m, n, D, Pl, h1, hb, hl, hm, hmm, _, hx⟩
  · simp at h1
    exact ⟨[], none, 0, h1, fun i hi => by simp at hi, by simp, fun p hp => by cases hp⟩
  · simp at h1
    rw [cellsOfPl] at hx
    have hlm : len ≤ m := by rw [hmm]; split <;> omega
    obtain ⟨l, hll, hc, hw⟩ := open_places (enc := enc) (spare := spare) (held := held) (w := w) (base := base) (a := a) (len := len) (fun i hi => by
      obtain ⟨cs', h2, h3⟩ := hx i (by omega)
      exact ⟨cs', n, _, h2, h3⟩)
    exact ⟨l, some a, cap, by rw [h1, hll], hc, by rw [hll]; omega, hw⟩
set_option maxRecDepth 100000 in
theorem open_grid {r : Reach} {b0 : Nat} {v : Value} {d : DataW H} {p : List MemPlace} (hv : Value.okWide Try.prog w r b0 24 v) (h : DataW.Trod enc Try.prog w base spare held 24 v d p) :
    ∃ (g : Gr) (ga : Option Addr) (gc : Nat), v = .agg #[.int .i64 g.rows, .int .i64 g.cols, .slice ga g.bl.length gc] ∧ Cells2 w ga g.bl ∧ g.bl.length ≤ maxLen ∧ (Lit.int .i64 g.rows).wf = true ∧ (Lit.int .i64 g.cols).wf = true ∧ ∀ p ∈ g.bl, WfP p := by
  obtain ⟨c0, c1, c2, y0, y1, y2, n, rfl, _, _, h0, h1, h2⟩ := open_agg3 Try.underlying24 (by kernel_rfl) (by kernel_rfl) hv h
  obtain ⟨i, e0, _, w0⟩ := DataW.trod_int Try.underlying3 h0
  obtain ⟨j, e1, _, w1⟩ := DataW.trod_int Try.underlying3 h1
  obtain ⟨l, a, cap, e2, hc, hl, hw⟩ := open_slicePl h2
  simp at e0 e1
  subst e0; subst e1; subst e2
  exact ⟨⟨i, j, l⟩, a, cap, rfl, hc, hl, w0, w1, hw⟩
set_option maxRecDepth 100000 in
theorem open_three {r : Reach} {b0 : Nat} {v : Value} {d : DataW H} {p : List MemPlace} (hv : Value.okWide Try.prog w r b0 27 v) (h : DataW.Trod enc Try.prog w base spare held 27 v d p) :
    ∃ p q r : Pt, v = .agg #[.int .i64 p.1, .int .i64 p.2, .int .i64 q.1, .int .i64 q.2, .int .i64 r.1, .int .i64 r.2] ∧ WfP p ∧ WfP q ∧ WfP r := by
  simp only [Value.okWide, Try.underlying27] at hv
  obtain ⟨cs, rfl, _, _⟩ := hv
  obtain ⟨fuel, hf⟩ := h
  obtain ⟨xs, m, _, _, hl, hxs, hx⟩ := DataW.trod_array Try.underlying27 hf
  have hl6 : cs.toList.length = 6 := hl.trans (by kernel_rfl)
  obtain ⟨a, b, c, d, e, f, hcs⟩ := list6 hl6
  have hc : (Value.agg cs).cells.toList = [a, b, c, d, e, f] := hcs
  rw [hc, cellsOfPl] at hx
  have get : ∀ i, i < 3 → ∃ y, xs[i]? = some y := fun i hi => ⟨xs[i], List.getElem?_eq_getElem (by omega)⟩
  obtain ⟨y0, g0⟩ := get 0 (by omega)
  obtain ⟨y1, g1⟩ := get 1 (by omega)
  obtain ⟨y2, g2⟩ := get 2 (by omega)
  have k0 := hx 0 (by omega)
  have k1 := hx 1 (by omega)
  have k2 := hx 2 (by omega)
  rw [g0] at k0
  rw [g1] at k1
  rw [g2] at k2
  obtain ⟨p, e0, w0⟩ := open_place k0
  obtain ⟨q, e1, w1⟩ := open_place k1
  obtain ⟨r, e2, w2⟩ := open_place k2
  simp at e0 e1 e2
  obtain ⟨rfl, rfl⟩ := e0
  obtain ⟨rfl, rfl⟩ := e1
  obtain ⟨rfl, rfl⟩ := e2
  refine ⟨p, q, r, ?_, w0, w1, w2⟩
  rw [show cs = cs.toList.toArray by simp, hcs]
end
end Go.Proofs.Ytfigooilhnahfaa
/- The arguments of the laws, opened: lists of hoses, pairs of places. -/
namespace Go.Proofs.Ytfigooilhnahfaa
open Go.RowKit Go.ChangeShapes Go.WideShapes Go.Joins Go.Deep

theorem list4 {α : Type} {l : List α} (h : l.length = 4) : ∃ a b c d, l = [a, b, c, d] := by
  match l, h with
  | [a, b, c, d], _ => exact ⟨a, b, c, d, rfl⟩
theorem cellsOfHs : Try.prog.cellsOf 74 = 4 := by kernel_rfl

section
variable {H : Type} {enc : TypeId × Value → H} {w : World} {base : Nat} {spare : Nat → Bool} {held : Bool}
theorem open_hose {fuel : Nat} {cs : List Value} {x : DataW H × List MemPlace} (h : DataW.trod enc Try.prog w base spare held fuel 74 cs = some x) : ∃ p : Hose, cs = [.int .i64 p.1.1, .int .i64 p.1.2, .int .i64 p.2.1, .int .i64 p.2.2] ∧ WfP p.1 ∧ WfP p.2 := by
  obtain ⟨xs, m, _, _, hl, hxs, hx⟩ := DataW.trod_array Try.underlying74 h
  have hl4 : cs.length = 4 := hl.trans (by kernel_rfl)
  obtain ⟨a, b, c, d, hcs⟩ := list4 hl4
  rw [hcs, cellsOfPl] at hx
  have get : ∀ i, i < 2 → ∃ y, xs[i]? = some y := fun i hi => ⟨xs[i], List.getElem?_eq_getElem (by omega)⟩
  obtain ⟨y0, g0⟩ := get 0 (by omega)
  obtain ⟨y1, g1⟩ := get 1 (by omega)
  have k0 := hx 0 (by omega)
  have k1 := hx 1 (by omega)
  rw [g0] at k0
  rw [g1] at k1
  obtain ⟨p, e0, w0⟩ := open_place k0
  obtain ⟨q, e1, w1⟩ := open_place k1
  simp at e0 e1
  obtain ⟨rfl, rfl⟩ := e0
  obtain ⟨rfl, rfl⟩ := e1
  exact ⟨(p, q), hcs, w0, w1⟩
theorem open_hosesC {a : Addr} {len : Nat} (h : ∀ i, i < len → ∃ cs' n x, w.cells? base (a.add (i * 4)) 4 = some cs' ∧ DataW.trod enc Try.prog w base spare held n 74 cs' = some x) : ∃ l : List Hose, l.length = len ∧ Cells4 w (some a) l := by
  have key : ∀ i, i < len → ∃ p : Hose, w.cell? (a.add (i * 4)) = some (.int .i64 p.1.1) ∧ w.cell? ((a.add (i * 4)).add 1) = some (.int .i64 p.1.2) ∧ w.cell? ((a.add (i * 4)).add 2) = some (.int .i64 p.2.1) ∧ w.cell? ((a.add (i * 4)).add 3) = some (.int .i64 p.2.2) := fun i hi => by
    obtain ⟨cs', n, x, h1, h2⟩ := h i hi
    obtain ⟨p, rfl, _, _⟩ := open_hose h2
    obtain ⟨_, _, hc⟩ := World.cells?_some h1
    have c0 := hc 0 (by omega)
    have c1 := hc 1 (by omega)
    have c2 := hc 2 (by omega)
    have c3 := hc 3 (by omega)
    refine ⟨p, ?_, c1, c2, c3⟩
    have e : (a.add (i * 4)).add 0 = a.add (i * 4) := by simp [Addr.add]
    rw [e] at c0
    exact c0
  obtain ⟨f, hf⟩ := choose_lt (α := Hose) key
  refine ⟨(List.range len).map f, by simp, fun i hi => ?_⟩
  have hi' : i < len := by simpa using hi
  obtain ⟨h1, h2, h3, h4⟩ := hf i hi'
  have hp : ph ((List.range len).map f) i = f i := by simp [ph, List.getD, hi']
  rw [hp]
  obtain ⟨b, off, spot⟩ := a
  have hs : spot = none := by
    have h0 := World.cell?_spot (hf 0 (by omega)).1
    simpa [Addr.add] using h0
  subst hs
  rw [Addr.add_lit] at h1 h2 h3 h4
  rw [Addr.add_lit] at h2 h3 h4
  exact ⟨b, off, rfl, h1, h2, h3, h4⟩
theorem open_hosesV {fuel : Nat} {v : Value} {x : DataW H × List MemPlace} (h : DataW.trod enc Try.prog w base spare held fuel 38 [v] = some x) :
    ∃ (l : List Hose) (a : Option Addr) (cap : Nat), v = .slice a l.length cap ∧ Cells4 w a l ∧ l.length ≤ maxLen := by
  rcases open_slice Try.underlying38 h with ⟨h1, _⟩ | ⟨a, len, cap, m, n, D, Pl, h1, hb, hl, hm, hmm, _, hx⟩
  · simp at h1
    exact ⟨[], none, 0, h1, fun i hi => by simp at hi, by simp⟩
  · simp at h1
    rw [cellsOfHs] at hx
    have hlm : len ≤ m := by rw [hmm]; split <;> omega
    obtain ⟨l, hll, hc⟩ := open_hosesC (enc := enc) (spare := spare) (held := held) (w := w) (base := base) (a := a) (len := len) (fun i hi => by
      obtain ⟨cs', h2, h3⟩ := hx i (by omega)
      exact ⟨cs', n, _, h2, h3⟩)
    exact ⟨l, some a, cap, by rw [h1, hll], hc, by rw [hll]; omega⟩
set_option maxRecDepth 100000 in
theorem open_hs {r : Reach} {b0 : Nat} {v : Value} {d : DataW H} {p : List MemPlace} (hv : Value.okWide Try.prog w r b0 38 v) (h : DataW.Trod enc Try.prog w base spare held 38 v d p) :
    ∃ (l : List Hose) (a : Option Addr) (cap : Nat), v = .slice a l.length cap ∧ Cells4 w a l ∧ l.length ≤ maxLen := by
  have key : v.cells.toList = [v] := by
    simp only [Value.okWide, Try.underlying38] at hv
    cases v <;> first | rfl | (simp [Cell.okWide, Cell.ok, Try.underlying38] at hv)
  obtain ⟨fuel, hf⟩ := h
  rw [key] at hf
  exact open_hosesV hf
set_option maxRecDepth 100000 in
theorem open_two {r : Reach} {b0 : Nat} {v : Value} {d : DataW H} {p : List MemPlace} (hv : Value.okWide Try.prog w r b0 74 v) (h : DataW.Trod enc Try.prog w base spare held 74 v d p) :
    ∃ x : Hose, v = .agg #[.int .i64 x.1.1, .int .i64 x.1.2, .int .i64 x.2.1, .int .i64 x.2.2] := by
  simp only [Value.okWide, Try.underlying74] at hv
  obtain ⟨cs, rfl, _, _⟩ := hv
  obtain ⟨fuel, hf⟩ := h
  obtain ⟨x, hx, _, _⟩ := open_hose hf
  refine ⟨x, ?_⟩
  have : cs.toList = [.int .i64 x.1.1, .int .i64 x.1.2, .int .i64 x.2.1, .int .i64 x.2.2] := hx
  rw [show cs = cs.toList.toArray by simp, this]
end
end Go.Proofs.Ytfigooilhnahfaa
