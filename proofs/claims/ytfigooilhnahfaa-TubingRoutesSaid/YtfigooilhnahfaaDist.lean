/- The table of distances. -/
import Derived.Test.YtfigooilhnahfaaDistR
namespace Go.Proofs.Ytfigooilhnahfaa
open Go.RowKit
attribute [local go_sem] Oper.semAt_some

theorem zero_tab : Try.zeroCells111 = Array.replicate 4096 (.int .i64 0) := by kernel_rfl

set_option maxHeartbeats 4000000 in
set_option maxRecDepth 100000 in
theorem distances_any (g : Gr) (p : Pt) (ga : Option Addr) (gc : Nat) (w : World) (hr : Right g) (hp : inside g p = true) (hc : Cells2 w ga g.bl) :
    Calls Try.prog 49 #[.agg #[.int .i64 g.rows, .int .i64 g.cols, .slice ga g.bl.length gc], .agg #[.int .i64 p.1, .int .i64 p.2]] w fun e w' => ∃ tb, e = .returned (.pointer (some ⟨tb, 0, none⟩)) ∧ TabAt w' tb (dst g p) ∧ Ext w w' := by
  have HR := Lib.hid hr
  have HC : Hid (Cells2 w ga g.bl) := hc
  have HP := Lib.hid hp
  clear hc hr hp
  refine (callsIn_wide (n := 0)).1 ?_
  refine callsIn_of_wp_marks Try.func49 rfl trivial ?_
  simp only [Try.ntmps49, List.size_toArray, List.length_cons, List.length_nil, Nat.reduceAdd, Nat.reduceSub, Array.replicate_succ, Array.replicate_zero, List.push_toArray, List.append_toArray, List.nil_append, List.cons_append]
  gi_wp2
  have E0 : Ext w ((((w.alloc (.cells #[.int .i64 g.rows, .int .i64 g.cols, .slice ga g.bl.length gc] 33)).alloc (.cells #[.int .i64 p.1, .int .i64 p.2] 26)).alloc (.cells Try.zeroCells111 111)).alloc (.cells #[.pointer (some ⟨w.heap.size + 1 + 1, 0, none⟩)] 86)) := ((((Ext.refl _).alloc _).alloc _).alloc _).alloc _
  have g1 : ((((w.alloc (.cells #[.int .i64 g.rows, .int .i64 g.cols, .slice ga g.bl.length gc] 33)).alloc (.cells #[.int .i64 p.1, .int .i64 p.2] 26)).alloc (.cells Try.zeroCells111 111)).alloc (.cells #[.pointer (some ⟨w.heap.size + 1 + 1, 0, none⟩)] 86)).cell? ⟨w.heap.size, 0, none⟩ = some (.int .i64 g.rows) := by go_simp
  have g2 : ((((w.alloc (.cells #[.int .i64 g.rows, .int .i64 g.cols, .slice ga g.bl.length gc] 33)).alloc (.cells #[.int .i64 p.1, .int .i64 p.2] 26)).alloc (.cells Try.zeroCells111 111)).alloc (.cells #[.pointer (some ⟨w.heap.size + 1 + 1, 0, none⟩)] 86)).cell? ⟨w.heap.size, 1, none⟩ = some (.int .i64 g.cols) := by go_simp
  have g3 : ((((w.alloc (.cells #[.int .i64 g.rows, .int .i64 g.cols, .slice ga g.bl.length gc] 33)).alloc (.cells #[.int .i64 p.1, .int .i64 p.2] 26)).alloc (.cells Try.zeroCells111 111)).alloc (.cells #[.pointer (some ⟨w.heap.size + 1 + 1, 0, none⟩)] 86)).cell? ⟨w.heap.size, 2, none⟩ = some (.slice ga g.bl.length gc) := by go_simp
  have p1 : ((((w.alloc (.cells #[.int .i64 g.rows, .int .i64 g.cols, .slice ga g.bl.length gc] 33)).alloc (.cells #[.int .i64 p.1, .int .i64 p.2] 26)).alloc (.cells Try.zeroCells111 111)).alloc (.cells #[.pointer (some ⟨w.heap.size + 1 + 1, 0, none⟩)] 86)).cell? ⟨w.heap.size + 1, 0, none⟩ = some (.int .i64 p.1) := by go_simp
  have p2 : ((((w.alloc (.cells #[.int .i64 g.rows, .int .i64 g.cols, .slice ga g.bl.length gc] 33)).alloc (.cells #[.int .i64 p.1, .int .i64 p.2] 26)).alloc (.cells Try.zeroCells111 111)).alloc (.cells #[.pointer (some ⟨w.heap.size + 1 + 1, 0, none⟩)] 86)).cell? ⟨w.heap.size + 1, 1, none⟩ = some (.int .i64 p.2) := by go_simp
  have o1 : ((((w.alloc (.cells #[.int .i64 g.rows, .int .i64 g.cols, .slice ga g.bl.length gc] 33)).alloc (.cells #[.int .i64 p.1, .int .i64 p.2] 26)).alloc (.cells Try.zeroCells111 111)).alloc (.cells #[.pointer (some ⟨w.heap.size + 1 + 1, 0, none⟩)] 86)).cell? ⟨w.heap.size + 1 + 1 + 1, 0, none⟩ = some (.pointer (some ⟨w.heap.size + 1 + 1, 0, none⟩)) := by go_simp
  have F0 : Hid (FillAt ((((w.alloc (.cells #[.int .i64 g.rows, .int .i64 g.cols, .slice ga g.bl.length gc] 33)).alloc (.cells #[.int .i64 p.1, .int .i64 p.2] 26)).alloc (.cells Try.zeroCells111 111)).alloc (.cells #[.pointer (some ⟨w.heap.size + 1 + 1, 0, none⟩)] 86)) (w.heap.size + 1 + 1) 0) := fun k hk => by
    have h1 : (((w.alloc (.cells #[.int .i64 g.rows, .int .i64 g.cols, .slice ga g.bl.length gc] 33)).alloc (.cells #[.int .i64 p.1, .int .i64 p.2] 26)).alloc (.cells Try.zeroCells111 111)).cell? ⟨w.heap.size + 1 + 1, k, none⟩ = some (.int .i64 0) := by
      have := World.cell?_alloc_new ((w.alloc (.cells #[.int .i64 g.rows, .int .i64 g.cols, .slice ga g.bl.length gc] 33)).alloc (.cells #[.int .i64 p.1, .int .i64 p.2] 26)) Try.zeroCells111 111 k
      rw [World.size_alloc, World.size_alloc] at this
      rw [this, zero_tab, Array.getElem?_replicate, if_pos hk]
    refine ⟨?_, ?_⟩
    · rw [if_neg (by omega)]
      exact ((Ext.refl _).alloc _).cell h1
    · refine (Below.frozen ((Ext.refl _).alloc _) (p := ⟨w.heap.size + 1 + 1, k, none⟩) (cell_lt h1)).trans ?_
      have := World.frozen?_alloc_new ((w.alloc (.cells #[.int .i64 g.rows, .int .i64 g.cols, .slice ga g.bl.length gc] 33)).alloc (.cells #[.int .i64 p.1, .int .i64 p.2] 26)) Try.zeroCells111 111 k
      rwa [World.size_alloc, World.size_alloc] at this
  generalize (((w.alloc (.cells #[.int .i64 g.rows, .int .i64 g.cols, .slice ga g.bl.length gc] 33)).alloc (.cells #[.int .i64 p.1, .int .i64 p.2] 26)).alloc (.cells Try.zeroCells111 111)).alloc (.cells #[.pointer (some ⟨w.heap.size + 1 + 1, 0, none⟩)] 86) = W at E0 g1 g2 g3 p1 p2 o1 F0 ⊢
  have HB : Hid (g.bl ≠ [] → ∀ b off, ga = some ⟨b, off, none⟩ → b < w.heap.size) := fun hne b off hb => HC.out.lt hne hb
  have zo : w.heap.size + 1 + 1 + 1 < W.heap.size := cell_lt o1
  gi_loopw [12] (fun i wr => ∃ r : Nat, r ≤ 64 ∧ i = .int .i64 r ∧ Hid (FillAt wr (w.heap.size + 1 + 1) (r * 64)) ∧ Hid (Below (w.heap.size + 1 + 1) W wr) ∧ wr.cell? ⟨w.heap.size + 1 + 1 + 1, 0, none⟩ = some (.pointer (some ⟨w.heap.size + 1 + 1, 0, none⟩))) (fun i _ => 64 - (intOf i).toNat)
  case atStart => exact ⟨0, by omega, rfl, F0, Below.refl _ _, o1⟩
  case round =>
    obtain ⟨r, hr, rfl, hf, hb, ho⟩ := hrel
    by_cases hlt : r < 64
    · have hlt' : (r : Int) < 64 := by omega
      gi_wp2
      gi_loopw [15] (fun i wr => ∃ c : Nat, c ≤ 64 ∧ i = .int .i64 c ∧ Hid (FillAt wr (w.heap.size + 1 + 1) (r * 64 + c)) ∧ Hid (Below (w.heap.size + 1 + 1) W wr) ∧ wr.cell? ⟨w.heap.size + 1 + 1 + 1, 0, none⟩ = some (.pointer (some ⟨w.heap.size + 1 + 1, 0, none⟩))) (fun i _ => 64 - (intOf i).toNat)
      case atStart => exact ⟨0, by omega, rfl, hf, hb, ho⟩
      case round =>
        clear hf hb ho
        obtain ⟨c, hc, rfl, hf, hb, ho⟩ := hrel
        by_cases hlc : c < 64
        · have hlc' : (c : Int) < 64 := by omega
          have k1 := (hf.out (r * 64 + c) (by omega)).1
          have k2 := (hf.out (r * 64 + c) (by omega)).2
          gi_wp2
          have HS : FillAt (wr.setCell ⟨w.heap.size + 1 + 1, r * 64 + c, none⟩ (.int .i64 (-1))) (w.heap.size + 1 + 1) (r * 64 + (c + 1)) := by
            have := hf.out.set (show r * 64 + c < 4096 by omega)
            rwa [show r * 64 + c + 1 = r * 64 + (c + 1) from by omega] at this
          refine ⟨⟨c + 1, by omega, by go_num, HS, hb.out.setCell (p := ⟨_, _, none⟩) (Nat.le_refl _) _, ?_⟩, by simp [intOf]; omega⟩
          rw [World.cell?_setCell_other _ _ _ _ (fun h => by simp only [Addr.mk.injEq] at h; omega)]
          exact ho
        · have hlc' : ¬ (c : Int) < 64 := by omega
          gi_wp2
          have hc64 : c = 64 := by omega
          subst hc64
          refine ⟨⟨r + 1, by omega, by go_num, by unfold Hid; rw [show (r + 1) * 64 = r * 64 + 64 from by omega]; exact hf.out, hb, ho⟩, by simp [intOf]; omega⟩
    · have hlt' : ¬ (r : Int) < 64 := by omega
      have hr64 : r = 64 := by omega
      subst hr64
      have g1' : wr.cell? ⟨w.heap.size, 0, none⟩ = some (.int .i64 g.rows) := (hb.out.cell (p := ⟨_, 0, none⟩) (by dsimp only; omega)).trans g1
      have g2' : wr.cell? ⟨w.heap.size, 1, none⟩ = some (.int .i64 g.cols) := (hb.out.cell (p := ⟨_, 1, none⟩) (by dsimp only; omega)).trans g2
      have g3' : wr.cell? ⟨w.heap.size, 2, none⟩ = some (.slice ga g.bl.length gc) := (hb.out.cell (p := ⟨_, 2, none⟩) (by dsimp only; omega)).trans g3
      have p1' : wr.cell? ⟨w.heap.size + 1, 0, none⟩ = some (.int .i64 p.1) := (hb.out.cell (p := ⟨_, 0, none⟩) (by dsimp only; omega)).trans p1
      have p2' : wr.cell? ⟨w.heap.size + 1, 1, none⟩ = some (.int .i64 p.2) := (hb.out.cell (p := ⟨_, 1, none⟩) (by dsimp only; omega)).trans p2
      have HCr : Hid (Cells2 wr ga g.bl) := Cells2.kept (Kd := fun k => k < w.heap.size + 1 + 1) (n := 0) ⟨hb.out.size, fun k o hk ho _ => by rw [hb.out.block k hk]; exact ho⟩ (fun b off hb hne => by have := HB.out hne b off hb; show _ < _; omega) (HC.out.ext E0)
      have TT := Lib.hid hf.out.tab
      have zr : w.heap.size + 1 + 1 + 1 < wr.heap.size := cell_lt ho
      clear g1 g2 g3 p1 p2 o1 F0
      gi_wp2_with (refine ⟨trivial, rfl, ?_⟩; gi_at_call 61; refine (callsIn_wide.2 (wave_any g p _ _)).mono ?_; rintro e w3 ⟨rfl, hw3⟩)
      have E6 : Ext wr w3 := by rw [← hw3]; exact ((Ext.refl _).alloc _).alloc _
      have G1 : w3.cell? ⟨wr.heap.size, 0, none⟩ = some (.int .i64 g.rows) := by rw [← hw3, World.cell?_alloc2_first]; rfl
      have G2 : w3.cell? ⟨wr.heap.size, 1, none⟩ = some (.int .i64 g.cols) := by rw [← hw3, World.cell?_alloc2_first]; rfl
      have G3 : w3.cell? ⟨wr.heap.size, 2, none⟩ = some (.slice ga g.bl.length gc) := by rw [← hw3, World.cell?_alloc2_first]; rfl
      have P1 : w3.cell? ⟨wr.heap.size + 1, 0, none⟩ = some (.int .i64 p.1) := by rw [← hw3, World.cell?_alloc2_new]; rfl
      have P2 : w3.cell? ⟨wr.heap.size + 1, 1, none⟩ = some (.int .i64 p.2) := by rw [← hw3, World.cell?_alloc2_new]; rfl
      refine wpIn_wide.2 (dist_range _ _ rfl g p ga gc w3 (wr.heap.size + 1) wr.heap.size (w.heap.size + 1 + 1 + 1) (w.heap.size + 1 + 1) HR.out HP.out P1 P2 G1 G2 G3 (HCr.out.ext E6) (by omega) (by omega)
        (fun hne b off h => by have := HB.out hne b off h; omega) (by omega) (E6.cell ho) (TT.out.ext E6) _ _ _ _ _ _ _ _ _ _ _ _ _ _ _ _ _ _ _ _ _ _ _ _ _ _ _ _ _ _ _ _ _ _ _ _ _ _ _ [] _ ?_)
      intro D w4 k1 k2 k3 k4 k5 k6
      gi_wp2
      refine leaves_marks (n := w3.heap.size) (v := .pointer (some ⟨w.heap.size + 1 + 1, 0, none⟩)) (fun w => (results_tmp (t := 4) rfl _ _ _).trans rfl) _ _ (Marks.cons (A := w3) (Marks.nil _ _) k1 k1 (Marks.nil _ _) k6) (fun w' hw' => ?_)
      have hz3 : w.heap.size + 1 + 1 < w3.heap.size := by have := E6.size; omega
      refine ⟨_, rfl, k3.below hw' hz3, ?_⟩
      have hzw : w.heap.size ≤ w.heap.size + 1 + 1 := by omega
      refine Below.trans E0 ?_
      refine Below.trans (hb.out.mono hzw) ?_
      refine Below.trans (E6.mono (by omega)) ?_
      exact Below.trans (k4.mono hzw) (hw'.mono (by omega))
end Go.Proofs.Ytfigooilhnahfaa
