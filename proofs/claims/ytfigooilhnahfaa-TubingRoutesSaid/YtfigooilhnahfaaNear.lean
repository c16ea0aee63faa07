/- The reference's neighbours. -/
import Derived.Test.YtfigooilhnahfaaKept
import Derived.Test.YtfigooilhnahfaaWaveR
namespace Go.Proofs.Ytfigooilhnahfaa
open Go.RowKit

theorem near_step {g : Gr} {p : Pt} {k : Nat} (hk : k < 4) : ((nbs p).take (k + 1)).filter (opn g) = ((nbs p).take k).filter (opn g) ++ (if opn g (pt (nbs p) k) = true then [pt (nbs p) k] else []) := by
  have hl : k < (nbs p).length := hk
  rw [List.take_succ_eq_append_getElem hl, List.filter_append]
  congr 1
  have e : (nbs p)[k] = pt (nbs p) k := by unfold pt; rw [List.getD_eq_getElem?_getD, List.getElem?_eq_getElem hl]; simp
  rw [e]
  by_cases h : opn g (pt (nbs p) k) = true <;> simp [h]

set_option maxHeartbeats 2000000 in
set_option maxRecDepth 100000 in
theorem Near_any (g : Gr) (p : Pt) (ga : Option Addr) (gc : Nat) (w : World) (hg : g.bl.length ≤ maxLen) (hp : InG p) (hc : Cells2 w ga g.bl) :
    Calls Try.prog 73 #[.agg #[.int .i64 g.rows, .int .i64 g.cols, .slice ga g.bl.length gc], .agg #[.int .i64 p.1, .int .i64 p.2]] w fun e w' => ∃ v, e = .returned v ∧ Owns w' v (near g p) ∧ (∀ b, v.ownBlock = some b → w.heap.size ≤ b) ∧ Ext w w' := by
  have HC : Hid (Cells2 w ga g.bl) := hc
  have HG := Lib.hid hg
  have HP := Lib.hid hp
  obtain ⟨p1, p2, p3, p4⟩ := hp
  have x1 : IntKind.i64.wrap (p.1 - 1) = p.1 - 1 := IntWalk.i64_in _ (by omega)
  have x2 : IntKind.i64.wrap (p.2 - 1) = p.2 - 1 := IntWalk.i64_in _ (by omega)
  have x3 : IntKind.i64.wrap (p.1 + 1) = p.1 + 1 := IntWalk.i64_in _ (by omega)
  have x4 : IntKind.i64.wrap (p.2 + 1) = p.2 + 1 := IntWalk.i64_in _ (by omega)
  clear hc hg
  go_enter Try.func73, Try.ntmps73
  go_wp2
  obtain ⟨n, hn⟩ : ∃ n, n = w.heap.size := ⟨_, rfl⟩
  have E0 : Ext w (((( ((w).alloc (.cells #[.int .i64 g.rows, .int .i64 g.cols, .slice ga g.bl.length gc] 24))).alloc (.cells #[.int .i64 p.1, .int .i64 p.2] 26))).alloc (.cells #[.int .i64 (p.1 - 1), .int .i64 p.2, .int .i64 p.1, .int .i64 (p.2 - 1), .int .i64 p.1, .int .i64 (p.2 + 1), .int .i64 (p.1 + 1), .int .i64 p.2] 26)) := (((Ext.refl _).alloc _).alloc _).alloc _
  have g1 : (((( ((w).alloc (.cells #[.int .i64 g.rows, .int .i64 g.cols, .slice ga g.bl.length gc] 24))).alloc (.cells #[.int .i64 p.1, .int .i64 p.2] 26))).alloc (.cells #[.int .i64 (p.1 - 1), .int .i64 p.2, .int .i64 p.1, .int .i64 (p.2 - 1), .int .i64 p.1, .int .i64 (p.2 + 1), .int .i64 (p.1 + 1), .int .i64 p.2] 26)).cell? ⟨w.heap.size, 0, none⟩ = some (.int .i64 g.rows) := by clear hn; go_simp
  have g2 : (((( ((w).alloc (.cells #[.int .i64 g.rows, .int .i64 g.cols, .slice ga g.bl.length gc] 24))).alloc (.cells #[.int .i64 p.1, .int .i64 p.2] 26))).alloc (.cells #[.int .i64 (p.1 - 1), .int .i64 p.2, .int .i64 p.1, .int .i64 (p.2 - 1), .int .i64 p.1, .int .i64 (p.2 + 1), .int .i64 (p.1 + 1), .int .i64 p.2] 26)).cell? ⟨w.heap.size, 1, none⟩ = some (.int .i64 g.cols) := by clear hn; go_simp
  have g3 : (((( ((w).alloc (.cells #[.int .i64 g.rows, .int .i64 g.cols, .slice ga g.bl.length gc] 24))).alloc (.cells #[.int .i64 p.1, .int .i64 p.2] 26))).alloc (.cells #[.int .i64 (p.1 - 1), .int .i64 p.2, .int .i64 p.1, .int .i64 (p.2 - 1), .int .i64 p.1, .int .i64 (p.2 + 1), .int .i64 (p.1 + 1), .int .i64 p.2] 26)).cell? ⟨w.heap.size, 2, none⟩ = some (.slice ga g.bl.length gc) := by clear hn; go_simp
  have zW : (((( ((w).alloc (.cells #[.int .i64 g.rows, .int .i64 g.cols, .slice ga g.bl.length gc] 24))).alloc (.cells #[.int .i64 p.1, .int .i64 p.2] 26))).alloc (.cells #[.int .i64 (p.1 - 1), .int .i64 p.2, .int .i64 p.1, .int .i64 (p.2 - 1), .int .i64 p.1, .int .i64 (p.2 + 1), .int .i64 (p.1 + 1), .int .i64 p.2] 26)).heap.size = n + 3 := by rw [hn]; simp
  have HN : Hid (Cells2 (((( ((w).alloc (.cells #[.int .i64 g.rows, .int .i64 g.cols, .slice ga g.bl.length gc] 24))).alloc (.cells #[.int .i64 p.1, .int .i64 p.2] 26))).alloc (.cells #[.int .i64 (p.1 - 1), .int .i64 p.2, .int .i64 p.1, .int .i64 (p.2 - 1), .int .i64 p.1, .int .i64 (p.2 + 1), .int .i64 (p.1 + 1), .int .i64 p.2] 26)) (some ⟨w.heap.size + 1 + 1, 0, none⟩) (nbs p)) := fun i hi => by
    have : i = 0 ∨ i = 1 ∨ i = 2 ∨ i = 3 := by simp [nbs] at hi; omega
    clear hn zW
    rcases this with rfl | rfl | rfl | rfl <;> exact ⟨_, 0, rfl, by simp only [nbs, pt]; go_simp, by simp only [nbs, pt]; go_simp⟩
  rw [← hn] at g1 g2 g3 HN ⊢
  have z0 : w.heap.size ≤ n := by omega
  clear hn
  generalize (((( ((w).alloc (.cells #[.int .i64 g.rows, .int .i64 g.cols, .slice ga g.bl.length gc] 24))).alloc (.cells #[.int .i64 p.1, .int .i64 p.2] 26))).alloc (.cells #[.int .i64 (p.1 - 1), .int .i64 p.2, .int .i64 p.1, .int .i64 (p.2 - 1), .int .i64 p.1, .int .i64 (p.2 + 1), .int .i64 (p.1 + 1), .int .i64 p.2] 26)) = W at E0 g1 g2 g3 zW HN ⊢
  have HCW := Lib.hid (HC.out.ext E0)
  have HBL : Hid (g.bl ≠ [] → ∀ b off, ga = some ⟨b, off, none⟩ → b < W.heap.size) := fun hne b off hb => HCW.out.lt hne hb
  clear HC x1 x2 x3 x4
  go_loopw [5, 34] (fun v i wr => ∃ (k : Nat) (N : List Pt) (av : Option Addr) (cv : Nat), k ≤ 4 ∧ i = .int .i64 k ∧ v = .slice av N.length cv ∧ Hid (N = ((nbs p).take k).filter (opn g)) ∧ Hid (Owns wr (.slice av N.length cv) N) ∧ Hid (∀ b, (Value.slice av N.length cv).ownBlock = some b → W.heap.size ≤ b) ∧ Hid (Below W.heap.size W wr)) (fun _ i _ => 4 - (intOf i).toNat)
  case atStart => exact ⟨0, [], none, 0, by omega, rfl, rfl, rfl, Owns.nil _, fun b hb => (by cases hb), Below.refl _ _⟩
  case round =>
    obtain ⟨k, N, av, cv, hk, rfl, rfl, hN, hO, hV, hB⟩ := hrel
    have zwr : W.heap.size ≤ wr.heap.size := hB.out.size
    by_cases hlt : k < 4
    · have hlt' : (k : Int) < 4 := by omega
      have d1 : wr.cell? ⟨n, 0, none⟩ = some (.int .i64 g.rows) := (hB.out.cell (p := ⟨n, 0, none⟩) (by show n < _; omega)).trans g1
      have d2 : wr.cell? ⟨n, 1, none⟩ = some (.int .i64 g.cols) := (hB.out.cell (p := ⟨n, 1, none⟩) (by show n < _; omega)).trans g2
      have d3 : wr.cell? ⟨n, 2, none⟩ = some (.slice ga g.bl.length gc) := (hB.out.cell (p := ⟨n, 2, none⟩) (by show n < _; omega)).trans g3
      obtain ⟨nb, no, hnb, e1, e2⟩ := HN.out k hlt
      cases hnb
      simp only [Nat.zero_add] at e1 e2
      have e1 : wr.cell? ⟨n + 1 + 1, k * 2, none⟩ = some (.int .i64 (pt (nbs p) k).1) := (hB.out.cell (p := ⟨n + 1 + 1, k * 2, none⟩) (by show n + 1 + 1 < _; omega)).trans e1
      have e2 : wr.cell? ⟨n + 1 + 1, k * 2 + 1, none⟩ = some (.int .i64 (pt (nbs p) k).2) := (hB.out.cell (p := ⟨n + 1 + 1, k * 2 + 1, none⟩) (by show n + 1 + 1 < _; omega)).trans e2
      have HCr : Hid (Cells2 wr ga g.bl) := Cells2.kept (Kd := fun k => k < W.heap.size) (n := 0) ⟨hB.out.size, fun k o hk ho _ => by rw [hB.out.block k hk]; exact ho⟩ (fun b off hb hne => HBL.out hne b off hb) HCW.out
      have hst := near_step (g := g) (p := p) hlt
      generalize pt (nbs p) k = q at e1 e2 hst
      have HST := Lib.hid hst
      clear hst
      have zn : n < wr.heap.size := by omega
      go_wp2_with fail
      refine (Cell_any g q _ _).mono ?_
      rintro e w1 ⟨rfl, hE⟩
      have EE : Ext wr w1 := ((Ext.refl _).alloc _).trans hE
      have q1 : w1.cell? ⟨wr.heap.size, 0, none⟩ = some (.int .i64 q.1) := hE.cell (by go_simp)
      have q2 : w1.cell? ⟨wr.heap.size, 1, none⟩ = some (.int .i64 q.2) := hE.cell (by go_simp)
      have d1 := EE.cell d1
      have d2 := EE.cell d2
      have d3 := EE.cell d3
      have HC1 := Lib.hid (HCr.out.ext EE)
      have HO1 := Lib.hid (hO.out.ext EE)
      have HB1 := Lib.hid (hB.out.trans (EE.mono zwr))
      have z1 : wr.heap.size < w1.heap.size := cell_lt q1
      have zn1 : n < w1.heap.size := by omega
      clear hE EE hO hB HCr e1 e2
      have hlenN : N.length ≤ 4 := by
        rw [hN.out]
        refine Nat.le_trans (List.length_filter_le _ _) ?_
        simp; omega
      cases hin : inside g q
      · have HST2 : Hid (((nbs p).take (k + 1)).filter (opn g) = ((nbs p).take k).filter (opn g)) := by
          show _ = _
          rw [HST.out, if_neg (by unfold opn; rw [hin]; simp), List.append_nil]
        have HIN := Lib.hid hin
        clear hin
        go_wp2
        exact ⟨⟨k + 1, N, av, cv, by omega, by go_num, rfl, by show _ = _; rw [HST2.out]; exact hN.out, HO1.out, hV.out, HB1.out⟩, by simp [intOf]; omega⟩
      · have HIN := Lib.hid hin
        clear hin
        go_wp2_with fail
        refine (Has_any g.bl q ga gc _ HG.out HC1.out).mono ?_
        rintro e w2 ⟨rfl, hE⟩
        have q1 := hE.cell q1
        have q2 := hE.cell q2
        have HO2 := Lib.hid (HO1.out.ext hE)
        have zh2 : w1.heap.size ≤ w2.heap.size := hE.size
        have HB2 := Lib.hid (HB1.out.trans (hE.mono (by omega)))
        clear hE HO1 HB1 d1 d2 d3
        by_cases hm : q ∈ g.bl
        · have HST2 : Hid (((nbs p).take (k + 1)).filter (opn g) = ((nbs p).take k).filter (opn g)) := by
            show _ = _
            rw [HST.out, if_neg (by unfold opn blk; simp [hm]), List.append_nil]
          have hd : decide (q ∈ g.bl) = true := by simp [hm]
          rw [hd]
          clear hm hd
          go_wp2
          exact ⟨⟨k + 1, N, av, cv, by omega, by go_num, rfl, by show _ = _; rw [HST2.out]; exact hN.out, HO2.out, hV.out, HB2.out⟩, by simp [intOf]; omega⟩
        · have HST2 : Hid (((nbs p).take (k + 1)).filter (opn g) = ((nbs p).take k).filter (opn g) ++ [q]) := by
            show _ = _
            rw [HST.out, if_pos (by unfold opn blk; simp [hm, HIN.out])]
          have hd : decide (q ∈ g.bl) = false := by simp [hm]
          rw [hd]
          clear hm hd
          obtain ⟨i0, hi, hi0, hi1, hi2⟩ := info_parts infoPl
          go_wp2_with (at_builtin; refine wpList_append1 _ rfl _ _ 22 rfl 26 i0 (.agg #[.int .i64 0, .int .i64 0]) 2 16 Try.underlying22 hi hi0 hi1 hi2 rfl (by decide) (.slice av N.length cv) _ _ rfl (HO2.out.ext ((Ext.refl _).alloc _)) ⟨w2.heap.size, 0, none⟩ 1 1 (by decide) [.int .i64 q.1, .int .i64 q.2] rfl rfl (cell_two_new _ _ _ _) ?c1 ?c2 ?c3 ?c4)
          case c1 => intro u hu; simp at hu; rcases hu with rfl | rfl <;> rfl
          case c2 => unfold maxLen; omega
          case c3 => omega
          case c4 =>
            intro v' w5 hown5 hend5
            have O5 := owns_succ hown5
            obtain ⟨av', cv', rfl, _, hbk⟩ := O5.reads
            have HO5 := Lib.hid O5
            have HEND := Lib.hid hend5
            clear hown5 hend5 O5 hbk
            go_wp2
            refine ⟨⟨k + 1, N ++ [q], av', cv', by omega, by go_num, by first | rfl | (rw [List.length_append, List.length_singleton]), by show _ = _; rw [HST2.out, hN.out], HO5.out, fun b hb => ?_, (HB2.out.alloc (by omega) _).trans (HEND.out.below (by simp; omega) (fun b hb => hV.out b hb))⟩, by simp [intOf]; omega⟩
            rcases HEND.out with ⟨h1, _, _⟩ | ⟨h1, _⟩
            · rw [h1] at hb; exact hV.out b hb
            · rw [h1] at hb
              have hb' : b = (w2.alloc (.cells #[.int .i64 q.1, .int .i64 q.2] 26)).heap.size := by cases hb; rfl
              simp at hb'
              omega
    · have hk4 : k = 4 := by omega
      subst hk4
      go_wp2
      go_ret
      have hNN : N = near g p := hN.out
      refine ⟨_, rfl, by rw [← hNN]; exact hO.out, fun b hb => Nat.le_trans E0.size (hV.out b hb), Below.trans E0 (hB.out.mono (by omega))⟩
end Go.Proofs.Ytfigooilhnahfaa
