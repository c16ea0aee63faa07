/- Steps of the proof: Few, MeetR, LenR, WayR, RouteQ, Ducts. No conditions. -/
import Derived.Test.YtfigooilhnahfaaZBundles1
import Derived.Test.YtfigooilhnahfaaZBundles2
import Derived.Test.YtfigooilhnahfaaZBundles3
import Derived.Test.YtfigooilhnahfaaZBundles4
import Derived.Test.YtfigooilhnahfaaZBundles5
/- The reference's at and Few. -/
namespace Go.Proofs.Ytfigooilhnahfaa
open Go.RowKit

set_option maxHeartbeats 1000000 in
theorem atR_any (g : Gr) (D : Pt → Int) (s : Value) (a : Option Addr) (cap : Nat) (p : Pt) (w : World) (hr : Right g) (hp : inside g p = true) (hc : CellsI w a (tabL g D)) :
    Calls Try.prog 52 #[.agg #[.int .i64 g.rows, .int .i64 g.cols, s], .slice a (tabL g D).length cap, .agg #[.int .i64 p.1, .int .i64 p.2]] w fun e w' => e = .returned (.int .i64 (D p)) ∧ Ext w w' := by
  obtain ⟨x, k1, k2, k3⟩ := kxF hr hp
  have hk : kx g p < (tabL g D).length := by rw [tabL_len]; exact k3
  obtain ⟨b, off, rfl, h1⟩ := hc (kx g p) hk
  rw [tabL_get k3, cellAt_kx hp] at h1
  generalize kx g p = k at k2 hk h1
  generalize (tabL g D).length = n at hk
  have hk' : (k : Int) < (n : Int) := by omega
  have E0 : Ext w ((w.alloc (.cells #[.int .i64 g.rows, .int .i64 g.cols, s] 24)).alloc (.cells #[.int .i64 p.1, .int .i64 p.2] 26)) := ((Ext.refl _).alloc _).alloc _
  have zb := cell_lt h1
  dsimp only at zb
  clear hc hr hp k3
  go_enter Try.func52, Try.ntmps52
  go_wp2
  go_ret
  exact ⟨rfl, E0⟩

def fewB (g : Gr) : Bool := decide (g.bl.length ≤ 512) && ((decide (g.rows ≤ 7) && decide (g.cols ≤ 7)) || decide (chk g ≠ 0))
set_option maxHeartbeats 1000000 in
theorem Few_any (g : Gr) (ga : Option Addr) (gc : Nat) (w : World) (hg : g.bl.length ≤ maxLen) (hc : Cells2 w ga g.bl) :
    Calls Try.prog 12 #[.agg #[.int .i64 g.rows, .int .i64 g.cols, .slice ga g.bl.length gc]] w fun e w' => e = .returned (.bool (fewB g)) ∧ Ext w w' := by
  have HC : Hid (Cells2 w ga g.bl) := hc
  have HG := Lib.hid hg
  clear hc hg
  have E0 : Ext w (((w).alloc (.cells #[.int .i64 g.rows, .int .i64 g.cols, .slice ga g.bl.length gc] 24))) := (Ext.refl _).alloc _
  by_cases h1 : g.bl.length ≤ 512
  · have h1' : (g.bl.length : Int) ≤ 512 := by omega
    by_cases h2 : g.rows ≤ 7 ∧ g.cols ≤ 7
    · obtain ⟨h2, h3⟩ := h2
      have hb : Hid (fewB g = true) := by show _ = _; unfold fewB; simp [h1, h2, h3]
      clear h1
      go_enter Try.func12, Try.ntmps12
      go_wp2
      go_ret
      exact ⟨ret_bool hb.out.symm, E0⟩
    · have hb : Hid (fewB g = decide (chk g ≠ 0)) := by
        show _ = _
        unfold fewB
        have : (decide (g.rows ≤ 7) && decide (g.cols ≤ 7)) = false := by simp; omega
        rw [this]; simp [h1]
      have H1 := Lib.hid h1
      clear h1
      have fin : ∀ b : Bool, (g.rows ≤ 7 → ¬ g.cols ≤ 7) → Calls Try.prog 12 #[.agg #[.int .i64 g.rows, .int .i64 g.cols, .slice ga g.bl.length gc]] w fun e w' => e = .returned (.bool (fewB g)) ∧ Ext w w' := fun _ hh => by
        by_cases h3 : g.rows ≤ 7
        · have h4 := hh h3
          clear h2 hh
          go_enter Try.func12, Try.ntmps12
          go_wp2_with fail
          refine (CheckR_any g ga gc _ HG.out (HC.out.ext E0)).mono ?_
          rintro e w1 ⟨rfl, hE⟩
          go_wp2
          go_ret
          exact ⟨ret_bool (by rw [hb.out]; cases h5 : decide (chk g ≠ 0) <;> simp_all), E0.trans hE⟩
        · clear h2 hh
          go_enter Try.func12, Try.ntmps12
          go_wp2_with fail
          refine (CheckR_any g ga gc _ HG.out (HC.out.ext E0)).mono ?_
          rintro e w1 ⟨rfl, hE⟩
          go_wp2
          go_ret
          exact ⟨ret_bool (by rw [hb.out]; cases h5 : decide (chk g ≠ 0) <;> simp_all), E0.trans hE⟩
      exact fin true (fun h3 h4 => h2 ⟨h3, h4⟩)
  · have h1' : ¬ (g.bl.length : Int) ≤ 512 := by omega
    have hb : Hid (fewB g = false) := by show _ = _; unfold fewB; simp [h1]
    clear h1
    go_enter Try.func12, Try.ntmps12
    go_wp2
    go_ret
    exact ⟨ret_bool hb.out.symm, E0⟩
end Go.Proofs.Ytfigooilhnahfaa
/- The reference's Meet. -/
namespace Go.Proofs.Ytfigooilhnahfaa
open Go.RowKit

theorem Far_any2 (g : Gr) (p : Pt) (ga : Option Addr) (gc n : Nat) (w : World) (hn : n = g.rows.toNat * g.cols.toNat) (hr : Right g) (hp : inside g p = true) (hc : Cells2 w ga g.bl) :
    Calls Try.prog 51 #[.agg #[.int .i64 g.rows, .int .i64 g.cols, .slice ga g.bl.length gc], .agg #[.int .i64 p.1, .int .i64 p.2]] w fun e w' => ∃ a cap, e = .returned (.slice a n cap) ∧ CellsI w' a (tabL g (dst g p)) ∧ Ext w w' :=
  (Far_any g p ga gc w hr hp hc).mono fun e w' ⟨a, cap, h1, h2, h3⟩ => ⟨a, cap, by rw [h1, tabL_len, hn], h2, h3⟩
theorem atR_any2 (g : Gr) (D : Pt → Int) (s : Value) (a : Option Addr) (cap n : Nat) (p : Pt) (w : World) (hn : n = g.rows.toNat * g.cols.toNat) (hr : Right g) (hp : inside g p = true) (hc : CellsI w a (tabL g D)) :
    Calls Try.prog 52 #[.agg #[.int .i64 g.rows, .int .i64 g.cols, s], .slice a n cap, .agg #[.int .i64 p.1, .int .i64 p.2]] w fun e w' => e = .returned (.int .i64 (D p)) ∧ Ext w w' := by
  have := atR_any g D s a cap p w hr hp hc
  rw [tabL_len, ← hn] at this
  exact this
theorem quoF {g : Gr} (hr : Right g) (k : Nat) : (k : Int).tdiv g.cols = ((k / g.cols.toNat : Nat) : Int) ∧ (k : Int).tmod g.cols = ((k % g.cols.toNat : Nat) : Int) ∧ (k : Int) / g.cols = ((k / g.cols.toNat : Nat) : Int) ∧ (k : Int) % g.cols = ((k % g.cols.toNat : Nat) : Int) := by
  have h := hr.c1
  obtain ⟨c, hc⟩ : ∃ c : Nat, g.cols = (c : Int) := ⟨g.cols.toNat, by omega⟩
  rw [hc]
  simp only [Int.toNat_natCast]
  refine ⟨?_, ?_, (Int.natCast_ediv _ _).symm, (Int.natCast_emod _ _).symm⟩
  · rw [Int.tdiv_eq_ediv_of_nonneg (by omega)]; exact (Int.natCast_ediv _ _).symm
  · rw [Int.tmod_eq_emod_of_nonneg (by omega)]; exact (Int.natCast_emod _ _).symm
theorem CellsI.below {m : Nat} {w w' : World} {a : Option Addr} {l : List Int} (h : CellsI w a l) (he : Below m w w') (hm : ∀ b off, a = some ⟨b, off, none⟩ → b < m) : CellsI w' a l := fun i hi => by
  obtain ⟨b, off, h1, h2⟩ := h i hi
  exact ⟨b, off, h1, (he.cell (p := ⟨b, _, none⟩) (hm b off h1)).trans h2⟩
theorem CellsI.lt {w : World} {a : Option Addr} {l : List Int} (h : CellsI w a l) (hl : 0 < l.length) {b off : Nat} (ha : a = some ⟨b, off, none⟩) : b < w.heap.size := by
  obtain ⟨b', off', h1, h2⟩ := h 0 hl
  rw [ha] at h1
  cases h1
  exact cell_lt h2

set_option maxHeartbeats 4000000 in
set_option maxRecDepth 100000 in
theorem MeetR_any (g : Gr) (p q r : Pt) (ga : Option Addr) (gc : Nat) (w : World) (hg : g.bl.length ≤ maxLen) (hc : Cells2 w ga g.bl) :
    Calls Try.prog 16 #[.agg #[.int .i64 g.rows, .int .i64 g.cols, .slice ga g.bl.length gc], .agg #[.int .i64 p.1, .int .i64 p.2, .int .i64 q.1, .int .i64 q.2, .int .i64 r.1, .int .i64 r.2]] w fun e w' =>
      e = .returned (.tuple #[.agg #[.int .i64 (meetP g p q r).1, .int .i64 (meetP g p q r).2], .int .i64 (meetN g p q r), .int .i64 (meetE g p q r)]) ∧ Ext w w' := by
  have HC : Hid (Cells2 w ga g.bl) := hc
  have HG := Lib.hid hg
  clear hc hg
  obtain ⟨W0, hW0⟩ : ∃ W0, ((((w).alloc (.cells #[.int .i64 g.rows, .int .i64 g.cols, .slice ga g.bl.length gc] 24))).alloc (.cells #[.int .i64 p.1, .int .i64 p.2, .int .i64 q.1, .int .i64 q.2, .int .i64 r.1, .int .i64 r.2] 27)).alloc (.cells #[.int .i64 0, .int .i64 0] 26) = W0 := ⟨_, rfl⟩
  have E0 : Ext w W0 := by rw [← hW0]; exact (((Ext.refl _).alloc _).alloc _).alloc _
  have F0 : Hid (MtFix g p q r ga gc w.heap.size W0) := by
    rw [← hW0]; clear hW0
    exact ⟨by go_simp, by go_simp, by go_simp, by go_simp, by go_simp, by go_simp, by go_simp, by go_simp, by go_simp, by go_simp, by go_simp, by go_simp, by go_simp⟩
  obtain ⟨a1, a2, a3, p1, p2, p3, p4, p5, p6, c1, c2, f1, f2⟩ := F0.out
  have H3 : Hid (Cells2 W0 (some ⟨w.heap.size + 1, 0, none⟩) [p, q, r]) := cells2_three p1 p2 p3 p4 p5 p6
  go_enter Try.func16, Try.ntmps16
  go_wp2_with fail
  clear hW0
  have y1 := cell_lt a1; have y2 := cell_lt p1
  dsimp only at y1 y2
  go_region_held3 (fun w' => Sees W0 w') ((repeat (first | exact Sees.refl _ | assumption | apply Sees.drew | apply Sees.alloc | (refine Sees.ext ?_ (by assumption))))) (first | (go_at_call 50; refine (givenR_any g [p, q, r] ga gc _ _ _ HG.out (HC.out.ext (E0.trans (by exact (show Sees W0 _ by assumption).2.2))) (by simp [maxLen]) (H3.out.ext (by exact (show Sees W0 _ by assumption).2.2))).mono ?_; rintro e w' ⟨rfl, hE2⟩))
  have hS := (show Sees W0 _ by assumption).2.2
  have F1 : Hid (MtFix g p q r ga gc w.heap.size w') := F0.out.ext hS
  have E1 := E0.trans hS
  clear y1 y2 a1 a2 a3 p1 p2 p3 p4 p5 p6 c1 c2 f1 f2 H3 F0 E0 hS
  generalize w' = W1 at F1 E1 ⊢
  by_cases h0 : givenErr g [p, q, r] = 0
  · obtain ⟨hr, ho⟩ := given_ok h0
    have HR := Lib.hid hr
    have HP : Hid (inside g p = true) := opn_inside (ho p (by simp))
    have HQ : Hid (inside g q = true) := opn_inside (ho q (by simp))
    have HRR : Hid (inside g r = true) := opn_inside (ho r (by simp))
    have HV : Hid (meetP g p q r = (if meetBad g p q r = true then (0, 0) else (meetV g p q r).2) ∧ meetN g p q r = (if meetBad g p q r = true then 0 else (meetV g p q r).1) ∧ meetE g p q r = if meetBad g p q r = true then 6 else 0) := by
      show _ ∧ _ ∧ _
      unfold meetP meetN meetE
      exact ⟨if_neg (by simp [h0]), if_neg (by simp [h0]), if_neg (by simp [h0])⟩
    rw [h0]
    clear h0 hr ho
    obtain ⟨a1, a2, a3, p1, p2, p3, p4, p5, p6, c1, c2, f1, f2⟩ := F1.out
    have z2 := F1.out.lt
    have z1 : w.heap.size + 1 < W1.heap.size := by omega
    have z0 : w.heap.size < W1.heap.size := by omega
    obtain ⟨n, hn⟩ : ∃ n, n = g.rows.toNat * g.cols.toNat := ⟨_, rfl⟩
    have HNN := Lib.hid hn
    clear hn
    go_wp2_with fail
    go_region_held3 (fun w' => Sees W1 w') ((repeat (first | exact Sees.refl _ | assumption | apply Sees.drew | apply Sees.alloc | (refine Sees.ext ?_ (by assumption))))) (first | (go_at_call 51; have hIp0 := hIq; refine (Far_any2 g r ga gc n _ HNN.out HR.out HRR.out (HC.out.ext (E1.trans (by exact (show Sees W1 _ by assumption).2.2)))).mono ?_; rintro e w' ⟨fc, cc, rfl, hIr, hE2⟩; have hIp := hIp.ext hE2; have hIq := hIq.ext hE2) | (go_at_call 51; have hIp0 := hIp; refine (Far_any2 g q ga gc n _ HNN.out HR.out HQ.out (HC.out.ext (E1.trans (by exact (show Sees W1 _ by assumption).2.2)))).mono ?_; rintro e w' ⟨fb, cb, rfl, hIq, hE2⟩; have hIp := hIp.ext hE2) | (go_at_call 51; refine (Far_any2 g p ga gc n _ HNN.out HR.out HP.out (HC.out.ext (E1.trans (by exact (show Sees W1 _ by assumption).2.2)))).mono ?_; rintro e w' ⟨fa, ca, rfl, hIp, hE2⟩))
    have hS := (show Sees W1 _ by assumption).2.2
    have FX2 := Lib.hid (F1.out.ext hS)
    have E2 := E1.trans hS
    have HI0 := Lib.hid hIp
    have HI1 := Lib.hid hIq
    have HI2 := Lib.hid hIr
    clear a1 a2 a3 p1 p2 p3 p4 p5 p6 c1 c2 f1 f2 hS hIp hIq hIr F1 E1 z0 z1 z2
    generalize w' = W2 at FX2 E2 HI0 HI1 HI2 ⊢
    obtain ⟨a1, a2, a3, p1, p2, p3, p4, p5, p6, c1, c2, f1, f2⟩ := FX2.out
    go_wp2_with fail
    refine (atR_any2 g (dst g p) _ fa ca n q _ HNN.out HR.out HQ.out HI0.out).mono ?_
    rintro e W3 ⟨rfl, hE⟩
    have FX3 := Lib.hid (FX2.out.ext hE)
    have E3 := E2.trans hE
    have HI0 := Lib.hid (HI0.out.ext hE)
    have HI1 := Lib.hid (HI1.out.ext hE)
    have HI2 := Lib.hid (HI2.out.ext hE)
    clear a1 a2 a3 p1 p2 p3 p4 p5 p6 c1 c2 f1 f2 hE FX2 E2
    obtain ⟨a1, a2, a3, p1, p2, p3, p4, p5, p6, c1, c2, f1, f2⟩ := FX3.out
    cases hx0 : decide (dst g p q < 0)
    · have hx0' : ¬ dst g p q < 0 := by simpa using hx0
      go_wp2_with fail
      refine (atR_any2 g (dst g p) _ fa ca n r _ HNN.out HR.out HRR.out HI0.out).mono ?_
      rintro e W4 ⟨rfl, hE⟩
      have FX4 := Lib.hid (FX3.out.ext hE)
      have E4 := E3.trans hE
      have HI0 := Lib.hid (HI0.out.ext hE)
      have HI1 := Lib.hid (HI1.out.ext hE)
      have HI2 := Lib.hid (HI2.out.ext hE)
      clear a1 a2 a3 p1 p2 p3 p4 p5 p6 c1 c2 f1 f2 hE FX3 E3
      obtain ⟨a1, a2, a3, p1, p2, p3, p4, p5, p6, c1, c2, f1, f2⟩ := FX4.out
      cases hx1 : decide (dst g p r < 0)
      · have hx1' : ¬ dst g p r < 0 := by simpa using hx1
        have HB : Hid (meetBad g p q r = false) := by show _ = _; unfold meetBad; rw [hx0, hx1]; rfl
        have zx := FX4.out.lt
        have z0 : w.heap.size < W4.heap.size := by omega
        go_wp2_with fail
        have E5 : Ext W4 (W4.alloc (.cells #[.int .i64 0, .int .i64 0] 26)) := (Ext.refl _).alloc _
        obtain ⟨bat, hbat⟩ : ∃ b, b = W4.heap.size := ⟨_, rfl⟩
        have FX5 := Lib.hid (FX4.out.ext E5)
        have hpos : 0 < n := by
          rw [HNN.out]
          exact Nat.mul_pos (by have := HR.out.r1; omega) (by have := HR.out.c1; omega)
        have lt0 : Hid (∀ b off, fa = some ⟨b, off, none⟩ → b < bat) := fun b off h => by rw [hbat]; exact HI0.out.lt (by rw [tabL_len, ← HNN.out]; exact hpos) h
        have lt1 : Hid (∀ b off, fb = some ⟨b, off, none⟩ → b < bat) := fun b off h => by rw [hbat]; exact HI1.out.lt (by rw [tabL_len, ← HNN.out]; exact hpos) h
        have lt2 : Hid (∀ b off, fc = some ⟨b, off, none⟩ → b < bat) := fun b off h => by rw [hbat]; exact HI2.out.lt (by rw [tabL_len, ← HNN.out]; exact hpos) h
        have HI0 := Lib.hid (HI0.out.ext E5)
        have HI1 := Lib.hid (HI1.out.ext E5)
        have HI2 := Lib.hid (HI2.out.ext E5)
        have EV5 := E4.trans E5
        have b1 : (W4.alloc (.cells #[.int .i64 0, .int .i64 0] 26)).cell? ⟨bat, 0, none⟩ = some (.int .i64 0) := by rw [hbat]; clear hbat; go_simp
        have b2 : (W4.alloc (.cells #[.int .i64 0, .int .i64 0] 26)).cell? ⟨bat, 1, none⟩ = some (.int .i64 0) := by rw [hbat]; clear hbat; go_simp
        have b3 : (W4.alloc (.cells #[.int .i64 0, .int .i64 0] 26)).frozen? ⟨bat, 0, none⟩ = false := by rw [hbat]; clear hbat; go_simp
        have b4 : (W4.alloc (.cells #[.int .i64 0, .int .i64 0] 26)).frozen? ⟨bat, 1, none⟩ = false := by rw [hbat]; clear hbat; go_simp
        have zw : w.heap.size + 1 + 1 < bat := by rw [hbat]; exact FX4.out.lt
        have zbat : bat < (W4.alloc (.cells #[.int .i64 0, .int .i64 0] 26)).heap.size := by rw [hbat]; simp
        rw [← hbat]
        clear hbat a1 a2 a3 p1 p2 p3 p4 p5 p6 c1 c2 f1 f2 zx z0 FX4 E4 E5
        generalize W4.alloc (.cells #[.int .i64 0, .int .i64 0] 26) = V5 at FX5 HI0 HI1 HI2 EV5 b1 b2 b3 b4 zbat ⊢
        obtain ⟨mk, hmk⟩ : ∃ mk, mk = meetK g (dst g p) (dst g q) (dst g r) := ⟨_, rfl⟩
        have HMK0 : Hid (mk 0 = (-1, (0, 0))) := by rw [hmk]; rfl
        have HMKS : Hid (∀ k, mk (k + 1) = meetStep (dst g p) (dst g q) (dst g r) (mk k) (cellAt g k)) := by rw [hmk]; intro k; rfl
        have HMKB : Hid (∀ k, -3 ≤ (mk k).1 ∧ (mk k).1 ≤ 12288) := by
          rw [hmk]
          exact meetK_bd (fun x => ⟨(dst_bd HR.out HP.out x).1, (dst_bd HR.out HP.out x).2, (dst_bd HR.out HQ.out x).1, (dst_bd HR.out HQ.out x).2, (dst_bd HR.out HRR.out x).1, (dst_bd HR.out HRR.out x).2⟩)
        have HMKE : Hid (meetV g p q r = mk n) := by rw [hmk, HNN.out]; rfl
        have hn1 : n ≤ 4096 := by
          rw [HNN.out]; exact Nat.mul_le_mul (show g.rows.toNat ≤ 64 by have := HR.out.r2; omega) (show g.cols.toNat ≤ 64 by have := HR.out.c2; omega)
        clear hmk
        have hc1 := HR.out.c1
        have hc2 := HR.out.c2
        go_loopw [12, 13] (fun b i wr => ∃ k : Nat, k ≤ n ∧ i = .int .i64 k ∧ b = .int .i64 (mk k).1 ∧ Hid (Below bat V5 wr) ∧ wr.cell? ⟨bat, 0, none⟩ = some (.int .i64 (mk k).2.1) ∧ wr.cell? ⟨bat, 1, none⟩ = some (.int .i64 (mk k).2.2) ∧ wr.frozen? ⟨bat, 0, none⟩ = false ∧ wr.frozen? ⟨bat, 1, none⟩ = false) (fun _ i _ => n - (intOf i).toNat)
        case atStart =>
          refine ⟨0, Nat.zero_le _, rfl, ?_, Below.refl _ _, ?_, ?_, b3, b4⟩
          · rw [HMK0.out]
          · rw [HMK0.out]; exact b1
          · rw [HMK0.out]; exact b2
        case round =>
          clear b1 b2 b3 b4
          obtain ⟨k, hk, rfl, rfl, hB, b1, b2, b3, b4⟩ := hrel
          have hmb := HMKB.out k
          have FX := Lib.hid (FX5.out.below hB.out zw)
          have zwr : bat < wr.heap.size := Nat.lt_of_lt_of_le zbat hB.out.size
          obtain ⟨a1, a2, a3, p1, p2, p3, p4, p5, p6, c1, c2, f1, f2⟩ := FX.out
          by_cases hlt : k < n
          · have hlt' : (k : Int) < (n : Int) := by omega
            clear p1 p2 p3 p4 p5 p6 c1 c2 f1 f2
            have hkl : k < g.rows.toNat * g.cols.toNat := by rw [← HNN.out]; exact hlt
            obtain ⟨ba, oa, rfl, d0⟩ := HI0.out.below hB.out lt0.out k (by rw [tabL_len]; exact hkl)
            obtain ⟨bb, ob, rfl, d1⟩ := HI1.out.below hB.out lt1.out k (by rw [tabL_len]; exact hkl)
            obtain ⟨bc, oc, rfl, d2⟩ := HI2.out.below hB.out lt2.out k (by rw [tabL_len]; exact hkl)
            rw [tabL_get hkl] at d0 d1 d2
            have hst := HMKS.out k
            unfold meetStep at hst
            have hcl : Hid (cellAt g k = (((k / g.cols.toNat : Nat) : Int), ((k % g.cols.toNat : Nat) : Int))) := rfl
            obtain ⟨bd1, bd2⟩ := dst_bd HR.out HP.out (cellAt g k)
            obtain ⟨bd3, bd4⟩ := dst_bd HR.out HQ.out (cellAt g k)
            obtain ⟨bd5, bd6⟩ := dst_bd HR.out HRR.out (cellAt g k)
            generalize dst g p (cellAt g k) = A at d0 hst bd1 bd2
            generalize dst g q (cellAt g k) = B at d1 hst bd3 bd4
            generalize dst g r (cellAt g k) = C at d2 hst bd5 bd6
            have s2 : IntKind.i64.wrap (A + B) = A + B := IntWalk.i64_in _ (by omega)
            have s3 : IntKind.i64.wrap (A + B + C) = A + B + C := IntWalk.i64_in _ (by omega)
            have hEN : Hid (∀ N, Ext wr (wr.drewN N)) := fun N => (Ext.refl _).drewN _
            obtain ⟨x1, x2, x3, x4⟩ := quoF HR.out k
            have x5 : IntKind.i64.wrap ((k / g.cols.toNat : Nat) : Int) = ((k / g.cols.toNat : Nat) : Int) := by
              have h := Nat.div_le_self k g.cols.toNat
              generalize k / g.cols.toNat = y at h ⊢
              exact IntWalk.i64_in _ (by omega)
            have x6 : IntKind.i64.wrap ((k % g.cols.toNat : Nat) : Int) = ((k % g.cols.toNat : Nat) : Int) := by
              have h := Nat.mod_le k g.cols.toNat
              generalize k % g.cols.toNat = y at h ⊢
              exact IntWalk.i64_in _ (by omega)
            generalize k / g.cols.toNat = kd at x1 x3 x5 hcl
            generalize k % g.cols.toNat = km at x2 x4 x6 hcl
            have x7 : (g.cols == 0) = false := by simp; omega
            clear hkl
            go_wp2_with fail
            go_quiet (fail)
            have d0 := (hEN.out nq).cell d0
            have d1 := (hEN.out nq).cell d1
            have d2 := (hEN.out nq).cell d2
            have b1 := (hEN.out nq).cell b1
            have b2 := (hEN.out nq).cell b2
            have a2 := (hEN.out nq).cell a2
            have b3 := ((hEN.out nq).frozen (p := ⟨bat, 0, none⟩) zwr).trans b3
            have b4 := ((hEN.out nq).frozen (p := ⟨bat, 1, none⟩) zwr).trans b4
            have hB := Lib.hid (hB.out.trans ((hEN.out nq).mono (by omega)))
            clear hEN zwr
            generalize wr.drewN nq = w9 at d0 d1 d2 b1 b2 b3 b4 a2 hB ⊢
            by_cases hA : A < 0
            · have hA' : ¬ 0 ≤ A := by omega
              have hA2 : decide (0 ≤ A) = false := by simp; omega
              rw [if_pos hA] at hst
              have HST := Lib.hid hst
              clear hst
              go_wp2
              refine ⟨⟨k + 1, by omega, by go_num, ?_, hB.out, ?_, ?_, b3, b4⟩, by simp [intOf]; omega⟩
              · rw [HST.out]
              · rw [HST.out]; exact b1
              · rw [HST.out]; exact b2
            · rw [if_neg hA] at hst
              have hA' : 0 ≤ A := by omega
              have hA2 : decide (0 ≤ A) = true := by simp; omega
              have HST := Lib.hid hst
              clear hst
              cases h1 : decide ((mk k).1 < 0)
              · cases h2 : decide (A + B + C < (mk k).1)
                · have HST := Lib.hid (HST.out.trans (if_neg (by simp at h1 h2; omega)))
                  go_wp2
                  refine ⟨⟨k + 1, by omega, by go_num, ?_, hB.out, ?_, ?_, b3, b4⟩, by simp [intOf]; omega⟩
                  · rw [HST.out]
                  · rw [HST.out]; exact b1
                  · rw [HST.out]; exact b2
                · have HST := Lib.hid (HST.out.trans (if_pos (.inr (by simpa using h2))))
                  go_wp2_with fail
                  go_region
                  all_goals go_wp2
                  all_goals refine ⟨⟨k + 1, by omega, by go_num, ?_, ?_, ?_, ?_, by go_simp, by go_simp⟩, by simp [intOf]; omega⟩
                  all_goals first | exact (Below.setCell (p := ⟨bat, 1, none⟩) (Below.setCell (p := ⟨bat, 0, none⟩) hB.out (Nat.le_refl _) _) (Nat.le_refl _) _).drew | (rw [HST.out, hcl.out]; first | rfl | go_simp) | (rw [HST.out])
              · have HST := Lib.hid (HST.out.trans (if_pos (.inl (by simpa using h1))))
                go_wp2_with fail
                go_region
                all_goals go_wp2
                all_goals refine ⟨⟨k + 1, by omega, by go_num, ?_, ?_, ?_, ?_, by go_simp, by go_simp⟩, by simp [intOf]; omega⟩
                all_goals first | exact (Below.setCell (p := ⟨bat, 1, none⟩) (Below.setCell (p := ⟨bat, 0, none⟩) hB.out (Nat.le_refl _) _) (Nat.le_refl _) _).drew | (rw [HST.out, hcl.out]; first | rfl | go_simp) | (rw [HST.out])
          · have hlt' : ¬ (k : Int) < (n : Int) := by omega
            have hke : k = n := by omega
            go_wp2
            try simp only [Exit.inBlock, Exit.then]
            refine bodyPost_ret (v := .tuple #[.agg #[.int .i64 (mk n).2.1, .int .i64 (mk n).2.2], .int .i64 (mk n).1, .int .i64 0]) (by rw [results_cell_tmp2 rfl]; go_simp) rfl ⟨?_, ?_⟩
            · rw [HV.out.1, HV.out.2.1, HV.out.2.2, HB.out, HMKE.out]
              rfl
            · exact Below.setCell (p := ⟨_, 1, none⟩) (Below.setCell (p := ⟨_, 0, none⟩) (Below.trans EV5 (hB.out.mono (by omega))) (by show w.heap.size ≤ w.heap.size + 1 + 1; omega) _) (by show w.heap.size ≤ w.heap.size + 1 + 1; omega) _
      · have hx1' : dst g p r < 0 := by simpa using hx1
        have HB : Hid (meetBad g p q r = true) := by show _ = _; unfold meetBad; rw [hx0, hx1]; rfl
        go_wp2
        try simp only [Exit.inBlock, Exit.then]
        refine bodyPost_ret (v := .tuple #[.agg #[.int .i64 0, .int .i64 0], .int .i64 0, .int .i64 6]) (by rw [results_cell_tmp2 rfl]; go_simp) rfl ⟨?_, ?_⟩
        · rw [HV.out.1, HV.out.2.1, HV.out.2.2, if_pos HB.out, if_pos HB.out, if_pos HB.out]
        · exact Below.setCell (p := ⟨_, 1, none⟩) (Below.setCell (p := ⟨_, 0, none⟩) E4 (by show w.heap.size ≤ w.heap.size + 1 + 1; omega) _) (by show w.heap.size ≤ w.heap.size + 1 + 1; omega) _
    · have hx0' : dst g p q < 0 := by simpa using hx0
      have HB : Hid (meetBad g p q r = true) := by show _ = _; unfold meetBad; rw [hx0]; rfl
      go_wp2
      try simp only [Exit.inBlock, Exit.then]
      refine bodyPost_ret (v := .tuple #[.agg #[.int .i64 0, .int .i64 0], .int .i64 0, .int .i64 6]) (by rw [results_cell_tmp2 rfl]; go_simp) rfl ⟨?_, ?_⟩
      · rw [HV.out.1, HV.out.2.1, HV.out.2.2, if_pos HB.out, if_pos HB.out, if_pos HB.out]
      · exact Below.setCell (p := ⟨_, 1, none⟩) (Below.setCell (p := ⟨_, 0, none⟩) E3 (by show w.heap.size ≤ w.heap.size + 1 + 1; omega) _) (by show w.heap.size ≤ w.heap.size + 1 + 1; omega) _
  · have hv : Hid (meetP g p q r = (0, 0) ∧ meetN g p q r = 0 ∧ meetE g p q r = givenErr g [p, q, r]) := by
      show _ ∧ _ ∧ _
      unfold meetP meetN meetE
      exact ⟨if_pos h0, if_pos h0, if_pos h0⟩
    have hb : (givenErr g [p, q, r] != 0) = true := by simp [h0]
    have hb2 : (givenErr g [p, q, r] == 0) = false := by simp [h0]
    clear h0
    obtain ⟨a1, a2, a3, p1, p2, p3, p4, p5, p6, c1, c2, f1, f2⟩ := F1.out
    go_wp2
    try simp only [Exit.inBlock, Exit.then]
    refine bodyPost_ret (v := .tuple #[.agg #[.int .i64 0, .int .i64 0], .int .i64 0, .int .i64 (givenErr g [p, q, r])]) (by rw [results_cell_tmp2 rfl]; go_simp) rfl ⟨?_, ?_⟩
    · rw [hv.out.1, hv.out.2.1, hv.out.2.2]
    · exact Below.setCell (p := ⟨_, 1, none⟩) (Below.setCell (p := ⟨_, 0, none⟩) E1 (by show w.heap.size ≤ w.heap.size + 1 + 1; omega) _) (by show w.heap.size ≤ w.heap.size + 1 + 1; omega) _
end Go.Proofs.Ytfigooilhnahfaa
/- The reference's Length. -/
namespace Go.Proofs.Ytfigooilhnahfaa
open Go.RowKit

set_option maxHeartbeats 4000000 in
set_option maxRecDepth 100000 in
theorem LengthR_any (g : Gr) (p q : Pt) (ga : Option Addr) (gc : Nat) (w : World) (hg : g.bl.length ≤ maxLen) (hc : Cells2 w ga g.bl) :
    Calls Try.prog 28 #[.agg #[.int .i64 g.rows, .int .i64 g.cols, .slice ga g.bl.length gc], .agg #[.int .i64 p.1, .int .i64 p.2], .agg #[.int .i64 q.1, .int .i64 q.2]] w fun e w' => e = .returned (.tuple #[.int .i64 (lenN g p q), .int .i64 (lenE g p q)]) ∧ Ext w w' := by
  have HC : Hid (Cells2 w ga g.bl) := hc
  have HG := Lib.hid hg
  clear hc hg
  by_cases h0 : givenErr g [p, q] = 0
  · obtain ⟨hr, ho⟩ := given_ok h0
    have HR := Lib.hid hr
    have HQ : Hid (inside g q = true) := opn_inside (ho q (by simp))
    have HP : Hid (inside g p = true) := opn_inside (ho p (by simp))
    have HD : Hid (dst g p q = dst g q p) := dst_symm hr (ho p (by simp)) (ho q (by simp))
    obtain ⟨n, hn⟩ : ∃ n, n = g.rows.toNat * g.cols.toNat := ⟨_, rfl⟩
    have HNN := Lib.hid hn
    clear hn
    have H0 := Lib.hid h0
    clear hr ho h0
    have main : ∀ (neg : Bool), Hid (decide (dst g q p < 0) = neg) → Calls Try.prog 28 #[.agg #[.int .i64 g.rows, .int .i64 g.cols, .slice ga g.bl.length gc], .agg #[.int .i64 p.1, .int .i64 p.2], .agg #[.int .i64 q.1, .int .i64 q.2]] w fun e w' => e = .returned (.tuple #[.int .i64 (if neg then 0 else dst g q p), .int .i64 (if neg then 6 else 0)]) ∧ Ext w w' := by
      intro neg hneg
      have E0 : Ext w ((( (( ((w).alloc (.cells #[.int .i64 g.rows, .int .i64 g.cols, .slice ga g.bl.length gc] 24))).alloc (.cells #[.int .i64 p.1, .int .i64 p.2] 26))).alloc (.cells #[.int .i64 q.1, .int .i64 q.2] 26))) := (((Ext.refl _).alloc _).alloc _).alloc _
      have a1 : ((( (( ((w).alloc (.cells #[.int .i64 g.rows, .int .i64 g.cols, .slice ga g.bl.length gc] 24))).alloc (.cells #[.int .i64 p.1, .int .i64 p.2] 26))).alloc (.cells #[.int .i64 q.1, .int .i64 q.2] 26))).cell? ⟨w.heap.size, 0, none⟩ = some (.int .i64 g.rows) := by go_simp
      have a2 : ((( (( ((w).alloc (.cells #[.int .i64 g.rows, .int .i64 g.cols, .slice ga g.bl.length gc] 24))).alloc (.cells #[.int .i64 p.1, .int .i64 p.2] 26))).alloc (.cells #[.int .i64 q.1, .int .i64 q.2] 26))).cell? ⟨w.heap.size, 1, none⟩ = some (.int .i64 g.cols) := by go_simp
      have a3 : ((( (( ((w).alloc (.cells #[.int .i64 g.rows, .int .i64 g.cols, .slice ga g.bl.length gc] 24))).alloc (.cells #[.int .i64 p.1, .int .i64 p.2] 26))).alloc (.cells #[.int .i64 q.1, .int .i64 q.2] 26))).cell? ⟨w.heap.size, 2, none⟩ = some (.slice ga g.bl.length gc) := by go_simp
      have a4 : ((( (( ((w).alloc (.cells #[.int .i64 g.rows, .int .i64 g.cols, .slice ga g.bl.length gc] 24))).alloc (.cells #[.int .i64 p.1, .int .i64 p.2] 26))).alloc (.cells #[.int .i64 q.1, .int .i64 q.2] 26))).cell? ⟨w.heap.size + 1, 0, none⟩ = some (.int .i64 p.1) := by go_simp
      have a5 : ((( (( ((w).alloc (.cells #[.int .i64 g.rows, .int .i64 g.cols, .slice ga g.bl.length gc] 24))).alloc (.cells #[.int .i64 p.1, .int .i64 p.2] 26))).alloc (.cells #[.int .i64 q.1, .int .i64 q.2] 26))).cell? ⟨w.heap.size + 1, 1, none⟩ = some (.int .i64 p.2) := by go_simp
      have a6 : ((( (( ((w).alloc (.cells #[.int .i64 g.rows, .int .i64 g.cols, .slice ga g.bl.length gc] 24))).alloc (.cells #[.int .i64 p.1, .int .i64 p.2] 26))).alloc (.cells #[.int .i64 q.1, .int .i64 q.2] 26))).cell? ⟨w.heap.size + 1 + 1, 0, none⟩ = some (.int .i64 q.1) := by go_simp
      have a7 : ((( (( ((w).alloc (.cells #[.int .i64 g.rows, .int .i64 g.cols, .slice ga g.bl.length gc] 24))).alloc (.cells #[.int .i64 p.1, .int .i64 p.2] 26))).alloc (.cells #[.int .i64 q.1, .int .i64 q.2] 26))).cell? ⟨w.heap.size + 1 + 1, 1, none⟩ = some (.int .i64 q.2) := by go_simp
      go_enter Try.func28, Try.ntmps28
      go_wp2_with fail
      refine (givenR_any g [p, q] ga gc _ _ _ HG.out (HC.out.ext (E0.alloc _)) (by simp [maxLen]) (cells2_two (by go_simp) (by go_simp) (by go_simp) (by go_simp))).mono ?_
      rintro e w1 ⟨rfl, hE⟩
      rw [H0.out]
      have E1 : Ext ((( (( ((w).alloc (.cells #[.int .i64 g.rows, .int .i64 g.cols, .slice ga g.bl.length gc] 24))).alloc (.cells #[.int .i64 p.1, .int .i64 p.2] 26))).alloc (.cells #[.int .i64 q.1, .int .i64 q.2] 26))) w1 := ((Ext.refl _).alloc _).trans hE
      have b1 := E1.cell a1
      have b2 := E1.cell a2
      have b3 := E1.cell a3
      have b4 := E1.cell a4
      have b5 := E1.cell a5
      have b6 := E1.cell a6
      have b7 := E1.cell a7
      have E2 : Ext w w1 := E0.trans E1
      have z1 : w.heap.size < w1.heap.size := cell_lt b1
      have z2 : w.heap.size + 1 < w1.heap.size := cell_lt b4
      have z3 : w.heap.size + 1 + 1 < w1.heap.size := cell_lt b6
      clear hE E1 E0 a1 a2 a3 a4 a5 a6 a7
      go_wp2_with fail
      go_region_held3 (fun w' => Sees w1 w') ((repeat (first | exact Sees.refl _ | assumption | apply Sees.drew | apply Sees.alloc | (refine Sees.ext ?_ (by assumption))))) (first | (go_at_call 52; refine (atR_any2 g (dst g p) _ fa fc n q _ HNN.out HR.out HQ.out hI).mono ?_; rintro e w' ⟨rfl, hE2⟩) | (go_at_call 51; refine (Far_any2 g p ga gc n _ HNN.out HR.out HP.out (HC.out.ext (E2.trans (by exact (show Sees w1 _ by assumption).2.2)))).mono ?_; rintro e w' ⟨fa, fc, rfl, hI, hE2⟩))
      have hS := (show Sees w1 _ by assumption).2.2
      cases neg
      · have hd : ¬ dst g p q < 0 := by rw [HD.out]; simpa using hneg.out
        go_wp2
        go_ret2
        exact ⟨by rw [HD.out]; rfl, E2.trans hS⟩
      · have hd : dst g p q < 0 := by rw [HD.out]; simpa using hneg.out
        go_wp2
        go_ret2
        exact ⟨rfl, E2.trans hS⟩
    obtain ⟨e1, e2⟩ := len_ok H0.out (neg := decide (dst g q p < 0)) rfl
    rw [e1, e2]
    exact main _ rfl
  · have hn : Hid (lenN g p q = 0 ∧ lenE g p q = givenErr g [p, q]) := by
      show _ ∧ _
      unfold lenN lenE
      rw [if_pos h0, if_pos h0]
      exact ⟨rfl, rfl⟩
    have hb : (givenErr g [p, q] != 0) = true := by simp [h0]
    have hb2 : (givenErr g [p, q] == 0) = false := by simp [h0]
    clear h0
    go_enter Try.func28, Try.ntmps28
    go_wp2_with fail
    have E0 : Ext w (((( (( ((w).alloc (.cells #[.int .i64 g.rows, .int .i64 g.cols, .slice ga g.bl.length gc] 24))).alloc (.cells #[.int .i64 p.1, .int .i64 p.2] 26))).alloc (.cells #[.int .i64 q.1, .int .i64 q.2] 26))).alloc (.cells #[.int .i64 p.1, .int .i64 p.2, .int .i64 q.1, .int .i64 q.2] 26)) := ((((Ext.refl _).alloc _).alloc _).alloc _).alloc _
    refine (givenR_any g [p, q] ga gc _ _ _ HG.out (HC.out.ext E0) (by simp [maxLen]) (cells2_two (by go_simp) (by go_simp) (by go_simp) (by go_simp))).mono ?_
    rintro e w1 ⟨rfl, hE⟩
    go_wp2
    go_ret2
    rw [hn.out.1, hn.out.2]
    exact ⟨rfl, E0.trans hE⟩
end Go.Proofs.Ytfigooilhnahfaa
/- The reference's Way. -/
namespace Go.Proofs.Ytfigooilhnahfaa
open Go.RowKit

structure WyL (g : Gr) (p q : Pt) (w1 : World) (k : Nat) (a : Pt) (L : List Pt) (v : Value) (atb : Nat) (w : World) : Prop where
  eq : way g p q = L ++ wayGo g (dst g q) k a
  isd : IsD g q a k
  op : opn g a = true
  be : Ext w1 w
  a1 : w.cell? ⟨atb, 0, none⟩ = some (.int .i64 a.1)
  a2 : w.cell? ⟨atb, 1, none⟩ = some (.int .i64 a.2)
  a3 : w.frozen? ⟨atb, 0, none⟩ = false
  a4 : w.frozen? ⟨atb, 1, none⟩ = false
  own : Owns w v L
  vb : ∀ b, v.ownBlock = some b → w1.heap.size ≤ b ∧ b ≠ atb
  am : w1.heap.size ≤ atb
def sliceLn : Value → Nat
  | .slice _ n _ => n
  | _ => 0

set_option maxHeartbeats 4000000 in
set_option maxRecDepth 100000 in
theorem WayR_any (g : Gr) (p q : Pt) (ga : Option Addr) (gc : Nat) (w : World) (hr : Right g) (hp : opn g p = true) (hq : opn g q = true) (hnn : 0 ≤ dst g q p) (hc : Cells2 w ga g.bl) :
    Calls Try.prog 66 #[.agg #[.int .i64 g.rows, .int .i64 g.cols, .slice ga g.bl.length gc], .agg #[.int .i64 p.1, .int .i64 p.2], .agg #[.int .i64 q.1, .int .i64 q.2]] w fun e w' => ∃ v, e = .returned v ∧ Owns w' v (way g p q) ∧ Ext w w' := by
  have HC : Hid (Cells2 w ga g.bl) := hc
  have HR := Lib.hid hr
  have HP := Lib.hid hp
  have HQ := Lib.hid hq
  have HQI : Hid (inside g q = true) := opn_inside hq
  have hgl : g.bl.length ≤ maxLen := by have := hr.few; unfold maxLen; omega
  have HG := Lib.hid hgl
  obtain ⟨k, hk, hd⟩ : ∃ k : Nat, IsD g q p k ∧ dst g q p = k := by
    rcases dst_cases hr (opn_inside hq) p with ⟨k, hk, hd⟩ | ⟨_, hd⟩
    · exact ⟨k, hk, hd⟩
    · omega
  have HK := Lib.hid hk
  have HD := Lib.hid hd
  obtain ⟨n, hn⟩ : ∃ n, n = g.rows.toNat * g.cols.toNat := ⟨_, rfl⟩
  have HNN := Lib.hid hn
  have E0 : Ext w ((( (( ((w).alloc (.cells #[.int .i64 g.rows, .int .i64 g.cols, .slice ga g.bl.length gc] 24))).alloc (.cells #[.int .i64 p.1, .int .i64 p.2] 26))).alloc (.cells #[.int .i64 q.1, .int .i64 q.2] 26))) := (((Ext.refl _).alloc _).alloc _).alloc _
  have a1 : ((( (( ((w).alloc (.cells #[.int .i64 g.rows, .int .i64 g.cols, .slice ga g.bl.length gc] 24))).alloc (.cells #[.int .i64 p.1, .int .i64 p.2] 26))).alloc (.cells #[.int .i64 q.1, .int .i64 q.2] 26))).cell? ⟨w.heap.size, 0, none⟩ = some (.int .i64 g.rows) := by go_simp
  have a2 : ((( (( ((w).alloc (.cells #[.int .i64 g.rows, .int .i64 g.cols, .slice ga g.bl.length gc] 24))).alloc (.cells #[.int .i64 p.1, .int .i64 p.2] 26))).alloc (.cells #[.int .i64 q.1, .int .i64 q.2] 26))).cell? ⟨w.heap.size, 1, none⟩ = some (.int .i64 g.cols) := by go_simp
  have a3 : ((( (( ((w).alloc (.cells #[.int .i64 g.rows, .int .i64 g.cols, .slice ga g.bl.length gc] 24))).alloc (.cells #[.int .i64 p.1, .int .i64 p.2] 26))).alloc (.cells #[.int .i64 q.1, .int .i64 q.2] 26))).cell? ⟨w.heap.size, 2, none⟩ = some (.slice ga g.bl.length gc) := by go_simp
  have a4 : ((( (( ((w).alloc (.cells #[.int .i64 g.rows, .int .i64 g.cols, .slice ga g.bl.length gc] 24))).alloc (.cells #[.int .i64 p.1, .int .i64 p.2] 26))).alloc (.cells #[.int .i64 q.1, .int .i64 q.2] 26))).cell? ⟨w.heap.size + 1, 0, none⟩ = some (.int .i64 p.1) := by go_simp
  have a5 : ((( (( ((w).alloc (.cells #[.int .i64 g.rows, .int .i64 g.cols, .slice ga g.bl.length gc] 24))).alloc (.cells #[.int .i64 p.1, .int .i64 p.2] 26))).alloc (.cells #[.int .i64 q.1, .int .i64 q.2] 26))).cell? ⟨w.heap.size + 1, 1, none⟩ = some (.int .i64 p.2) := by go_simp
  have a6 : ((( (( ((w).alloc (.cells #[.int .i64 g.rows, .int .i64 g.cols, .slice ga g.bl.length gc] 24))).alloc (.cells #[.int .i64 p.1, .int .i64 p.2] 26))).alloc (.cells #[.int .i64 q.1, .int .i64 q.2] 26))).cell? ⟨w.heap.size + 1 + 1, 0, none⟩ = some (.int .i64 q.1) := by go_simp
  have a7 : ((( (( ((w).alloc (.cells #[.int .i64 g.rows, .int .i64 g.cols, .slice ga g.bl.length gc] 24))).alloc (.cells #[.int .i64 p.1, .int .i64 p.2] 26))).alloc (.cells #[.int .i64 q.1, .int .i64 q.2] 26))).cell? ⟨w.heap.size + 1 + 1, 1, none⟩ = some (.int .i64 q.2) := by go_simp
  clear hc hr hp hq hgl hn hnn hk hd
  go_enter Try.func66, Try.ntmps66
  go_wp2_with fail
  refine (Far_any2 g q ga gc n _ HNN.out HR.out HQI.out (HC.out.ext E0)).mono ?_
  rintro e w1 ⟨fa, fc, rfl, hI, hE⟩
  have b1 := hE.cell a1
  have b2 := hE.cell a2
  have b3 := hE.cell a3
  have b4 := hE.cell a4
  have b5 := hE.cell a5
  have b6 := hE.cell a6
  have b7 := hE.cell a7
  have EW := E0.trans hE
  have HI0 := Lib.hid hI
  have HC1 := Lib.hid (HC.out.ext EW)
  have z1 : w.heap.size < w1.heap.size := cell_lt b1
  have z2 : w.heap.size + 1 + 1 < w1.heap.size := cell_lt b6
  have z3 : w.heap.size + 1 < w1.heap.size := cell_lt b4
  clear hI hE E0 a1 a2 a3 a4 a5 a6 a7 HC
  go_wp2_with fail
  have E4 : Ext w1 ((( w1).alloc (.cells #[.int .i64 p.1, .int .i64 p.2] 26))) := (Ext.refl _).alloc _
  have E5 : Ext ((( w1).alloc (.cells #[.int .i64 p.1, .int .i64 p.2] 26))) ((( (( w1).alloc (.cells #[.int .i64 p.1, .int .i64 p.2] 26))).alloc (.cells #[.int .i64 p.1, .int .i64 p.2] 26))) := (Ext.refl _).alloc _
  have F0 : Hid (WyL g p q w1 k p [p] (.slice (some ⟨w1.heap.size, 0, none⟩) 1 1) (w1.heap.size + 1) ((( (( w1).alloc (.cells #[.int .i64 p.1, .int .i64 p.2] 26))).alloc (.cells #[.int .i64 p.1, .int .i64 p.2] 26)))) := {
    eq := by unfold way; rw [HD.out]; rfl
    isd := HK.out
    op := HP.out
    be := E4.trans E5
    a1 := by go_simp
    a2 := by go_simp
    a3 := by go_simp
    a4 := by go_simp
    own := (owns_new w1 p).ext E5
    vb := fun b hb => by
      have hb : some w1.heap.size = some b := hb
      cases hb
      exact ⟨Nat.le_refl _, by omega⟩
    am := by omega }
  obtain ⟨atb, hatb⟩ : ∃ b, b = w1.heap.size + 1 := ⟨_, rfl⟩
  rw [← hatb] at F0 ⊢
  clear hatb E4 E5 b4 b5
  generalize (( (( w1).alloc (.cells #[.int .i64 p.1, .int .i64 p.2] 26))).alloc (.cells #[.int .i64 p.1, .int .i64 p.2] 26)) = W2 at F0 ⊢
  go_loopw [8, 9] (fun v i wr => ∃ (k : Nat) (a : Pt) (L : List Pt) (av : Option Addr) (cv m atb : Nat), i = .pointer (some ⟨atb, 0, none⟩) ∧ v = .slice av m cv ∧ Hid (m = L.length) ∧ Hid (WyL g p q w1 k a L (.slice av m cv) atb wr)) (fun v _ _ => 5000 - sliceLn v)
  case atStart => exact ⟨k, p, [p], _, 1, 1, atb, rfl, rfl, rfl, F0.out⟩
  case round =>
    clear F0
    have HK2 : Hid (dst g q p < 4097) := by show _ < _; have h1 := HK.out.lt HR.out HQI.out; have h2 := HD.out; omega
    obtain ⟨k', a, L, av, cv, m, atb, rfl, rfl, hm, hF⟩ := hrel
    have q1 := hF.out.be.cell b6
    have q2 := hF.out.be.cell b7
    have g1 := hF.out.be.cell b1
    have g2 := hF.out.be.cell b2
    have g3 := hF.out.be.cell b3
    have c1 := hF.out.a1
    have c2 := hF.out.a2
    have za := cell_lt c1
    have zg := cell_lt g1
    have zq := cell_lt q1
    dsimp only at za zg zq
    have HIr := Lib.hid (HI0.out.ext hF.out.be)
    have HCr := Lib.hid (HC1.out.ext hF.out.be)
    cases k' with
    | zero =>
      obtain rfl : a = q := hF.out.isd.w.zero
      go_wp2
      go_ret
      refine ⟨_, rfl, ?_, EW.trans hF.out.be⟩
      rw [hF.out.eq]
      simp only [wayGo, List.append_nil]
      exact hF.out.own
    | succ k =>
      have hne : a ≠ q := by
        rintro rfl
        have := (IsD.self g a).unique hF.out.isd
        omega
      have hia : Hid (inside g a = true) := opn_inside hF.out.op
      have HEX : Hid (∃ x ∈ near g a, dst g q x = dst g q a - 1) := by
        obtain ⟨x, hx1, hx2⟩ := stepTo_ex HR.out HQ.out hF.out.op hF.out.isd
        have hda : dst g q a = (k : Int) + 1 := by have := dst_of HR.out HQI.out hF.out.isd; rw [this]; omega
        exact ⟨x, hx1, by rw [hx2, hda]; omega⟩
      have HDA : Hid (dst g q a = (k : Int) + 1) := by
        show _ = _
        have := dst_of HR.out HQI.out hF.out.isd
        rw [this]; omega
      have HLEN : Hid (m ≤ 4097) := by
        show _ ≤ _
        have h1 : (way g p q).length = L.length + (k + 1) := by rw [hF.out.eq, List.length_append, wayGo_len]
        have h2 : (way g p q).length = (dst g q p).toNat + 1 := by unfold way; simp [wayGo_len]
        have h3 := HK2.out
        have h4 := hm.out
        omega
      have HH1 : (a.1 == q.1) = true → (a.2 == q.2) = false := fun h1 => by
        cases hb : (a.2 == q.2)
        · rfl
        · exact absurd (Prod.ext (by simpa using h1) (by simpa using hb)) hne
      clear hne
      cases ee : (a.1 == q.1)
      · clear HH1
        go_wp2_with fail
        refine (Near_any g a ga gc _ HG.out (inG_of HR.out hia.out) HCr.out).mono ?_
        rintro e w3 ⟨nv, rfl, hnO, hnb, hE⟩
        obtain ⟨na, nc, rfl, _, _⟩ := hnO.reads
        have HNO := Lib.hid hnO
        have HE := Lib.hid hE
        have c1 := hE.cell c1
        have c2 := hE.cell c2
        have g1 := hE.cell g1
        have g2 := hE.cell g2
        have g3 := hE.cell g3
        have q1 := hE.cell q1
        have q2 := hE.cell q2
        have HI3 := Lib.hid (HIr.out.ext hE)
        have hlN := near_len g a
        clear hnO hnb hE za zg zq ee
        go_wp2
        go_loopw [8, 31] (fun v i wx => ∃ j : Nat, j ≤ (near g a).length ∧ i = .int .i64 j ∧ v = .slice av m cv ∧ Hid (∀ y ∈ (near g a).take j, dst g q y ≠ dst g q a - 1) ∧ Hid (Ext w3 wx)) (fun _ i _ => (near g a).length - (intOf i).toNat)
        case atStart => exact ⟨0, Nat.zero_le _, rfl, rfl, fun y hy => by simp at hy, Ext.refl _⟩
        case round =>
          obtain ⟨j, hj, rfl, rfl, hno, hX⟩ := hrel
          by_cases hjl : j < (near g a).length
          · have hjl' : (j : Int) < ((near g a).length : Int) := by omega
            obtain ⟨a', c', hv', hcl, _⟩ := HNO.out.reads
            cases hv'
            obtain ⟨nb, no, rfl, d1, d2⟩ := hcl j hjl
            have d1 := hX.out.cell d1
            have d2 := hX.out.cell d2
            have c1 := hX.out.cell c1
            have c2 := hX.out.cell c2
            have g1 := hX.out.cell g1
            have g2 := hX.out.cell g2
            have g3 := hX.out.cell g3
            have HTK := Lib.hid (take_near hjl)
            have hqn : Hid (pt (near g a) j ∈ near g a) := pt_mem hjl
            generalize hx : pt (near g a) j = x at d1 d2 HTK hqn
            have HX := Lib.hid hx
            have hxi : Hid (inside g x = true) := near_inside hqn.out
            have HIx := Lib.hid (HI3.out.ext hX.out)
            have zd := cell_lt d1
            have zc := cell_lt c1
            have zg := cell_lt g1
            dsimp only at zd zc zg
            clear hcl hx
            obtain ⟨db1, db2⟩ := dst_bd HR.out HQI.out a
            have q9 : IntKind.i64.wrap (dst g q a - 1) = dst g q a - 1 := IntWalk.i64_in _ (by omega)
            clear db1 db2
            go_wp2_with fail
            have E5 : Ext wr ((( wr).alloc (.cells #[.int .i64 x.1, .int .i64 x.2] 26))) := (Ext.refl _).alloc _
            have c1 := E5.cell c1
            have c2 := E5.cell c2
            have g1 := E5.cell g1
            have g2 := E5.cell g2
            have g3 := E5.cell g3
            have y1 : ((( wr).alloc (.cells #[.int .i64 x.1, .int .i64 x.2] 26))).cell? ⟨wr.heap.size, 0, none⟩ = some (.int .i64 x.1) := by go_simp
            have y2 : ((( wr).alloc (.cells #[.int .i64 x.1, .int .i64 x.2] 26))).cell? ⟨wr.heap.size, 1, none⟩ = some (.int .i64 x.2) := by go_simp
            have HIx := Lib.hid (HIx.out.ext E5)
            have HX5 := Lib.hid (hX.out.trans E5)
            obtain ⟨xb, hxb⟩ : ∃ xb, xb = wr.heap.size := ⟨_, rfl⟩
            rw [← hxb] at y1 y2 ⊢
            clear hxb E5 d1 d2 zd zc zg
            generalize (( wr).alloc (.cells #[.int .i64 x.1, .int .i64 x.2] 26)) = W6 at c1 c2 g1 g2 g3 y1 y2 HIx HX5 ⊢
            have zx := cell_lt y1
            have zc := cell_lt c1
            have zg := cell_lt g1
            dsimp only at zx zc zg
            by_cases hxe : dst g q x = dst g q a - 1
            · have HXE := Lib.hid hxe
              go_region_held3 (fun w' => Sees W6 w') ((repeat (first | exact Sees.refl _ | assumption | apply Sees.drew | apply Sees.alloc | (refine Sees.ext ?_ (by assumption))))) (first | (go_at_call 52; have hA0 := hA1; refine (atR_any2 g (dst g q) _ fa fc n a _ HNN.out HR.out hia.out (HIx.out.ext (by exact (show Sees W6 _ by assumption).2.2))).mono ?_; rintro e w' ⟨rfl, hE2⟩) | (go_at_call 52; refine (atR_any2 g (dst g q) _ fa fc n x _ HNN.out HR.out hxi.out (HIx.out.ext (by exact (show Sees W6 _ by assumption).2.2))).mono ?_; rintro e w' ⟨rfl, hE2⟩; have hA1 := hE2))
              have hS := (show Sees W6 _ by assumption).2.2
              have c1 := hS.cell c1
              have c2 := hS.cell c2
              have y1 := hS.cell y1
              have y2 := hS.cell y2
              have HX7 := Lib.hid (HX5.out.trans hS)
              clear hS zx zc zg g1 g2 g3 hxe
              generalize w' = W7 at c1 c2 y1 y2 HX7 ⊢
              have OW : Hid (Owns W7 (.slice av m cv) L) := (hF.out.own.ext HE.out).ext HX7.out
              have zx := cell_lt y1
              have zc := cell_lt c1
              dsimp only at zx zc
              have hmm := HLEN.out
              have hml := hm.out
              obtain ⟨i0, hi, hi0, hi1, hi2⟩ := info_parts infoPl
              go_wp2_with (at_builtin; refine wpList_append1 _ rfl _ _ 22 rfl 26 i0 (.agg #[.int .i64 0, .int .i64 0]) 2 16 Try.underlying22 hi hi0 hi1 hi2 rfl (by decide) (.slice av m cv) L.length (flat L) rfl ?ho ⟨W7.heap.size, 0, none⟩ 1 1 (by decide) [.int .i64 x.1, .int .i64 x.2] rfl rfl ?hn ?c1 ?c2 ?c3 ?c4)
              case ho => exact OW.out.ext ((Ext.refl _).alloc _)
              case hn => exact cell_two_new _ _ _ _
              case c1 => intro u hu; simp at hu; rcases hu with rfl | rfl <;> rfl
              case c2 => unfold maxLen; omega
              case c3 => omega
              case c4 =>
                intro v' w5 hown5 hend5
                have O5 : Owns w5 v' (L ++ [x]) := owns_succ hown5
                rw [← hml] at hend5
                obtain ⟨av', cv', rfl, hrd, hob⟩ := O5.reads
                have HO5 := Lib.hid O5
                have HEND := Lib.hid hend5
                have EA : Hid (Ext W7 (W7.alloc (.cells #[.int .i64 x.1, .int .i64 x.2] 26))) := (Ext.refl _).alloc _
                have K5 : Hid (Kept (fun k => (Value.slice av m cv).ownBlock ≠ some k) 0 (W7.alloc (.cells #[.int .i64 x.1, .int .i64 x.2] 26)) w5) := Kept.grown hend5 (fun b hb hn => hn hb)
                have VB := Lib.hid hF.out.vb
                have HATB := Lib.hid hF.out.am
                have c1 : w5.cell? ⟨atb, 0, none⟩ = some (.int .i64 a.1) := K5.out.cell (p := ⟨atb, 0, none⟩) (fun h => (VB.out atb h).2 rfl) (EA.out.cell c1)
                have c2 : w5.cell? ⟨atb, 1, none⟩ = some (.int .i64 a.2) := K5.out.cell (p := ⟨atb, 1, none⟩) (fun h => (VB.out atb h).2 rfl) (EA.out.cell c2)
                have hL1 : (L ++ [x]).length = m + 1 := by rw [List.length_append, hml]; rfl
                obtain ⟨rb, ro, rfl, r1, r2⟩ := hrd m (by omega)
                have hpt : pt (L ++ [x]) m = x := by
                  rw [hml]
                  unfold pt
                  rw [List.getD_eq_getElem?_getD]
                  simp
                rw [hpt] at r1 r2
                obtain ⟨m', hm'⟩ : ∃ m', m' = (L ++ [x]).length := ⟨_, rfl⟩
                rw [← hm'] at hL1 ⊢
                have HM' := Lib.hid hm'
                have HML := Lib.hid hml
                have q10 : IntKind.i64.wrap ((m' : Int) - 1) = (m : Int) := by rw [IntWalk.i64_in _ (by omega)]; omega
                have i1 : (m : Int) < (m' : Int) := by omega
                have i2 : (0 : Int) ≤ (m : Int) := by omega
                have zr := cell_lt r1
                have za := cell_lt c1
                dsimp only at zr za
                have HL1 := Lib.hid hL1
                clear hrd hob O5 hown5 hend5 hpt hm' hml y1 y2 zx zc hL1 hmm
                go_wp2
                have E8 : Ext w5 ((( w5).alloc (.cells #[.int .i64 x.1, .int .i64 x.2] 26))) := (Ext.refl _).alloc _
                have S7 : (W7.alloc (.cells #[.int .i64 x.1, .int .i64 x.2] 26)).heap.size = W7.heap.size + 1 := by simp
                have hB7 : Ext w1 W7 := (hF.out.be.trans HE.out).trans HX7.out
                have hB5 : Ext w1 w5 := Below.trans (hB7.trans EA.out) ((HEND.out.below (by rw [S7]; have := hB7.size; omega) (fun b hb => (VB.out b hb).1)))
                have hz5 := hB5.size
                have hz7 := hB7.size
                have hstep : stepTo g (dst g q) a = x := stepTo_of (pre := (near g a).take j) (by rw [← HTK.out]; exact List.take_prefix _ _) hno.out HXE.out
                have hisd : IsD g q x k := stepTo_isD HR.out HQ.out hF.out.isd hqn.out (by rw [HXE.out, HDA.out]; omega)
                refine ⟨⟨k, x, L ++ [x], some ⟨rb, ro, none⟩, cv', m', w5.heap.size, rfl, rfl, HM'.out, ?_⟩, by have := HL1.out; have := HLEN.out; simp only [sliceLn]; omega⟩
                exact {
                  eq := by rw [hF.out.eq]; simp only [wayGo]; rw [hstep]; simp
                  isd := hisd
                  op := near_opn hqn.out
                  be := hB5.trans E8
                  a1 := by go_simp
                  a2 := by go_simp
                  a3 := by go_simp
                  a4 := by go_simp
                  own := by rw [HM'.out]; exact HO5.out.ext E8
                  vb := fun b hb => by
                    rw [HM'.out] at hb
                    have hlt5 := HO5.out.lt hb
                    refine ⟨?_, by omega⟩
                    rw [← HM'.out] at hb
                    rcases HEND.out with ⟨h1, _, _⟩ | ⟨h1, _⟩
                    · rw [HM'.out, h1] at hb
                      exact (VB.out b hb).1
                    · rw [HM'.out, h1] at hb
                      have hb' : b = W7.heap.size + 1 := by rw [S7] at hb; cases hb; rfl
                      omega
                  am := by omega }
            · have HXE := Lib.hid hxe
              go_region_held3 (fun w' => Sees W6 w') ((repeat (first | exact Sees.refl _ | assumption | apply Sees.drew | apply Sees.alloc | (refine Sees.ext ?_ (by assumption))))) (first | (go_at_call 52; have hA0 := hA1; refine (atR_any2 g (dst g q) _ fa fc n a _ HNN.out HR.out hia.out (HIx.out.ext (by exact (show Sees W6 _ by assumption).2.2))).mono ?_; rintro e w' ⟨rfl, hE2⟩) | (go_at_call 52; refine (atR_any2 g (dst g q) _ fa fc n x _ HNN.out HR.out hxi.out (HIx.out.ext (by exact (show Sees W6 _ by assumption).2.2))).mono ?_; rintro e w' ⟨rfl, hE2⟩; have hA1 := hE2))
              have hS := (show Sees W6 _ by assumption).2.2
              go_wp2
              refine ⟨⟨j + 1, by omega, by go_num, rfl, fun y hy => ?_, HX5.out.trans hS⟩, by simp [intOf]; omega⟩
              rw [HTK.out, List.mem_append] at hy
              rcases hy with hy | hy
              · exact hno.out y hy
              · rw [List.mem_singleton] at hy
                rw [hy]
                exact HXE.out
          · exfalso
            obtain ⟨x, hx1, hx2⟩ := HEX.out
            exact hno.out x (by rw [List.take_of_length_le (by omega)]; exact hx1) hx2
      · have ee2 := HH1 ee
        clear HH1
        go_wp2_with fail
        refine (Near_any g a ga gc _ HG.out (inG_of HR.out hia.out) HCr.out).mono ?_
        rintro e w3 ⟨nv, rfl, hnO, hnb, hE⟩
        obtain ⟨na, nc, rfl, _, _⟩ := hnO.reads
        have HNO := Lib.hid hnO
        have HE := Lib.hid hE
        have c1 := hE.cell c1
        have c2 := hE.cell c2
        have g1 := hE.cell g1
        have g2 := hE.cell g2
        have g3 := hE.cell g3
        have q1 := hE.cell q1
        have q2 := hE.cell q2
        have HI3 := Lib.hid (HIr.out.ext hE)
        have hlN := near_len g a
        clear hnO hnb hE za zg zq ee
        go_wp2
        go_loopw [8, 31] (fun v i wx => ∃ j : Nat, j ≤ (near g a).length ∧ i = .int .i64 j ∧ v = .slice av m cv ∧ Hid (∀ y ∈ (near g a).take j, dst g q y ≠ dst g q a - 1) ∧ Hid (Ext w3 wx)) (fun _ i _ => (near g a).length - (intOf i).toNat)
        case atStart => exact ⟨0, Nat.zero_le _, rfl, rfl, fun y hy => by simp at hy, Ext.refl _⟩
        case round =>
          obtain ⟨j, hj, rfl, rfl, hno, hX⟩ := hrel
          by_cases hjl : j < (near g a).length
          · have hjl' : (j : Int) < ((near g a).length : Int) := by omega
            obtain ⟨a', c', hv', hcl, _⟩ := HNO.out.reads
            cases hv'
            obtain ⟨nb, no, rfl, d1, d2⟩ := hcl j hjl
            have d1 := hX.out.cell d1
            have d2 := hX.out.cell d2
            have c1 := hX.out.cell c1
            have c2 := hX.out.cell c2
            have g1 := hX.out.cell g1
            have g2 := hX.out.cell g2
            have g3 := hX.out.cell g3
            have HTK := Lib.hid (take_near hjl)
            have hqn : Hid (pt (near g a) j ∈ near g a) := pt_mem hjl
            generalize hx : pt (near g a) j = x at d1 d2 HTK hqn
            have HX := Lib.hid hx
            have hxi : Hid (inside g x = true) := near_inside hqn.out
            have HIx := Lib.hid (HI3.out.ext hX.out)
            have zd := cell_lt d1
            have zc := cell_lt c1
            have zg := cell_lt g1
            dsimp only at zd zc zg
            clear hcl hx
            obtain ⟨db1, db2⟩ := dst_bd HR.out HQI.out a
            have q9 : IntKind.i64.wrap (dst g q a - 1) = dst g q a - 1 := IntWalk.i64_in _ (by omega)
            clear db1 db2
            go_wp2_with fail
            have E5 : Ext wr ((( wr).alloc (.cells #[.int .i64 x.1, .int .i64 x.2] 26))) := (Ext.refl _).alloc _
            have c1 := E5.cell c1
            have c2 := E5.cell c2
            have g1 := E5.cell g1
            have g2 := E5.cell g2
            have g3 := E5.cell g3
            have y1 : ((( wr).alloc (.cells #[.int .i64 x.1, .int .i64 x.2] 26))).cell? ⟨wr.heap.size, 0, none⟩ = some (.int .i64 x.1) := by go_simp
            have y2 : ((( wr).alloc (.cells #[.int .i64 x.1, .int .i64 x.2] 26))).cell? ⟨wr.heap.size, 1, none⟩ = some (.int .i64 x.2) := by go_simp
            have HIx := Lib.hid (HIx.out.ext E5)
            have HX5 := Lib.hid (hX.out.trans E5)
            obtain ⟨xb, hxb⟩ : ∃ xb, xb = wr.heap.size := ⟨_, rfl⟩
            rw [← hxb] at y1 y2 ⊢
            clear hxb E5 d1 d2 zd zc zg
            generalize (( wr).alloc (.cells #[.int .i64 x.1, .int .i64 x.2] 26)) = W6 at c1 c2 g1 g2 g3 y1 y2 HIx HX5 ⊢
            have zx := cell_lt y1
            have zc := cell_lt c1
            have zg := cell_lt g1
            dsimp only at zx zc zg
            by_cases hxe : dst g q x = dst g q a - 1
            · have HXE := Lib.hid hxe
              go_region_held3 (fun w' => Sees W6 w') ((repeat (first | exact Sees.refl _ | assumption | apply Sees.drew | apply Sees.alloc | (refine Sees.ext ?_ (by assumption))))) (first | (go_at_call 52; have hA0 := hA1; refine (atR_any2 g (dst g q) _ fa fc n a _ HNN.out HR.out hia.out (HIx.out.ext (by exact (show Sees W6 _ by assumption).2.2))).mono ?_; rintro e w' ⟨rfl, hE2⟩) | (go_at_call 52; refine (atR_any2 g (dst g q) _ fa fc n x _ HNN.out HR.out hxi.out (HIx.out.ext (by exact (show Sees W6 _ by assumption).2.2))).mono ?_; rintro e w' ⟨rfl, hE2⟩; have hA1 := hE2))
              have hS := (show Sees W6 _ by assumption).2.2
              have c1 := hS.cell c1
              have c2 := hS.cell c2
              have y1 := hS.cell y1
              have y2 := hS.cell y2
              have HX7 := Lib.hid (HX5.out.trans hS)
              clear hS zx zc zg g1 g2 g3 hxe
              generalize w' = W7 at c1 c2 y1 y2 HX7 ⊢
              have OW : Hid (Owns W7 (.slice av m cv) L) := (hF.out.own.ext HE.out).ext HX7.out
              have zx := cell_lt y1
              have zc := cell_lt c1
              dsimp only at zx zc
              have hmm := HLEN.out
              have hml := hm.out
              obtain ⟨i0, hi, hi0, hi1, hi2⟩ := info_parts infoPl
              go_wp2_with (at_builtin; refine wpList_append1 _ rfl _ _ 22 rfl 26 i0 (.agg #[.int .i64 0, .int .i64 0]) 2 16 Try.underlying22 hi hi0 hi1 hi2 rfl (by decide) (.slice av m cv) L.length (flat L) rfl ?ho ⟨W7.heap.size, 0, none⟩ 1 1 (by decide) [.int .i64 x.1, .int .i64 x.2] rfl rfl ?hn ?c1 ?c2 ?c3 ?c4)
              case ho => exact OW.out.ext ((Ext.refl _).alloc _)
              case hn => exact cell_two_new _ _ _ _
              case c1 => intro u hu; simp at hu; rcases hu with rfl | rfl <;> rfl
              case c2 => unfold maxLen; omega
              case c3 => omega
              case c4 =>
                intro v' w5 hown5 hend5
                have O5 : Owns w5 v' (L ++ [x]) := owns_succ hown5
                rw [← hml] at hend5
                obtain ⟨av', cv', rfl, hrd, hob⟩ := O5.reads
                have HO5 := Lib.hid O5
                have HEND := Lib.hid hend5
                have EA : Hid (Ext W7 (W7.alloc (.cells #[.int .i64 x.1, .int .i64 x.2] 26))) := (Ext.refl _).alloc _
                have K5 : Hid (Kept (fun k => (Value.slice av m cv).ownBlock ≠ some k) 0 (W7.alloc (.cells #[.int .i64 x.1, .int .i64 x.2] 26)) w5) := Kept.grown hend5 (fun b hb hn => hn hb)
                have VB := Lib.hid hF.out.vb
                have HATB := Lib.hid hF.out.am
                have c1 : w5.cell? ⟨atb, 0, none⟩ = some (.int .i64 a.1) := K5.out.cell (p := ⟨atb, 0, none⟩) (fun h => (VB.out atb h).2 rfl) (EA.out.cell c1)
                have c2 : w5.cell? ⟨atb, 1, none⟩ = some (.int .i64 a.2) := K5.out.cell (p := ⟨atb, 1, none⟩) (fun h => (VB.out atb h).2 rfl) (EA.out.cell c2)
                have hL1 : (L ++ [x]).length = m + 1 := by rw [List.length_append, hml]; rfl
                obtain ⟨rb, ro, rfl, r1, r2⟩ := hrd m (by omega)
                have hpt : pt (L ++ [x]) m = x := by
                  rw [hml]
                  unfold pt
                  rw [List.getD_eq_getElem?_getD]
                  simp
                rw [hpt] at r1 r2
                obtain ⟨m', hm'⟩ : ∃ m', m' = (L ++ [x]).length := ⟨_, rfl⟩
                rw [← hm'] at hL1 ⊢
                have HM' := Lib.hid hm'
                have HML := Lib.hid hml
                have q10 : IntKind.i64.wrap ((m' : Int) - 1) = (m : Int) := by rw [IntWalk.i64_in _ (by omega)]; omega
                have i1 : (m : Int) < (m' : Int) := by omega
                have i2 : (0 : Int) ≤ (m : Int) := by omega
                have zr := cell_lt r1
                have za := cell_lt c1
                dsimp only at zr za
                have HL1 := Lib.hid hL1
                clear hrd hob O5 hown5 hend5 hpt hm' hml y1 y2 zx zc hL1 hmm
                go_wp2
                have E8 : Ext w5 ((( w5).alloc (.cells #[.int .i64 x.1, .int .i64 x.2] 26))) := (Ext.refl _).alloc _
                have S7 : (W7.alloc (.cells #[.int .i64 x.1, .int .i64 x.2] 26)).heap.size = W7.heap.size + 1 := by simp
                have hB7 : Ext w1 W7 := (hF.out.be.trans HE.out).trans HX7.out
                have hB5 : Ext w1 w5 := Below.trans (hB7.trans EA.out) ((HEND.out.below (by rw [S7]; have := hB7.size; omega) (fun b hb => (VB.out b hb).1)))
                have hz5 := hB5.size
                have hz7 := hB7.size
                have hstep : stepTo g (dst g q) a = x := stepTo_of (pre := (near g a).take j) (by rw [← HTK.out]; exact List.take_prefix _ _) hno.out HXE.out
                have hisd : IsD g q x k := stepTo_isD HR.out HQ.out hF.out.isd hqn.out (by rw [HXE.out, HDA.out]; omega)
                refine ⟨⟨k, x, L ++ [x], some ⟨rb, ro, none⟩, cv', m', w5.heap.size, rfl, rfl, HM'.out, ?_⟩, by have := HL1.out; have := HLEN.out; simp only [sliceLn]; omega⟩
                exact {
                  eq := by rw [hF.out.eq]; simp only [wayGo]; rw [hstep]; simp
                  isd := hisd
                  op := near_opn hqn.out
                  be := hB5.trans E8
                  a1 := by go_simp
                  a2 := by go_simp
                  a3 := by go_simp
                  a4 := by go_simp
                  own := by rw [HM'.out]; exact HO5.out.ext E8
                  vb := fun b hb => by
                    rw [HM'.out] at hb
                    have hlt5 := HO5.out.lt hb
                    refine ⟨?_, by omega⟩
                    rw [← HM'.out] at hb
                    rcases HEND.out with ⟨h1, _, _⟩ | ⟨h1, _⟩
                    · rw [HM'.out, h1] at hb
                      exact (VB.out b hb).1
                    · rw [HM'.out, h1] at hb
                      have hb' : b = W7.heap.size + 1 := by rw [S7] at hb; cases hb; rfl
                      omega
                  am := by omega }
            · have HXE := Lib.hid hxe
              go_region_held3 (fun w' => Sees W6 w') ((repeat (first | exact Sees.refl _ | assumption | apply Sees.drew | apply Sees.alloc | (refine Sees.ext ?_ (by assumption))))) (first | (go_at_call 52; have hA0 := hA1; refine (atR_any2 g (dst g q) _ fa fc n a _ HNN.out HR.out hia.out (HIx.out.ext (by exact (show Sees W6 _ by assumption).2.2))).mono ?_; rintro e w' ⟨rfl, hE2⟩) | (go_at_call 52; refine (atR_any2 g (dst g q) _ fa fc n x _ HNN.out HR.out hxi.out (HIx.out.ext (by exact (show Sees W6 _ by assumption).2.2))).mono ?_; rintro e w' ⟨rfl, hE2⟩; have hA1 := hE2))
              have hS := (show Sees W6 _ by assumption).2.2
              go_wp2
              refine ⟨⟨j + 1, by omega, by go_num, rfl, fun y hy => ?_, HX5.out.trans hS⟩, by simp [intOf]; omega⟩
              rw [HTK.out, List.mem_append] at hy
              rcases hy with hy | hy
              · exact hno.out y hy
              · rw [List.mem_singleton] at hy
                rw [hy]
                exact HXE.out
          · exfalso
            obtain ⟨x, hx1, hx2⟩ := HEX.out
            exact hno.out x (by rw [List.take_of_length_le (by omega)]; exact hx1) hx2
end Go.Proofs.Ytfigooilhnahfaa
/- The reference's Route. -/
namespace Go.Proofs.Ytfigooilhnahfaa
open Go.RowKit

set_option maxHeartbeats 4000000 in
set_option maxRecDepth 100000 in
theorem RouteR_any (g : Gr) (p q : Pt) (ga : Option Addr) (gc : Nat) (w : World) (hg : g.bl.length ≤ maxLen) (hc : Cells2 w ga g.bl) :
    Calls Try.prog 30 #[.agg #[.int .i64 g.rows, .int .i64 g.cols, .slice ga g.bl.length gc], .agg #[.int .i64 p.1, .int .i64 p.2], .agg #[.int .i64 q.1, .int .i64 q.2]] w fun e w' => RouteAPost g p q w e w' := by
  have HC : Hid (Cells2 w ga g.bl) := hc
  have HG := Lib.hid hg
  clear hc hg
  have E0 : Ext w ((( (( ((w).alloc (.cells #[.int .i64 g.rows, .int .i64 g.cols, .slice ga g.bl.length gc] 24))).alloc (.cells #[.int .i64 p.1, .int .i64 p.2] 26))).alloc (.cells #[.int .i64 q.1, .int .i64 q.2] 26))) := (((Ext.refl _).alloc _).alloc _).alloc _
  have a1 : ((( (( ((w).alloc (.cells #[.int .i64 g.rows, .int .i64 g.cols, .slice ga g.bl.length gc] 24))).alloc (.cells #[.int .i64 p.1, .int .i64 p.2] 26))).alloc (.cells #[.int .i64 q.1, .int .i64 q.2] 26))).cell? ⟨w.heap.size, 0, none⟩ = some (.int .i64 g.rows) := by go_simp
  have a2 : ((( (( ((w).alloc (.cells #[.int .i64 g.rows, .int .i64 g.cols, .slice ga g.bl.length gc] 24))).alloc (.cells #[.int .i64 p.1, .int .i64 p.2] 26))).alloc (.cells #[.int .i64 q.1, .int .i64 q.2] 26))).cell? ⟨w.heap.size, 1, none⟩ = some (.int .i64 g.cols) := by go_simp
  have a3 : ((( (( ((w).alloc (.cells #[.int .i64 g.rows, .int .i64 g.cols, .slice ga g.bl.length gc] 24))).alloc (.cells #[.int .i64 p.1, .int .i64 p.2] 26))).alloc (.cells #[.int .i64 q.1, .int .i64 q.2] 26))).cell? ⟨w.heap.size, 2, none⟩ = some (.slice ga g.bl.length gc) := by go_simp
  have a4 : ((( (( ((w).alloc (.cells #[.int .i64 g.rows, .int .i64 g.cols, .slice ga g.bl.length gc] 24))).alloc (.cells #[.int .i64 p.1, .int .i64 p.2] 26))).alloc (.cells #[.int .i64 q.1, .int .i64 q.2] 26))).cell? ⟨w.heap.size + 1, 0, none⟩ = some (.int .i64 p.1) := by go_simp
  have a5 : ((( (( ((w).alloc (.cells #[.int .i64 g.rows, .int .i64 g.cols, .slice ga g.bl.length gc] 24))).alloc (.cells #[.int .i64 p.1, .int .i64 p.2] 26))).alloc (.cells #[.int .i64 q.1, .int .i64 q.2] 26))).cell? ⟨w.heap.size + 1, 1, none⟩ = some (.int .i64 p.2) := by go_simp
  have a6 : ((( (( ((w).alloc (.cells #[.int .i64 g.rows, .int .i64 g.cols, .slice ga g.bl.length gc] 24))).alloc (.cells #[.int .i64 p.1, .int .i64 p.2] 26))).alloc (.cells #[.int .i64 q.1, .int .i64 q.2] 26))).cell? ⟨w.heap.size + 1 + 1, 0, none⟩ = some (.int .i64 q.1) := by go_simp
  have a7 : ((( (( ((w).alloc (.cells #[.int .i64 g.rows, .int .i64 g.cols, .slice ga g.bl.length gc] 24))).alloc (.cells #[.int .i64 p.1, .int .i64 p.2] 26))).alloc (.cells #[.int .i64 q.1, .int .i64 q.2] 26))).cell? ⟨w.heap.size + 1 + 1, 1, none⟩ = some (.int .i64 q.2) := by go_simp
  obtain ⟨ev, hev⟩ : ∃ ev, ev = lenE g p q := ⟨_, rfl⟩
  obtain ⟨nv, hnv⟩ : ∃ nv, nv = lenN g p q := ⟨_, rfl⟩
  have HEV := Lib.hid hev
  go_enter Try.func30, Try.ntmps30
  go_wp2_with fail
  refine (LengthR_any g p q ga gc _ HG.out (HC.out.ext E0)).mono ?_
  rintro e w1 ⟨rfl, hE⟩
  rw [← hev, ← hnv]
  clear hev hnv
  have b1 := hE.cell a1
  have b2 := hE.cell a2
  have b3 := hE.cell a3
  have b4 := hE.cell a4
  have b5 := hE.cell a5
  have b6 := hE.cell a6
  have b7 := hE.cell a7
  have EW := E0.trans hE
  clear hE E0 a1 a2 a3 a4 a5 a6 a7
  by_cases h0 : ev = 0
  · have HX : Hid (givenErr g [p, q] = 0 ∧ ¬ dst g q p < 0) := by
      show _ ∧ _
      have h := HEV.out
      rw [h0] at h
      unfold lenE at h
      by_cases h1 : givenErr g [p, q] = 0
      · refine ⟨h1, fun h2 => ?_⟩
        rw [if_neg (by simp [h1]), if_pos h2] at h
        cases h
      · rw [if_pos h1] at h
        exact absurd h.symm h1
    obtain ⟨hr, ho⟩ := given_ok HX.out.1
    have HR := Lib.hid hr
    have HQ : Hid (opn g q = true) := ho q (by simp)
    have HP : Hid (opn g p = true) := ho p (by simp)
    have HV : Hid (routeV g p q = way g p q) := by
      show _ = _
      unfold routeV routeL
      rw [if_neg (by simp [HX.out.1]), if_neg HX.out.2]
    have h2 : (0 : Int) ≤ dst g q p := by have := HX.out.2; omega
    have H2 := Lib.hid h2
    clear hr ho h2
    subst h0
    go_wp2_with fail
    refine (WayR_any g p q ga gc _ HR.out HP.out HQ.out H2.out (HC.out.ext EW)).mono ?_
    rintro e w2 ⟨v, rfl, hO, hE⟩
    have HO := Lib.hid hO
    clear hO
    go_wp2
    go_ret2
    refine ⟨v, by rw [← HEV.out]; rfl, by rw [HV.out]; exact HO.out, EW.trans hE⟩
  · have HV : Hid (routeV g p q = []) := by
      show _ = _
      unfold routeV routeL
      split
      · rfl
      · rename_i h1
        rw [if_pos ?_]
        have h := HEV.out
        unfold lenE at h
        rw [if_neg h1] at h
        by_cases h2 : dst g q p < 0
        · exact h2
        · rw [if_neg h2] at h
          exact absurd h h0
    have hb : (ev != 0) = true := by simp [h0]
    have hb2 : (ev == 0) = false := by simp [h0]
    clear h0
    go_wp2
    go_ret2
    exact ⟨.slice none 0 0, by rw [← HEV.out]; rfl, by rw [HV.out]; exact Owns.nil _, EW⟩
end Go.Proofs.Ytfigooilhnahfaa
/- Ducts. -/
namespace Go.Proofs.Ytfigooilhnahfaa
open Go.RowKit Go.Maps

def setIns {α : Type} [DecidableEq α] (S : List α) (a : α) : List α := if a ∈ S then S else a :: S
theorem wpList_setAdd {α : Type} [DecidableEq α] {P : Program} {ev : α → Value} (w : World) {ops : Array Oper} {rest : List Oper} {o : Oper} {a : Act} {Q : Exit → Act → World → Prop}
    (hg : o.guard = none) (m x v : Operand) (t : TypeId) (hop : o.op = Op.mapUpdate t m x v) (k e : TypeId) (K : Keyed P k) (ht : P.underlying t = some (.map k e)) (he : P.underlying e = some .bool) (b n : Nat) (S : List α)
    (hm : a.eval m = .map (some b)) (hs : SetAt P k e ev w b n S) (hn : n < maxLen) (hinj : ∀ x y, ev x = ev y → x = y) (y : α) (kl : Lit) (hx : a.eval x = ev y) (hv : a.eval v = .bool true) (hkey : keyOf P k (ev y) = some kl)
    (hK : ∀ w', SetAt P k e ev w' b (n + 1) (setIns S y) → w.grownBy w' (some b) → wpList P ops Q rest (a.put o.dst undef) w') :
    wpList P ops Q (o :: rest) a w := by
  refine wpList_plain hg fun K' hK' => ?_
  obtain ⟨w', hrun, r1, r2⟩ := hs.update K ht he hn hinj hkey
  unfold Oper.wp
  simp [execOp, hop, hm, hx, hv, hrun, Result.andThen]
  exact hK' _ _ (hK w' r1 r2)

theorem SetAt.len {α : Type} [DecidableEq α] {P : Program} {k e : TypeId} {ev : α → Value} {w : World} {b n : Nat} {S : List α} (h : SetAt P k e ev w b n S) {t e' : TypeId} (ht : P.underlying t = some (.map k e')) (ty : TypeId) : (Builtin.len_ #[t] ty #[.map (some b)]).run P w = .ok (.int .i64 S.length) w := by
  obtain ⟨D, h1, _, h3, _⟩ := h
  rw [← h3]
  exact h1.len ht ty
theorem wpList_setLen {α : Type} [DecidableEq α] {P : Program} {ev : α → Value} (w : World) {ops : Array Oper} {rest : List Oper} {o : Oper} {a : Act} {Q : Exit → Act → World → Prop}
    (hg : o.guard = none) (m : Operand) (t : TypeId) (hop : o.op = Op.call { callee := Callee.builtin Builtin.len, args := #[m], argTypes := #[t] }) (k e : TypeId) (ht : P.underlying t = some (.map k e)) (b n : Nat) (S : List α)
    (hm : a.eval m = .map (some b)) (hs : SetAt P k e ev w b n S) (hK : wpList P ops Q rest (a.put o.dst (.int .i64 S.length)) w) :
    wpList P ops Q (o :: rest) a w := by
  refine wpList_plain hg fun K' hK' => ?_
  unfold Oper.wp
  simp [execOp, hop, resolve, invoke, builtin, hm, hs.len ht o.type, Result.andThen]
  exact hK' _ _ hK

theorem hosesErr_step {g : Gr} {hs : List Hose} {n k : Nat} (h : hoseErr g (ph hs k) = 0) : hosesErr g hs (n + 1) k = hosesErr g hs n (k + 1) := by
  conv => lhs; unfold hosesErr
  rw [if_neg (by simp [h])]
theorem hosesErr_stop {g : Gr} {hs : List Hose} {n k : Nat} (h : hoseErr g (ph hs k) ≠ 0) : hosesErr g hs (n + 1) k = hoseErr g (ph hs k) := by
  conv => lhs; unfold hosesErr
  rw [if_pos h]
theorem opn_of_cells {g : Gr} {p q : Pt} (h : cellsErr g [p, q] = 0) : opn g p = true ∧ opn g q = true := ⟨cells_ok h p (by simp), cells_ok h q (by simp)⟩

structure DkL (g : Gr) (hs : List Hose) (W0 : World) (mb k : Nat) (v : Value) (w : World) : Prop where
  se : ∃ n, n ≤ k * 4097 ∧ SetAt Try.prog 74 4 evPr w mb n (ductK g hs k)
  be : Below mb W0 w
  own : RowsO w v (ways g hs k)
  vb : ∀ b, v.ownBlock = some b → W0.heap.size ≤ b
theorem DkL.ext {g : Gr} {hs : List Hose} {W0 : World} {mb k : Nat} {v : Value} {A B : World} (h : DkL g hs W0 mb k v A) (x : Ext A B) : DkL g hs W0 mb k v B := by
  obtain ⟨n, h1, h2⟩ := h.se
  exact ⟨⟨n, h1, h2.ext x⟩, h.be.trans (x.mono (Nat.le_of_lt h2.lt)), h.own.ext x, h.vb⟩

def DuctsPost (g : Gr) (hs : List Hose) (w : World) (e : Ending) (w' : World) : Prop :=
  ∃ a cap, e = .returned (.tuple #[.slice a (ductL g hs).length cap, .int .i64 (ductN g hs), .int .i64 (ductE g hs)]) ∧ RowsR w' a (ductL g hs) ∧ Ext w w'
theorem DuctsPost.bad {g : Gr} {hs : List Hose} {w w' : World} {e : Int} (he : ductE g hs = e) (hne : e ≠ 0) (hx : Ext w w') : DuctsPost g hs w (.returned (.tuple #[.slice none 0 0, .int .i64 0, .int .i64 e])) w' := by
  subst he
  unfold DuctsPost ductL ductN
  rw [if_pos hne, if_pos hne]
  exact ⟨none, 0, rfl, RowsR.nil _ _, hx⟩

set_option maxHeartbeats 4000000 in
set_option maxRecDepth 100000 in
theorem Ducts_any (g : Gr) (hs : List Hose) (ga : Option Addr) (gc : Nat) (ha : Option Addr) (hcap : Nat) (w : World) (hg : g.bl.length ≤ maxLen) (hc : Cells2 w ga g.bl) (hl : hs.length ≤ maxLen) (hch : Cells4 w ha hs) (_hwf : ∀ i, i < hs.length → True) :
    Calls Try.prog 17 #[.agg #[.int .i64 g.rows, .int .i64 g.cols, .slice ga g.bl.length gc], .slice ha hs.length hcap] w fun e w' => DuctsPost g hs w e w' := by
  have HC : Hid (Cells2 w ga g.bl) := hc
  have HH : Hid (Cells4 w ha hs) := hch
  have HG := Lib.hid hg
  clear hc hg hch _hwf
  have E0 : Ext w (((w).alloc (.cells #[.int .i64 g.rows, .int .i64 g.cols, .slice ga g.bl.length gc] 33))) := (Ext.refl _).alloc _
  have a1 : (((w).alloc (.cells #[.int .i64 g.rows, .int .i64 g.cols, .slice ga g.bl.length gc] 33))).cell? ⟨w.heap.size, 0, none⟩ = some (.int .i64 g.rows) := by go_simp
  have a2 : (((w).alloc (.cells #[.int .i64 g.rows, .int .i64 g.cols, .slice ga g.bl.length gc] 33))).cell? ⟨w.heap.size, 1, none⟩ = some (.int .i64 g.cols) := by go_simp
  have a3 : (((w).alloc (.cells #[.int .i64 g.rows, .int .i64 g.cols, .slice ga g.bl.length gc] 33))).cell? ⟨w.heap.size, 2, none⟩ = some (.slice ga g.bl.length gc) := by go_simp
  have hmm := @run_makeMap Try.prog
  have hl' : hs.length ≤ 9223372036854775807 := hl
  clear hl
  go_enter Try.func17, Try.ntmps17
  go_wp2_with fail
  refine (Check_any g ga gc _ HG.out (HC.out.ext E0)).mono ?_
  rintro e w1 ⟨rfl, hE⟩
  have b1 := hE.cell a1
  have b2 := hE.cell a2
  have b3 := hE.cell a3
  have E1 : Ext w w1 := E0.trans hE
  have z1 : w.heap.size < w1.heap.size := cell_lt b1
  clear hE E0 a1 a2 a3
  by_cases h0 : chk g = 0
  · have HR := Lib.hid (right_of_chk h0)
    have H0 := Lib.hid h0
    rw [h0]
    clear h0
    by_cases hlen : 256 < hs.length
    · have hE : Hid (ductE g hs = 5) := by show _ = _; unfold ductE; rw [if_neg (by simp [H0.out]), if_pos hlen]
      have hlen' : (256 : Int) < (hs.length : Int) := by omega
      go_wp2
      go_ret3
      exact DuctsPost.bad hE.out (by decide) E1
    · have hE : Hid (ductE g hs = hosesErr g hs hs.length 0) := by show _ = _; unfold ductE; rw [if_neg (by simp [H0.out]), if_neg hlen]
      have hlen' : ¬ (256 : Int) < (hs.length : Int) := by omega
      go_wp2_with fail
      have E3 : Ext w1 (w1.alloc (.map #[] 0)) := (Ext.refl _).alloc _
      obtain ⟨mb, hmb⟩ : ∃ mb, mb = w1.heap.size := ⟨_, rfl⟩
      have M1 : Hid (SetAt Try.prog 74 4 evPr (w1.alloc (.map #[] 0)) w1.heap.size 0 []) := SetAt.made _ _ _ _ _
      have zW : (w1.alloc (.map #[] 0)).heap.size = w1.heap.size + 1 := by simp
      have c1 := E3.cell b1
      have c2 := E3.cell b2
      have c3 := E3.cell b3
      have EW := E1.trans E3
      rw [← hmb] at M1 zW ⊢
      have zn : w.heap.size < mb := by omega
      have HBL : Hid (g.bl ≠ [] → ∀ b off, ga = some ⟨b, off, none⟩ → b < mb) := fun hne b off hb => by
        have h1 := HC.out.lt hne hb
        have h2 := E1.size
        omega
      have HBH : Hid (hs ≠ [] → ∀ b off, ha = some ⟨b, off, none⟩ → b < mb) := fun hne b off hb => by
        have h1 := HH.out.lt hne hb
        have h2 := E1.size
        omega
      clear hmb E3 E1 b1 b2 b3 z1 hmm
      generalize (w1.alloc (.map #[] 0)) = W0 at M1 zW c1 c2 c3 EW ⊢
      have HCW := Lib.hid (HC.out.ext EW)
      have HHW := Lib.hid (HH.out.ext EW)
      go_loopw [8, 29] (fun v i wr => ∃ (k : Nat) (av : Option Addr) (cv : Nat), k ≤ hs.length ∧ i = .int .i64 k ∧ v = .slice av k cv ∧ Hid (hosesErr g hs hs.length 0 = hosesErr g hs (hs.length - k) k) ∧ Hid (DkL g hs W0 mb k (.slice av k cv) wr)) (fun _ i _ => hs.length - (Go.RowKit.intOf i).toNat)
      case atStart => exact ⟨0, none, 0, Nat.zero_le _, rfl, rfl, rfl, ⟨⟨0, by omega, M1.out⟩, Below.refl _ _, RowsO.nil _, fun b hb => by cases hb⟩⟩
      case round =>
        obtain ⟨k, av, cv, hk, rfl, rfl, hn, hd⟩ := hrel
        have g1 : wr.cell? ⟨w.heap.size, 0, none⟩ = some (.int .i64 g.rows) := (hd.out.be.cell (p := ⟨w.heap.size, 0, none⟩) zn).trans c1
        have g2 : wr.cell? ⟨w.heap.size, 1, none⟩ = some (.int .i64 g.cols) := (hd.out.be.cell (p := ⟨w.heap.size, 1, none⟩) zn).trans c2
        have g3 : wr.cell? ⟨w.heap.size, 2, none⟩ = some (.slice ga g.bl.length gc) := (hd.out.be.cell (p := ⟨w.heap.size, 2, none⟩) zn).trans c3
        have HCr : Hid (Cells2 wr ga g.bl) := HCW.out.below hd.out.be HBL.out
        by_cases hlt : k < hs.length
        · have hlt' : (k : Int) < (hs.length : Int) := by omega
          obtain ⟨hb, hoff, rfl, e1, e2, e3, e4⟩ := (HHW.out.below hd.out.be HBH.out) k hlt
          generalize hx : ph hs k = x at e1 e2 e3 e4
          have HX := Lib.hid hx
          clear hx
          have zh := cell_lt e1
          dsimp only at zh
          have zmb : mb < wr.heap.size := by obtain ⟨_, _, h⟩ := hd.out.se; exact h.lt
          have zn2 : w.heap.size < wr.heap.size := by omega
          go_wp2_with fail
          have V0 : Ext wr (wr.alloc (.cells #[.int .i64 x.1.1, .int .i64 x.1.2, .int .i64 x.2.1, .int .i64 x.2.2] 74)) := (Ext.refl _).alloc _
          have p1 : (wr.alloc (.cells #[.int .i64 x.1.1, .int .i64 x.1.2, .int .i64 x.2.1, .int .i64 x.2.2] 74)).cell? ⟨wr.heap.size, 0, none⟩ = some (.int .i64 x.1.1) := by go_simp
          have p2 : (wr.alloc (.cells #[.int .i64 x.1.1, .int .i64 x.1.2, .int .i64 x.2.1, .int .i64 x.2.2] 74)).cell? ⟨wr.heap.size, 1, none⟩ = some (.int .i64 x.1.2) := by go_simp
          have p3 : (wr.alloc (.cells #[.int .i64 x.1.1, .int .i64 x.1.2, .int .i64 x.2.1, .int .i64 x.2.2] 74)).cell? ⟨wr.heap.size, 2, none⟩ = some (.int .i64 x.2.1) := by go_simp
          have p4 : (wr.alloc (.cells #[.int .i64 x.1.1, .int .i64 x.1.2, .int .i64 x.2.1, .int .i64 x.2.2] 74)).cell? ⟨wr.heap.size, 3, none⟩ = some (.int .i64 x.2.2) := by go_simp
          have g1 := V0.cell g1
          have g2 := V0.cell g2
          have g3 := V0.cell g3
          have HD1 := Lib.hid (hd.out.ext V0)
          have HC1 := Lib.hid (HCr.out.ext V0)
          have zp : wr.heap.size < (wr.alloc (.cells #[.int .i64 x.1.1, .int .i64 x.1.2, .int .i64 x.2.1, .int .i64 x.2.2] 74)).heap.size := by simp
          have HE1 : Hid (Ext w (wr.alloc (.cells #[.int .i64 x.1.1, .int .i64 x.1.2, .int .i64 x.2.1, .int .i64 x.2.2] 74))) := (Below.trans EW (hd.out.be.mono (by omega))).alloc (by omega) _
          clear hd HCr e1 e2 e3 e4 V0
          generalize (wr.alloc (.cells #[.int .i64 x.1.1, .int .i64 x.1.2, .int .i64 x.2.1, .int .i64 x.2.2] 74)) = W1 at p1 p2 p3 p4 g1 g2 g3 HD1 HC1 HE1 zp ⊢
          have zg := cell_lt g1
          dsimp only at zg
          go_region_held3 (fun w' => Sees W1 w') ((repeat (first | exact Sees.refl _ | assumption | apply Sees.drew | apply Sees.alloc | (refine Sees.ext ?_ (by assumption))))) (first | (go_at_call 53; refine (cells_any g [x.1, x.2] ga gc _ _ _ HR.out (HC1.out.ext (by exact (show Sees W1 _ by assumption).2.2)) (by simp [maxLen]) ((cells2_two p1 p2 p3 p4).ext (by exact (show Sees W1 _ by assumption).2.2))).mono ?_; rintro e w' ⟨rfl, hE2⟩))
          have hS := (show Sees W1 _ by assumption).2.2
          have p1 := hS.cell p1
          have p2 := hS.cell p2
          have p3 := hS.cell p3
          have p4 := hS.cell p4
          have g1 := hS.cell g1
          have g2 := hS.cell g2
          have g3 := hS.cell g3
          have HD2 := Lib.hid (HD1.out.ext hS)
          have HC2 := Lib.hid (HC1.out.ext hS)
          have HE2 := Lib.hid (HE1.out.trans hS)
          have hz2 : W1.heap.size ≤ w'.heap.size := hS.size
          clear HD1 HC1 HE1 hS
          generalize w' = W2 at p1 p2 p3 p4 g1 g2 g3 HD2 HC2 HE2 hz2 ⊢
          have zp2 : wr.heap.size < W2.heap.size := by omega
          have zn3 : w.heap.size < W2.heap.size := by omega
          by_cases hce : cellsErr g [x.1, x.2] = 0
          · obtain ⟨ho1, ho2⟩ := opn_of_cells hce
            have HO1 := Lib.hid ho1
            have HO2 := Lib.hid ho2
            have HCE := Lib.hid hce
            rw [hce]
            clear hce ho1 ho2
            go_wp2_with fail
            refine (route_any g x.1 x.2 ga gc _ HR.out HO1.out HO2.out HC2.out).mono ?_
            rintro e W3 ⟨lv, rfl, hO, hE3⟩
            by_cases hneg : dst g x.2 x.1 < 0
            · have HBAD : Hid (ductE g hs = 6) := by
                show _ = _
                have h9 : hoseErr g x = 6 := by unfold hoseErr; rw [if_neg (by simp [HCE.out]), if_pos hneg]
                rw [hE.out, hn.out, show hs.length - k = (hs.length - (k + 1)) + 1 by omega, hosesErr_stop (by rw [HX.out, h9]; decide), HX.out, h9]
              rw [if_pos hneg]
              go_wp2
              go_ret3
              exact DuctsPost.bad HBAD.out (by decide) (HE2.out.trans hE3)
            · rw [if_neg hneg]
              have HOK : Hid (hosesErr g hs hs.length 0 = hosesErr g hs (hs.length - (k + 1)) (k + 1)) := by
                show _ = _
                have h9 : hoseErr g x = 0 := by unfold hoseErr; rw [if_neg (by simp [HCE.out]), if_neg hneg]
                rw [hn.out, show hs.length - k = (hs.length - (k + 1)) + 1 by omega, hosesErr_step (by rw [HX.out, h9])]
              have HD3 := Lib.hid (HD2.out.ext hE3)
              have HE3 := Lib.hid (HE2.out.trans hE3)
              have hrl : routeL g x.1 x.2 = way g x.1 x.2 := by unfold routeL; rw [if_neg hneg]
              rw [hrl] at hO
              have hLlen : (way g x.1 x.2).length ≤ 4097 ∧ 1 ≤ (way g x.1 x.2).length := by
                rw [way_len]
                have := dst_bd HR.out (opn_inside HO2.out) x.1
                omega
              have HIN : Hid (∀ i, i < (way g x.1 x.2).length → InG (pt (way g x.1 x.2) i)) := fun i hi => inG_of HR.out (opn_inside (way_opn HR.out HO1.out HO2.out hneg _ (pt_mem hi)))
              obtain ⟨la, lc, rfl, hLc, hLb⟩ := hO.reads
              have HO3 := Lib.hid hO
              have HLC := Lib.hid hLc
              have HW := Lib.hid hrl
              obtain ⟨n0, hn0, hS0⟩ := HD3.out.se
              have HS0 := Lib.hid hS0
              have hz3 : W2.heap.size ≤ W3.heap.size := hE3.size
              obtain ⟨L, hLeq⟩ : ∃ L, L = way g x.1 x.2 := ⟨_, rfl⟩
              rw [← hLeq] at hLlen HIN HO3 HLC ⊢
              have HLEQ := Lib.hid hLeq
              clear hS0 hO hLc hLb hrl hE3 p1 p2 p3 p4 g1 g2 g3 hLeq HW
              have hmW : mb < W3.heap.size := by omega
              go_wp2
              go_loopw [15] (fun i wr => ∃ j : Nat, j < L.length ∧ i = .int .i64 ((j : Int) + 1) ∧ Hid (SetAt Try.prog 74 4 evPr wr mb (n0 + j) (pairK (ductK g hs k) L j)) ∧ Hid (Chg (fun b => b = mb) W3 wr) ∧ Hid (Below mb W3 wr)) (fun i _ => L.length + 1 - (Go.RowKit.intOf i).toNat)
              case atStart => exact ⟨0, by omega, rfl, HS0.out, Chg.refl _ _, Below.refl _ _⟩
              case round =>
                obtain ⟨j, hj, rfl, HS, HCH, HBB⟩ := hrel
                by_cases hjl : j + 1 < L.length
                · have hjl' : (j : Int) + 1 < (L.length : Int) := by omega
                  obtain ⟨la', lc', hv', HLr, _⟩ := (HO3.out.kept (X := fun k => k ≠ mb) (n := 0) (HCH.out.kept (fun k hk _ => hk)) (fun b hb e => by
                    obtain ⟨c1, f1, e1⟩ := ownsRow_at HO3.out hb
                    obtain ⟨es, cl, h8⟩ := HS0.out.at
                    rw [e, h8] at e1; cases e1)).reads
                  cases hv'
                  have HLr := Lib.hid HLr
                  obtain ⟨lb, loff, rfl, d1, d2⟩ := HLr.out j (by omega)
                  obtain ⟨lb', loff', hla, d3, d4⟩ := HLr.out (j + 1) hjl
                  cases hla
                  have i1 := Lib.hid (HIN.out j (by omega))
                  have i2 := Lib.hid (HIN.out (j + 1) hjl)
                  have q0 : IntKind.i64.wrap ((j : Int) + 1 - 1) = (j : Int) := by
                    rw [show (j : Int) + 1 - 1 = (j : Int) by omega]; exact IntWalk.i64_in _ (by omega)
                  have zb := cell_lt d1
                  dsimp only at zb
                  have zm2 : mb < wr.heap.size := HS.out.lt
                  have q1 : ((j : Int) + 1).toNat = j + 1 := by omega
                  have q2 : IntKind.i64.wrap (j : Int) = (j : Int) := IntWalk.i64_in _ (by omega)
                  have q3 : (j : Int) < (L.length : Int) := by omega
                  have hkn : n0 + j ≤ 2000000 := by omega
                  by_cases hg0 : 0 < ordP (pt L j) (pt L (j + 1))
                  · have hgt : 0 < ordP (pt L j) (pt L (j + 1)) := by assumption
                    go_wp2_with fail
                    go_region
                    · have E3 : Ext wr (((wr.alloc (.cells #[.int .i64 (pt L j).1, .int .i64 (pt L j).2] 26)).alloc (.cells #[.int .i64 (pt L (j + 1)).1, .int .i64 (pt L (j + 1)).2] 26)).drew) := (((Ext.refl _).alloc _).alloc _).drew
                      have p1 : (((wr.alloc (.cells #[.int .i64 (pt L j).1, .int .i64 (pt L j).2] 26)).alloc (.cells #[.int .i64 (pt L (j + 1)).1, .int .i64 (pt L (j + 1)).2] 26)).drew).cell? ⟨wr.heap.size, 0, none⟩ = some (.int .i64 (pt L j).1) := by go_simp
                      have p2 : (((wr.alloc (.cells #[.int .i64 (pt L j).1, .int .i64 (pt L j).2] 26)).alloc (.cells #[.int .i64 (pt L (j + 1)).1, .int .i64 (pt L (j + 1)).2] 26)).drew).cell? ⟨wr.heap.size, 1, none⟩ = some (.int .i64 (pt L j).2) := by go_simp
                      have p3 : (((wr.alloc (.cells #[.int .i64 (pt L j).1, .int .i64 (pt L j).2] 26)).alloc (.cells #[.int .i64 (pt L (j + 1)).1, .int .i64 (pt L (j + 1)).2] 26)).drew).cell? ⟨wr.heap.size + 1, 0, none⟩ = some (.int .i64 (pt L (j + 1)).1) := by go_simp
                      have p4 : (((wr.alloc (.cells #[.int .i64 (pt L j).1, .int .i64 (pt L j).2] 26)).alloc (.cells #[.int .i64 (pt L (j + 1)).1, .int .i64 (pt L (j + 1)).2] 26)).drew).cell? ⟨wr.heap.size + 1, 1, none⟩ = some (.int .i64 (pt L (j + 1)).2) := by go_simp
                      have y1 : (((wr.alloc (.cells #[.int .i64 (pt L j).1, .int .i64 (pt L j).2] 26)).alloc (.cells #[.int .i64 (pt L (j + 1)).1, .int .i64 (pt L (j + 1)).2] 26)).drew).frozen? ⟨wr.heap.size, 0, none⟩ = false := by go_simp
                      have y2 : (((wr.alloc (.cells #[.int .i64 (pt L j).1, .int .i64 (pt L j).2] 26)).alloc (.cells #[.int .i64 (pt L (j + 1)).1, .int .i64 (pt L (j + 1)).2] 26)).drew).frozen? ⟨wr.heap.size, 1, none⟩ = false := by go_simp
                      have y3 : (((wr.alloc (.cells #[.int .i64 (pt L j).1, .int .i64 (pt L j).2] 26)).alloc (.cells #[.int .i64 (pt L (j + 1)).1, .int .i64 (pt L (j + 1)).2] 26)).drew).frozen? ⟨wr.heap.size + 1, 0, none⟩ = false := by go_simp
                      have y4 : (((wr.alloc (.cells #[.int .i64 (pt L j).1, .int .i64 (pt L j).2] 26)).alloc (.cells #[.int .i64 (pt L (j + 1)).1, .int .i64 (pt L (j + 1)).2] 26)).drew).frozen? ⟨wr.heap.size + 1, 1, none⟩ = false := by go_simp
                      have zz : wr.heap.size + 1 < (((wr.alloc (.cells #[.int .i64 (pt L j).1, .int .i64 (pt L j).2] 26)).alloc (.cells #[.int .i64 (pt L (j + 1)).1, .int .i64 (pt L (j + 1)).2] 26)).drew).heap.size := by simp
                      clear d1 d2 d3 d4
                      generalize (((wr.alloc (.cells #[.int .i64 (pt L j).1, .int .i64 (pt L j).2] 26)).alloc (.cells #[.int .i64 (pt L (j + 1)).1, .int .i64 (pt L (j + 1)).2] 26)).drew) = V at E3 p1 p2 p3 p4 y1 y2 y3 y4 zz ⊢
                      have x1 : wr.heap.size < V.heap.size := by omega
                      go_wp2_with fail
                      refine (order_any (pt L j) (pt L (j + 1)) _).mono ?_
                      rintro e W5 ⟨rfl, hE5⟩
                      have q1 := hE5.cell p1
                      have q2 := hE5.cell p2
                      have q3 := hE5.cell p3
                      have q4 := hE5.cell p4
                      have t1 := (hE5.frozen (p := ⟨wr.heap.size, 0, none⟩) (by show wr.heap.size < _; omega)).trans y1
                      have t2 := (hE5.frozen (p := ⟨wr.heap.size, 1, none⟩) (by show wr.heap.size < _; omega)).trans y2
                      have t3 := (hE5.frozen (p := ⟨wr.heap.size + 1, 0, none⟩) (by show wr.heap.size + 1 < _; omega)).trans y3
                      have t4 := (hE5.frozen (p := ⟨wr.heap.size + 1, 1, none⟩) (by show wr.heap.size + 1 < _; omega)).trans y4
                      have HS5 := Lib.hid (HS.out.ext (E3.trans hE5))
                      have EE := Lib.hid (E3.trans hE5)
                      clear p1 p2 p3 p4 y1 y2 y3 y4 E3 hE5
                      have HS6 : Hid (SetAt Try.prog 74 4 evPr ((((W5.setCell ⟨wr.heap.size, 0, none⟩ (.int .i64 (pt L (j + 1)).1)).setCell ⟨wr.heap.size, 1, none⟩ (.int .i64 (pt L (j + 1)).2)).setCell ⟨wr.heap.size + 1, 0, none⟩ (.int .i64 (pt L j).1)).setCell ⟨wr.heap.size + 1, 1, none⟩ (.int .i64 (pt L j).2)) mb (n0 + j) (pairK (ductK g hs k) L j)) := HS5.out.same (by rw [Below.heap_setCell _ _ _ _ (by show mb ≠ wr.heap.size + 1; omega), Below.heap_setCell _ _ _ _ (by show mb ≠ wr.heap.size + 1; omega), Below.heap_setCell _ _ _ _ (by show mb ≠ wr.heap.size; omega), Below.heap_setCell _ _ _ _ (by show mb ≠ wr.heap.size; omega)])
                      have EE6 : Hid (Below wr.heap.size wr ((((W5.setCell ⟨wr.heap.size, 0, none⟩ (.int .i64 (pt L (j + 1)).1)).setCell ⟨wr.heap.size, 1, none⟩ (.int .i64 (pt L (j + 1)).2)).setCell ⟨wr.heap.size + 1, 0, none⟩ (.int .i64 (pt L j).1)).setCell ⟨wr.heap.size + 1, 1, none⟩ (.int .i64 (pt L j).2))) := Below.setCell (p := ⟨wr.heap.size + 1, 1, none⟩) (Below.setCell (p := ⟨wr.heap.size + 1, 0, none⟩) (Below.setCell (p := ⟨wr.heap.size, 1, none⟩) (Below.setCell (p := ⟨wr.heap.size, 0, none⟩) EE.out (by show wr.heap.size ≤ wr.heap.size; omega) _) (by show wr.heap.size ≤ wr.heap.size; omega) _) (by show wr.heap.size ≤ wr.heap.size + 1; omega) _) (by show wr.heap.size ≤ wr.heap.size + 1; omega) _
                      obtain ⟨kl, hkl⟩ := keyPr (p := (pt L (j + 1), pt L j)) (wf_inG i2.out).1 (wf_inG i2.out).2 (wf_inG i1.out).1 (wf_inG i1.out).2
                      have HKL := Lib.hid hkl
                      clear hkl
                      go_wp2_with (at_mapUpdate; refine wpList_setAdd _ rfl _ _ _ 93 rfl 74 4 lawPr Try.underlying93 Try.underlying4 mb (n0 + j) (pairK (ductK g hs k) L j) rfl HS6.out ?hn evPr_inj (pt L (j + 1), pt L j) kl rfl rfl HKL.out ?hK)
                      case hn => unfold maxLen; omega
                      case hK =>
                        intro w6 hs6 hg6
                        have HS7 := Lib.hid hs6
                        have HG6 := Lib.hid hg6
                        clear hs6 hg6
                        go_wp2
                        refine ⟨⟨j + 1, by omega, by go_num, ?_, ?_, ?_⟩, by simp [Go.RowKit.intOf]; omega⟩
                        · have h9 := HS7.out
                          have hp : pairOf (pt L j) (pt L (j + 1)) = (pt L (j + 1), pt L j) := by unfold pairOf; rw [if_pos hgt]
                          show SetAt _ _ _ _ _ _ _ (insP _ _)
                          rw [hp]
                          unfold insP
                          unfold setIns at h9
                          rw [Nat.add_assoc] at h9
                          split at h9 <;> split <;> first | exact h9 | contradiction
                        · exact HCH.out.trans ⟨Nat.le_trans EE6.out.size HG6.out.size, fun b hb hn => (HG6.out.block b (Nat.lt_of_lt_of_le hb EE6.out.size) (fun e => hn (by cases e; rfl))).trans (EE6.out.block b hb)⟩
                        · exact (HBB.out.trans (EE6.out.mono (by omega))).grown HG6.out (Nat.le_trans (by omega) EE6.out.size) (fun j hj => by cases hj; exact Nat.le_refl _)
                    · have E3 : Ext wr (((wr.alloc (.cells #[.int .i64 (pt L (j + 1)).1, .int .i64 (pt L (j + 1)).2] 26)).alloc (.cells #[.int .i64 (pt L j).1, .int .i64 (pt L j).2] 26)).drew) := (((Ext.refl _).alloc _).alloc _).drew
                      have p1 : (((wr.alloc (.cells #[.int .i64 (pt L (j + 1)).1, .int .i64 (pt L (j + 1)).2] 26)).alloc (.cells #[.int .i64 (pt L j).1, .int .i64 (pt L j).2] 26)).drew).cell? ⟨wr.heap.size + 1, 0, none⟩ = some (.int .i64 (pt L j).1) := by go_simp
                      have p2 : (((wr.alloc (.cells #[.int .i64 (pt L (j + 1)).1, .int .i64 (pt L (j + 1)).2] 26)).alloc (.cells #[.int .i64 (pt L j).1, .int .i64 (pt L j).2] 26)).drew).cell? ⟨wr.heap.size + 1, 1, none⟩ = some (.int .i64 (pt L j).2) := by go_simp
                      have p3 : (((wr.alloc (.cells #[.int .i64 (pt L (j + 1)).1, .int .i64 (pt L (j + 1)).2] 26)).alloc (.cells #[.int .i64 (pt L j).1, .int .i64 (pt L j).2] 26)).drew).cell? ⟨wr.heap.size, 0, none⟩ = some (.int .i64 (pt L (j + 1)).1) := by go_simp
                      have p4 : (((wr.alloc (.cells #[.int .i64 (pt L (j + 1)).1, .int .i64 (pt L (j + 1)).2] 26)).alloc (.cells #[.int .i64 (pt L j).1, .int .i64 (pt L j).2] 26)).drew).cell? ⟨wr.heap.size, 1, none⟩ = some (.int .i64 (pt L (j + 1)).2) := by go_simp
                      have y1 : (((wr.alloc (.cells #[.int .i64 (pt L (j + 1)).1, .int .i64 (pt L (j + 1)).2] 26)).alloc (.cells #[.int .i64 (pt L j).1, .int .i64 (pt L j).2] 26)).drew).frozen? ⟨wr.heap.size + 1, 0, none⟩ = false := by go_simp
                      have y2 : (((wr.alloc (.cells #[.int .i64 (pt L (j + 1)).1, .int .i64 (pt L (j + 1)).2] 26)).alloc (.cells #[.int .i64 (pt L j).1, .int .i64 (pt L j).2] 26)).drew).frozen? ⟨wr.heap.size + 1, 1, none⟩ = false := by go_simp
                      have y3 : (((wr.alloc (.cells #[.int .i64 (pt L (j + 1)).1, .int .i64 (pt L (j + 1)).2] 26)).alloc (.cells #[.int .i64 (pt L j).1, .int .i64 (pt L j).2] 26)).drew).frozen? ⟨wr.heap.size, 0, none⟩ = false := by go_simp
                      have y4 : (((wr.alloc (.cells #[.int .i64 (pt L (j + 1)).1, .int .i64 (pt L (j + 1)).2] 26)).alloc (.cells #[.int .i64 (pt L j).1, .int .i64 (pt L j).2] 26)).drew).frozen? ⟨wr.heap.size, 1, none⟩ = false := by go_simp
                      have zz : wr.heap.size + 1 < (((wr.alloc (.cells #[.int .i64 (pt L (j + 1)).1, .int .i64 (pt L (j + 1)).2] 26)).alloc (.cells #[.int .i64 (pt L j).1, .int .i64 (pt L j).2] 26)).drew).heap.size := by simp
                      clear d1 d2 d3 d4
                      generalize (((wr.alloc (.cells #[.int .i64 (pt L (j + 1)).1, .int .i64 (pt L (j + 1)).2] 26)).alloc (.cells #[.int .i64 (pt L j).1, .int .i64 (pt L j).2] 26)).drew) = V at E3 p1 p2 p3 p4 y1 y2 y3 y4 zz ⊢
                      have x1 : wr.heap.size < V.heap.size := by omega
                      go_wp2_with fail
                      refine (order_any (pt L j) (pt L (j + 1)) _).mono ?_
                      rintro e W5 ⟨rfl, hE5⟩
                      have q1 := hE5.cell p1
                      have q2 := hE5.cell p2
                      have q3 := hE5.cell p3
                      have q4 := hE5.cell p4
                      have t1 := (hE5.frozen (p := ⟨wr.heap.size + 1, 0, none⟩) (by show wr.heap.size + 1 < _; omega)).trans y1
                      have t2 := (hE5.frozen (p := ⟨wr.heap.size + 1, 1, none⟩) (by show wr.heap.size + 1 < _; omega)).trans y2
                      have t3 := (hE5.frozen (p := ⟨wr.heap.size, 0, none⟩) (by show wr.heap.size < _; omega)).trans y3
                      have t4 := (hE5.frozen (p := ⟨wr.heap.size, 1, none⟩) (by show wr.heap.size < _; omega)).trans y4
                      have HS5 := Lib.hid (HS.out.ext (E3.trans hE5))
                      have EE := Lib.hid (E3.trans hE5)
                      clear p1 p2 p3 p4 y1 y2 y3 y4 E3 hE5
                      have HS6 : Hid (SetAt Try.prog 74 4 evPr ((((W5.setCell ⟨wr.heap.size + 1, 0, none⟩ (.int .i64 (pt L (j + 1)).1)).setCell ⟨wr.heap.size + 1, 1, none⟩ (.int .i64 (pt L (j + 1)).2)).setCell ⟨wr.heap.size, 0, none⟩ (.int .i64 (pt L j).1)).setCell ⟨wr.heap.size, 1, none⟩ (.int .i64 (pt L j).2)) mb (n0 + j) (pairK (ductK g hs k) L j)) := HS5.out.same (by rw [Below.heap_setCell _ _ _ _ (by show mb ≠ wr.heap.size; omega), Below.heap_setCell _ _ _ _ (by show mb ≠ wr.heap.size; omega), Below.heap_setCell _ _ _ _ (by show mb ≠ wr.heap.size + 1; omega), Below.heap_setCell _ _ _ _ (by show mb ≠ wr.heap.size + 1; omega)])
                      have EE6 : Hid (Below wr.heap.size wr ((((W5.setCell ⟨wr.heap.size + 1, 0, none⟩ (.int .i64 (pt L (j + 1)).1)).setCell ⟨wr.heap.size + 1, 1, none⟩ (.int .i64 (pt L (j + 1)).2)).setCell ⟨wr.heap.size, 0, none⟩ (.int .i64 (pt L j).1)).setCell ⟨wr.heap.size, 1, none⟩ (.int .i64 (pt L j).2))) := Below.setCell (p := ⟨wr.heap.size, 1, none⟩) (Below.setCell (p := ⟨wr.heap.size, 0, none⟩) (Below.setCell (p := ⟨wr.heap.size + 1, 1, none⟩) (Below.setCell (p := ⟨wr.heap.size + 1, 0, none⟩) EE.out (by show wr.heap.size ≤ wr.heap.size + 1; omega) _) (by show wr.heap.size ≤ wr.heap.size + 1; omega) _) (by show wr.heap.size ≤ wr.heap.size; omega) _) (by show wr.heap.size ≤ wr.heap.size; omega) _
                      obtain ⟨kl, hkl⟩ := keyPr (p := (pt L (j + 1), pt L j)) (wf_inG i2.out).1 (wf_inG i2.out).2 (wf_inG i1.out).1 (wf_inG i1.out).2
                      have HKL := Lib.hid hkl
                      clear hkl
                      go_wp2_with (at_mapUpdate; refine wpList_setAdd _ rfl _ _ _ 93 rfl 74 4 lawPr Try.underlying93 Try.underlying4 mb (n0 + j) (pairK (ductK g hs k) L j) rfl HS6.out ?hn evPr_inj (pt L (j + 1), pt L j) kl rfl rfl HKL.out ?hK)
                      case hn => unfold maxLen; omega
                      case hK =>
                        intro w6 hs6 hg6
                        have HS7 := Lib.hid hs6
                        have HG6 := Lib.hid hg6
                        clear hs6 hg6
                        go_wp2
                        refine ⟨⟨j + 1, by omega, by go_num, ?_, ?_, ?_⟩, by simp [Go.RowKit.intOf]; omega⟩
                        · have h9 := HS7.out
                          have hp : pairOf (pt L j) (pt L (j + 1)) = (pt L (j + 1), pt L j) := by unfold pairOf; rw [if_pos hgt]
                          show SetAt _ _ _ _ _ _ _ (insP _ _)
                          rw [hp]
                          unfold insP
                          unfold setIns at h9
                          rw [Nat.add_assoc] at h9
                          split at h9 <;> split <;> first | exact h9 | contradiction
                        · exact HCH.out.trans ⟨Nat.le_trans EE6.out.size HG6.out.size, fun b hb hn => (HG6.out.block b (Nat.lt_of_lt_of_le hb EE6.out.size) (fun e => hn (by cases e; rfl))).trans (EE6.out.block b hb)⟩
                        · exact (HBB.out.trans (EE6.out.mono (by omega))).grown HG6.out (Nat.le_trans (by omega) EE6.out.size) (fun j hj => by cases hj; exact Nat.le_refl _)
                  · have hgt : ¬ 0 < ordP (pt L j) (pt L (j + 1)) := by assumption
                    go_wp2_with fail
                    go_region
                    · have E3 : Ext wr (((wr.alloc (.cells #[.int .i64 (pt L j).1, .int .i64 (pt L j).2] 26)).alloc (.cells #[.int .i64 (pt L (j + 1)).1, .int .i64 (pt L (j + 1)).2] 26)).drew) := (((Ext.refl _).alloc _).alloc _).drew
                      have p1 : (((wr.alloc (.cells #[.int .i64 (pt L j).1, .int .i64 (pt L j).2] 26)).alloc (.cells #[.int .i64 (pt L (j + 1)).1, .int .i64 (pt L (j + 1)).2] 26)).drew).cell? ⟨wr.heap.size, 0, none⟩ = some (.int .i64 (pt L j).1) := by go_simp
                      have p2 : (((wr.alloc (.cells #[.int .i64 (pt L j).1, .int .i64 (pt L j).2] 26)).alloc (.cells #[.int .i64 (pt L (j + 1)).1, .int .i64 (pt L (j + 1)).2] 26)).drew).cell? ⟨wr.heap.size, 1, none⟩ = some (.int .i64 (pt L j).2) := by go_simp
                      have p3 : (((wr.alloc (.cells #[.int .i64 (pt L j).1, .int .i64 (pt L j).2] 26)).alloc (.cells #[.int .i64 (pt L (j + 1)).1, .int .i64 (pt L (j + 1)).2] 26)).drew).cell? ⟨wr.heap.size + 1, 0, none⟩ = some (.int .i64 (pt L (j + 1)).1) := by go_simp
                      have p4 : (((wr.alloc (.cells #[.int .i64 (pt L j).1, .int .i64 (pt L j).2] 26)).alloc (.cells #[.int .i64 (pt L (j + 1)).1, .int .i64 (pt L (j + 1)).2] 26)).drew).cell? ⟨wr.heap.size + 1, 1, none⟩ = some (.int .i64 (pt L (j + 1)).2) := by go_simp
                      have y1 : (((wr.alloc (.cells #[.int .i64 (pt L j).1, .int .i64 (pt L j).2] 26)).alloc (.cells #[.int .i64 (pt L (j + 1)).1, .int .i64 (pt L (j + 1)).2] 26)).drew).frozen? ⟨wr.heap.size, 0, none⟩ = false := by go_simp
                      have y2 : (((wr.alloc (.cells #[.int .i64 (pt L j).1, .int .i64 (pt L j).2] 26)).alloc (.cells #[.int .i64 (pt L (j + 1)).1, .int .i64 (pt L (j + 1)).2] 26)).drew).frozen? ⟨wr.heap.size, 1, none⟩ = false := by go_simp
                      have y3 : (((wr.alloc (.cells #[.int .i64 (pt L j).1, .int .i64 (pt L j).2] 26)).alloc (.cells #[.int .i64 (pt L (j + 1)).1, .int .i64 (pt L (j + 1)).2] 26)).drew).frozen? ⟨wr.heap.size + 1, 0, none⟩ = false := by go_simp
                      have y4 : (((wr.alloc (.cells #[.int .i64 (pt L j).1, .int .i64 (pt L j).2] 26)).alloc (.cells #[.int .i64 (pt L (j + 1)).1, .int .i64 (pt L (j + 1)).2] 26)).drew).frozen? ⟨wr.heap.size + 1, 1, none⟩ = false := by go_simp
                      have zz : wr.heap.size + 1 < (((wr.alloc (.cells #[.int .i64 (pt L j).1, .int .i64 (pt L j).2] 26)).alloc (.cells #[.int .i64 (pt L (j + 1)).1, .int .i64 (pt L (j + 1)).2] 26)).drew).heap.size := by simp
                      clear d1 d2 d3 d4
                      generalize (((wr.alloc (.cells #[.int .i64 (pt L j).1, .int .i64 (pt L j).2] 26)).alloc (.cells #[.int .i64 (pt L (j + 1)).1, .int .i64 (pt L (j + 1)).2] 26)).drew) = V at E3 p1 p2 p3 p4 y1 y2 y3 y4 zz ⊢
                      have x1 : wr.heap.size < V.heap.size := by omega
                      go_wp2_with fail
                      refine (order_any (pt L j) (pt L (j + 1)) _).mono ?_
                      rintro e W5 ⟨rfl, hE5⟩
                      have q1 := hE5.cell p1
                      have q2 := hE5.cell p2
                      have q3 := hE5.cell p3
                      have q4 := hE5.cell p4
                      have t1 := (hE5.frozen (p := ⟨wr.heap.size, 0, none⟩) (by show wr.heap.size < _; omega)).trans y1
                      have t2 := (hE5.frozen (p := ⟨wr.heap.size, 1, none⟩) (by show wr.heap.size < _; omega)).trans y2
                      have t3 := (hE5.frozen (p := ⟨wr.heap.size + 1, 0, none⟩) (by show wr.heap.size + 1 < _; omega)).trans y3
                      have t4 := (hE5.frozen (p := ⟨wr.heap.size + 1, 1, none⟩) (by show wr.heap.size + 1 < _; omega)).trans y4
                      have HS5 := Lib.hid (HS.out.ext (E3.trans hE5))
                      have EE := Lib.hid (E3.trans hE5)
                      clear p1 p2 p3 p4 y1 y2 y3 y4 E3 hE5
                      have HS6 := HS5
                      have EE6 : Hid (Below wr.heap.size wr W5) := EE.out
                      obtain ⟨kl, hkl⟩ := keyPr (p := (pt L j, pt L (j + 1))) (wf_inG i1.out).1 (wf_inG i1.out).2 (wf_inG i2.out).1 (wf_inG i2.out).2
                      have HKL := Lib.hid hkl
                      clear hkl
                      go_wp2_with (at_mapUpdate; refine wpList_setAdd _ rfl _ _ _ 93 rfl 74 4 lawPr Try.underlying93 Try.underlying4 mb (n0 + j) (pairK (ductK g hs k) L j) rfl HS6.out ?hn evPr_inj (pt L j, pt L (j + 1)) kl rfl rfl HKL.out ?hK)
                      case hn => unfold maxLen; omega
                      case hK =>
                        intro w6 hs6 hg6
                        have HS7 := Lib.hid hs6
                        have HG6 := Lib.hid hg6
                        clear hs6 hg6
                        go_wp2
                        refine ⟨⟨j + 1, by omega, by go_num, ?_, ?_, ?_⟩, by simp [Go.RowKit.intOf]; omega⟩
                        · have h9 := HS7.out
                          have hp : pairOf (pt L j) (pt L (j + 1)) = (pt L j, pt L (j + 1)) := by unfold pairOf; rw [if_neg (by omega)]
                          show SetAt _ _ _ _ _ _ _ (insP _ _)
                          rw [hp]
                          unfold insP
                          unfold setIns at h9
                          rw [Nat.add_assoc] at h9
                          split at h9 <;> split <;> first | exact h9 | contradiction
                        · exact HCH.out.trans ⟨Nat.le_trans EE6.out.size HG6.out.size, fun b hb hn => (HG6.out.block b (Nat.lt_of_lt_of_le hb EE6.out.size) (fun e => hn (by cases e; rfl))).trans (EE6.out.block b hb)⟩
                        · exact (HBB.out.trans (EE6.out.mono (by omega))).grown HG6.out (Nat.le_trans (by omega) EE6.out.size) (fun j hj => by cases hj; exact Nat.le_refl _)
                    · have E3 : Ext wr (((wr.alloc (.cells #[.int .i64 (pt L (j + 1)).1, .int .i64 (pt L (j + 1)).2] 26)).alloc (.cells #[.int .i64 (pt L j).1, .int .i64 (pt L j).2] 26)).drew) := (((Ext.refl _).alloc _).alloc _).drew
                      have p1 : (((wr.alloc (.cells #[.int .i64 (pt L (j + 1)).1, .int .i64 (pt L (j + 1)).2] 26)).alloc (.cells #[.int .i64 (pt L j).1, .int .i64 (pt L j).2] 26)).drew).cell? ⟨wr.heap.size + 1, 0, none⟩ = some (.int .i64 (pt L j).1) := by go_simp
                      have p2 : (((wr.alloc (.cells #[.int .i64 (pt L (j + 1)).1, .int .i64 (pt L (j + 1)).2] 26)).alloc (.cells #[.int .i64 (pt L j).1, .int .i64 (pt L j).2] 26)).drew).cell? ⟨wr.heap.size + 1, 1, none⟩ = some (.int .i64 (pt L j).2) := by go_simp
                      have p3 : (((wr.alloc (.cells #[.int .i64 (pt L (j + 1)).1, .int .i64 (pt L (j + 1)).2] 26)).alloc (.cells #[.int .i64 (pt L j).1, .int .i64 (pt L j).2] 26)).drew).cell? ⟨wr.heap.size, 0, none⟩ = some (.int .i64 (pt L (j + 1)).1) := by go_simp
                      have p4 : (((wr.alloc (.cells #[.int .i64 (pt L (j + 1)).1, .int .i64 (pt L (j + 1)).2] 26)).alloc (.cells #[.int .i64 (pt L j).1, .int .i64 (pt L j).2] 26)).drew).cell? ⟨wr.heap.size, 1, none⟩ = some (.int .i64 (pt L (j + 1)).2) := by go_simp
                      have y1 : (((wr.alloc (.cells #[.int .i64 (pt L (j + 1)).1, .int .i64 (pt L (j + 1)).2] 26)).alloc (.cells #[.int .i64 (pt L j).1, .int .i64 (pt L j).2] 26)).drew).frozen? ⟨wr.heap.size + 1, 0, none⟩ = false := by go_simp
                      have y2 : (((wr.alloc (.cells #[.int .i64 (pt L (j + 1)).1, .int .i64 (pt L (j + 1)).2] 26)).alloc (.cells #[.int .i64 (pt L j).1, .int .i64 (pt L j).2] 26)).drew).frozen? ⟨wr.heap.size + 1, 1, none⟩ = false := by go_simp
                      have y3 : (((wr.alloc (.cells #[.int .i64 (pt L (j + 1)).1, .int .i64 (pt L (j + 1)).2] 26)).alloc (.cells #[.int .i64 (pt L j).1, .int .i64 (pt L j).2] 26)).drew).frozen? ⟨wr.heap.size, 0, none⟩ = false := by go_simp
                      have y4 : (((wr.alloc (.cells #[.int .i64 (pt L (j + 1)).1, .int .i64 (pt L (j + 1)).2] 26)).alloc (.cells #[.int .i64 (pt L j).1, .int .i64 (pt L j).2] 26)).drew).frozen? ⟨wr.heap.size, 1, none⟩ = false := by go_simp
                      have zz : wr.heap.size + 1 < (((wr.alloc (.cells #[.int .i64 (pt L (j + 1)).1, .int .i64 (pt L (j + 1)).2] 26)).alloc (.cells #[.int .i64 (pt L j).1, .int .i64 (pt L j).2] 26)).drew).heap.size := by simp
                      clear d1 d2 d3 d4
                      generalize (((wr.alloc (.cells #[.int .i64 (pt L (j + 1)).1, .int .i64 (pt L (j + 1)).2] 26)).alloc (.cells #[.int .i64 (pt L j).1, .int .i64 (pt L j).2] 26)).drew) = V at E3 p1 p2 p3 p4 y1 y2 y3 y4 zz ⊢
                      have x1 : wr.heap.size < V.heap.size := by omega
                      go_wp2_with fail
                      refine (order_any (pt L j) (pt L (j + 1)) _).mono ?_
                      rintro e W5 ⟨rfl, hE5⟩
                      have q1 := hE5.cell p1
                      have q2 := hE5.cell p2
                      have q3 := hE5.cell p3
                      have q4 := hE5.cell p4
                      have t1 := (hE5.frozen (p := ⟨wr.heap.size + 1, 0, none⟩) (by show wr.heap.size + 1 < _; omega)).trans y1
                      have t2 := (hE5.frozen (p := ⟨wr.heap.size + 1, 1, none⟩) (by show wr.heap.size + 1 < _; omega)).trans y2
                      have t3 := (hE5.frozen (p := ⟨wr.heap.size, 0, none⟩) (by show wr.heap.size < _; omega)).trans y3
                      have t4 := (hE5.frozen (p := ⟨wr.heap.size, 1, none⟩) (by show wr.heap.size < _; omega)).trans y4
                      have HS5 := Lib.hid (HS.out.ext (E3.trans hE5))
                      have EE := Lib.hid (E3.trans hE5)
                      clear p1 p2 p3 p4 y1 y2 y3 y4 E3 hE5
                      have HS6 := HS5
                      have EE6 : Hid (Below wr.heap.size wr W5) := EE.out
                      obtain ⟨kl, hkl⟩ := keyPr (p := (pt L j, pt L (j + 1))) (wf_inG i1.out).1 (wf_inG i1.out).2 (wf_inG i2.out).1 (wf_inG i2.out).2
                      have HKL := Lib.hid hkl
                      clear hkl
                      go_wp2_with (at_mapUpdate; refine wpList_setAdd _ rfl _ _ _ 93 rfl 74 4 lawPr Try.underlying93 Try.underlying4 mb (n0 + j) (pairK (ductK g hs k) L j) rfl HS6.out ?hn evPr_inj (pt L j, pt L (j + 1)) kl rfl rfl HKL.out ?hK)
                      case hn => unfold maxLen; omega
                      case hK =>
                        intro w6 hs6 hg6
                        have HS7 := Lib.hid hs6
                        have HG6 := Lib.hid hg6
                        clear hs6 hg6
                        go_wp2
                        refine ⟨⟨j + 1, by omega, by go_num, ?_, ?_, ?_⟩, by simp [Go.RowKit.intOf]; omega⟩
                        · have h9 := HS7.out
                          have hp : pairOf (pt L j) (pt L (j + 1)) = (pt L j, pt L (j + 1)) := by unfold pairOf; rw [if_neg (by omega)]
                          show SetAt _ _ _ _ _ _ _ (insP _ _)
                          rw [hp]
                          unfold insP
                          unfold setIns at h9
                          rw [Nat.add_assoc] at h9
                          split at h9 <;> split <;> first | exact h9 | contradiction
                        · exact HCH.out.trans ⟨Nat.le_trans EE6.out.size HG6.out.size, fun b hb hn => (HG6.out.block b (Nat.lt_of_lt_of_le hb EE6.out.size) (fun e => hn (by cases e; rfl))).trans (EE6.out.block b hb)⟩
                        · exact (HBB.out.trans (EE6.out.mono (by omega))).grown HG6.out (Nat.le_trans (by omega) EE6.out.size) (fun j hj => by cases hj; exact Nat.le_refl _)
                · have hjl' : ¬ (j : Int) + 1 < (L.length : Int) := by omega
                  have nmb : ∀ b cur e fr, W3.heap[b]? = some (.cells cur e fr) → b ≠ mb := fun b cur e fr h0 h1 => by
                    obtain ⟨es, cl, h8⟩ := HS0.out.at
                    rw [h1, h8] at h0; cases h0
                  have KK : Kept (fun k => k ≠ mb) 0 W3 wr := HCH.out.kept (fun k hk _ => hk)
                  have HOr : Hid (Owns wr (.slice la L.length lc) L) := HO3.out.kept KK (fun b hb => by
                    obtain ⟨c1, f1, e1⟩ := ownsRow_at HO3.out hb
                    exact nmb _ _ _ _ e1)
                  have HRr : Hid (RowsO wr (.slice av k cv) (ways g hs k)) := HD3.out.own.kept KK (fun b hb => by
                    obtain ⟨c1, f1, e1⟩ := HD3.out.own.at hb
                    exact nmb _ _ _ _ e1) (fun b cur fr h => nmb _ _ _ _ h)
                  have zm2 : mb < wr.heap.size := HS.out.lt
                  have zr3 : W3.heap.size ≤ wr.heap.size := HCH.out.1
                  clear KK nmb
                  have X1 : Ext wr (wr.alloc (.cells #[.slice la L.length lc] 22)) := (Ext.refl _).alloc _
                  obtain ⟨vs, h1, h2, h3⟩ := HRr.out.ext X1
                  rw [ways_len] at h1
                  have H1 := Lib.hid h1
                  have H2 := Lib.hid h2
                  have H3 := Lib.hid h3
                  have HX1 := Lib.hid X1
                  clear h1 h2 h3 X1
                  obtain ⟨i0, hi, hi0, hi1, hi2⟩ := info_parts infoRow
                  go_wp2_with (at_builtin; refine wpList_append1 _ rfl _ _ 39 rfl 22 i0 (.slice none 0 0) 1 24 Try.underlying39 hi hi0 hi1 hi2 rfl (by decide) (.slice av k cv) _ _ rfl H1.out ⟨wr.heap.size, 0, none⟩ 1 1 (by decide) [.slice la L.length lc] rfl rfl (cell_one_int _ _ _) ?c1 ?c2 ?c3 ?c4)
                  case c1 => first | (intro u hu; simp at hu; subst hu; rfl) | rfl | simp
                  case c2 => unfold maxLen; omega
                  case c3 => omega
                  case c4 =>
                    intro v' w5 hown5 hend5
                    have hlk : (ways g hs k).length = k := ways_len g hs k
                    have RO := rows_app (by rw [hlk]; exact H1.out) H2.out H3.out (HOr.out.ext HX1.out) hend5 (by rw [hlk]; exact hown5)
                    have hw1 : ways g hs k ++ [L] = ways g hs (k + 1) := by rw [HLEQ.out]; show _ = ways g hs k ++ [way g (ph hs k).1 (ph hs k).2]; rw [HX.out]
                    rw [hw1] at RO
                    obtain ⟨av', cv', hsh⟩ := RO.shape
                    rw [ways_len] at hsh
                    subst hsh
                    have HRO := Lib.hid RO
                    have HEND := Lib.hid hend5
                    have CA := Lib.hid (Chg.app hend5 (B := fun b => (Value.slice av k cv).ownBlock = some b) (fun b hb => hb))
                    clear hown5 hend5 hlk hw1 RO
                    go_wp2
                    refine ⟨⟨k + 1, av', cv', by omega, by go_num, rfl, HOK.out, ?_⟩, by simp [Go.RowKit.intOf]; omega⟩
                    have nvb : ∀ b, (Value.slice av k cv).ownBlock = some b → W0.heap.size ≤ b := HD3.out.vb
                    exact {
                      se := by
                        refine ⟨n0 + j, ?_, ?_⟩
                        · rw [Nat.add_mul]; omega
                        · have hdk : ductK g hs (k + 1) = pairK (ductK g hs k) L j := by
                            show pairsIn _ _ = _
                            rw [HX.out, ← HLEQ.out]
                            unfold pairsIn
                            rw [show L.length - 1 = j by omega]
                          rw [hdk]
                          exact (HS.out.ext HX1.out).same (CA.out.2 mb (Nat.lt_of_lt_of_le zm2 HX1.out.size) (fun e => by have := nvb mb e; omega))
                      be := ((HD3.out.be.trans HBB.out).trans (HX1.out.mono (by omega))).trans (HEND.out.below (by have := HX1.out.size; omega) (fun b hb => by have := nvb b hb; omega))
                      own := HRO.out
                      vb := fun b hb => by
                        rcases HEND.out with ⟨h1, _, _⟩ | ⟨h1, _⟩
                        · rw [h1] at hb; exact nvb b hb
                        · rw [h1] at hb
                          have hb' : b = (wr.alloc (.cells #[.slice la L.length lc] 22)).heap.size := by cases hb; rfl
                          simp at hb'
                          omega }
          · have HBAD : Hid (ductE g hs = cellsErr g [x.1, x.2]) := by
              show _ = _
              have h9 : hoseErr g x = cellsErr g [x.1, x.2] := by unfold hoseErr; rw [if_pos hce]
              rw [hE.out, hn.out, show hs.length - k = (hs.length - (k + 1)) + 1 by omega, hosesErr_stop (by rw [HX.out, h9]; exact hce), HX.out, h9]
            have HNE := Lib.hid hce
            have hb : (cellsErr g [x.1, x.2] != 0) = true := by simp [hce]
            have hb2 : (cellsErr g [x.1, x.2] == 0) = false := by simp [hce]
            clear hce
            go_wp2
            go_ret3
            exact DuctsPost.bad HBAD.out HNE.out HE2.out
        · have hk2 : k = hs.length := by omega
          have hlt' : ¬ (k : Int) < (hs.length : Int) := by omega
          obtain ⟨n, hn1, hS1⟩ := hd.out.se
          have HS1 := Lib.hid hS1
          clear hS1
          go_wp2_with (at_len; refine wpList_setLen _ rfl _ 93 rfl 74 4 Try.underlying93 mb _ (ductK g hs k) rfl HS1.out ?_)
          go_wp2
          go_ret3
          subst hk2
          obtain ⟨a', c', hv', hrr⟩ := hd.out.own.reads
          rw [ways_len] at hv'
          have hz : ductE g hs = 0 := by rw [hE.out, hn.out, Nat.sub_self]; rfl
          have hL1 : ductL g hs = ways g hs hs.length := by unfold ductL; rw [if_neg (by simp [hz])]
          have hN1 : ductN g hs = ((ductK g hs hs.length).length : Int) := by unfold ductN; rw [if_neg (by simp [hz])]
          refine ⟨a', c', ?_, by rw [hL1]; exact hrr, Below.trans EW (hd.out.be.mono (by omega))⟩
          show Ending.returned (.tuple #[.slice av hs.length cv, .int .i64 ((ductK g hs hs.length).length : Int), .int .i64 0]) = _
          rw [hL1, hN1, hz, ways_len, ← hv']
  · have hE : Hid (ductE g hs = chk g) := by show _ = _; unfold ductE; rw [if_pos h0]
    have hb : (chk g != 0) = true := by simp [h0]
    have hb2 : (chk g == 0) = false := by simp [h0]
    have H0 := Lib.hid h0
    clear h0
    go_wp2
    go_ret3
    exact DuctsPost.bad hE.out H0.out E1
end Go.Proofs.Ytfigooilhnahfaa
