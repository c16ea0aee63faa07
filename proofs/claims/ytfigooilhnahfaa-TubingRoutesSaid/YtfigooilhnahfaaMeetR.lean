/- The reference's Meet. -/
import Derived.Test.YtfigooilhnahfaaFew
namespace Go.Proofs.Ytfigooilhnahfaa
open Go.RowKit

theorem Far_any2 (g : Gr) (p : Pt) (ga : Option Addr) (gc n : Nat) (w : World) (hn : n = g.rows.toNat * g.cols.toNat) (hr : Right g) (hp : inside g p = true) (hc : Cells2 w ga g.bl) :
    Calls Try.prog 51 #[.agg #[.int .i64 g.rows, .int .i64 g.cols, .slice ga g.bl.length gc], .agg #[.int .i64 p.1, .int .i64 p.2]] w fun e w' => ∃ a cap, e = .returned (.slice a n cap) ∧ CellsI w' a (tabL g (dst g p)) ∧ Ext w w' :=
  (Far_any g p ga gc w hr hp hc).mono fun e w' ⟨a, cap, h1, h2, h3⟩ => ⟨a, cap, by rw [h1, tabL_len, hn], h2, h3⟩
theorem atR_any2 (g : Gr) (D : Pt → Int) (s : Value) (a : Option Addr) (cap n : Nat) (p : Pt) (w : World) (hn : n = g.rows.toNat * g.cols.toNat) (hr : Right g) (hp : inside g p = true) (hc : CellsI w a (tabL g D)) :
    Calls Try.prog 52 #[.agg #[.int .i64 g.rows, .int .i64 g.cols, s], .slice a n cap, .agg #[.int .i64 p.1, .int .i64 p.2]] w fun e w' => e = .returned (.int .i64 (D p)) ∧ Ext w w' := by
  have := atR_any g D s a cap p w hr hp hc
  rw [tabL_len, ← hn] at this
  exact this
theorem quoF {g : Gr} (hr : Right g) (k : Nat) : (k : Int).tdiv g.cols = ((k / g.cols.toNat : Nat) : Int) ∧ (k : Int).tmod g.cols = ((k % g.cols.toNat : Nat) : Int) ∧ (k : Int) / g.cols = ((k / g.cols.toNat : Nat) : Int) ∧ (k : Int) % g.cols = ((k % g.cols.toNat : Nat) : Int) := by
  have h := hr.c1
  obtain ⟨c, hc⟩ : ∃ c : Nat, g.cols = (c : Int) := ⟨g.cols.toNat, by omega⟩
  rw [hc]
  simp only [Int.toNat_natCast]
  refine ⟨?_, ?_, (Int.natCast_ediv _ _).symm, (Int.natCast_emod _ _).symm⟩
  · rw [Int.tdiv_eq_ediv_of_nonneg (by omega)]; exact (Int.natCast_ediv _ _).symm
  · rw [Int.tmod_eq_emod_of_nonneg (by omega)]; exact (Int.natCast_emod _ _).symm
theorem CellsI.below {m : Nat} {w w' : World} {a : Option Addr} {l : List Int} (h : CellsI w a l) (he : Below m w w') (hm : ∀ b off, a = some ⟨b, off, none⟩ → b < m) : CellsI w' a l := fun i hi => by
  obtain ⟨b, off, h1, h2⟩ := h i hi
  exact ⟨b, off, h1, (he.cell (p := ⟨b, _, none⟩) (hm b off h1)).trans h2⟩
theorem CellsI.lt {w : World} {a : Option Addr} {l : List Int} (h : CellsI w a l) (hl : 0 < l.length) {b off : Nat} (ha : a = some ⟨b, off, none⟩) : b < w.heap.size := by
  obtain ⟨b', off', h1, h2⟩ := h 0 hl
  rw [ha] at h1
  cases h1
  exact cell_lt h2

set_option maxHeartbeats 4000000 in
set_option maxRecDepth 100000 in
theorem MeetR_any (g : Gr) (p q r : Pt) (ga : Option Addr) (gc : Nat) (w : World) (hg : g.bl.length ≤ maxLen) (hc : Cells2 w ga g.bl) :
    Calls Try.prog 16 #[.agg #[.int .i64 g.rows, .int .i64 g.cols, .slice ga g.bl.length gc], .agg #[.int .i64 p.1, .int .i64 p.2, .int .i64 q.1, .int .i64 q.2, .int .i64 r.1, .int .i64 r.2]] w fun e w' =>
      e = .returned (.tuple #[.agg #[.int .i64 (meetP g p q r).1, .int .i64 (meetP g p q r).2], .int .i64 (meetN g p q r), .int .i64 (meetE g p q r)]) ∧ Ext w w' := by
  have HC : Hid (Cells2 w ga g.bl) := hc
  have HG := Lib.hid hg
  clear hc hg
  obtain ⟨W0, hW0⟩ : ∃ W0, ((((w).alloc (.cells #[.int .i64 g.rows, .int .i64 g.cols, .slice ga g.bl.length gc] 24))).alloc (.cells #[.int .i64 p.1, .int .i64 p.2, .int .i64 q.1, .int .i64 q.2, .int .i64 r.1, .int .i64 r.2] 27)).alloc (.cells #[.int .i64 0, .int .i64 0] 26) = W0 := ⟨_, rfl⟩
  have E0 : Ext w W0 := by rw [← hW0]; exact (((Ext.refl _).alloc _).alloc _).alloc _
  have F0 : Hid (MtFix g p q r ga gc w.heap.size W0) := by
    rw [← hW0]; clear hW0
    exact ⟨by go_simp, by go_simp, by go_simp, by go_simp, by go_simp, by go_simp, by go_simp, by go_simp, by go_simp, by go_simp, by go_simp, by go_simp, by go_simp⟩
  obtain ⟨a1, a2, a3, p1, p2, p3, p4, p5, p6, c1, c2, f1, f2⟩ := F0.out
  have H3 : Hid (Cells2 W0 (some ⟨w.heap.size + 1, 0, none⟩) [p, q, r]) := cells2_three p1 p2 p3 p4 p5 p6
  go_enter Try.func16, Try.ntmps16
  go_wp2_with fail
  clear hW0
  have y1 := cell_lt a1; have y2 := cell_lt p1
  dsimp only at y1 y2
  go_region_held3 (fun w' => Sees W0 w') ((repeat (first | exact Sees.refl _ | assumption | apply Sees.drew | apply Sees.alloc | (refine Sees.ext ?_ (by assumption))))) (first | (go_at_call 50; refine (givenR_any g [p, q, r] ga gc _ _ _ HG.out (HC.out.ext (E0.trans (by exact (show Sees W0 _ by assumption).2.2))) (by simp [maxLen]) (H3.out.ext (by exact (show Sees W0 _ by assumption).2.2))).mono ?_; rintro e w' ⟨rfl, hE2⟩))
  have hS := (show Sees W0 _ by assumption).2.2
  have F1 : Hid (MtFix g p q r ga gc w.heap.size w') := F0.out.ext hS
  have E1 := E0.trans hS
  clear y1 y2 a1 a2 a3 p1 p2 p3 p4 p5 p6 c1 c2 f1 f2 H3 F0 E0 hS
  generalize w' = W1 at F1 E1 ⊢
  by_cases h0 : givenErr g [p, q, r] = 0
  · obtain ⟨hr, ho⟩ := given_ok h0
    have HR := Lib.hid hr
    have HP : Hid (inside g p = true) := opn_inside (ho p (by simp))
    have HQ : Hid (inside g q = true) := opn_inside (ho q (by simp))
    have HRR : Hid (inside g r = true) := opn_inside (ho r (by simp))
    have HV : Hid (meetP g p q r = (if meetBad g p q r = true then (0, 0) else (meetV g p q r).2) ∧ meetN g p q r = (if meetBad g p q r = true then 0 else (meetV g p q r).1) ∧ meetE g p q r = if meetBad g p q r = true then 6 else 0) := by
      show _ ∧ _ ∧ _
      unfold meetP meetN meetE
      exact ⟨if_neg (by simp [h0]), if_neg (by simp [h0]), if_neg (by simp [h0])⟩
    rw [h0]
    clear h0 hr ho
    obtain ⟨a1, a2, a3, p1, p2, p3, p4, p5, p6, c1, c2, f1, f2⟩ := F1.out
    have z2 := F1.out.lt
    have z1 : w.heap.size + 1 < W1.heap.size := by omega
    have z0 : w.heap.size < W1.heap.size := by omega
    obtain ⟨n, hn⟩ : ∃ n, n = g.rows.toNat * g.cols.toNat := ⟨_, rfl⟩
    have HNN := Lib.hid hn
    clear hn
    go_wp2_with fail
    go_region_held3 (fun w' => Sees W1 w') ((repeat (first | exact Sees.refl _ | assumption | apply Sees.drew | apply Sees.alloc | (refine Sees.ext ?_ (by assumption))))) (first | (go_at_call 51; have hIp0 := hIq; refine (Far_any2 g r ga gc n _ HNN.out HR.out HRR.out (HC.out.ext (E1.trans (by exact (show Sees W1 _ by assumption).2.2)))).mono ?_; rintro e w' ⟨fc, cc, rfl, hIr, hE2⟩; have hIp := hIp.ext hE2; have hIq := hIq.ext hE2) | (go_at_call 51; have hIp0 := hIp; refine (Far_any2 g q ga gc n _ HNN.out HR.out HQ.out (HC.out.ext (E1.trans (by exact (show Sees W1 _ by assumption).2.2)))).mono ?_; rintro e w' ⟨fb, cb, rfl, hIq, hE2⟩; have hIp := hIp.ext hE2) | (go_at_call 51; refine (Far_any2 g p ga gc n _ HNN.out HR.out HP.out (HC.out.ext (E1.trans (by exact (show Sees W1 _ by assumption).2.2)))).mono ?_; rintro e w' ⟨fa, ca, rfl, hIp, hE2⟩))
    have hS := (show Sees W1 _ by assumption).2.2
    have FX2 := Lib.hid (F1.out.ext hS)
    have E2 := E1.trans hS
    have HI0 := Lib.hid hIp
    have HI1 := Lib.hid hIq
    have HI2 := Lib.hid hIr
    clear a1 a2 a3 p1 p2 p3 p4 p5 p6 c1 c2 f1 f2 hS hIp hIq hIr F1 E1 z0 z1 z2
    generalize w' = W2 at FX2 E2 HI0 HI1 HI2 ⊢
    obtain ⟨a1, a2, a3, p1, p2, p3, p4, p5, p6, c1, c2, f1, f2⟩ := FX2.out
    go_wp2_with fail
    refine (atR_any2 g (dst g p) _ fa ca n q _ HNN.out HR.out HQ.out HI0.out).mono ?_
    rintro e W3 ⟨rfl, hE⟩
    have FX3 := Lib.hid (FX2.out.ext hE)
    have E3 := E2.trans hE
    have HI0 := Lib.hid (HI0.out.ext hE)
    have HI1 := Lib.hid (HI1.out.ext hE)
    have HI2 := Lib.hid (HI2.out.ext hE)
    clear a1 a2 a3 p1 p2 p3 p4 p5 p6 c1 c2 f1 f2 hE FX2 E2
    obtain ⟨a1, a2, a3, p1, p2, p3, p4, p5, p6, c1, c2, f1, f2⟩ := FX3.out
    cases hx0 : decide (dst g p q < 0)
    · have hx0' : ¬ dst g p q < 0 := by simpa using hx0
      go_wp2_with fail
      refine (atR_any2 g (dst g p) _ fa ca n r _ HNN.out HR.out HRR.out HI0.out).mono ?_
      rintro e W4 ⟨rfl, hE⟩
      have FX4 := Lib.hid (FX3.out.ext hE)
      have E4 := E3.trans hE
      have HI0 := Lib.hid (HI0.out.ext hE)
      have HI1 := Lib.hid (HI1.out.ext hE)
      have HI2 := Lib.hid (HI2.out.ext hE)
      clear a1 a2 a3 p1 p2 p3 p4 p5 p6 c1 c2 f1 f2 hE FX3 E3
      obtain ⟨a1, a2, a3, p1, p2, p3, p4, p5, p6, c1, c2, f1, f2⟩ := FX4.out
      cases hx1 : decide (dst g p r < 0)
      · have hx1' : ¬ dst g p r < 0 := by simpa using hx1
        have HB : Hid (meetBad g p q r = false) := by show _ = _; unfold meetBad; rw [hx0, hx1]; rfl
        have zx := FX4.out.lt
        have z0 : w.heap.size < W4.heap.size := by omega
        go_wp2_with fail
        have E5 : Ext W4 (W4.alloc (.cells #[.int .i64 0, .int .i64 0] 26)) := (Ext.refl _).alloc _
        obtain ⟨bat, hbat⟩ : ∃ b, b = W4.heap.size := ⟨_, rfl⟩
        have FX5 := Lib.hid (FX4.out.ext E5)
        have hpos : 0 < n := by
          rw [HNN.out]
          exact Nat.mul_pos (by have := HR.out.r1; omega) (by have := HR.out.c1; omega)
        have lt0 : Hid (∀ b off, fa = some ⟨b, off, none⟩ → b < bat) := fun b off h => by rw [hbat]; exact HI0.out.lt (by rw [tabL_len, ← HNN.out]; exact hpos) h
        have lt1 : Hid (∀ b off, fb = some ⟨b, off, none⟩ → b < bat) := fun b off h => by rw [hbat]; exact HI1.out.lt (by rw [tabL_len, ← HNN.out]; exact hpos) h
        have lt2 : Hid (∀ b off, fc = some ⟨b, off, none⟩ → b < bat) := fun b off h => by rw [hbat]; exact HI2.out.lt (by rw [tabL_len, ← HNN.out]; exact hpos) h
        have HI0 := Lib.hid (HI0.out.ext E5)
        have HI1 := Lib.hid (HI1.out.ext E5)
        have HI2 := Lib.hid (HI2.out.ext E5)
        have EV5 := E4.trans E5
        have b1 : (W4.alloc (.cells #[.int .i64 0, .int .i64 0] 26)).cell? ⟨bat, 0, none⟩ = some (.int .i64 0) := by rw [hbat]; clear hbat; go_simp
        have b2 : (W4.alloc (.cells #[.int .i64 0, .int .i64 0] 26)).cell? ⟨bat, 1, none⟩ = some (.int .i64 0) := by rw [hbat]; clear hbat; go_simp
        have b3 : (W4.alloc (.cells #[.int .i64 0, .int .i64 0] 26)).frozen? ⟨bat, 0, none⟩ = false := by rw [hbat]; clear hbat; go_simp
        have b4 : (W4.alloc (.cells #[.int .i64 0, .int .i64 0] 26)).frozen? ⟨bat, 1, none⟩ = false := by rw [hbat]; clear hbat; go_simp
        have zw : w.heap.size + 1 + 1 < bat := by rw [hbat]; exact FX4.out.lt
        have zbat : bat < (W4.alloc (.cells #[.int .i64 0, .int .i64 0] 26)).heap.size := by rw [hbat]; simp
        rw [← hbat]
        clear hbat a1 a2 a3 p1 p2 p3 p4 p5 p6 c1 c2 f1 f2 zx z0 FX4 E4 E5
        generalize W4.alloc (.cells #[.int .i64 0, .int .i64 0] 26) = V5 at FX5 HI0 HI1 HI2 EV5 b1 b2 b3 b4 zbat ⊢
        obtain ⟨mk, hmk⟩ : ∃ mk, mk = meetK g (dst g p) (dst g q) (dst g r) := ⟨_, rfl⟩
        have HMK0 : Hid (mk 0 = (-1, (0, 0))) := by rw [hmk]; rfl
        have HMKS : Hid (∀ k, mk (k + 1) = meetStep (dst g p) (dst g q) (dst g r) (mk k) (cellAt g k)) := by rw [hmk]; intro k; rfl
        have HMKB : Hid (∀ k, -3 ≤ (mk k).1 ∧ (mk k).1 ≤ 12288) := by
          rw [hmk]
          exact meetK_bd (fun x => ⟨(dst_bd HR.out HP.out x).1, (dst_bd HR.out HP.out x).2, (dst_bd HR.out HQ.out x).1, (dst_bd HR.out HQ.out x).2, (dst_bd HR.out HRR.out x).1, (dst_bd HR.out HRR.out x).2⟩)
        have HMKE : Hid (meetV g p q r = mk n) := by rw [hmk, HNN.out]; rfl
        have hn1 : n ≤ 4096 := by
          rw [HNN.out]; exact Nat.mul_le_mul (show g.rows.toNat ≤ 64 by have := HR.out.r2; omega) (show g.cols.toNat ≤ 64 by have := HR.out.c2; omega)
        clear hmk
        have hc1 := HR.out.c1
        have hc2 := HR.out.c2
        go_loopw [12, 13] (fun b i wr => ∃ k : Nat, k ≤ n ∧ i = .int .i64 k ∧ b = .int .i64 (mk k).1 ∧ Hid (Below bat V5 wr) ∧ wr.cell? ⟨bat, 0, none⟩ = some (.int .i64 (mk k).2.1) ∧ wr.cell? ⟨bat, 1, none⟩ = some (.int .i64 (mk k).2.2) ∧ wr.frozen? ⟨bat, 0, none⟩ = false ∧ wr.frozen? ⟨bat, 1, none⟩ = false) (fun _ i _ => n - (intOf i).toNat)
        case atStart =>
          refine ⟨0, Nat.zero_le _, rfl, ?_, Below.refl _ _, ?_, ?_, b3, b4⟩
          · rw [HMK0.out]
          · rw [HMK0.out]; exact b1
          · rw [HMK0.out]; exact b2
        case round =>
          clear b1 b2 b3 b4
          obtain ⟨k, hk, rfl, rfl, hB, b1, b2, b3, b4⟩ := hrel
          have hmb := HMKB.out k
          have FX := Lib.hid (FX5.out.below hB.out zw)
          have zwr : bat < wr.heap.size := Nat.lt_of_lt_of_le zbat hB.out.size
          obtain ⟨a1, a2, a3, p1, p2, p3, p4, p5, p6, c1, c2, f1, f2⟩ := FX.out
          by_cases hlt : k < n
          · have hlt' : (k : Int) < (n : Int) := by omega
            clear p1 p2 p3 p4 p5 p6 c1 c2 f1 f2
            have hkl : k < g.rows.toNat * g.cols.toNat := by rw [← HNN.out]; exact hlt
            obtain ⟨ba, oa, rfl, d0⟩ := HI0.out.below hB.out lt0.out k (by rw [tabL_len]; exact hkl)
            obtain ⟨bb, ob, rfl, d1⟩ := HI1.out.below hB.out lt1.out k (by rw [tabL_len]; exact hkl)
            obtain ⟨bc, oc, rfl, d2⟩ := HI2.out.below hB.out lt2.out k (by rw [tabL_len]; exact hkl)
            rw [tabL_get hkl] at d0 d1 d2
            have hst := HMKS.out k
            unfold meetStep at hst
            have hcl : Hid (cellAt g k = (((k / g.cols.toNat : Nat) : Int), ((k % g.cols.toNat : Nat) : Int))) := rfl
            obtain ⟨bd1, bd2⟩ := dst_bd HR.out HP.out (cellAt g k)
            obtain ⟨bd3, bd4⟩ := dst_bd HR.out HQ.out (cellAt g k)
            obtain ⟨bd5, bd6⟩ := dst_bd HR.out HRR.out (cellAt g k)
            generalize dst g p (cellAt g k) = A at d0 hst bd1 bd2
            generalize dst g q (cellAt g k) = B at d1 hst bd3 bd4
            generalize dst g r (cellAt g k) = C at d2 hst bd5 bd6
            have s2 : IntKind.i64.wrap (A + B) = A + B := IntWalk.i64_in _ (by omega)
            have s3 : IntKind.i64.wrap (A + B + C) = A + B + C := IntWalk.i64_in _ (by omega)
            have hEN : Hid (∀ N, Ext wr (wr.drewN N)) := fun N => (Ext.refl _).drewN _
            obtain ⟨x1, x2, x3, x4⟩ := quoF HR.out k
            have x5 : IntKind.i64.wrap ((k / g.cols.toNat : Nat) : Int) = ((k / g.cols.toNat : Nat) : Int) := by
              have h := Nat.div_le_self k g.cols.toNat
              generalize k / g.cols.toNat = y at h ⊢
              exact IntWalk.i64_in _ (by omega)
            have x6 : IntKind.i64.wrap ((k % g.cols.toNat : Nat) : Int) = ((k % g.cols.toNat : Nat) : Int) := by
              have h := Nat.mod_le k g.cols.toNat
              generalize k % g.cols.toNat = y at h ⊢
              exact IntWalk.i64_in _ (by omega)
            generalize k / g.cols.toNat = kd at x1 x3 x5 hcl
            generalize k % g.cols.toNat = km at x2 x4 x6 hcl
            have x7 : (g.cols == 0) = false := by simp; omega
            clear hkl
            go_wp2_with fail
            go_quiet (fail)
            have d0 := (hEN.out nq).cell d0
            have d1 := (hEN.out nq).cell d1
            have d2 := (hEN.out nq).cell d2
            have b1 := (hEN.out nq).cell b1
            have b2 := (hEN.out nq).cell b2
            have a2 := (hEN.out nq).cell a2
            have b3 := ((hEN.out nq).frozen (p := ⟨bat, 0, none⟩) zwr).trans b3
            have b4 := ((hEN.out nq).frozen (p := ⟨bat, 1, none⟩) zwr).trans b4
            have hB := Lib.hid (hB.out.trans ((hEN.out nq).mono (by omega)))
            clear hEN zwr
            generalize wr.drewN nq = w9 at d0 d1 d2 b1 b2 b3 b4 a2 hB ⊢
            by_cases hA : A < 0
            · have hA' : ¬ 0 ≤ A := by omega
              have hA2 : decide (0 ≤ A) = false := by simp; omega
              rw [if_pos hA] at hst
              have HST := Lib.hid hst
              clear hst
              go_wp2
              refine ⟨⟨k + 1, by omega, by go_num, ?_, hB.out, ?_, ?_, b3, b4⟩, by simp [intOf]; omega⟩
              · rw [HST.out]
              · rw [HST.out]; exact b1
              · rw [HST.out]; exact b2
            · rw [if_neg hA] at hst
              have hA' : 0 ≤ A := by omega
              have hA2 : decide (0 ≤ A) = true := by simp; omega
              have HST := Lib.hid hst
              clear hst
              cases h1 : decide ((mk k).1 < 0)
              · cases h2 : decide (A + B + C < (mk k).1)
                · have HST := Lib.hid (HST.out.trans (if_neg (by simp at h1 h2; omega)))
                  go_wp2
                  refine ⟨⟨k + 1, by omega, by go_num, ?_, hB.out, ?_, ?_, b3, b4⟩, by simp [intOf]; omega⟩
                  · rw [HST.out]
                  · rw [HST.out]; exact b1
                  · rw [HST.out]; exact b2
                · have HST := Lib.hid (HST.out.trans (if_pos (.inr (by simpa using h2))))
                  go_wp2_with fail
                  go_region
                  all_goals go_wp2
                  all_goals refine ⟨⟨k + 1, by omega, by go_num, ?_, ?_, ?_, ?_, by go_simp, by go_simp⟩, by simp [intOf]; omega⟩
                  all_goals first | exact (Below.setCell (p := ⟨bat, 1, none⟩) (Below.setCell (p := ⟨bat, 0, none⟩) hB.out (Nat.le_refl _) _) (Nat.le_refl _) _).drew | (rw [HST.out, hcl.out]; first | rfl | go_simp) | (rw [HST.out])
              · have HST := Lib.hid (HST.out.trans (if_pos (.inl (by simpa using h1))))
                go_wp2_with fail
                go_region
                all_goals go_wp2
                all_goals refine ⟨⟨k + 1, by omega, by go_num, ?_, ?_, ?_, ?_, by go_simp, by go_simp⟩, by simp [intOf]; omega⟩
                all_goals first | exact (Below.setCell (p := ⟨bat, 1, none⟩) (Below.setCell (p := ⟨bat, 0, none⟩) hB.out (Nat.le_refl _) _) (Nat.le_refl _) _).drew | (rw [HST.out, hcl.out]; first | rfl | go_simp) | (rw [HST.out])
          · have hlt' : ¬ (k : Int) < (n : Int) := by omega
            have hke : k = n := by omega
            go_wp2
            try simp only [Exit.inBlock, Exit.then]
            refine bodyPost_ret (v := .tuple #[.agg #[.int .i64 (mk n).2.1, .int .i64 (mk n).2.2], .int .i64 (mk n).1, .int .i64 0]) (by rw [results_cell_tmp2 rfl]; go_simp) rfl ⟨?_, ?_⟩
            · rw [HV.out.1, HV.out.2.1, HV.out.2.2, HB.out, HMKE.out]
              rfl
            · exact Below.setCell (p := ⟨_, 1, none⟩) (Below.setCell (p := ⟨_, 0, none⟩) (Below.trans EV5 (hB.out.mono (by omega))) (by show w.heap.size ≤ w.heap.size + 1 + 1; omega) _) (by show w.heap.size ≤ w.heap.size + 1 + 1; omega) _
      · have hx1' : dst g p r < 0 := by simpa using hx1
        have HB : Hid (meetBad g p q r = true) := by show _ = _; unfold meetBad; rw [hx0, hx1]; rfl
        go_wp2
        try simp only [Exit.inBlock, Exit.then]
        refine bodyPost_ret (v := .tuple #[.agg #[.int .i64 0, .int .i64 0], .int .i64 0, .int .i64 6]) (by rw [results_cell_tmp2 rfl]; go_simp) rfl ⟨?_, ?_⟩
        · rw [HV.out.1, HV.out.2.1, HV.out.2.2, if_pos HB.out, if_pos HB.out, if_pos HB.out]
        · exact Below.setCell (p := ⟨_, 1, none⟩) (Below.setCell (p := ⟨_, 0, none⟩) E4 (by show w.heap.size ≤ w.heap.size + 1 + 1; omega) _) (by show w.heap.size ≤ w.heap.size + 1 + 1; omega) _
    · have hx0' : dst g p q < 0 := by simpa using hx0
      have HB : Hid (meetBad g p q r = true) := by show _ = _; unfold meetBad; rw [hx0]; rfl
      go_wp2
      try simp only [Exit.inBlock, Exit.then]
      refine bodyPost_ret (v := .tuple #[.agg #[.int .i64 0, .int .i64 0], .int .i64 0, .int .i64 6]) (by rw [results_cell_tmp2 rfl]; go_simp) rfl ⟨?_, ?_⟩
      · rw [HV.out.1, HV.out.2.1, HV.out.2.2, if_pos HB.out, if_pos HB.out, if_pos HB.out]
      · exact Below.setCell (p := ⟨_, 1, none⟩) (Below.setCell (p := ⟨_, 0, none⟩) E3 (by show w.heap.size ≤ w.heap.size + 1 + 1; omega) _) (by show w.heap.size ≤ w.heap.size + 1 + 1; omega) _
  · have hv : Hid (meetP g p q r = (0, 0) ∧ meetN g p q r = 0 ∧ meetE g p q r = givenErr g [p, q, r]) := by
      show _ ∧ _ ∧ _
      unfold meetP meetN meetE
      exact ⟨if_pos h0, if_pos h0, if_pos h0⟩
    have hb : (givenErr g [p, q, r] != 0) = true := by simp [h0]
    have hb2 : (givenErr g [p, q, r] == 0) = false := by simp [h0]
    clear h0
    obtain ⟨a1, a2, a3, p1, p2, p3, p4, p5, p6, c1, c2, f1, f2⟩ := F1.out
    go_wp2
    try simp only [Exit.inBlock, Exit.then]
    refine bodyPost_ret (v := .tuple #[.agg #[.int .i64 0, .int .i64 0], .int .i64 0, .int .i64 (givenErr g [p, q, r])]) (by rw [results_cell_tmp2 rfl]; go_simp) rfl ⟨?_, ?_⟩
    · rw [hv.out.1, hv.out.2.1, hv.out.2.2]
    · exact Below.setCell (p := ⟨_, 1, none⟩) (Below.setCell (p := ⟨_, 0, none⟩) E1 (by show w.heap.size ≤ w.heap.size + 1 + 1; omega) _) (by show w.heap.size ≤ w.heap.size + 1 + 1; omega) _
end Go.Proofs.Ytfigooilhnahfaa
