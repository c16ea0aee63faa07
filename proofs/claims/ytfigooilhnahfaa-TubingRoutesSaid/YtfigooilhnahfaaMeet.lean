/- Meet. -/
import Derived.Test.YtfigooilhnahfaaLawFn
import Derived.Test.YtfigooilhnahfaaWayS
namespace Go.Proofs.Ytfigooilhnahfaa
open Go.RowKit

/-- the k-th cell, row by row -/
def cellAt (g : Gr) (k : Nat) : Pt := (((k / g.cols.toNat : Nat) : Int), ((k % g.cols.toNat : Nat) : Int))
def meetStep (A B C : Pt → Int) (s : Int × Pt) (p : Pt) : Int × Pt :=
  if A p < 0 then s else if s.1 < 0 ∨ A p + B p + C p < s.1 then (A p + B p + C p, p) else s
/-- the best place among the first k cells -/
def meetK (g : Gr) (A B C : Pt → Int) : Nat → Int × Pt
  | 0 => (-1, (0, 0))
  | k + 1 => meetStep A B C (meetK g A B C k) (cellAt g k)
def meetV (g : Gr) (p q r : Pt) : Int × Pt := meetK g (dst g p) (dst g q) (dst g r) (g.rows.toNat * g.cols.toNat)
def meetBad (g : Gr) (p q r : Pt) : Bool := decide (dst g p q < 0) || decide (dst g p r < 0)
def meetN (g : Gr) (p q r : Pt) : Int := if givenErr g [p, q, r] ≠ 0 then 0 else if meetBad g p q r = true then 0 else (meetV g p q r).1
def meetP (g : Gr) (p q r : Pt) : Pt := if givenErr g [p, q, r] ≠ 0 then (0, 0) else if meetBad g p q r = true then (0, 0) else (meetV g p q r).2
def meetE (g : Gr) (p q r : Pt) : Int := if givenErr g [p, q, r] ≠ 0 then givenErr g [p, q, r] else if meetBad g p q r = true then 6 else 0

theorem cells2_three {w : World} {b : Nat} {p q r : Pt} (h1 : w.cell? ⟨b, 0, none⟩ = some (.int .i64 p.1)) (h2 : w.cell? ⟨b, 1, none⟩ = some (.int .i64 p.2)) (h3 : w.cell? ⟨b, 2, none⟩ = some (.int .i64 q.1)) (h4 : w.cell? ⟨b, 3, none⟩ = some (.int .i64 q.2)) (h5 : w.cell? ⟨b, 4, none⟩ = some (.int .i64 r.1)) (h6 : w.cell? ⟨b, 5, none⟩ = some (.int .i64 r.2)) :
    Cells2 w (some ⟨b, 0, none⟩) [p, q, r] := fun i hi => by
  have : i = 0 ∨ i = 1 ∨ i = 2 := by simp at hi; omega
  rcases this with rfl | rfl | rfl
  · exact ⟨b, 0, rfl, by simpa [pt] using h1, by simpa [pt] using h2⟩
  · exact ⟨b, 0, rfl, by simpa [pt] using h3, by simpa [pt] using h4⟩
  · exact ⟨b, 0, rfl, by simpa [pt] using h5, by simpa [pt] using h6⟩

/-- what stands fixed while Meet runs -/
structure MtFix (g : Gr) (p q r : Pt) (ga : Option Addr) (gc n : Nat) (W : World) : Prop where
  a1 : W.cell? ⟨n, 0, none⟩ = some (.int .i64 g.rows)
  a2 : W.cell? ⟨n, 1, none⟩ = some (.int .i64 g.cols)
  a3 : W.cell? ⟨n, 2, none⟩ = some (.slice ga g.bl.length gc)
  p1 : W.cell? ⟨n + 1, 0, none⟩ = some (.int .i64 p.1)
  p2 : W.cell? ⟨n + 1, 1, none⟩ = some (.int .i64 p.2)
  p3 : W.cell? ⟨n + 1, 2, none⟩ = some (.int .i64 q.1)
  p4 : W.cell? ⟨n + 1, 3, none⟩ = some (.int .i64 q.2)
  p5 : W.cell? ⟨n + 1, 4, none⟩ = some (.int .i64 r.1)
  p6 : W.cell? ⟨n + 1, 5, none⟩ = some (.int .i64 r.2)
  c1 : W.cell? ⟨n + 1 + 1, 0, none⟩ = some (.int .i64 0)
  c2 : W.cell? ⟨n + 1 + 1, 1, none⟩ = some (.int .i64 0)
  f1 : W.frozen? ⟨n + 1 + 1, 0, none⟩ = false
  f2 : W.frozen? ⟨n + 1 + 1, 1, none⟩ = false
theorem MtFix.below {g : Gr} {p q r : Pt} {ga : Option Addr} {gc n m : Nat} {A B : World} (h : MtFix g p q r ga gc n A) (k : Below m A B) (hm : n + 1 + 1 < m) : MtFix g p q r ga gc n B :=
  ⟨(k.cell (p := ⟨n, 0, none⟩) (by show n < m; omega)).trans h.a1, (k.cell (p := ⟨n, 1, none⟩) (by show n < m; omega)).trans h.a2, (k.cell (p := ⟨n, 2, none⟩) (by show n < m; omega)).trans h.a3,
   (k.cell (p := ⟨n + 1, 0, none⟩) (by show n + 1 < m; omega)).trans h.p1, (k.cell (p := ⟨n + 1, 1, none⟩) (by show n + 1 < m; omega)).trans h.p2, (k.cell (p := ⟨n + 1, 2, none⟩) (by show n + 1 < m; omega)).trans h.p3,
   (k.cell (p := ⟨n + 1, 3, none⟩) (by show n + 1 < m; omega)).trans h.p4, (k.cell (p := ⟨n + 1, 4, none⟩) (by show n + 1 < m; omega)).trans h.p5, (k.cell (p := ⟨n + 1, 5, none⟩) (by show n + 1 < m; omega)).trans h.p6,
   (k.cell (p := ⟨n + 1 + 1, 0, none⟩) hm).trans h.c1, (k.cell (p := ⟨n + 1 + 1, 1, none⟩) hm).trans h.c2, (k.frozen (p := ⟨n + 1 + 1, 0, none⟩) hm).trans h.f1, (k.frozen (p := ⟨n + 1 + 1, 1, none⟩) hm).trans h.f2⟩
theorem MtFix.lt {g : Gr} {p q r : Pt} {ga : Option Addr} {gc n : Nat} {A : World} (h : MtFix g p q r ga gc n A) : n + 1 + 1 < A.heap.size := cell_lt h.c1
theorem MtFix.ext {g : Gr} {p q r : Pt} {ga : Option Addr} {gc n : Nat} {A B : World} (h : MtFix g p q r ga gc n A) (k : Ext A B) : MtFix g p q r ga gc n B := h.below k h.lt
/-- the three tables, and where they are named -/
structure MtFar (fb : Nat) (k : Nat) (t0 t1 t2 : Value) (W : World) : Prop where
  c0 : W.cell? ⟨fb, 0, none⟩ = some t0
  c1 : W.cell? ⟨fb, 1, none⟩ = some t1
  c2 : W.cell? ⟨fb, 2, none⟩ = some t2
  f0 : W.frozen? ⟨fb, 0, none⟩ = false
  f1 : W.frozen? ⟨fb, 1, none⟩ = false
  f2 : W.frozen? ⟨fb, 2, none⟩ = false
theorem MtFar.below {fb k m : Nat} {t0 t1 t2 : Value} {A B : World} (h : MtFar fb k t0 t1 t2 A) (x : Below m A B) (hm : fb < m) : MtFar fb k t0 t1 t2 B :=
  ⟨(x.cell (p := ⟨fb, 0, none⟩) hm).trans h.c0, (x.cell (p := ⟨fb, 1, none⟩) hm).trans h.c1, (x.cell (p := ⟨fb, 2, none⟩) hm).trans h.c2, (x.frozen (p := ⟨fb, 0, none⟩) hm).trans h.f0, (x.frozen (p := ⟨fb, 1, none⟩) hm).trans h.f1, (x.frozen (p := ⟨fb, 2, none⟩) hm).trans h.f2⟩
theorem MtFar.lt {fb k : Nat} {t0 t1 t2 : Value} {A : World} (h : MtFar fb k t0 t1 t2 A) : fb < A.heap.size := cell_lt h.c0
theorem MtFar.ext {fb k : Nat} {t0 t1 t2 : Value} {A B : World} (h : MtFar fb k t0 t1 t2 A) (x : Ext A B) : MtFar fb k t0 t1 t2 B := h.below x h.lt

theorem TabAt.ne {W : World} {fb tb : Nat} {D : Pt → Int} {x : Option Addr} (c : W.cell? ⟨fb, 0, none⟩ = some (.pointer x)) (h : TabAt W tb D) : fb ≠ tb := fun e => by
  have := (h (0, 0) ⟨by decide, by decide, by decide, by decide⟩).1
  subst e
  simp only [Int.toNat_zero, Nat.zero_mul, Nat.add_zero] at this
  rw [c] at this
  cases this
theorem TabAt.store {W : World} {tb : Nat} {D : Pt → Int} (h : TabAt W tb D) (p : Addr) (v : Value) (hne : p.block ≠ tb) : TabAt (W.setCell p v) tb D := fun q hq =>
  ⟨(World.cell?_setCell_other _ _ _ _ (fun e => hne (by rw [e]))).trans (h q hq).1, by rw [World.frozen?_setCell]; exact (h q hq).2⟩

theorem cellAt_mk {g : Gr} {i c : Nat} (hc : c < g.cols.toNat) : cellAt g (i * g.cols.toNat + c) = ((i : Int), (c : Int)) := by
  unfold cellAt
  have h0 : 0 < g.cols.toNat := by omega
  rw [Nat.mul_comm i, Nat.mul_add_div h0, Nat.mul_add_mod, Nat.div_eq_of_lt hc, Nat.mod_eq_of_lt hc, Nat.add_zero]
theorem dst_bd {g : Gr} (hr : Right g) {p : Pt} (hp : inside g p = true) (q : Pt) : -1 ≤ dst g p q ∧ dst g p q ≤ 4096 := by
  rcases dst_cases hr hp q with ⟨k, h, e⟩ | ⟨_, e⟩
  · have := IsD.lt hr hp h
    omega
  · omega
theorem meetK_bd {g : Gr} {A B C : Pt → Int} (h : ∀ x, -1 ≤ A x ∧ A x ≤ 4096 ∧ -1 ≤ B x ∧ B x ≤ 4096 ∧ -1 ≤ C x ∧ C x ≤ 4096) : ∀ k, -3 ≤ (meetK g A B C k).1 ∧ (meetK g A B C k).1 ≤ 12288 := by
  intro k
  induction k with
  | zero => simp [meetK]
  | succ k ih =>
    unfold meetK meetStep
    have := h (cellAt g k)
    split
    · exact ih
    · split
      · dsimp only; omega
      · exact ih

abbrev V3 (p q r : Pt) : Value := .agg #[.int .i64 p.1, .int .i64 p.2, .int .i64 q.1, .int .i64 q.2, .int .i64 r.1, .int .i64 r.2]

set_option maxHeartbeats 4000000 in
set_option maxRecDepth 100000 in
theorem Meet_any (g : Gr) (p q r : Pt) (ga : Option Addr) (gc : Nat) (w : World) (hg : g.bl.length ≤ maxLen) (hc : Cells2 w ga g.bl) :
    Calls Try.prog 14 #[.agg #[.int .i64 g.rows, .int .i64 g.cols, .slice ga g.bl.length gc], .agg #[.int .i64 p.1, .int .i64 p.2, .int .i64 q.1, .int .i64 q.2, .int .i64 r.1, .int .i64 r.2]] w fun e w' =>
      e = .returned (.tuple #[.agg #[.int .i64 (meetP g p q r).1, .int .i64 (meetP g p q r).2], .int .i64 (meetN g p q r), .int .i64 (meetE g p q r)]) ∧ Ext w w' := by
  have HC : Hid (Cells2 w ga g.bl) := hc
  have HG := Lib.hid hg
  clear hc hg
  obtain ⟨W0, hW0⟩ : ∃ W0, ((((w).alloc (.cells #[.int .i64 g.rows, .int .i64 g.cols, .slice ga g.bl.length gc] 33))).alloc (.cells #[.int .i64 p.1, .int .i64 p.2, .int .i64 q.1, .int .i64 q.2, .int .i64 r.1, .int .i64 r.2] 27)).alloc (.cells #[.int .i64 0, .int .i64 0] 26) = W0 := ⟨_, rfl⟩
  have E0 : Ext w W0 := by rw [← hW0]; exact (((Ext.refl _).alloc _).alloc _).alloc _
  have F0 : Hid (MtFix g p q r ga gc w.heap.size W0) := by
    rw [← hW0]; clear hW0
    exact ⟨by go_simp, by go_simp, by go_simp, by go_simp, by go_simp, by go_simp, by go_simp, by go_simp, by go_simp, by go_simp, by go_simp, by go_simp, by go_simp⟩
  obtain ⟨a1, a2, a3, p1, p2, p3, p4, p5, p6, c1, c2, f1, f2⟩ := F0.out
  have H3 : Hid (Cells2 W0 (some ⟨w.heap.size + 1, 0, none⟩) [p, q, r]) := cells2_three p1 p2 p3 p4 p5 p6
  go_enter Try.func14, Try.ntmps14
  go_wp2_with fail
  clear hW0
  have y1 := cell_lt a1; have y2 := cell_lt p1
  dsimp only at y1 y2
  go_region_held3 (fun w' => Sees W0 w') ((repeat (first | exact Sees.refl _ | assumption | apply Sees.drew | apply Sees.alloc | (refine Sees.ext ?_ (by assumption))))) (first | (go_at_call 48; refine (given_any g [p, q, r] ga gc _ _ _ HG.out (HC.out.ext (E0.trans (by exact (show Sees W0 _ by assumption).2.2))) (by simp [maxLen]) (H3.out.ext (by exact (show Sees W0 _ by assumption).2.2))).mono ?_; rintro e w' ⟨rfl, hE2⟩))
  have hS := (show Sees W0 _ by assumption).2.2
  have F1 : Hid (MtFix g p q r ga gc w.heap.size w') := F0.out.ext hS
  have E1 := E0.trans hS
  clear y1 y2 a1 a2 a3 p1 p2 p3 p4 p5 p6 c1 c2 f1 f2 H3 F0 E0 hS
  generalize w' = W1 at F1 E1 ⊢
  by_cases h0 : givenErr g [p, q, r] = 0
  · obtain ⟨hr, ho⟩ := given_ok h0
    have HR := Lib.hid hr
    have HP : Hid (inside g p = true) := opn_inside (ho p (by simp))
    have HQ : Hid (inside g q = true) := opn_inside (ho q (by simp))
    have HRR : Hid (inside g r = true) := opn_inside (ho r (by simp))
    have HV : Hid (meetP g p q r = (if meetBad g p q r = true then (0, 0) else (meetV g p q r).2) ∧ meetN g p q r = (if meetBad g p q r = true then 0 else (meetV g p q r).1) ∧ meetE g p q r = if meetBad g p q r = true then 6 else 0) := by
      show _ ∧ _ ∧ _
      unfold meetP meetN meetE
      exact ⟨if_neg (by simp [h0]), if_neg (by simp [h0]), if_neg (by simp [h0])⟩
    rw [h0]
    clear h0 hr ho
    obtain ⟨a1, a2, a3, p1, p2, p3, p4, p5, p6, c1, c2, f1, f2⟩ := F1.out
    have z2 := F1.out.lt
    have z1 : w.heap.size + 1 < W1.heap.size := by omega
    have z0 : w.heap.size < W1.heap.size := by omega
    have i0 : ∀ w, (Instr.index 27 (.agg #[.int .i64 p.1, .int .i64 p.2, .int .i64 q.1, .int .i64 q.2, .int .i64 r.1, .int .i64 r.2]) (.int .i64 0)).run Try.prog w = .ok (.agg #[.int .i64 p.1, .int .i64 p.2]) w := fun _ => by kernel_rfl
    have i1 : ∀ w, (Instr.index 27 (.agg #[.int .i64 p.1, .int .i64 p.2, .int .i64 q.1, .int .i64 q.2, .int .i64 r.1, .int .i64 r.2]) (.int .i64 1)).run Try.prog w = .ok (.agg #[.int .i64 q.1, .int .i64 q.2]) w := fun _ => by kernel_rfl
    have i2 : ∀ w, (Instr.index 27 (.agg #[.int .i64 p.1, .int .i64 p.2, .int .i64 q.1, .int .i64 q.2, .int .i64 r.1, .int .i64 r.2]) (.int .i64 2)).run Try.prog w = .ok (.agg #[.int .i64 r.1, .int .i64 r.2]) w := fun _ => by kernel_rfl
    go_wp2
    obtain ⟨fb, hfb⟩ : ∃ fb, fb = W1.heap.size := ⟨_, rfl⟩
    have E2 : Ext W1 (W1.alloc (.cells #[.pointer none, .pointer none, .pointer none] 87)) := (Ext.refl _).alloc _
    have FR0 : Hid (MtFar fb 0 (.pointer none) (.pointer none) (.pointer none) (W1.alloc (.cells #[.pointer none, .pointer none, .pointer none] 87))) := by
      rw [hfb]; clear hfb
      exact ⟨by go_simp, by go_simp, by go_simp, by go_simp, by go_simp, by go_simp⟩
    have FX0 := Lib.hid (F1.out.ext E2)
    have EV0 : Ext w (W1.alloc (.cells #[.pointer none, .pointer none, .pointer none] 87)) := E1.trans E2
    have zfb : w.heap.size + 1 + 1 < fb := by omega
    have B0 : Hid (Below fb W1 (W1.alloc (.cells #[.pointer none, .pointer none, .pointer none] 87))) := E2.mono (by omega)
    rw [← hfb]
    clear hfb a1 a2 a3 p1 p2 p3 p4 p5 p6 c1 c2 f1 f2 z0 z1 z2
    generalize (W1.alloc (.cells #[.pointer none, .pointer none, .pointer none] 87)) = V0 at FR0 FX0 EV0 E2 B0 ⊢
    refine wp_loop_rounds 4 ?_
    -- round 0
    rw [rounds_succ]
    obtain ⟨a1, a2, a3, p1, p2, p3, p4, p5, p6, c1, c2, f1, f2⟩ := FX0.out
    have z2 := FX0.out.lt
    have z1 : w.heap.size + 1 < V0.heap.size := by omega
    have z0 : w.heap.size < V0.heap.size := by omega
    go_wp2_with fail
    refine (distances_any g p ga gc _ HR.out HP.out (HC.out.ext (EV0.alloc _))).mono ?_
    rintro e w' ⟨t0, rfl, hT0, hE⟩
    have HT0 := Lib.hid hT0
    have G : Ext V0 w' := ((Ext.refl _).alloc _).trans hE
    have FX := Lib.hid (FX0.out.ext G)
    have FR := Lib.hid (FR0.out.ext G)
    have hB := Lib.hid (B0.out.trans (G.mono (show fb ≤ V0.heap.size from Nat.le_of_lt FR0.out.lt)))
    obtain ⟨y0, y1, y2, y3, y4, y5⟩ := FR.out
    have hx := Lib.hid (TabAt.ne y0 HT0.out)
    have EV := EV0.trans G
    clear hT0 hE a1 a2 a3 p1 p2 p3 p4 p5 p6 c1 c2 f1 f2 z0 z1 z2 FX0 FR0 EV0 G B0
    obtain ⟨a1, a2, a3, p1, p2, p3, p4, p5, p6, c1, c2, f1, f2⟩ := FX.out
    have z2 := FX.out.lt
    have z1 : w.heap.size + 1 < w'.heap.size := by omega
    have z0 : w.heap.size < w'.heap.size := by omega
    go_wp2_with fail
    have FX1 : Hid (MtFix g p q r ga gc w.heap.size (w'.setCell ⟨fb, 0, none⟩ (.pointer (some ⟨t0, 0, none⟩)))) := FX.out.below (Below.setCell (p := ⟨fb, 0, none⟩) (Below.refl fb _) (Nat.le_refl _) _) zfb
    have FR1 : Hid (MtFar fb 0 (.pointer (some ⟨t0, 0, none⟩)) (.pointer none) (.pointer none) (w'.setCell ⟨fb, 0, none⟩ (.pointer (some ⟨t0, 0, none⟩)))) := ⟨by go_simp, by go_simp, by go_simp, by go_simp, by go_simp, by go_simp⟩
    have HT0 := Lib.hid (HT0.out.store ⟨fb, 0, none⟩ (.pointer (some ⟨t0, 0, none⟩)) hx.out)
    have EV1 : Ext w (w'.setCell ⟨fb, 0, none⟩ (.pointer (some ⟨t0, 0, none⟩))) := Below.setCell (p := ⟨fb, 0, none⟩) EV (by show w.heap.size ≤ fb; omega) _
    have B1 : Hid (Below fb W1 (w'.setCell ⟨fb, 0, none⟩ (.pointer (some ⟨t0, 0, none⟩)))) := Below.setCell (p := ⟨fb, 0, none⟩) hB.out (Nat.le_refl _) _
    clear a1 a2 a3 p1 p2 p3 p4 p5 p6 c1 c2 f1 f2 z0 z1 z2 FX FR EV hB y0 y1 y2 y3 y4 y5 hx
    generalize (w'.setCell ⟨fb, 0, none⟩ (.pointer (some ⟨t0, 0, none⟩))) = V1 at FX1 FR1 EV1 B1 HT0 ⊢
    -- round 1
    rw [rounds_succ]
    obtain ⟨a1, a2, a3, p1, p2, p3, p4, p5, p6, c1, c2, f1, f2⟩ := FX1.out
    have z2 := FX1.out.lt
    have z1 : w.heap.size + 1 < V1.heap.size := by omega
    have z0 : w.heap.size < V1.heap.size := by omega
    go_wp2_with fail
    refine (distances_any g q ga gc _ HR.out HQ.out (HC.out.ext (EV1.alloc _))).mono ?_
    rintro e w' ⟨t1, rfl, hT1, hE⟩
    have HT1 := Lib.hid hT1
    have G : Ext V1 w' := ((Ext.refl _).alloc _).trans hE
    have FX := Lib.hid (FX1.out.ext G)
    have FR := Lib.hid (FR1.out.ext G)
    have hB := Lib.hid (B1.out.trans (G.mono (show fb ≤ V1.heap.size from Nat.le_of_lt FR1.out.lt)))
    obtain ⟨y0, y1, y2, y3, y4, y5⟩ := FR.out
    have hx := Lib.hid (TabAt.ne y0 HT1.out)
    have HT0 := Lib.hid (HT0.out.ext G)
    have hx0 := Lib.hid (TabAt.ne y0 HT0.out)
    have EV := EV1.trans G
    clear hT1 hE a1 a2 a3 p1 p2 p3 p4 p5 p6 c1 c2 f1 f2 z0 z1 z2 FX1 FR1 EV1 G B1
    obtain ⟨a1, a2, a3, p1, p2, p3, p4, p5, p6, c1, c2, f1, f2⟩ := FX.out
    have z2 := FX.out.lt
    have z1 : w.heap.size + 1 < w'.heap.size := by omega
    have z0 : w.heap.size < w'.heap.size := by omega
    go_wp2_with fail
    have FX2 : Hid (MtFix g p q r ga gc w.heap.size (w'.setCell ⟨fb, 1, none⟩ (.pointer (some ⟨t1, 0, none⟩)))) := FX.out.below (Below.setCell (p := ⟨fb, 1, none⟩) (Below.refl fb _) (Nat.le_refl _) _) zfb
    have FR2 : Hid (MtFar fb 0 (.pointer (some ⟨t0, 0, none⟩)) (.pointer (some ⟨t1, 0, none⟩)) (.pointer none) (w'.setCell ⟨fb, 1, none⟩ (.pointer (some ⟨t1, 0, none⟩)))) := ⟨by go_simp, by go_simp, by go_simp, by go_simp, by go_simp, by go_simp⟩
    have HT1 := Lib.hid (HT1.out.store ⟨fb, 1, none⟩ (.pointer (some ⟨t1, 0, none⟩)) hx.out)
    have HT0 := Lib.hid (HT0.out.store ⟨fb, 1, none⟩ (.pointer (some ⟨t1, 0, none⟩)) hx0.out)
    have EV2 : Ext w (w'.setCell ⟨fb, 1, none⟩ (.pointer (some ⟨t1, 0, none⟩))) := Below.setCell (p := ⟨fb, 1, none⟩) EV (by show w.heap.size ≤ fb; omega) _
    have B2 : Hid (Below fb W1 (w'.setCell ⟨fb, 1, none⟩ (.pointer (some ⟨t1, 0, none⟩)))) := Below.setCell (p := ⟨fb, 1, none⟩) hB.out (Nat.le_refl _) _
    clear a1 a2 a3 p1 p2 p3 p4 p5 p6 c1 c2 f1 f2 z0 z1 z2 FX FR EV hB y0 y1 y2 y3 y4 y5 hx
    generalize (w'.setCell ⟨fb, 1, none⟩ (.pointer (some ⟨t1, 0, none⟩))) = V2 at FX2 FR2 EV2 B2 HT0 HT1 ⊢
    -- round 2
    rw [rounds_succ]
    obtain ⟨a1, a2, a3, p1, p2, p3, p4, p5, p6, c1, c2, f1, f2⟩ := FX2.out
    have z2 := FX2.out.lt
    have z1 : w.heap.size + 1 < V2.heap.size := by omega
    have z0 : w.heap.size < V2.heap.size := by omega
    go_wp2_with fail
    refine (distances_any g r ga gc _ HR.out HRR.out (HC.out.ext (EV2.alloc _))).mono ?_
    rintro e w' ⟨t2, rfl, hT2, hE⟩
    have HT2 := Lib.hid hT2
    have G : Ext V2 w' := ((Ext.refl _).alloc _).trans hE
    have FX := Lib.hid (FX2.out.ext G)
    have FR := Lib.hid (FR2.out.ext G)
    have hB := Lib.hid (B2.out.trans (G.mono (show fb ≤ V2.heap.size from Nat.le_of_lt FR2.out.lt)))
    obtain ⟨y0, y1, y2, y3, y4, y5⟩ := FR.out
    have hx := Lib.hid (TabAt.ne y0 HT2.out)
    have HT0 := Lib.hid (HT0.out.ext G)
    have hx0 := Lib.hid (TabAt.ne y0 HT0.out)
    have HT1 := Lib.hid (HT1.out.ext G)
    have hx1 := Lib.hid (TabAt.ne y0 HT1.out)
    have EV := EV2.trans G
    clear hT2 hE a1 a2 a3 p1 p2 p3 p4 p5 p6 c1 c2 f1 f2 z0 z1 z2 FX2 FR2 EV2 G B2
    obtain ⟨a1, a2, a3, p1, p2, p3, p4, p5, p6, c1, c2, f1, f2⟩ := FX.out
    have z2 := FX.out.lt
    have z1 : w.heap.size + 1 < w'.heap.size := by omega
    have z0 : w.heap.size < w'.heap.size := by omega
    go_wp2_with fail
    have FX3 : Hid (MtFix g p q r ga gc w.heap.size (w'.setCell ⟨fb, 2, none⟩ (.pointer (some ⟨t2, 0, none⟩)))) := FX.out.below (Below.setCell (p := ⟨fb, 2, none⟩) (Below.refl fb _) (Nat.le_refl _) _) zfb
    have FR3 : Hid (MtFar fb 0 (.pointer (some ⟨t0, 0, none⟩)) (.pointer (some ⟨t1, 0, none⟩)) (.pointer (some ⟨t2, 0, none⟩)) (w'.setCell ⟨fb, 2, none⟩ (.pointer (some ⟨t2, 0, none⟩)))) := ⟨by go_simp, by go_simp, by go_simp, by go_simp, by go_simp, by go_simp⟩
    have HT2 := Lib.hid (HT2.out.store ⟨fb, 2, none⟩ (.pointer (some ⟨t2, 0, none⟩)) hx.out)
    have HT0 := Lib.hid (HT0.out.store ⟨fb, 2, none⟩ (.pointer (some ⟨t2, 0, none⟩)) hx0.out)
    have HT1 := Lib.hid (HT1.out.store ⟨fb, 2, none⟩ (.pointer (some ⟨t2, 0, none⟩)) hx1.out)
    have EV3 : Ext w (w'.setCell ⟨fb, 2, none⟩ (.pointer (some ⟨t2, 0, none⟩))) := Below.setCell (p := ⟨fb, 2, none⟩) EV (by show w.heap.size ≤ fb; omega) _
    have B3 : Hid (Below fb W1 (w'.setCell ⟨fb, 2, none⟩ (.pointer (some ⟨t2, 0, none⟩)))) := Below.setCell (p := ⟨fb, 2, none⟩) hB.out (Nat.le_refl _) _
    clear a1 a2 a3 p1 p2 p3 p4 p5 p6 c1 c2 f1 f2 z0 z1 z2 FX FR EV hB y0 y1 y2 y3 y4 y5 hx
    generalize (w'.setCell ⟨fb, 2, none⟩ (.pointer (some ⟨t2, 0, none⟩))) = V3 at FX3 FR3 EV3 B3 HT0 HT1 HT2 ⊢
    rw [rounds_succ]
    go_wp2_with fail
    obtain ⟨a1, a2, a3, p1, p2, p3, p4, p5, p6, c1, c2, f1, f2⟩ := FX3.out
    obtain ⟨y0, y1, y2, y3, y4, y5⟩ := FR3.out
    obtain ⟨rq1, rq2, rq3, rq4⟩ := inG_of HR.out HQ.out
    obtain ⟨rr1, rr2, rr3, rr4⟩ := inG_of HR.out HRR.out
    have cq := (HT0.out q ⟨rq1, rq2, rq3, rq4⟩).1
    have cr := (HT0.out r ⟨rr1, rr2, rr3, rr4⟩).1
    cases hx0 : decide (dst g p q < 0)
    · cases hx1 : decide (dst g p r < 0)
      · have HB : Hid (meetBad g p q r = false) := by show _ = _; unfold meetBad; rw [hx0, hx1]; rfl
        go_quiet (fail)
        have EN : Ext V3 (V3.drewN nq) := (Ext.refl _).drewN _
        have FX4 := Lib.hid (FX3.out.ext EN)
        have FR4 := Lib.hid (FR3.out.ext EN)
        have HT0 := Lib.hid (HT0.out.ext EN)
        have HT1 := Lib.hid (HT1.out.ext EN)
        have HT2 := Lib.hid (HT2.out.ext EN)
        have EV4 := EV3.trans EN
        clear a1 a2 a3 p1 p2 p3 p4 p5 p6 c1 c2 f1 f2 y0 y1 y2 y3 y4 y5 rq1 rq2 rq3 rq4 rr1 rr2 rr3 rr4 cq cr FX3 FR3 EV3 EN B3
        generalize V3.drewN nq = V4 at FX4 FR4 HT0 HT1 HT2 EV4 ⊢
        obtain ⟨a1, a2, a3, p1, p2, p3, p4, p5, p6, c1, c2, f1, f2⟩ := FX4.out
        have zx := FX4.out.lt
        have z0 : w.heap.size < V4.heap.size := by omega
        go_wp2_with fail
        have E5 : Ext V4 (V4.alloc (.cells #[.int .i64 0, .int .i64 0] 26)) := (Ext.refl _).alloc _
        obtain ⟨bat, hbat⟩ : ∃ b, b = V4.heap.size := ⟨_, rfl⟩
        have FX5 := Lib.hid (FX4.out.ext E5)
        have FR5 := Lib.hid (FR4.out.ext E5)
        have HT0' := Lib.hid (HT0.out.ext E5)
        have HT1' := Lib.hid (HT1.out.ext E5)
        have HT2' := Lib.hid (HT2.out.ext E5)
        have EV5 := EV4.trans E5
        have b1 : (V4.alloc (.cells #[.int .i64 0, .int .i64 0] 26)).cell? ⟨bat, 0, none⟩ = some (.int .i64 0) := by rw [hbat]; clear hbat; go_simp
        have b2 : (V4.alloc (.cells #[.int .i64 0, .int .i64 0] 26)).cell? ⟨bat, 1, none⟩ = some (.int .i64 0) := by rw [hbat]; clear hbat; go_simp
        have b3 : (V4.alloc (.cells #[.int .i64 0, .int .i64 0] 26)).frozen? ⟨bat, 0, none⟩ = false := by rw [hbat]; clear hbat; go_simp
        have b4 : (V4.alloc (.cells #[.int .i64 0, .int .i64 0] 26)).frozen? ⟨bat, 1, none⟩ = false := by rw [hbat]; clear hbat; go_simp
        have zw : w.heap.size + 1 + 1 < bat := by rw [hbat]; exact FX4.out.lt
        have zf : fb < bat := by rw [hbat]; exact FR4.out.lt
        have zt0 : t0 < bat := by rw [hbat]; exact HT0.out.lt
        have zt1 : t1 < bat := by rw [hbat]; exact HT1.out.lt
        have zt2 : t2 < bat := by rw [hbat]; exact HT2.out.lt
        rw [← hbat]
        clear hbat a1 a2 a3 p1 p2 p3 p4 p5 p6 c1 c2 f1 f2 zx z0 FX4 FR4 HT0 HT1 HT2 EV4 E5
        generalize V4.alloc (.cells #[.int .i64 0, .int .i64 0] 26) = V5 at FX5 FR5 HT0' HT1' HT2' EV5 b1 b2 b3 b4 ⊢
        obtain ⟨mk, hmk⟩ : ∃ mk, mk = meetK g (dst g p) (dst g q) (dst g r) := ⟨_, rfl⟩
        have HMK0 : Hid (mk 0 = (-1, (0, 0))) := by rw [hmk]; rfl
        have HMKS : Hid (∀ k, mk (k + 1) = meetStep (dst g p) (dst g q) (dst g r) (mk k) (cellAt g k)) := by rw [hmk]; intro k; rfl
        have HMKB : Hid (∀ k, -3 ≤ (mk k).1 ∧ (mk k).1 ≤ 12288) := by
          rw [hmk]
          exact meetK_bd (fun x => ⟨(dst_bd HR.out HP.out x).1, (dst_bd HR.out HP.out x).2, (dst_bd HR.out HQ.out x).1, (dst_bd HR.out HQ.out x).2, (dst_bd HR.out HRR.out x).1, (dst_bd HR.out HRR.out x).2⟩)
        have HMKE : Hid (meetV g p q r = mk (g.rows.toNat * g.cols.toNat)) := by rw [hmk]; rfl
        clear hmk
        have hr1 := HR.out.r1
        have hr2 := HR.out.r2
        have hc1 := HR.out.c1
        have hc2 := HR.out.c2
        have j0 : ∀ w, (Instr.index 87 (.agg #[.pointer (some ⟨t0, 0, none⟩), .pointer (some ⟨t1, 0, none⟩), .pointer (some ⟨t2, 0, none⟩)]) (.int .i64 0)).run Try.prog w = .ok (.pointer (some ⟨t0, 0, none⟩)) w := fun _ => by kernel_rfl
        have j1 : ∀ w, (Instr.index 87 (.agg #[.pointer (some ⟨t0, 0, none⟩), .pointer (some ⟨t1, 0, none⟩), .pointer (some ⟨t2, 0, none⟩)]) (.int .i64 1)).run Try.prog w = .ok (.pointer (some ⟨t1, 0, none⟩)) w := fun _ => by kernel_rfl
        have j2 : ∀ w, (Instr.index 87 (.agg #[.pointer (some ⟨t0, 0, none⟩), .pointer (some ⟨t1, 0, none⟩), .pointer (some ⟨t2, 0, none⟩)]) (.int .i64 2)).run Try.prog w = .ok (.pointer (some ⟨t2, 0, none⟩)) w := fun _ => by kernel_rfl
        go_loopw [11, 68] (fun b i wr => ∃ k : Nat, k ≤ g.rows.toNat ∧ i = .int .i64 k ∧ b = .int .i64 (mk (k * g.cols.toNat)).1 ∧ Hid (Below bat V5 wr) ∧ wr.cell? ⟨bat, 0, none⟩ = some (.int .i64 (mk (k * g.cols.toNat)).2.1) ∧ wr.cell? ⟨bat, 1, none⟩ = some (.int .i64 (mk (k * g.cols.toNat)).2.2) ∧ wr.frozen? ⟨bat, 0, none⟩ = false ∧ wr.frozen? ⟨bat, 1, none⟩ = false) (fun _ i _ => g.rows.toNat - (intOf i).toNat)
        case atStart =>
          refine ⟨0, Nat.zero_le _, rfl, ?_, Below.refl _ _, ?_, ?_, b3, b4⟩
          · rw [Nat.zero_mul, HMK0.out]
          · rw [Nat.zero_mul, HMK0.out]; exact b1
          · rw [Nat.zero_mul, HMK0.out]; exact b2
        case round =>
          clear b1 b2 b3 b4
          obtain ⟨k, hk, rfl, rfl, hB, b1, b2, b3, b4⟩ := hrel
          have hmb := HMKB.out (k * g.cols.toNat)
          have FX := Lib.hid (FX5.out.below hB.out zw)
          obtain ⟨a1, a2, a3, p1, p2, p3, p4, p5, p6, c1, c2, f1, f2⟩ := FX.out
          by_cases hlt : k < g.rows.toNat
          · have hlt' : (k : Int) < g.rows := by omega
            go_wp2_with fail
            clear a1 a2 a3 p1 p2 p3 p4 p5 p6 c1 c2 f1 f2
            go_loopw [11, 73] (fun b i wr => ∃ c : Nat, c ≤ g.cols.toNat ∧ i = .int .i64 c ∧ b = .int .i64 (mk (k * g.cols.toNat + c)).1 ∧ Hid (Below bat V5 wr) ∧ wr.cell? ⟨bat, 0, none⟩ = some (.int .i64 (mk (k * g.cols.toNat + c)).2.1) ∧ wr.cell? ⟨bat, 1, none⟩ = some (.int .i64 (mk (k * g.cols.toNat + c)).2.2) ∧ wr.frozen? ⟨bat, 0, none⟩ = false ∧ wr.frozen? ⟨bat, 1, none⟩ = false) (fun _ i _ => g.cols.toNat - (intOf i).toNat)
            case atStart =>
              exact ⟨0, Nat.zero_le _, rfl, rfl, hB, b1, b2, b3, b4⟩
            case round =>
              clear b1 b2 b3 b4 hB FX hmb
              obtain ⟨c, hc, rfl, rfl, hB, b1, b2, b3, b4⟩ := hrel
              have hmb := HMKB.out (k * g.cols.toNat + c)
              by_cases hlc : c < g.cols.toNat
              · have hlc' : (c : Int) < g.cols := by omega
                have FR := Lib.hid (FR5.out.below hB.out zf)
                obtain ⟨y0, y1, y2, y3, y4, y5⟩ := FR.out
                have ig : InG ((k : Int), (c : Int)) := ⟨by show (0 : Int) ≤ k; omega, by show (k : Int) < 64; omega, by show (0 : Int) ≤ c; omega, by show (c : Int) < 64; omega⟩
                have d0 := ((HT0'.out.below hB.out zt0) _ ig).1
                have d1 := ((HT1'.out.below hB.out zt1) _ ig).1
                have d2 := ((HT2'.out.below hB.out zt2) _ ig).1
                simp only [Int.toNat_natCast] at d0 d1 d2
                have hst := HMKS.out (k * g.cols.toNat + c)
                rw [cellAt_mk hlc] at hst
                unfold meetStep at hst
                obtain ⟨bd1, bd2⟩ := dst_bd HR.out HP.out ((k : Int), (c : Int))
                obtain ⟨bd3, bd4⟩ := dst_bd HR.out HQ.out ((k : Int), (c : Int))
                obtain ⟨bd5, bd6⟩ := dst_bd HR.out HRR.out ((k : Int), (c : Int))
                generalize dst g p ((k : Int), (c : Int)) = A at d0 hst bd1 bd2
                generalize dst g q ((k : Int), (c : Int)) = B at d1 hst bd3 bd4
                generalize dst g r ((k : Int), (c : Int)) = C at d2 hst bd5 bd6
                have k64 : (k : Int) < 64 := by omega
                have c64 : (c : Int) < 64 := by omega
                by_cases hA : A < 0
                · rw [if_pos hA] at hst
                  have HST := Lib.hid hst
                  clear hst
                  go_wp2
                  refine ⟨⟨c + 1, by omega, by go_num, ?_, hB, ?_, ?_, b3, b4⟩, by simp [intOf]; omega⟩
                  · rw [← Nat.add_assoc, HST.out]
                  · rw [← Nat.add_assoc, HST.out]; exact b1
                  · rw [← Nat.add_assoc, HST.out]; exact b2
                · rw [if_neg hA] at hst
                  have HST := Lib.hid hst
                  clear hst
                  have s1 : IntKind.i64.wrap A = A := IntWalk.i64_in _ (by omega)
                  have s2 : IntKind.i64.wrap (A + B) = A + B := IntWalk.i64_in _ (by omega)
                  have s3 : IntKind.i64.wrap (A + B + C) = A + B + C := IntWalk.i64_in _ (by omega)
                  have hnA : ¬ A < 0 := hA
                  cases h1 : decide ((mk (k * g.cols.toNat + c)).1 < 0)
                  · cases h2 : decide (A + B + C < (mk (k * g.cols.toNat + c)).1)
                    · have HST := Lib.hid (HST.out.trans (if_neg (by simp at h1 h2; omega)))
                      go_wp2
                      refine wp_loop_rounds 4 ?_
                      repeat any_goals (rw [rounds_succ]; go_wp2)
                      refine ⟨⟨c + 1, by omega, by go_num, ?_, hB, ?_, ?_, b3, b4⟩, by simp [intOf]; omega⟩
                      · rw [← Nat.add_assoc, HST.out]
                      · rw [← Nat.add_assoc, HST.out]; exact b1
                      · rw [← Nat.add_assoc, HST.out]; exact b2
                    · have HST := Lib.hid (HST.out.trans (if_pos (.inr (by simpa using h2))))
                      go_wp2
                      refine wp_loop_rounds 4 ?_
                      repeat any_goals (rw [rounds_succ]; go_wp2)
                      refine ⟨⟨c + 1, by omega, by go_num, ?_, Below.setCell (p := ⟨bat, 1, none⟩) (Below.setCell (p := ⟨bat, 0, none⟩) hB.out (Nat.le_refl _) _) (Nat.le_refl _) _, ?_, ?_, by go_simp, by go_simp⟩, by simp [intOf]; omega⟩
                      · rw [← Nat.add_assoc, HST.out]
                      · rw [← Nat.add_assoc, HST.out]; go_simp
                      · rw [← Nat.add_assoc, HST.out]; go_simp
                  · have HST := Lib.hid (HST.out.trans (if_pos (.inl (by simpa using h1))))
                    go_wp2
                    refine wp_loop_rounds 4 ?_
                    repeat any_goals (rw [rounds_succ]; go_wp2)
                    refine ⟨⟨c + 1, by omega, by go_num, ?_, Below.setCell (p := ⟨bat, 1, none⟩) (Below.setCell (p := ⟨bat, 0, none⟩) hB.out (Nat.le_refl _) _) (Nat.le_refl _) _, ?_, ?_, by go_simp, by go_simp⟩, by simp [intOf]; omega⟩
                    · rw [← Nat.add_assoc, HST.out]
                    · rw [← Nat.add_assoc, HST.out]; go_simp
                    · rw [← Nat.add_assoc, HST.out]; go_simp
              · have hlc' : ¬ (c : Int) < g.cols := by omega
                have HCE : Hid (k * g.cols.toNat + c = (k + 1) * g.cols.toNat) := by
                  show _ = _
                  rw [Nat.add_mul, Nat.one_mul, show c = g.cols.toNat by omega]
                go_wp2
                refine ⟨⟨k + 1, by omega, by go_num, ?_, hB, ?_, ?_, b3, b4⟩, by simp [intOf]; omega⟩
                · rw [← HCE.out]
                · rw [← HCE.out]; exact b1
                · rw [← HCE.out]; exact b2
          · have hlt' : ¬ (k : Int) < g.rows := by omega
            have hke : k = g.rows.toNat := by omega
            go_wp2
            try simp only [Exit.inBlock, Exit.then]
            refine bodyPost_ret (v := .tuple #[.agg #[.int .i64 (mk (g.rows.toNat * g.cols.toNat)).2.1, .int .i64 (mk (g.rows.toNat * g.cols.toNat)).2.2], .int .i64 (mk (g.rows.toNat * g.cols.toNat)).1, .int .i64 0]) (by rw [results_cell_tmp2 rfl]; go_simp) rfl ⟨?_, ?_⟩
            · rw [HV.out.1, HV.out.2.1, HV.out.2.2, HB.out, HMKE.out]
              rfl
            · exact Below.setCell (p := ⟨_, 1, none⟩) (Below.setCell (p := ⟨_, 0, none⟩) (Below.trans EV5 (hB.out.mono (by omega))) (by show w.heap.size ≤ w.heap.size + 1 + 1; omega) _) (by show w.heap.size ≤ w.heap.size + 1 + 1; omega) _
      · have HB : Hid (meetBad g p q r = true) := by show _ = _; unfold meetBad; rw [hx0, hx1]; rfl
        go_quiet (fail)
        go_wp2
        try simp only [Exit.inBlock, Exit.then]
        refine bodyPost_ret (v := .tuple #[.agg #[.int .i64 0, .int .i64 0], .int .i64 0, .int .i64 6]) (by rw [results_cell_tmp2 rfl]; go_simp) rfl ⟨?_, ?_⟩
        · rw [HV.out.1, HV.out.2.1, HV.out.2.2, if_pos HB.out, if_pos HB.out, if_pos HB.out]
        · exact Below.setCell (p := ⟨_, 1, none⟩) (Below.setCell (p := ⟨_, 0, none⟩) (EV3.drewN _) (by show w.heap.size ≤ w.heap.size + 1 + 1; omega) _) (by show w.heap.size ≤ w.heap.size + 1 + 1; omega) _
    · have HB : Hid (meetBad g p q r = true) := by show _ = _; unfold meetBad; rw [hx0]; rfl
      go_quiet (fail)
      go_wp2
      try simp only [Exit.inBlock, Exit.then]
      refine bodyPost_ret (v := .tuple #[.agg #[.int .i64 0, .int .i64 0], .int .i64 0, .int .i64 6]) (by rw [results_cell_tmp2 rfl]; go_simp) rfl ⟨?_, ?_⟩
      · rw [HV.out.1, HV.out.2.1, HV.out.2.2, if_pos HB.out, if_pos HB.out, if_pos HB.out]
      · exact Below.setCell (p := ⟨_, 1, none⟩) (Below.setCell (p := ⟨_, 0, none⟩) (EV3.drewN _) (by show w.heap.size ≤ w.heap.size + 1 + 1; omega) _) (by show w.heap.size ≤ w.heap.size + 1 + 1; omega) _
  · have hv : Hid (meetP g p q r = (0, 0) ∧ meetN g p q r = 0 ∧ meetE g p q r = givenErr g [p, q, r]) := by
      show _ ∧ _ ∧ _
      unfold meetP meetN meetE
      exact ⟨if_pos h0, if_pos h0, if_pos h0⟩
    have hb : (givenErr g [p, q, r] != 0) = true := by simp [h0]
    have hb2 : (givenErr g [p, q, r] == 0) = false := by simp [h0]
    clear h0
    obtain ⟨a1, a2, a3, p1, p2, p3, p4, p5, p6, c1, c2, f1, f2⟩ := F1.out
    go_wp2
    try simp only [Exit.inBlock, Exit.then]
    refine bodyPost_ret (v := .tuple #[.agg #[.int .i64 0, .int .i64 0], .int .i64 0, .int .i64 (givenErr g [p, q, r])]) (by rw [results_cell_tmp2 rfl]; go_simp) rfl ⟨?_, ?_⟩
    · rw [hv.out.1, hv.out.2.1, hv.out.2.2]
    · exact Below.setCell (p := ⟨_, 1, none⟩) (Below.setCell (p := ⟨_, 0, none⟩) E1 (by show w.heap.size ≤ w.heap.size + 1 + 1; omega) _) (by show w.heap.size ≤ w.heap.size + 1 + 1; omega) _
end Go.Proofs.Ytfigooilhnahfaa
