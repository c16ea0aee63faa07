/- Steps of the proof: Meet, PartS, Metric, FarS, PartI, RouteR, Route, RouteA, Away, MapS. No conditions. -/
import Derived.Maps.Own
import Derived.Maps.OwnIn
import Derived.Maps.OwnSet
import Derived.Maps.Views
import Derived.DeepKeys4
import Derived.Test.YtfigooilhnahfaaZOpens1
import Derived.Test.YtfigooilhnahfaaZOpens2
/- Meet. -/
namespace Go.Proofs.Ytfigooilhnahfaa
open Go.RowKit

/-- the k-th cell, row by row -/
def cellAt (g : Gr) (k : Nat) : Pt := (((k / g.cols.toNat : Nat) : Int), ((k % g.cols.toNat : Nat) : Int))
def meetStep (A B C : Pt → Int) (s : Int × Pt) (p : Pt) : Int × Pt :=
  if A p < 0 then s else if s.1 < 0 ∨ A p + B p + C p < s.1 then (A p + B p + C p, p) else s
/-- the best place among the first k cells -/
def meetK (g : Gr) (A B C : Pt → Int) : Nat → Int × Pt
  | 0 => (-1, (0, 0))
  | k + 1 => meetStep A B C (meetK g A B C k) (cellAt g k)
def meetV (g : Gr) (p q r : Pt) : Int × Pt := meetK g (dst g p) (dst g q) (dst g r) (g.rows.toNat * g.cols.toNat)
def meetBad (g : Gr) (p q r : Pt) : Bool := decide (dst g p q < 0) || decide (dst g p r < 0)
def meetN (g : Gr) (p q r : Pt) : Int := if givenErr g [p, q, r] ≠ 0 then 0 else if meetBad g p q r = true then 0 else (meetV g p q r).1
def meetP (g : Gr) (p q r : Pt) : Pt := if givenErr g [p, q, r] ≠ 0 then (0, 0) else if meetBad g p q r = true then (0, 0) else (meetV g p q r).2
def meetE (g : Gr) (p q r : Pt) : Int := if givenErr g [p, q, r] ≠ 0 then givenErr g [p, q, r] else if meetBad g p q r = true then 6 else 0

theorem cells2_three {w : World} {b : Nat} {p q r : Pt} (h1 : w.cell? ⟨b, 0, none⟩ = some (.int .i64 p.1)) (h2 : w.cell? ⟨b, 1, none⟩ = some (.int .i64 p.2)) (h3 : w.cell? ⟨b, 2, none⟩ = some (.int .i64 q.1)) (h4 : w.cell? ⟨b, 3, none⟩ = some (.int .i64 q.2)) (h5 : w.cell? ⟨b, 4, none⟩ = some (.int .i64 r.1)) (h6 : w.cell? ⟨b, 5, none⟩ = some (.int .i64 r.2)) :
    Cells2 w (some ⟨b, 0, none⟩) [p, q, r] := fun i hi => by
  have : i = 0 ∨ i = 1 ∨ i = 2 := by simp at hi; omega
  rcases this with rfl | rfl | rfl
  · exact ⟨b, 0, rfl, by simpa [pt] using h1, by simpa [pt] using h2⟩
  · exact ⟨b, 0, rfl, by simpa [pt] using h3, by simpa [pt] using h4⟩
  · exact ⟨b, 0, rfl, by simpa [pt] using h5, by simpa [pt] using h6⟩

/-- what stands fixed while Meet runs -/
structure MtFix (g : Gr) (p q r : Pt) (ga : Option Addr) (gc n : Nat) (W : World) : Prop where
  a1 : W.cell? ⟨n, 0, none⟩ = some (.int .i64 g.rows)
  a2 : W.cell? ⟨n, 1, none⟩ = some (.int .i64 g.cols)
  a3 : W.cell? ⟨n, 2, none⟩ = some (.slice ga g.bl.length gc)
  p1 : W.cell? ⟨n + 1, 0, none⟩ = some (.int .i64 p.1)
  p2 : W.cell? ⟨n + 1, 1, none⟩ = some (.int .i64 p.2)
  p3 : W.cell? ⟨n + 1, 2, none⟩ = some (.int .i64 q.1)
  p4 : W.cell? ⟨n + 1, 3, none⟩ = some (.int .i64 q.2)
  p5 : W.cell? ⟨n + 1, 4, none⟩ = some (.int .i64 r.1)
  p6 : W.cell? ⟨n + 1, 5, none⟩ = some (.int .i64 r.2)
  c1 : W.cell? ⟨n + 1 + 1, 0, none⟩ = some (.int .i64 0)
  c2 : W.cell? ⟨n + 1 + 1, 1, none⟩ = some (.int .i64 0)
  f1 : W.frozen? ⟨n + 1 + 1, 0, none⟩ = false
  f2 : W.frozen? ⟨n + 1 + 1, 1, none⟩ = false
theorem MtFix.below {g : Gr} {p q r : Pt} {ga : Option Addr} {gc n m : Nat} {A B : World} (h : MtFix g p q r ga gc n A) (k : Below m A B) (hm : n + 1 + 1 < m) : MtFix g p q r ga gc n B :=
  ⟨(k.cell (p := ⟨n, 0, none⟩) (by show n < m; omega)).trans h.a1, (k.cell (p := ⟨n, 1, none⟩) (by show n < m; omega)).trans h.a2, (k.cell (p := ⟨n, 2, none⟩) (by show n < m; omega)).trans h.a3,
   (k.cell (p := ⟨n + 1, 0, none⟩) (by show n + 1 < m; omega)).trans h.p1, (k.cell (p := ⟨n + 1, 1, none⟩) (by show n + 1 < m; omega)).trans h.p2, (k.cell (p := ⟨n + 1, 2, none⟩) (by show n + 1 < m; omega)).trans h.p3,
   (k.cell (p := ⟨n + 1, 3, none⟩) (by show n + 1 < m; omega)).trans h.p4, (k.cell (p := ⟨n + 1, 4, none⟩) (by show n + 1 < m; omega)).trans h.p5, (k.cell (p := ⟨n + 1, 5, none⟩) (by show n + 1 < m; omega)).trans h.p6,
   (k.cell (p := ⟨n + 1 + 1, 0, none⟩) hm).trans h.c1, (k.cell (p := ⟨n + 1 + 1, 1, none⟩) hm).trans h.c2, (k.frozen (p := ⟨n + 1 + 1, 0, none⟩) hm).trans h.f1, (k.frozen (p := ⟨n + 1 + 1, 1, none⟩) hm).trans h.f2⟩
theorem MtFix.lt {g : Gr} {p q r : Pt} {ga : Option Addr} {gc n : Nat} {A : World} (h : MtFix g p q r ga gc n A) : n + 1 + 1 < A.heap.size := cell_lt h.c1
theorem MtFix.ext {g : Gr} {p q r : Pt} {ga : Option Addr} {gc n : Nat} {A B : World} (h : MtFix g p q r ga gc n A) (k : Ext A B) : MtFix g p q r ga gc n B := h.below k h.lt
/-- the three tables, and where they are named -/
structure MtFar (fb : Nat) (k : Nat) (t0 t1 t2 : Value) (W : World) : Prop where
  c0 : W.cell? ⟨fb, 0, none⟩ = some t0
  c1 : W.cell? ⟨fb, 1, none⟩ = some t1
  c2 : W.cell? ⟨fb, 2, none⟩ = some t2
  f0 : W.frozen? ⟨fb, 0, none⟩ = false
  f1 : W.frozen? ⟨fb, 1, none⟩ = false
  f2 : W.frozen? ⟨fb, 2, none⟩ = false
theorem MtFar.below {fb k m : Nat} {t0 t1 t2 : Value} {A B : World} (h : MtFar fb k t0 t1 t2 A) (x : Below m A B) (hm : fb < m) : MtFar fb k t0 t1 t2 B :=
  ⟨(x.cell (p := ⟨fb, 0, none⟩) hm).trans h.c0, (x.cell (p := ⟨fb, 1, none⟩) hm).trans h.c1, (x.cell (p := ⟨fb, 2, none⟩) hm).trans h.c2, (x.frozen (p := ⟨fb, 0, none⟩) hm).trans h.f0, (x.frozen (p := ⟨fb, 1, none⟩) hm).trans h.f1, (x.frozen (p := ⟨fb, 2, none⟩) hm).trans h.f2⟩
theorem MtFar.lt {fb k : Nat} {t0 t1 t2 : Value} {A : World} (h : MtFar fb k t0 t1 t2 A) : fb < A.heap.size := cell_lt h.c0
theorem MtFar.ext {fb k : Nat} {t0 t1 t2 : Value} {A B : World} (h : MtFar fb k t0 t1 t2 A) (x : Ext A B) : MtFar fb k t0 t1 t2 B := h.below x h.lt

theorem TabAt.ne {W : World} {fb tb : Nat} {D : Pt → Int} {x : Option Addr} (c : W.cell? ⟨fb, 0, none⟩ = some (.pointer x)) (h : TabAt W tb D) : fb ≠ tb := fun e => by
  have := (h (0, 0) ⟨by decide, by decide, by decide, by decide⟩).1
  subst e
  simp only [Int.toNat_zero, Nat.zero_mul, Nat.add_zero] at this
  rw [c] at this
  cases this
theorem TabAt.store {W : World} {tb : Nat} {D : Pt → Int} (h : TabAt W tb D) (p : Addr) (v : Value) (hne : p.block ≠ tb) : TabAt (W.setCell p v) tb D := fun q hq =>
  ⟨(World.cell?_setCell_other _ _ _ _ (fun e => hne (by rw [e]))).trans (h q hq).1, by rw [World.frozen?_setCell]; exact (h q hq).2⟩

theorem cellAt_mk {g : Gr} {i c : Nat} (hc : c < g.cols.toNat) : cellAt g (i * g.cols.toNat + c) = ((i : Int), (c : Int)) := by
  unfold cellAt
  have h0 : 0 < g.cols.toNat := by omega
  rw [Nat.mul_comm i, Nat.mul_add_div h0, Nat.mul_add_mod, Nat.div_eq_of_lt hc, Nat.mod_eq_of_lt hc, Nat.add_zero]
theorem dst_bd {g : Gr} (hr : Right g) {p : Pt} (hp : inside g p = true) (q : Pt) : -1 ≤ dst g p q ∧ dst g p q ≤ 4096 := by
  rcases dst_cases hr hp q with ⟨k, h, e⟩ | ⟨_, e⟩
  · have := IsD.lt hr hp h
    omega
  · omega
theorem meetK_bd {g : Gr} {A B C : Pt → Int} (h : ∀ x, -1 ≤ A x ∧ A x ≤ 4096 ∧ -1 ≤ B x ∧ B x ≤ 4096 ∧ -1 ≤ C x ∧ C x ≤ 4096) : ∀ k, -3 ≤ (meetK g A B C k).1 ∧ (meetK g A B C k).1 ≤ 12288 := by
  intro k
  induction k with
  | zero => simp [meetK]
  | succ k ih =>
    unfold meetK meetStep
    have := h (cellAt g k)
    split
    · exact ih
    · split
      · dsimp only; omega
      · exact ih

abbrev V3 (p q r : Pt) : Value := .agg #[.int .i64 p.1, .int .i64 p.2, .int .i64 q.1, .int .i64 q.2, .int .i64 r.1, .int .i64 r.2]

set_option maxHeartbeats 4000000 in
set_option maxRecDepth 100000 in
theorem Meet_any (g : Gr) (p q r : Pt) (ga : Option Addr) (gc : Nat) (w : World) (hg : g.bl.length ≤ maxLen) (hc : Cells2 w ga g.bl) :
    Calls Try.prog 14 #[.agg #[.int .i64 g.rows, .int .i64 g.cols, .slice ga g.bl.length gc], .agg #[.int .i64 p.1, .int .i64 p.2, .int .i64 q.1, .int .i64 q.2, .int .i64 r.1, .int .i64 r.2]] w fun e w' =>
      e = .returned (.tuple #[.agg #[.int .i64 (meetP g p q r).1, .int .i64 (meetP g p q r).2], .int .i64 (meetN g p q r), .int .i64 (meetE g p q r)]) ∧ Ext w w' := by
  have HC : Hid (Cells2 w ga g.bl) := hc
  have HG := Lib.hid hg
  clear hc hg
  obtain ⟨W0, hW0⟩ : ∃ W0, ((((w).alloc (.cells #[.int .i64 g.rows, .int .i64 g.cols, .slice ga g.bl.length gc] 33))).alloc (.cells #[.int .i64 p.1, .int .i64 p.2, .int .i64 q.1, .int .i64 q.2, .int .i64 r.1, .int .i64 r.2] 27)).alloc (.cells #[.int .i64 0, .int .i64 0] 26) = W0 := ⟨_, rfl⟩
  have E0 : Ext w W0 := by rw [← hW0]; exact (((Ext.refl _).alloc _).alloc _).alloc _
  have F0 : Hid (MtFix g p q r ga gc w.heap.size W0) := by
    rw [← hW0]; clear hW0
    exact ⟨by go_simp, by go_simp, by go_simp, by go_simp, by go_simp, by go_simp, by go_simp, by go_simp, by go_simp, by go_simp, by go_simp, by go_simp, by go_simp⟩
  obtain ⟨a1, a2, a3, p1, p2, p3, p4, p5, p6, c1, c2, f1, f2⟩ := F0.out
  have H3 : Hid (Cells2 W0 (some ⟨w.heap.size + 1, 0, none⟩) [p, q, r]) := cells2_three p1 p2 p3 p4 p5 p6
  go_enter Try.func14, Try.ntmps14
  go_wp2_with fail
  clear hW0
  have y1 := cell_lt a1; have y2 := cell_lt p1
  dsimp only at y1 y2
  go_region_held3 (fun w' => Sees W0 w') ((repeat (first | exact Sees.refl _ | assumption | apply Sees.drew | apply Sees.alloc | (refine Sees.ext ?_ (by assumption))))) (first | (go_at_call 48; refine (given_any g [p, q, r] ga gc _ _ _ HG.out (HC.out.ext (E0.trans (by exact (show Sees W0 _ by assumption).2.2))) (by simp [maxLen]) (H3.out.ext (by exact (show Sees W0 _ by assumption).2.2))).mono ?_; rintro e w' ⟨rfl, hE2⟩))
  have hS := (show Sees W0 _ by assumption).2.2
  have F1 : Hid (MtFix g p q r ga gc w.heap.size w') := F0.out.ext hS
  have E1 := E0.trans hS
  clear y1 y2 a1 a2 a3 p1 p2 p3 p4 p5 p6 c1 c2 f1 f2 H3 F0 E0 hS
  generalize w' = W1 at F1 E1 ⊢
  by_cases h0 : givenErr g [p, q, r] = 0
  · obtain ⟨hr, ho⟩ := given_ok h0
    have HR := Lib.hid hr
    have HP : Hid (inside g p = true) := opn_inside (ho p (by simp))
    have HQ : Hid (inside g q = true) := opn_inside (ho q (by simp))
    have HRR : Hid (inside g r = true) := opn_inside (ho r (by simp))
    have HV : Hid (meetP g p q r = (if meetBad g p q r = true then (0, 0) else (meetV g p q r).2) ∧ meetN g p q r = (if meetBad g p q r = true then 0 else (meetV g p q r).1) ∧ meetE g p q r = if meetBad g p q r = true then 6 else 0) := by
      show _ ∧ _ ∧ _
      unfold meetP meetN meetE
      exact ⟨if_neg (by simp [h0]), if_neg (by simp [h0]), if_neg (by simp [h0])⟩
    rw [h0]
    clear h0 hr ho
    obtain ⟨a1, a2, a3, p1, p2, p3, p4, p5, p6, c1, c2, f1, f2⟩ := F1.out
    have z2 := F1.out.lt
    have z1 : w.heap.size + 1 < W1.heap.size := by omega
    have z0 : w.heap.size < W1.heap.size := by omega
    have i0 : ∀ w, (Instr.index 27 (.agg #[.int .i64 p.1, .int .i64 p.2, .int .i64 q.1, .int .i64 q.2, .int .i64 r.1, .int .i64 r.2]) (.int .i64 0)).run Try.prog w = .ok (.agg #[.int .i64 p.1, .int .i64 p.2]) w := fun _ => by kernel_rfl
    have i1 : ∀ w, (Instr.index 27 (.agg #[.int .i64 p.1, .int .i64 p.2, .int .i64 q.1, .int .i64 q.2, .int .i64 r.1, .int .i64 r.2]) (.int .i64 1)).run Try.prog w = .ok (.agg #[.int .i64 q.1, .int .i64 q.2]) w := fun _ => by kernel_rfl
    have i2 : ∀ w, (Instr.index 27 (.agg #[.int .i64 p.1, .int .i64 p.2, .int .i64 q.1, .int .i64 q.2, .int .i64 r.1, .int .i64 r.2]) (.int .i64 2)).run Try.prog w = .ok (.agg #[.int .i64 r.1, .int .i64 r.2]) w := fun _ => by kernel_rfl
    go_wp2
    obtain ⟨fb, hfb⟩ : ∃ fb, fb = W1.heap.size := ⟨_, rfl⟩
    have E2 : Ext W1 (W1.alloc (.cells #[.pointer none, .pointer none, .pointer none] 87)) := (Ext.refl _).alloc _
    have FR0 : Hid (MtFar fb 0 (.pointer none) (.pointer none) (.pointer none) (W1.alloc (.cells #[.pointer none, .pointer none, .pointer none] 87))) := by
      rw [hfb]; clear hfb
      exact ⟨by go_simp, by go_simp, by go_simp, by go_simp, by go_simp, by go_simp⟩
    have FX0 := Lib.hid (F1.out.ext E2)
    have EV0 : Ext w (W1.alloc (.cells #[.pointer none, .pointer none, .pointer none] 87)) := E1.trans E2
    have zfb : w.heap.size + 1 + 1 < fb := by omega
    have B0 : Hid (Below fb W1 (W1.alloc (.cells #[.pointer none, .pointer none, .pointer none] 87))) := E2.mono (by omega)
    rw [← hfb]
    clear hfb a1 a2 a3 p1 p2 p3 p4 p5 p6 c1 c2 f1 f2 z0 z1 z2
    generalize (W1.alloc (.cells #[.pointer none, .pointer none, .pointer none] 87)) = V0 at FR0 FX0 EV0 E2 B0 ⊢
    refine wp_loop_rounds 4 ?_
    -- round 0
    rw [rounds_succ]
    obtain ⟨a1, a2, a3, p1, p2, p3, p4, p5, p6, c1, c2, f1, f2⟩ := FX0.out
    have z2 := FX0.out.lt
    have z1 : w.heap.size + 1 < V0.heap.size := by omega
    have z0 : w.heap.size < V0.heap.size := by omega
    go_wp2_with fail
    refine (distances_any g p ga gc _ HR.out HP.out (HC.out.ext (EV0.alloc _))).mono ?_
    rintro e w' ⟨t0, rfl, hT0, hE⟩
    have HT0 := Lib.hid hT0
    have G : Ext V0 w' := ((Ext.refl _).alloc _).trans hE
    have FX := Lib.hid (FX0.out.ext G)
    have FR := Lib.hid (FR0.out.ext G)
    have hB := Lib.hid (B0.out.trans (G.mono (show fb ≤ V0.heap.size from Nat.le_of_lt FR0.out.lt)))
    obtain ⟨y0, y1, y2, y3, y4, y5⟩ := FR.out
    have hx := Lib.hid (TabAt.ne y0 HT0.out)
    have EV := EV0.trans G
    clear hT0 hE a1 a2 a3 p1 p2 p3 p4 p5 p6 c1 c2 f1 f2 z0 z1 z2 FX0 FR0 EV0 G B0
    obtain ⟨a1, a2, a3, p1, p2, p3, p4, p5, p6, c1, c2, f1, f2⟩ := FX.out
    have z2 := FX.out.lt
    have z1 : w.heap.size + 1 < w'.heap.size := by omega
    have z0 : w.heap.size < w'.heap.size := by omega
    go_wp2_with fail
    have FX1 : Hid (MtFix g p q r ga gc w.heap.size (w'.setCell ⟨fb, 0, none⟩ (.pointer (some ⟨t0, 0, none⟩)))) := FX.out.below (Below.setCell (p := ⟨fb, 0, none⟩) (Below.refl fb _) (Nat.le_refl _) _) zfb
    have FR1 : Hid (MtFar fb 0 (.pointer (some ⟨t0, 0, none⟩)) (.pointer none) (.pointer none) (w'.setCell ⟨fb, 0, none⟩ (.pointer (some ⟨t0, 0, none⟩)))) := ⟨by go_simp, by go_simp, by go_simp, by go_simp, by go_simp, by go_simp⟩
    have HT0 := Lib.hid (HT0.out.store ⟨fb, 0, none⟩ (.pointer (some ⟨t0, 0, none⟩)) hx.out)
    have EV1 : Ext w (w'.setCell ⟨fb, 0, none⟩ (.pointer (some ⟨t0, 0, none⟩))) := Below.setCell (p := ⟨fb, 0, none⟩) EV (by show w.heap.size ≤ fb; omega) _
    have B1 : Hid (Below fb W1 (w'.setCell ⟨fb, 0, none⟩ (.pointer (some ⟨t0, 0, none⟩)))) := Below.setCell (p := ⟨fb, 0, none⟩) hB.out (Nat.le_refl _) _
    clear a1 a2 a3 p1 p2 p3 p4 p5 p6 c1 c2 f1 f2 z0 z1 z2 FX FR EV hB y0 y1 y2 y3 y4 y5 hx
    generalize (w'.setCell ⟨fb, 0, none⟩ (.pointer (some ⟨t0, 0, none⟩))) = V1 at FX1 FR1 EV1 B1 HT0 ⊢
    -- round 1
    rw [rounds_succ]
    obtain ⟨a1, a2, a3, p1, p2, p3, p4, p5, p6, c1, c2, f1, f2⟩ := FX1.out
    have z2 := FX1.out.lt
    have z1 : w.heap.size + 1 < V1.heap.size := by omega
    have z0 : w.heap.size < V1.heap.size := by omega
    go_wp2_with fail
    refine (distances_any g q ga gc _ HR.out HQ.out (HC.out.ext (EV1.alloc _))).mono ?_
    rintro e w' ⟨t1, rfl, hT1, hE⟩
    have HT1 := Lib.hid hT1
    have G : Ext V1 w' := ((Ext.refl _).alloc _).trans hE
    have FX := Lib.hid (FX1.out.ext G)
    have FR := Lib.hid (FR1.out.ext G)
    have hB := Lib.hid (B1.out.trans (G.mono (show fb ≤ V1.heap.size from Nat.le_of_lt FR1.out.lt)))
    obtain ⟨y0, y1, y2, y3, y4, y5⟩ := FR.out
    have hx := Lib.hid (TabAt.ne y0 HT1.out)
    have HT0 := Lib.hid (HT0.out.ext G)
    have hx0 := Lib.hid (TabAt.ne y0 HT0.out)
    have EV := EV1.trans G
    clear hT1 hE a1 a2 a3 p1 p2 p3 p4 p5 p6 c1 c2 f1 f2 z0 z1 z2 FX1 FR1 EV1 G B1
    obtain ⟨a1, a2, a3, p1, p2, p3, p4, p5, p6, c1, c2, f1, f2⟩ := FX.out
    have z2 := FX.out.lt
    have z1 : w.heap.size + 1 < w'.heap.size := by omega
    have z0 : w.heap.size < w'.heap.size := by omega
    go_wp2_with fail
    have FX2 : Hid (MtFix g p q r ga gc w.heap.size (w'.setCell ⟨fb, 1, none⟩ (.pointer (some ⟨t1, 0, none⟩)))) := FX.out.below (Below.setCell (p := ⟨fb, 1, none⟩) (Below.refl fb _) (Nat.le_refl _) _) zfb
    have FR2 : Hid (MtFar fb 0 (.pointer (some ⟨t0, 0, none⟩)) (.pointer (some ⟨t1, 0, none⟩)) (.pointer none) (w'.setCell ⟨fb, 1, none⟩ (.pointer (some ⟨t1, 0, none⟩)))) := ⟨by go_simp, by go_simp, by go_simp, by go_simp, by go_simp, by go_simp⟩
    have HT1 := Lib.hid (HT1.out.store ⟨fb, 1, none⟩ (.pointer (some ⟨t1, 0, none⟩)) hx.out)
    have HT0 := Lib.hid (HT0.out.store ⟨fb, 1, none⟩ (.pointer (some ⟨t1, 0, none⟩)) hx0.out)
    have EV2 : Ext w (w'.setCell ⟨fb, 1, none⟩ (.pointer (some ⟨t1, 0, none⟩))) := Below.setCell (p := ⟨fb, 1, none⟩) EV (by show w.heap.size ≤ fb; omega) _
    have B2 : Hid (Below fb W1 (w'.setCell ⟨fb, 1, none⟩ (.pointer (some ⟨t1, 0, none⟩)))) := Below.setCell (p := ⟨fb, 1, none⟩) hB.out (Nat.le_refl _) _
    clear a1 a2 a3 p1 p2 p3 p4 p5 p6 c1 c2 f1 f2 z0 z1 z2 FX FR EV hB y0 y1 y2 y3 y4 y5 hx
    generalize (w'.setCell ⟨fb, 1, none⟩ (.pointer (some ⟨t1, 0, none⟩))) = V2 at FX2 FR2 EV2 B2 HT0 HT1 ⊢
    -- round 2
    rw [rounds_succ]
    obtain ⟨a1, a2, a3, p1, p2, p3, p4, p5, p6, c1, c2, f1, f2⟩ := FX2.out
    have z2 := FX2.out.lt
    have z1 : w.heap.size + 1 < V2.heap.size := by omega
    have z0 : w.heap.size < V2.heap.size := by omega
    go_wp2_with fail
    refine (distances_any g r ga gc _ HR.out HRR.out (HC.out.ext (EV2.alloc _))).mono ?_
    rintro e w' ⟨t2, rfl, hT2, hE⟩
    have HT2 := Lib.hid hT2
    have G : Ext V2 w' := ((Ext.refl _).alloc _).trans hE
    have FX := Lib.hid (FX2.out.ext G)
    have FR := Lib.hid (FR2.out.ext G)
    have hB := Lib.hid (B2.out.trans (G.mono (show fb ≤ V2.heap.size from Nat.le_of_lt FR2.out.lt)))
    obtain ⟨y0, y1, y2, y3, y4, y5⟩ := FR.out
    have hx := Lib.hid (TabAt.ne y0 HT2.out)
    have HT0 := Lib.hid (HT0.out.ext G)
    have hx0 := Lib.hid (TabAt.ne y0 HT0.out)
    have HT1 := Lib.hid (HT1.out.ext G)
    have hx1 := Lib.hid (TabAt.ne y0 HT1.out)
    have EV := EV2.trans G
    clear hT2 hE a1 a2 a3 p1 p2 p3 p4 p5 p6 c1 c2 f1 f2 z0 z1 z2 FX2 FR2 EV2 G B2
    obtain ⟨a1, a2, a3, p1, p2, p3, p4, p5, p6, c1, c2, f1, f2⟩ := FX.out
    have z2 := FX.out.lt
    have z1 : w.heap.size + 1 < w'.heap.size := by omega
    have z0 : w.heap.size < w'.heap.size := by omega
    go_wp2_with fail
    have FX3 : Hid (MtFix g p q r ga gc w.heap.size (w'.setCell ⟨fb, 2, none⟩ (.pointer (some ⟨t2, 0, none⟩)))) := FX.out.below (Below.setCell (p := ⟨fb, 2, none⟩) (Below.refl fb _) (Nat.le_refl _) _) zfb
    have FR3 : Hid (MtFar fb 0 (.pointer (some ⟨t0, 0, none⟩)) (.pointer (some ⟨t1, 0, none⟩)) (.pointer (some ⟨t2, 0, none⟩)) (w'.setCell ⟨fb, 2, none⟩ (.pointer (some ⟨t2, 0, none⟩)))) := ⟨by go_simp, by go_simp, by go_simp, by go_simp, by go_simp, by go_simp⟩
    have HT2 := Lib.hid (HT2.out.store ⟨fb, 2, none⟩ (.pointer (some ⟨t2, 0, none⟩)) hx.out)
    have HT0 := Lib.hid (HT0.out.store ⟨fb, 2, none⟩ (.pointer (some ⟨t2, 0, none⟩)) hx0.out)
    have HT1 := Lib.hid (HT1.out.store ⟨fb, 2, none⟩ (.pointer (some ⟨t2, 0, none⟩)) hx1.out)
    have EV3 : Ext w (w'.setCell ⟨fb, 2, none⟩ (.pointer (some ⟨t2, 0, none⟩))) := Below.setCell (p := ⟨fb, 2, none⟩) EV (by show w.heap.size ≤ fb; omega) _
    have B3 : Hid (Below fb W1 (w'.setCell ⟨fb, 2, none⟩ (.pointer (some ⟨t2, 0, none⟩)))) := Below.setCell (p := ⟨fb, 2, none⟩) hB.out (Nat.le_refl _) _
    clear a1 a2 a3 p1 p2 p3 p4 p5 p6 c1 c2 f1 f2 z0 z1 z2 FX FR EV hB y0 y1 y2 y3 y4 y5 hx
    generalize (w'.setCell ⟨fb, 2, none⟩ (.pointer (some ⟨t2, 0, none⟩))) = V3 at FX3 FR3 EV3 B3 HT0 HT1 HT2 ⊢
    rw [rounds_succ]
    go_wp2_with fail
    obtain ⟨a1, a2, a3, p1, p2, p3, p4, p5, p6, c1, c2, f1, f2⟩ := FX3.out
    obtain ⟨y0, y1, y2, y3, y4, y5⟩ := FR3.out
    obtain ⟨rq1, rq2, rq3, rq4⟩ := inG_of HR.out HQ.out
    obtain ⟨rr1, rr2, rr3, rr4⟩ := inG_of HR.out HRR.out
    have cq := (HT0.out q ⟨rq1, rq2, rq3, rq4⟩).1
    have cr := (HT0.out r ⟨rr1, rr2, rr3, rr4⟩).1
    cases hx0 : decide (dst g p q < 0)
    · cases hx1 : decide (dst g p r < 0)
      · have HB : Hid (meetBad g p q r = false) := by show _ = _; unfold meetBad; rw [hx0, hx1]; rfl
        go_quiet (fail)
        have EN : Ext V3 (V3.drewN nq) := (Ext.refl _).drewN _
        have FX4 := Lib.hid (FX3.out.ext EN)
        have FR4 := Lib.hid (FR3.out.ext EN)
        have HT0 := Lib.hid (HT0.out.ext EN)
        have HT1 := Lib.hid (HT1.out.ext EN)
        have HT2 := Lib.hid (HT2.out.ext EN)
        have EV4 := EV3.trans EN
        clear a1 a2 a3 p1 p2 p3 p4 p5 p6 c1 c2 f1 f2 y0 y1 y2 y3 y4 y5 rq1 rq2 rq3 rq4 rr1 rr2 rr3 rr4 cq cr FX3 FR3 EV3 EN B3
        generalize V3.drewN nq = V4 at FX4 FR4 HT0 HT1 HT2 EV4 ⊢
        obtain ⟨a1, a2, a3, p1, p2, p3, p4, p5, p6, c1, c2, f1, f2⟩ := FX4.out
        have zx := FX4.out.lt
        have z0 : w.heap.size < V4.heap.size := by omega
        go_wp2_with fail
        have E5 : Ext V4 (V4.alloc (.cells #[.int .i64 0, .int .i64 0] 26)) := (Ext.refl _).alloc _
        obtain ⟨bat, hbat⟩ : ∃ b, b = V4.heap.size := ⟨_, rfl⟩
        have FX5 := Lib.hid (FX4.out.ext E5)
        have FR5 := Lib.hid (FR4.out.ext E5)
        have HT0' := Lib.hid (HT0.out.ext E5)
        have HT1' := Lib.hid (HT1.out.ext E5)
        have HT2' := Lib.hid (HT2.out.ext E5)
        have EV5 := EV4.trans E5
        have b1 : (V4.alloc (.cells #[.int .i64 0, .int .i64 0] 26)).cell? ⟨bat, 0, none⟩ = some (.int .i64 0) := by rw [hbat]; clear hbat; go_simp
        have b2 : (V4.alloc (.cells #[.int .i64 0, .int .i64 0] 26)).cell? ⟨bat, 1, none⟩ = some (.int .i64 0) := by rw [hbat]; clear hbat; go_simp
        have b3 : (V4.alloc (.cells #[.int .i64 0, .int .i64 0] 26)).frozen? ⟨bat, 0, none⟩ = false := by rw [hbat]; clear hbat; go_simp
        have b4 : (V4.alloc (.cells #[.int .i64 0, .int .i64 0] 26)).frozen? ⟨bat, 1, none⟩ = false := by rw [hbat]; clear hbat; go_simp
        have zw : w.heap.size + 1 + 1 < bat := by rw [hbat]; exact FX4.out.lt
        have zf : fb < bat := by rw [hbat]; exact FR4.out.lt
        have zt0 : t0 < bat := by rw [hbat]; exact HT0.out.lt
        have zt1 : t1 < bat := by rw [hbat]; exact HT1.out.lt
        have zt2 : t2 < bat := by rw [hbat]; exact HT2.out.lt
        rw [← hbat]
        clear hbat a1 a2 a3 p1 p2 p3 p4 p5 p6 c1 c2 f1 f2 zx z0 FX4 FR4 HT0 HT1 HT2 EV4 E5
        generalize V4.alloc (.cells #[.int .i64 0, .int .i64 0] 26) = V5 at FX5 FR5 HT0' HT1' HT2' EV5 b1 b2 b3 b4 ⊢
        obtain ⟨mk, hmk⟩ : ∃ mk, mk = meetK g (dst g p) (dst g q) (dst g r) := ⟨_, rfl⟩
        have HMK0 : Hid (mk 0 = (-1, (0, 0))) := by rw [hmk]; rfl
        have HMKS : Hid (∀ k, mk (k + 1) = meetStep (dst g p) (dst g q) (dst g r) (mk k) (cellAt g k)) := by rw [hmk]; intro k; rfl
        have HMKB : Hid (∀ k, -3 ≤ (mk k).1 ∧ (mk k).1 ≤ 12288) := by
          rw [hmk]
          exact meetK_bd (fun x => ⟨(dst_bd HR.out HP.out x).1, (dst_bd HR.out HP.out x).2, (dst_bd HR.out HQ.out x).1, (dst_bd HR.out HQ.out x).2, (dst_bd HR.out HRR.out x).1, (dst_bd HR.out HRR.out x).2⟩)
        have HMKE : Hid (meetV g p q r = mk (g.rows.toNat * g.cols.toNat)) := by rw [hmk]; rfl
        clear hmk
        have hr1 := HR.out.r1
        have hr2 := HR.out.r2
        have hc1 := HR.out.c1
        have hc2 := HR.out.c2
        have j0 : ∀ w, (Instr.index 87 (.agg #[.pointer (some ⟨t0, 0, none⟩), .pointer (some ⟨t1, 0, none⟩), .pointer (some ⟨t2, 0, none⟩)]) (.int .i64 0)).run Try.prog w = .ok (.pointer (some ⟨t0, 0, none⟩)) w := fun _ => by kernel_rfl
        have j1 : ∀ w, (Instr.index 87 (.agg #[.pointer (some ⟨t0, 0, none⟩), .pointer (some ⟨t1, 0, none⟩), .pointer (some ⟨t2, 0, none⟩)]) (.int .i64 1)).run Try.prog w = .ok (.pointer (some ⟨t1, 0, none⟩)) w := fun _ => by kernel_rfl
        have j2 : ∀ w, (Instr.index 87 (.agg #[.pointer (some ⟨t0, 0, none⟩), .pointer (some ⟨t1, 0, none⟩), .pointer (some ⟨t2, 0, none⟩)]) (.int .i64 2)).run Try.prog w = .ok (.pointer (some ⟨t2, 0, none⟩)) w := fun _ => by kernel_rfl
        go_loopw [11, 68] (fun b i wr => ∃ k : Nat, k ≤ g.rows.toNat ∧ i = .int .i64 k ∧ b = .int .i64 (mk (k * g.cols.toNat)).1 ∧ Hid (Below bat V5 wr) ∧ wr.cell? ⟨bat, 0, none⟩ = some (.int .i64 (mk (k * g.cols.toNat)).2.1) ∧ wr.cell? ⟨bat, 1, none⟩ = some (.int .i64 (mk (k * g.cols.toNat)).2.2) ∧ wr.frozen? ⟨bat, 0, none⟩ = false ∧ wr.frozen? ⟨bat, 1, none⟩ = false) (fun _ i _ => g.rows.toNat - (intOf i).toNat)
        case atStart =>
          refine ⟨0, Nat.zero_le _, rfl, ?_, Below.refl _ _, ?_, ?_, b3, b4⟩
          · rw [Nat.zero_mul, HMK0.out]
          · rw [Nat.zero_mul, HMK0.out]; exact b1
          · rw [Nat.zero_mul, HMK0.out]; exact b2
        case round =>
          clear b1 b2 b3 b4
          obtain ⟨k, hk, rfl, rfl, hB, b1, b2, b3, b4⟩ := hrel
          have hmb := HMKB.out (k * g.cols.toNat)
          have FX := Lib.hid (FX5.out.below hB.out zw)
          obtain ⟨a1, a2, a3, p1, p2, p3, p4, p5, p6, c1, c2, f1, f2⟩ := FX.out
          by_cases hlt : k < g.rows.toNat
          · have hlt' : (k : Int) < g.rows := by omega
            go_wp2_with fail
            clear a1 a2 a3 p1 p2 p3 p4 p5 p6 c1 c2 f1 f2
            go_loopw [11, 73] (fun b i wr => ∃ c : Nat, c ≤ g.cols.toNat ∧ i = .int .i64 c ∧ b = .int .i64 (mk (k * g.cols.toNat + c)).1 ∧ Hid (Below bat V5 wr) ∧ wr.cell? ⟨bat, 0, none⟩ = some (.int .i64 (mk (k * g.cols.toNat + c)).2.1) ∧ wr.cell? ⟨bat, 1, none⟩ = some (.int .i64 (mk (k * g.cols.toNat + c)).2.2) ∧ wr.frozen? ⟨bat, 0, none⟩ = false ∧ wr.frozen? ⟨bat, 1, none⟩ = false) (fun _ i _ => g.cols.toNat - (intOf i).toNat)
            case atStart =>
              exact ⟨0, Nat.zero_le _, rfl, rfl, hB, b1, b2, b3, b4⟩
            case round =>
              clear b1 b2 b3 b4 hB FX hmb
              obtain ⟨c, hc, rfl, rfl, hB, b1, b2, b3, b4⟩ := hrel
              have hmb := HMKB.out (k * g.cols.toNat + c)
              by_cases hlc : c < g.cols.toNat
              · have hlc' : (c : Int) < g.cols := by omega
                have FR := Lib.hid (FR5.out.below hB.out zf)
                obtain ⟨y0, y1, y2, y3, y4, y5⟩ := FR.out
                have ig : InG ((k : Int), (c : Int)) := ⟨by show (0 : Int) ≤ k; omega, by show (k : Int) < 64; omega, by show (0 : Int) ≤ c; omega, by show (c : Int) < 64; omega⟩
                have d0 := ((HT0'.out.below hB.out zt0) _ ig).1
                have d1 := ((HT1'.out.below hB.out zt1) _ ig).1
                have d2 := ((HT2'.out.below hB.out zt2) _ ig).1
                simp only [Int.toNat_natCast] at d0 d1 d2
                have hst := HMKS.out (k * g.cols.toNat + c)
                rw [cellAt_mk hlc] at hst
                unfold meetStep at hst
                obtain ⟨bd1, bd2⟩ := dst_bd HR.out HP.out ((k : Int), (c : Int))
                obtain ⟨bd3, bd4⟩ := dst_bd HR.out HQ.out ((k : Int), (c : Int))
                obtain ⟨bd5, bd6⟩ := dst_bd HR.out HRR.out ((k : Int), (c : Int))
                generalize dst g p ((k : Int), (c : Int)) = A at d0 hst bd1 bd2
                generalize dst g q ((k : Int), (c : Int)) = B at d1 hst bd3 bd4
                generalize dst g r ((k : Int), (c : Int)) = C at d2 hst bd5 bd6
                have k64 : (k : Int) < 64 := by omega
                have c64 : (c : Int) < 64 := by omega
                by_cases hA : A < 0
                · rw [if_pos hA] at hst
                  have HST := Lib.hid hst
                  clear hst
                  go_wp2
                  refine ⟨⟨c + 1, by omega, by go_num, ?_, hB, ?_, ?_, b3, b4⟩, by simp [intOf]; omega⟩
                  · rw [← Nat.add_assoc, HST.out]
                  · rw [← Nat.add_assoc, HST.out]; exact b1
                  · rw [← Nat.add_assoc, HST.out]; exact b2
                · rw [if_neg hA] at hst
                  have HST := Lib.hid hst
                  clear hst
                  have s1 : IntKind.i64.wrap A = A := IntWalk.i64_in _ (by omega)
                  have s2 : IntKind.i64.wrap (A + B) = A + B := IntWalk.i64_in _ (by omega)
                  have s3 : IntKind.i64.wrap (A + B + C) = A + B + C := IntWalk.i64_in _ (by omega)
                  have hnA : ¬ A < 0 := hA
                  cases h1 : decide ((mk (k * g.cols.toNat + c)).1 < 0)
                  · cases h2 : decide (A + B + C < (mk (k * g.cols.toNat + c)).1)
                    · have HST := Lib.hid (HST.out.trans (if_neg (by simp at h1 h2; omega)))
                      go_wp2
                      refine wp_loop_rounds 4 ?_
                      repeat any_goals (rw [rounds_succ]; go_wp2)
                      refine ⟨⟨c + 1, by omega, by go_num, ?_, hB, ?_, ?_, b3, b4⟩, by simp [intOf]; omega⟩
                      · rw [← Nat.add_assoc, HST.out]
                      · rw [← Nat.add_assoc, HST.out]; exact b1
                      · rw [← Nat.add_assoc, HST.out]; exact b2
                    · have HST := Lib.hid (HST.out.trans (if_pos (.inr (by simpa using h2))))
                      go_wp2
                      refine wp_loop_rounds 4 ?_
                      repeat any_goals (rw [rounds_succ]; go_wp2)
                      refine ⟨⟨c + 1, by omega, by go_num, ?_, Below.setCell (p := ⟨bat, 1, none⟩) (Below.setCell (p := ⟨bat, 0, none⟩) hB.out (Nat.le_refl _) _) (Nat.le_refl _) _, ?_, ?_, by go_simp, by go_simp⟩, by simp [intOf]; omega⟩
                      · rw [← Nat.add_assoc, HST.out]
                      · rw [← Nat.add_assoc, HST.out]; go_simp
                      · rw [← Nat.add_assoc, HST.out]; go_simp
                  · have HST := Lib.hid (HST.out.trans (if_pos (.inl (by simpa using h1))))
                    go_wp2
                    refine wp_loop_rounds 4 ?_
                    repeat any_goals (rw [rounds_succ]; go_wp2)
                    refine ⟨⟨c + 1, by omega, by go_num, ?_, Below.setCell (p := ⟨bat, 1, none⟩) (Below.setCell (p := ⟨bat, 0, none⟩) hB.out (Nat.le_refl _) _) (Nat.le_refl _) _, ?_, ?_, by go_simp, by go_simp⟩, by simp [intOf]; omega⟩
                    · rw [← Nat.add_assoc, HST.out]
                    · rw [← Nat.add_assoc, HST.out]; go_simp
                    · rw [← Nat.add_assoc, HST.out]; go_simp
              · have hlc' : ¬ (c : Int) < g.cols := by omega
                have HCE : Hid (k * g.cols.toNat + c = (k + 1) * g.cols.toNat) := by
                  show _ = _
                  rw [Nat.add_mul, Nat.one_mul, show c = g.cols.toNat by omega]
                go_wp2
                refine ⟨⟨k + 1, by omega, by go_num, ?_, hB, ?_, ?_, b3, b4⟩, by simp [intOf]; omega⟩
                · rw [← HCE.out]
                · rw [← HCE.out]; exact b1
                · rw [← HCE.out]; exact b2
          · have hlt' : ¬ (k : Int) < g.rows := by omega
            have hke : k = g.rows.toNat := by omega
            go_wp2
            try simp only [Exit.inBlock, Exit.then]
            refine bodyPost_ret (v := .tuple #[.agg #[.int .i64 (mk (g.rows.toNat * g.cols.toNat)).2.1, .int .i64 (mk (g.rows.toNat * g.cols.toNat)).2.2], .int .i64 (mk (g.rows.toNat * g.cols.toNat)).1, .int .i64 0]) (by rw [results_cell_tmp2 rfl]; go_simp) rfl ⟨?_, ?_⟩
            · rw [HV.out.1, HV.out.2.1, HV.out.2.2, HB.out, HMKE.out]
              rfl
            · exact Below.setCell (p := ⟨_, 1, none⟩) (Below.setCell (p := ⟨_, 0, none⟩) (Below.trans EV5 (hB.out.mono (by omega))) (by show w.heap.size ≤ w.heap.size + 1 + 1; omega) _) (by show w.heap.size ≤ w.heap.size + 1 + 1; omega) _
      · have HB : Hid (meetBad g p q r = true) := by show _ = _; unfold meetBad; rw [hx0, hx1]; rfl
        go_quiet (fail)
        go_wp2
        try simp only [Exit.inBlock, Exit.then]
        refine bodyPost_ret (v := .tuple #[.agg #[.int .i64 0, .int .i64 0], .int .i64 0, .int .i64 6]) (by rw [results_cell_tmp2 rfl]; go_simp) rfl ⟨?_, ?_⟩
        · rw [HV.out.1, HV.out.2.1, HV.out.2.2, if_pos HB.out, if_pos HB.out, if_pos HB.out]
        · exact Below.setCell (p := ⟨_, 1, none⟩) (Below.setCell (p := ⟨_, 0, none⟩) (EV3.drewN _) (by show w.heap.size ≤ w.heap.size + 1 + 1; omega) _) (by show w.heap.size ≤ w.heap.size + 1 + 1; omega) _
    · have HB : Hid (meetBad g p q r = true) := by show _ = _; unfold meetBad; rw [hx0]; rfl
      go_quiet (fail)
      go_wp2
      try simp only [Exit.inBlock, Exit.then]
      refine bodyPost_ret (v := .tuple #[.agg #[.int .i64 0, .int .i64 0], .int .i64 0, .int .i64 6]) (by rw [results_cell_tmp2 rfl]; go_simp) rfl ⟨?_, ?_⟩
      · rw [HV.out.1, HV.out.2.1, HV.out.2.2, if_pos HB.out, if_pos HB.out, if_pos HB.out]
      · exact Below.setCell (p := ⟨_, 1, none⟩) (Below.setCell (p := ⟨_, 0, none⟩) (EV3.drewN _) (by show w.heap.size ≤ w.heap.size + 1 + 1; omega) _) (by show w.heap.size ≤ w.heap.size + 1 + 1; omega) _
  · have hv : Hid (meetP g p q r = (0, 0) ∧ meetN g p q r = 0 ∧ meetE g p q r = givenErr g [p, q, r]) := by
      show _ ∧ _ ∧ _
      unfold meetP meetN meetE
      exact ⟨if_pos h0, if_pos h0, if_pos h0⟩
    have hb : (givenErr g [p, q, r] != 0) = true := by simp [h0]
    have hb2 : (givenErr g [p, q, r] == 0) = false := by simp [h0]
    clear h0
    obtain ⟨a1, a2, a3, p1, p2, p3, p4, p5, p6, c1, c2, f1, f2⟩ := F1.out
    go_wp2
    try simp only [Exit.inBlock, Exit.then]
    refine bodyPost_ret (v := .tuple #[.agg #[.int .i64 0, .int .i64 0], .int .i64 0, .int .i64 (givenErr g [p, q, r])]) (by rw [results_cell_tmp2 rfl]; go_simp) rfl ⟨?_, ?_⟩
    · rw [hv.out.1, hv.out.2.1, hv.out.2.2]
    · exact Below.setCell (p := ⟨_, 1, none⟩) (Below.setCell (p := ⟨_, 0, none⟩) E1 (by show w.heap.size ≤ w.heap.size + 1 + 1; omega) _) (by show w.heap.size ≤ w.heap.size + 1 + 1; omega) _
end Go.Proofs.Ytfigooilhnahfaa
/- The parts of a grid, in plain Lean. -/
namespace Go.Proofs.Ytfigooilhnahfaa

def ins (S : List Pt) (a : Pt) : List Pt := if a ∈ S then S else a :: S
def insAll (S l : List Pt) : List Pt := l.foldl ins S
theorem ins_mem (S : List Pt) (a x : Pt) : x ∈ ins S a ↔ x ∈ S ∨ x = a := by
  unfold ins
  split
  · rename_i h
    constructor
    · exact .inl
    · rintro (h1 | rfl)
      · exact h1
      · exact h
  · rw [List.mem_cons]
    constructor
    · rintro (h | h)
      · exact .inr h
      · exact .inl h
    · rintro (h | h)
      · exact .inr h
      · exact .inl h
theorem insAll_mem (l : List Pt) : ∀ (S : List Pt) (x : Pt), x ∈ insAll S l ↔ x ∈ S ∨ x ∈ l := by
  induction l with
  | nil => intro S x; simp [insAll]
  | cons a l ih =>
    intro S x
    show x ∈ insAll (ins S a) l ↔ _
    rw [ih, ins_mem, List.mem_cons]
    constructor
    · rintro ((h | h) | h)
      · exact .inl h
      · exact .inr (.inl h)
      · exact .inr (.inr h)
    · rintro (h | h | h)
      · exact .inl (.inl h)
      · exact .inl (.inr h)
      · exact .inr h
theorem insAll_snoc (S l : List Pt) (a : Pt) : insAll S (l ++ [a]) = ins (insAll S l) a := by
  unfold insAll
  rw [List.foldl_append]
  rfl

def partStep (g : Gr) (s : List Pt × List Int) (p : Pt) : List Pt × List Int :=
  if p ∈ s.1 then s else if blk g p = true then s else (insAll s.1 ((wave g p).map (·.1)), s.2 ++ [((wave g p).length : Int)])
/-- the cells seen and the sizes of the parts, behind the first k cells -/
def partK (g : Gr) : Nat → List Pt × List Int
  | 0 => ([], [])
  | k + 1 => partStep g (partK g k) (cellAt g k)
def partsU (g : Gr) : List Int := (partK g (g.rows.toNat * g.cols.toNat)).2
def partsL (g : Gr) : List Int := if chk g ≠ 0 then [] else (partsU g).mergeSort fun x y => decide (y ≤ x)

theorem wave_len {g : Gr} (hr : Right g) {p : Pt} (hp : inside g p = true) : (wave g p).length ≤ 4096 := by
  rw [← List.length_map (f := (·.1))]
  refine nodup_pts (wave_nodup g p) (fun q hq => ?_)
  obtain ⟨x, hx, rfl⟩ := List.mem_map.1 hq
  exact inG_of hr (wave_inside hp x hx)
theorem cellAt_inside {g : Gr} (hr : Right g) {k : Nat} (h : k < g.rows.toNat * g.cols.toNat) : inside g (cellAt g k) = true := by
  have h1 := hr.r1
  have h2 := hr.c1
  have h3 : 0 < g.cols.toNat := by omega
  have h4 : k / g.cols.toNat < g.rows.toNat := (Nat.div_lt_iff_lt_mul h3).2 h
  have h5 : k % g.cols.toNat < g.cols.toNat := Nat.mod_lt _ h3
  unfold inside cellAt
  generalize k / g.cols.toNat = a at h4 ⊢
  generalize k % g.cols.toNat = b at h5 ⊢
  simp only [Bool.and_eq_true, decide_eq_true_eq]
  omega
theorem partK_len (g : Gr) : ∀ k, (partK g k).2.length ≤ k := by
  intro k
  induction k with
  | zero => simp [partK]
  | succ k ih =>
    unfold partK partStep
    split
    · omega
    · split
      · omega
      · simp; omega
theorem partK_bd {g : Gr} (hr : Right g) : ∀ k, k ≤ g.rows.toNat * g.cols.toNat → ∀ x ∈ (partK g k).2, 0 ≤ x ∧ x ≤ 4096 := by
  intro k
  induction k with
  | zero => intro _ x hx; simp [partK] at hx
  | succ k ih =>
    intro hk x hx
    unfold partK partStep at hx
    split at hx
    · exact ih (by omega) x hx
    · split at hx
      · exact ih (by omega) x hx
      · rcases List.mem_append.1 hx with hx | hx
        · exact ih (by omega) x hx
        · simp at hx
          subst hx
          have := wave_len hr (cellAt_inside hr (show k < _ by omega))
          omega
end Go.Proofs.Ytfigooilhnahfaa
/- Distances as a metric, and the meeting place, in plain Lean. -/
namespace Go.Proofs.Ytfigooilhnahfaa

theorem cells_of {g : Gr} : ∀ {l : List Pt}, (∀ p ∈ l, opn g p = true) → cellsErr g l = 0 := by
  intro l
  induction l with
  | nil => intro _; rfl
  | cons a l ih =>
    intro h
    have ha := h a (List.mem_cons_self ..)
    unfold opn at ha
    simp only [Bool.and_eq_true, Bool.not_eq_true'] at ha
    unfold cellsErr
    rw [if_neg (by simp [ha.1]), if_neg (by simp [ha.2])]
    exact ih fun p hp => h p (List.mem_cons_of_mem _ hp)
theorem given_of {g : Gr} {l : List Pt} (hk : chk g = 0) (h : ∀ p ∈ l, opn g p = true) : givenErr g l = 0 := by
  unfold givenErr
  rw [if_neg (by simp [hk])]
  exact cells_of h
theorem given_chk {g : Gr} {l : List Pt} (h : givenErr g l = 0) : chk g = 0 := by
  unfold givenErr at h
  split at h
  · rename_i h1; exact absurd h h1
  · rename_i h1; simpa using h1
theorem walk_dst {g : Gr} (hr : Right g) {p q : Pt} (hp : inside g p = true) {n : Nat} (h : Walk g p n q) : 0 ≤ dst g p q ∧ dst g p q ≤ n := by
  obtain ⟨m, hm, hd⟩ := h.isD
  rw [dst_of hr hp hd]
  omega
theorem dst_walk {g : Gr} (hr : Right g) {p q : Pt} (hp : inside g p = true) (h : 0 ≤ dst g p q) : Walk g p (dst g p q).toNat q := by
  rcases dst_cases hr hp q with ⟨k, h1, h2⟩ | ⟨_, h2⟩
  · rw [h2]; exact h1.w
  · omega
theorem dst_self {g : Gr} (hr : Right g) {p : Pt} (hp : inside g p = true) : dst g p p = 0 := dst_of hr hp (IsD.self g p)
theorem dst_tri {g : Gr} (hr : Right g) {p q r : Pt} (hp : inside g p = true) (hq : inside g q = true) (h1 : 0 ≤ dst g p q) (h2 : 0 ≤ dst g q r) : 0 ≤ dst g p r ∧ dst g p r ≤ dst g p q + dst g q r := by
  have := walk_dst hr hp ((dst_walk hr hp h1).trans (dst_walk hr hq h2))
  omega
theorem dst_opn {g : Gr} (hr : Right g) {p q : Pt} (hp : opn g p = true) (h : 0 ≤ dst g p q) : opn g q = true := (dst_walk hr (opn_inside hp) h).opn hp
theorem len_of {g : Gr} {p q : Pt} (hk : chk g = 0) (hp : opn g p = true) (hq : opn g q = true) (h : 0 ≤ dst g q p) : lenE g p q = 0 ∧ lenN g p q = dst g q p := by
  have h0 : givenErr g [p, q] = 0 := given_of hk (by simp [hp, hq])
  unfold lenE lenN
  have e0 : ¬ givenErr g [p, q] ≠ 0 := by simp [h0]
  have e1 : ¬ dst g q p < 0 := by omega
  exact ⟨by rw [if_neg e0, if_neg e1], by rw [if_neg e0, if_neg e1]⟩
/-- what a length that has no error says -/
theorem len_is {g : Gr} {p q : Pt} (h : lenE g p q = 0) : chk g = 0 ∧ opn g p = true ∧ opn g q = true ∧ 0 ≤ dst g q p ∧ lenN g p q = dst g q p := by
  unfold lenE at h
  by_cases h0 : givenErr g [p, q] = 0
  · obtain ⟨hr, ho⟩ := given_ok h0
    rw [if_neg (by simp [h0])] at h
    by_cases h1 : dst g q p < 0
    · rw [if_pos h1] at h; omega
    · have hp := ho p (by simp)
      have hq := ho q (by simp)
      exact ⟨given_chk h0, hp, hq, by omega, (len_of (given_chk h0) hp hq (by omega)).2⟩
  · rw [if_pos h0] at h; exact absurd h h0
theorem len_symm {g : Gr} {p q : Pt} (h : lenE g p q = 0) : lenE g q p = 0 ∧ lenN g q p = lenN g p q := by
  obtain ⟨hk, hp, hq, hd, hn⟩ := len_is h
  have e := dst_symm (right_of_chk hk) hp hq
  obtain ⟨h1, h2⟩ := len_of hk hq hp (by omega)
  exact ⟨h1, by rw [h2, hn, e]⟩
theorem len_bd {g : Gr} {p q : Pt} : 0 ≤ lenN g p q ∧ lenN g p q ≤ 4096 := by
  unfold lenN
  by_cases h0 : givenErr g [p, q] = 0
  · rw [if_neg (by simp [h0])]
    obtain ⟨hr, ho⟩ := given_ok h0
    have := (dst_bd hr (opn_inside (ho q (by simp))) p).2
    split <;> omega
  · rw [if_pos h0]; omega

theorem meetK_spec {g : Gr} {A B C : Pt → Int} (h : ∀ x, 0 ≤ A x → 0 ≤ B x ∧ 0 ≤ C x) : ∀ k,
    (((meetK g A B C k).1 = -1 ∧ ∀ j, j < k → A (cellAt g j) < 0) ∨
     (0 ≤ (meetK g A B C k).1 ∧ 0 ≤ A (meetK g A B C k).2 ∧ (meetK g A B C k).1 = A (meetK g A B C k).2 + B (meetK g A B C k).2 + C (meetK g A B C k).2 ∧ ∀ j, j < k → 0 ≤ A (cellAt g j) → (meetK g A B C k).1 ≤ A (cellAt g j) + B (cellAt g j) + C (cellAt g j))) := by
  intro k
  induction k with
  | zero => exact .inl ⟨rfl, fun j hj => by omega⟩
  | succ k ih =>
    have hx := h (cellAt g k)
    show _ ∨ _
    unfold meetK meetStep
    generalize meetK g A B C k = s at ih ⊢
    by_cases hA : A (cellAt g k) < 0
    · rw [if_pos hA]
      rcases ih with ⟨h1, h2⟩ | ⟨h1, h2, h3, h4⟩
      · refine .inl ⟨h1, fun j hj => ?_⟩
        by_cases e : j = k
        · subst e; exact hA
        · exact h2 j (by omega)
      · refine .inr ⟨h1, h2, h3, fun j hj hj2 => ?_⟩
        by_cases e : j = k
        · subst e; omega
        · exact h4 j (by omega) hj2
    · rw [if_neg hA]
      have hx := hx (by omega)
      by_cases hs : s.1 < 0 ∨ A (cellAt g k) + B (cellAt g k) + C (cellAt g k) < s.1
      · rw [if_pos hs]
        refine .inr ⟨by dsimp only; omega, by dsimp only; omega, rfl, fun j hj hj2 => ?_⟩
        dsimp only
        by_cases e : j = k
        · subst e; omega
        · rcases ih with ⟨h1, h2⟩ | ⟨h1, h2, h3, h4⟩
          · have := h2 j (by omega); omega
          · have := h4 j (by omega) hj2; omega
      · rw [if_neg hs]
        rcases ih with ⟨h1, h2⟩ | ⟨h1, h2, h3, h4⟩
        · omega
        · refine .inr ⟨h1, h2, h3, fun j hj hj2 => ?_⟩
          by_cases e : j = k
          · subst e; omega
          · exact h4 j (by omega) hj2
theorem inside_at {g : Gr} {p : Pt} (h : inside g p = true) : ∃ j, j < g.rows.toNat * g.cols.toNat ∧ cellAt g j = p := by
  unfold inside at h
  simp only [Bool.and_eq_true, decide_eq_true_eq] at h
  obtain ⟨⟨⟨h1, h2⟩, h3⟩, h4⟩ := h
  refine ⟨p.1.toNat * g.cols.toNat + p.2.toNat, ?_, ?_⟩
  · have : p.1.toNat + 1 ≤ g.rows.toNat := by omega
    calc p.1.toNat * g.cols.toNat + p.2.toNat < p.1.toNat * g.cols.toNat + g.cols.toNat := by omega
      _ = (p.1.toNat + 1) * g.cols.toNat := by rw [Nat.add_mul, Nat.one_mul]
      _ ≤ _ := Nat.mul_le_mul_right _ this
  · rw [cellAt_mk (by omega)]
    exact Prod.ext (by simp; omega) (by simp; omega)

/-- what the law TubingJoins asks of a meeting place -/
structure MeetFacts (g : Gr) (p q r P : Pt) (S : Int) : Prop where
  e1 : lenE g P p = 0
  e2 : lenE g P q = 0
  e3 : lenE g P r = 0
  pq : lenE g p q = 0
  pr : lenE g p r = 0
  qr : lenE g q r = 0
  qp : lenE g q p = 0
  rp : lenE g r p = 0
  rq : lenE g r q = 0
  sum : lenN g P p + lenN g P q + lenN g P r = S
  u1 : S ≤ lenN g p q + lenN g p r
  u2 : S ≤ lenN g q r + lenN g q p
  u3 : S ≤ lenN g r p + lenN g r q
  two : lenN g p q + lenN g q r + lenN g r p ≤ 2 * S
theorem meet_facts {g : Gr} {p q r : Pt} (h : meetE g p q r = 0) : MeetFacts g p q r (meetP g p q r) (meetN g p q r) := by
  unfold meetE at h
  by_cases h0 : givenErr g [p, q, r] = 0
  case neg => rw [if_pos h0] at h; exact absurd h h0
  rw [if_neg (by simp [h0])] at h
  cases hb : meetBad g p q r
  case true => rw [if_pos hb] at h; omega
  clear h
  obtain ⟨hr, ho⟩ := given_ok h0
  have hk := given_chk h0
  have hp := ho p (by simp)
  have hq := ho q (by simp)
  have hrr := ho r (by simp)
  have ip := opn_inside hp
  have iq := opn_inside hq
  have ir := opn_inside hrr
  have ePN : meetN g p q r = (meetV g p q r).1 := by unfold meetN; rw [if_neg (by simp [h0]), if_neg (by simp [hb])]
  have ePP : meetP g p q r = (meetV g p q r).2 := by unfold meetP; rw [if_neg (by simp [h0]), if_neg (by simp [hb])]
  rw [ePN, ePP]
  clear ePN ePP h0
  unfold meetBad at hb
  simp only [Bool.or_eq_false_iff, decide_eq_false_iff_not] at hb
  have dpq : 0 ≤ dst g p q := by omega
  have dpr : 0 ≤ dst g p r := by omega
  have spq := dst_symm hr hp hq
  have spr := dst_symm hr hp hrr
  have dqr := (dst_tri hr iq ip (by omega) dpr).1
  have sqr := dst_symm hr hq hrr
  have hall : ∀ x, 0 ≤ dst g p x → 0 ≤ dst g q x ∧ 0 ≤ dst g r x := fun x hx => ⟨(dst_tri hr iq ip (by omega) hx).1, (dst_tri hr ir ip (by omega) hx).1⟩
  have hs := meetK_spec (g := g) (A := dst g p) (B := dst g q) (C := dst g r) hall (g.rows.toNat * g.cols.toNat)
  change ((meetV g p q r).1 = -1 ∧ _) ∨ (0 ≤ (meetV g p q r).1 ∧ 0 ≤ dst g p (meetV g p q r).2 ∧ (meetV g p q r).1 = dst g p (meetV g p q r).2 + dst g q (meetV g p q r).2 + dst g r (meetV g p q r).2 ∧ ∀ j, j < g.rows.toNat * g.cols.toNat → 0 ≤ dst g p (cellAt g j) → (meetV g p q r).1 ≤ dst g p (cellAt g j) + dst g q (cellAt g j) + dst g r (cellAt g j)) at hs
  generalize meetV g p q r = s at hs ⊢
  obtain ⟨S, P⟩ := s
  dsimp only at hs ⊢
  rcases hs with ⟨_, h2⟩ | ⟨h1, h2, h3, h4⟩
  · exfalso
    obtain ⟨j, hj, ej⟩ := inside_at ip
    have := h2 j hj
    rw [ej, dst_self hr ip] at this
    omega
  · have hP := dst_opn hr hp h2
    have iP := opn_inside hP
    obtain ⟨h5, h6⟩ := hall P h2
    obtain ⟨j1, hj1, ej1⟩ := inside_at ip
    obtain ⟨j2, hj2, ej2⟩ := inside_at iq
    obtain ⟨j3, hj3, ej3⟩ := inside_at ir
    have k1 := h4 j1 hj1
    have k2 := h4 j2 hj2
    have k3 := h4 j3 hj3
    rw [ej1] at k1
    rw [ej2] at k2
    rw [ej3] at k3
    have z1 := dst_self hr ip
    have z2 := dst_self hr iq
    have z3 := dst_self hr ir
    have s1 := dst_symm hr hp hP
    have s2 := dst_symm hr hq hP
    have s3 := dst_symm hr hrr hP
    have t1 := (dst_tri hr ip iP h2 (by omega : 0 ≤ dst g P q)).2
    have t2 := (dst_tri hr iq iP h5 (by omega : 0 ≤ dst g P r)).2
    have t3 := (dst_tri hr ir iP h6 (by omega : 0 ≤ dst g P p)).2
    obtain ⟨a1, b1⟩ := len_of hk hP hp h2
    obtain ⟨a2, b2⟩ := len_of hk hP hq h5
    obtain ⟨a3, b3⟩ := len_of hk hP hrr h6
    obtain ⟨a4, b4⟩ := len_of hk hp hq (by omega)
    obtain ⟨a5, b5⟩ := len_of hk hp hrr (by omega)
    obtain ⟨a6, b6⟩ := len_of hk hq hrr (by omega)
    obtain ⟨a7, b7⟩ := len_of hk hq hp (by omega)
    obtain ⟨a8, b8⟩ := len_of hk hrr hp (by omega)
    obtain ⟨a9, b9⟩ := len_of hk hrr hq (by omega)
    exact ⟨a1, a2, a3, a4, a5, a6, a7, a8, a9, by omega, by omega, by omega, by omega, by omega⟩
/-- an error of Meet is one of a length -/
theorem meet_bad {g : Gr} {p q r : Pt} (h : meetE g p q r ≠ 0) : lenE g p q ≠ 0 ∨ lenE g p r ≠ 0 := by
  apply Classical.byContradiction
  intro hn
  simp only [not_or, ne_eq, Decidable.not_not] at hn
  obtain ⟨hk, hp, hq, d1, _⟩ := len_is hn.1
  obtain ⟨_, _, hr, d2, _⟩ := len_is hn.2
  have hR := right_of_chk hk
  apply h
  unfold meetE meetBad
  rw [if_neg (by simp [given_of hk (l := [p, q, r]) (by simp [hp, hq, hr])]), if_neg]
  rw [dst_symm hR hp hq, dst_symm hR hp hr]
  simp
  omega
end Go.Proofs.Ytfigooilhnahfaa
/- The queue of the reference, in plain Lean: it visits the cells as the waves do. -/
namespace Go.Proofs.Ytfigooilhnahfaa

theorem addN_fst_next (qs : List Pt) : ∀ (seen a b : List Pt), (addN seen a qs).1 = (addN seen b qs).1 := by
  induction qs with
  | nil => intro seen a b; rfl
  | cons q qs ih =>
    intro seen a b
    unfold addN
    split
    · exact ih _ _ _
    · exact ih _ _ _
theorem addN_snd_next (qs : List Pt) : ∀ (seen a : List Pt), (addN seen a qs).2 = a ++ (addN seen [] qs).2 := by
  induction qs with
  | nil => intro seen a; simp [addN]
  | cons q qs ih =>
    intro seen a
    unfold addN
    split
    · exact ih _ _
    · rw [ih _ (a ++ [q]), ih _ ([] ++ [q]), List.append_assoc]; simp

/-- the state of the queue ahead of its i-th cell: the cells visited sn -/
structure QI (g : Gr) (p : Pt) (n : Nat) (pre A B seen0 nx : List Pt) (i : Nat) (Wv sn : List Pt) : Prop where
  wv : WV g p seen0 (A ++ B) n
  wi : WI g seen0 (A ++ B)
  e1 : (expand g seen0 [] A).1 = sn
  e2 : (expand g seen0 [] A).2 = nx
  eq : Wv = pre ++ (A ++ B) ++ nx
  ln : i = pre.length + A.length
  sz : pre.length + (A ++ B).length = seen0.length
  sb : ∀ q ∈ pre, q ∈ seen0
def QInv (g : Gr) (p : Pt) (i : Nat) (Wv sn : List Pt) : Prop := ∃ n pre A B seen0 nx, QI g p n pre A B seen0 nx i Wv sn
theorem QInv.start {g : Gr} {p : Pt} (hp : inside g p = true) : QInv g p 0 [p] [p] :=
  ⟨0, [], [], [p], [p], [], wv0 g p, ⟨by simp, fun q hq => by simp at hq; subst hq; exact hp, fun q hq => hq⟩, rfl, rfl, rfl, rfl, rfl, fun q hq => by cases hq⟩
theorem QI.wi2 {g : Gr} {p : Pt} {n : Nat} {pre A B seen0 nx : List Pt} {i : Nat} {Wv sn : List Pt} (h : QI g p n pre A B seen0 nx i Wv sn) : WI g sn nx ∧ sn.length = seen0.length + nx.length := by
  have h1 := expand_inv A seen0 [] ⟨h.wi.nd, h.wi.ins, fun q hq => by cases hq⟩
  rw [h.e1, h.e2] at h1
  exact ⟨h1.1, by have := h1.2; simp at this; exact this⟩
/-- where cells are left, one may suppose that the wave at hand is not through -/
theorem QInv.norm {g : Gr} {p : Pt} {i : Nat} {Wv sn : List Pt} (h : QInv g p i Wv sn) (hi : i < Wv.length) : ∃ n pre A c B seen0 nx, QI g p n pre A (c :: B) seen0 nx i Wv sn := by
  obtain ⟨n, pre, A, B, seen0, nx, hq⟩ := h
  cases B with
  | cons c B => exact ⟨n, pre, A, c, B, seen0, nx, hq⟩
  | nil =>
    cases nx with
    | nil =>
      exfalso
      have h1 := hq.eq
      have h2 := hq.ln
      rw [h1] at hi
      simp at hi
      omega
    | cons c nx =>
      have h1 := hq.wv.step
      rw [List.append_nil, hq.e1, hq.e2] at h1
      refine ⟨n + 1, pre ++ A, [], c, nx, sn, [], h1, hq.wi2.1, rfl, rfl, ?_, ?_, ?_, ?_⟩
      · rw [hq.eq]; simp
      · rw [hq.ln]; simp
      · have h2 := hq.sz
        have h3 := hq.wi2.2
        simp at h2 h3 ⊢
        omega
      · intro q hq2
        rw [← hq.e1, (expand_mem g A seen0 [] q).1]
        rcases List.mem_append.1 hq2 with h4 | h4
        · exact .inl (hq.sb q h4)
        · exact .inl (hq.wi.sub q (List.mem_append_left _ h4))
theorem QI.at {g : Gr} {p : Pt} {n : Nat} {pre A B seen0 nx : List Pt} {c : Pt} {i : Nat} {Wv sn : List Pt} (h : QI g p n pre A (c :: B) seen0 nx i Wv sn) : pt Wv i = c := by
  rw [h.eq, h.ln]
  unfold pt
  rw [List.getD_eq_getElem?_getD]
  simp [List.append_assoc]
theorem QI.cur {g : Gr} {p : Pt} {n : Nat} {pre A B seen0 nx : List Pt} {c : Pt} {i : Nat} {Wv sn : List Pt} (h : QI g p n pre A (c :: B) seen0 nx i Wv sn) : IsD g p c n := (h.wv.n c).1 (by simp)
theorem QI.seen {g : Gr} {p : Pt} {n : Nat} {pre A B seen0 nx : List Pt} {i : Nat} {Wv sn : List Pt} (h : QI g p n pre A B seen0 nx i Wv sn) {x : Pt} (hx : x ∈ sn) : ∃ m, IsD g p x m := by
  rw [← h.e1, (expand_mem g A seen0 [] x).1, h.wv.s] at hx
  rcases hx with ⟨m, _, h2⟩ | ⟨r, h1, h2⟩
  · obtain ⟨k, _, h3⟩ := h2.isD
    exact ⟨k, h3⟩
  · have hr := (h.wv.n r).1 (List.mem_append_left _ h1)
    obtain ⟨k, _, h3⟩ := (Walk.cons hr.w h2).isD
    exact ⟨k, h3⟩
theorem QI.fresh {g : Gr} {p : Pt} {n : Nat} {pre A B seen0 nx : List Pt} {c : Pt} {i : Nat} {Wv sn : List Pt} (h : QI g p n pre A (c :: B) seen0 nx i Wv sn) {x : Pt} (hx : x ∈ near g c) (hn : x ∉ sn) : IsD g p x (n + 1) := by
  refine ⟨.cons h.cur.w hx, fun m hm hw => hn ?_⟩
  rw [← h.e1, (expand_mem g A seen0 [] x).1, h.wv.s]
  exact .inl ⟨m, by omega, hw⟩
theorem QI.next {g : Gr} {p : Pt} {n : Nat} {pre A B seen0 nx : List Pt} {c : Pt} {i : Nat} {Wv sn : List Pt} (h : QI g p n pre A (c :: B) seen0 nx i Wv sn) :
    QI g p n pre (A ++ [c]) B seen0 (addN sn nx (near g c)).2 (i + 1) (Wv ++ (addN sn [] (near g c)).2) (addN sn [] (near g c)).1 := by
  have hw := h.wv
  have hi := h.wi
  rw [show A ++ c :: B = A ++ [c] ++ B by simp] at hw hi
  refine ⟨hw, hi, ?_, ?_, ?_, ?_, ?_, h.sb⟩
  · rw [expand_snoc, h.e1, h.e2]; exact addN_fst_next _ _ _ _
  · rw [expand_snoc, h.e1, h.e2]
  · rw [h.eq, addN_snd_next (near g c) sn nx]; simp
  · rw [h.ln]; simp; omega
  · have := h.sz; simp at this ⊢; omega

section
variable {g : Gr} {p : Pt} {i : Nat} {Wv sn : List Pt}
theorem QInv.step (h : QInv g p i Wv sn) (hi : i < Wv.length) : QInv g p (i + 1) (Wv ++ (addN sn [] (near g (pt Wv i))).2) (addN sn [] (near g (pt Wv i))).1 := by
  obtain ⟨n, pre, A, c, B, seen0, nx, hq⟩ := h.norm hi
  rw [hq.at]
  exact ⟨_, _, _, _, _, _, hq.next⟩
theorem QInv.wi (h : QInv g p i Wv sn) : sn.Nodup ∧ (∀ q ∈ sn, inside g q = true) ∧ Wv.length = sn.length ∧ ∀ q ∈ Wv, q ∈ sn := by
  obtain ⟨n, pre, A, B, seen0, nx, hq⟩ := h
  refine ⟨hq.wi2.1.nd, hq.wi2.1.ins, ?_, ?_⟩
  · have h1 := hq.wi2.2
    have h2 := hq.sz
    rw [hq.eq]
    simp at h2 ⊢
    omega
  · intro q hq2
    rw [hq.eq] at hq2
    rcases List.mem_append.1 hq2 with h4 | h4
    · rw [← hq.e1, (expand_mem g A seen0 [] q).1]
      rcases List.mem_append.1 h4 with h4 | h4
      · exact .inl (hq.sb q h4)
      · exact .inl (hq.wi.sub q h4)
    · exact hq.wi2.1.sub q h4
theorem QInv.val (h : QInv g p i Wv sn) (hr : Right g) (hp : inside g p = true) (hi : i < Wv.length) : 0 ≤ dst g p (pt Wv i) ∧ ∀ x ∈ near g (pt Wv i), x ∉ sn → dst g p x = dst g p (pt Wv i) + 1 := by
  obtain ⟨n, pre, A, c, B, seen0, nx, hq⟩ := h.norm hi
  rw [hq.at]
  have h1 := dst_of hr hp hq.cur
  refine ⟨by omega, fun x hx hn => ?_⟩
  rw [dst_of hr hp (hq.fresh hx hn), h1]
  omega
theorem QInv.pos (h : QInv g p i Wv sn) (hr : Right g) (hp : inside g p = true) {x : Pt} (hx : x ∈ sn) : 0 ≤ dst g p x := by
  obtain ⟨n, pre, A, B, seen0, nx, hq⟩ := h
  obtain ⟨m, hm⟩ := hq.seen hx
  rw [dst_of hr hp hm]
  omega
theorem QInv.done (h : QInv g p i Wv sn) (hi : i = Wv.length) {x : Pt} (hx : x ∉ sn) : dst g p x = -1 := by
  obtain ⟨n, pre, A, B, seen0, nx, hq⟩ := h
  have h1 := hq.eq
  have h2 := hq.ln
  have h3 : B = [] ∧ nx = [] := by
    rw [h1] at hi
    simp at hi
    exact ⟨List.eq_nil_of_length_eq_zero (by omega), List.eq_nil_of_length_eq_zero (by omega)⟩
  obtain ⟨rfl, rfl⟩ := h3
  have hs := hq.wv.step
  rw [List.append_nil, hq.e1, hq.e2] at hs
  refine dst_none fun k hk => ?_
  by_cases hkn : k ≤ n + 1
  · exact hx ((hs.s x).2 ⟨k, hkn, hk.w⟩)
  · obtain ⟨r, hr⟩ := IsD.down (m := n + 1) (n := k - (n + 1)) (by rw [show n + 1 + (k - (n + 1)) = k by omega]; exact hk)
    have := (hs.n r).2 hr
    cases this
end
end Go.Proofs.Ytfigooilhnahfaa
/- The reference's way to the sizes of the parts, in plain Lean: a list sorted by insertion; the cells of a part counted one by one. -/
namespace Go.Proofs.Ytfigooilhnahfaa

theorem getD_ext {l m : List Int} (h : l.length = m.length) (k : ∀ i, i < l.length → l.getD i 0 = m.getD i 0) : l = m := by
  refine List.ext_getElem h fun i h1 h2 => ?_
  have := k i h1
  simpa [List.getD, h1, h2] using this
/-- x at place k of L -/
def putAt (L : List Int) (x : Int) (k : Nat) : List Int := L.take k ++ x :: L.drop k
theorem putAt_len (L : List Int) (x : Int) {k : Nat} (h : k ≤ L.length) : (putAt L x k).length = L.length + 1 := by
  unfold putAt; simp; omega
theorem putAt_get (L : List Int) (x : Int) {k : Nat} (h : k ≤ L.length) (i : Nat) : (putAt L x k).getD i 0 = if i < k then L.getD i 0 else if i = k then x else L.getD (i - 1) 0 := by
  unfold putAt
  have hl : (L.take k).length = k := by simp; omega
  by_cases h1 : i < k
  · rw [if_pos h1, List.getD_eq_getElem?_getD, List.getElem?_append_left (by omega), List.getElem?_take_of_lt h1, List.getD_eq_getElem?_getD]
  · rw [if_neg h1, List.getD_eq_getElem?_getD, List.getElem?_append_right (by omega), hl]
    by_cases h2 : i = k
    · rw [if_pos h2, h2]; simp
    · rw [if_neg h2, show i - k = (i - 1 - k) + 1 by omega, List.getElem?_cons_succ, List.getElem?_drop, show k + (i - 1 - k) = i - 1 by omega, List.getD_eq_getElem?_getD]
theorem getD_set (L : List Int) (i : Nat) (x : Int) (j : Nat) (h : i < L.length) : (L.set i x).getD j 0 = if j = i then x else L.getD j 0 := by
  rw [List.getD_eq_getElem?_getD, List.getElem?_set]
  by_cases e : i = j
  · subst e; simp [h]
  · rw [if_neg e, if_neg (fun h => e h.symm), List.getD_eq_getElem?_getD]
theorem putAt_step (L : List Int) (x : Int) {k : Nat} (h : k + 1 ≤ L.length) : putAt L x k = ((putAt L x (k + 1)).set (k + 1) (L.getD k 0)).set k x := by
  have l1 := putAt_len L x (k := k) (by omega)
  have l2 := putAt_len L x h
  refine getD_ext (by simp [l1, l2]) fun i hi => ?_
  rw [getD_set _ _ _ _ (by simp [l2]; omega), getD_set _ _ _ _ (by rw [l2]; omega), putAt_get L x (by omega), putAt_get L x h]
  by_cases h1 : i < k
  · rw [if_pos h1, if_neg (by omega), if_neg (by omega), if_pos (by omega)]
  · rw [if_neg h1]
    by_cases h2 : i = k
    · rw [if_pos h2, if_pos h2]
    · rw [if_neg h2, if_neg h2]
      by_cases h3 : i = k + 1
      · rw [if_pos h3, h3]; rfl
      · rw [if_neg h3, if_neg (by omega), if_neg h3]
theorem putAt_end (L : List Int) (x : Int) : putAt L x L.length = L ++ [x] := by unfold putAt; simp
def pos (L : List Int) (x : Int) : Nat → Nat
  | 0 => 0
  | k + 1 => if L.getD k 0 < x then pos L x k else k + 1
def insD (L : List Int) (x : Int) : List Int := putAt L x (pos L x L.length)
def isortD (l : List Int) : List Int := l.foldl insD []
theorem isortD_snoc (l : List Int) (x : Int) : isortD (l ++ [x]) = insD (isortD l) x := by unfold isortD; rw [List.foldl_append]; rfl
theorem pos_spec (L : List Int) (x : Int) : ∀ k, pos L x k ≤ k ∧ (∀ i, pos L x k ≤ i → i < k → L.getD i 0 < x) ∧ (pos L x k ≠ 0 → x ≤ L.getD (pos L x k - 1) 0) := by
  intro k
  induction k with
  | zero => exact ⟨Nat.le_refl _, fun i h1 h2 => by omega, fun h => absurd rfl h⟩
  | succ k ih =>
    unfold pos
    by_cases h : L.getD k 0 < x
    · rw [if_pos h]
      refine ⟨by omega, fun i h1 h2 => ?_, ih.2.2⟩
      by_cases e : i = k
      · rw [e]; exact h
      · exact ih.2.1 i h1 (by omega)
    · rw [if_neg h]
      exact ⟨Nat.le_refl _, fun i h1 h2 => by omega, fun _ => by rw [Nat.add_sub_cancel]; omega⟩
def Desc (l : List Int) : Prop := l.Pairwise fun a b => b ≤ a
theorem Desc.get {l : List Int} (h : Desc l) {i j : Nat} (hij : i ≤ j) (hj : j < l.length) : l.getD j 0 ≤ l.getD i 0 := by
  unfold Desc at h
  rw [List.pairwise_iff_getElem] at h
  by_cases e : i = j
  · subst e; exact Int.le_refl _
  · have := h i j (by omega) hj (by omega)
    simpa [List.getD, hj, show i < l.length by omega] using this
theorem insD_perm (L : List Int) (x : Int) : (insD L x).Perm (x :: L) := by
  unfold insD putAt
  refine List.perm_middle.trans ?_
  rw [List.take_append_drop]
theorem insD_desc {L : List Int} (h : Desc L) (x : Int) : Desc (insD L x) := by
  obtain ⟨h1, h2, h3⟩ := pos_spec L x L.length
  unfold insD putAt
  generalize pos L x L.length = k at h1 h2 h3
  have hA : ∀ a ∈ L.take k, x ≤ a := by
    intro a ha
    obtain ⟨i, hi, e⟩ := List.mem_iff_getElem.1 ha
    rw [List.length_take] at hi
    rw [List.getElem_take] at e
    have := h.get (i := i) (j := k - 1) (by omega) (by omega)
    have h4 := h3 (by omega)
    have e2 : L.getD i 0 = a := by simp [List.getD, show i < L.length by omega, e]
    omega
  have hB : ∀ b ∈ L.drop k, b ≤ x := by
    intro b hb
    obtain ⟨i, hi, e⟩ := List.mem_iff_getElem.1 hb
    rw [List.length_drop] at hi
    rw [List.getElem_drop] at e
    have := h2 (k + i) (by omega) (by omega)
    have e2 : L.getD (k + i) 0 = b := by simp [List.getD, show k + i < L.length by omega, e]
    omega
  have hs : Desc (L.take k ++ L.drop k) := by rw [List.take_append_drop]; exact h
  unfold Desc at hs ⊢
  rw [List.pairwise_append] at hs ⊢
  refine ⟨hs.1, List.pairwise_cons.2 ⟨fun b hb => hB b hb, hs.2.1⟩, fun a ha b hb => ?_⟩
  rcases List.mem_cons.1 hb with rfl | hb
  · exact hA a ha
  · exact hs.2.2 a ha b hb
theorem isortD_spec (l : List Int) : Desc (isortD l) ∧ (isortD l).Perm l := by
  have key : ∀ (l acc : List Int), Desc acc → Desc (l.foldl insD acc) ∧ (l.foldl insD acc).Perm (acc ++ l) := by
    intro l
    induction l with
    | nil => intro acc h; exact ⟨h, by simp⟩
    | cons x l ih =>
      intro acc h
      obtain ⟨h1, h2⟩ := ih (insD acc x) (insD_desc h x)
      refine ⟨h1, h2.trans ?_⟩
      refine ((insD_perm acc x).append_right l).trans ?_
      exact (List.perm_middle (l₁ := acc) (l₂ := l) (a := x)).symm
  have := key l [] List.Pairwise.nil
  rw [List.nil_append] at this
  exact this
theorem isortD_is (l : List Int) : isortD l = l.mergeSort fun x y => decide (y ≤ x) := by
  obtain ⟨h1, h2⟩ := isortD_spec l
  have hs := List.pairwise_mergeSort (le := fun x y : Int => decide (y ≤ x)) (by simp; omega) (by simp; omega) l
  refine List.Perm.eq_of_pairwise (le := fun a b : Int => b ≤ a) (fun a b _ _ h3 h4 => by omega) h1 (by simpa using hs) ?_
  exact h2.trans (List.mergeSort_perm l _).symm
theorem isortD_len (l : List Int) : (isortD l).length = l.length := (isortD_spec l).2.length_eq

/-! ### Counting -/
def cntD (D : Pt → Int) (g : Gr) : Nat → Nat
  | 0 => 0
  | j + 1 => cntD D g j + if 0 ≤ D (cellAt g j) then 1 else 0
theorem cntD_le (D : Pt → Int) (g : Gr) : ∀ j, cntD D g j ≤ j := by
  intro j
  induction j with
  | zero => exact Nat.le_refl _
  | succ j ih => unfold cntD; split <;> omega
theorem cntD_filter (D : Pt → Int) (g : Gr) : ∀ j, cntD D g j = (((List.range j).map (cellAt g)).filter fun x => decide (0 ≤ D x)).length := by
  intro j
  induction j with
  | zero => rfl
  | succ j ih =>
    unfold cntD
    rw [ih, List.range_succ, List.map_append, List.filter_append, List.length_append]
    congr 1
    simp only [List.map_cons, List.map_nil, List.filter_cons, List.filter_nil]
    by_cases h : 0 ≤ D (cellAt g j)
    · simp [h]
    · simp [h]
theorem cellAt_inj {g : Gr} (_hc : 1 ≤ g.cols) {i j : Nat} (h : cellAt g i = cellAt g j) : i = j := by
  unfold cellAt at h
  simp only [Prod.mk.injEq, Int.natCast_inj] at h
  have h1 := Nat.div_add_mod i g.cols.toNat
  have h2 := Nat.div_add_mod j g.cols.toNat
  rw [h.1, h.2] at h1
  omega
theorem allCells_nodup {g : Gr} (hr : Right g) (n : Nat) : ((List.range n).map (cellAt g)).Nodup := by
  unfold List.Nodup
  rw [List.pairwise_map]
  refine List.Pairwise.imp ?_ (List.nodup_range (n := n))
  intro a b hab e
  exact hab (cellAt_inj hr.c1 e)
theorem mem_wave {g : Gr} (hr : Right g) {p : Pt} (hp : inside g p = true) (x : Pt) : x ∈ (wave g p).map (·.1) ↔ 0 ≤ dst g p x := by
  constructor
  · intro h
    obtain ⟨y, hy, rfl⟩ := List.mem_map.1 h
    have := dst_of hr hp (wave_sound hy)
    omega
  · intro h
    rcases dst_cases hr hp x with ⟨k, h1, _⟩ | ⟨_, h2⟩
    · exact List.mem_map.2 ⟨(x, k), wave_all hr hp h1, rfl⟩
    · omega
theorem cnt_wave {g : Gr} (hr : Right g) {p : Pt} (hp : inside g p = true) : cntD (dst g p) g (g.rows.toNat * g.cols.toNat) = (wave g p).length := by
  have hl : (wave g p).length = ((wave g p).map (·.1)).length := by simp
  rw [cntD_filter, hl]
  refine List.Perm.length_eq ((List.perm_ext_iff_of_nodup ((allCells_nodup hr _).filter _) (wave_nodup g p)).2 fun x => ?_)
  rw [List.mem_filter, mem_wave hr hp]
  simp only [decide_eq_true_eq]
  constructor
  · exact fun h => h.2
  · intro h
    refine ⟨?_, h⟩
    obtain ⟨y, hy, rfl⟩ := List.mem_map.1 ((mem_wave hr hp x).2 h)
    obtain ⟨j, hj, e⟩ := inside_at (wave_inside hp y hy)
    exact List.mem_map.2 ⟨j, List.mem_range.2 hj, e⟩
end Go.Proofs.Ytfigooilhnahfaa
/- The route: the loop over the cells around one. -/
namespace Go.Proofs.Ytfigooilhnahfaa
open Go.RowKit
attribute [local go_sem] Oper.semAt_some

theorem Chg.below {B : Nat → Prop} {w A C : World} (h : Chg B w A) (k : Below w.heap.size A C) : Chg B w C :=
  ⟨Nat.le_trans h.1 k.size, fun i hi hb => (k.block i hi).trans (h.2 i hi hb)⟩

structure RtEnd (g : Gr) (D : Pt → Int) (a : Pt) (atb : Nat) (w3 W : World) (x : Pt) : Prop where
  b : Below atb w3 W
  c : Chg (fun k => k = atb) w3 W
  a1 : W.cell? ⟨atb, 0, none⟩ = some (.int .i64 x.1)
  a2 : W.cell? ⟨atb, 1, none⟩ = some (.int .i64 x.2)
  f1 : W.frozen? ⟨atb, 0, none⟩ = false
  f2 : W.frozen? ⟨atb, 1, none⟩ = false
theorem RtEnd.ext {g : Gr} {D : Pt → Int} {a x : Pt} {atb : Nat} {w3 A B : World} (h : RtEnd g D a atb w3 A x) (hat : atb < w3.heap.size) (k : Below w3.heap.size A B) : RtEnd g D a atb w3 B x :=
  ⟨h.b.trans (k.mono (by omega)), h.c.below k, (k.cell (p := ⟨atb, 0, none⟩) hat).trans h.a1, (k.cell (p := ⟨atb, 1, none⟩) hat).trans h.a2, (k.frozen (p := ⟨atb, 0, none⟩) hat).trans h.f1, (k.frozen (p := ⟨atb, 1, none⟩) hat).trans h.f2⟩

set_option maxHeartbeats 4000000 in
set_option maxRecDepth 100000 in
theorem route_range (cas cbd : Code) (hcode : rngOf (Try.f54.body.getD .skip) = [(cas, cbd)]) (g : Gr) (a : Pt) (D : Pt → Int) (ga : Option Addr) (gc : Nat) (w3 : World) (pb gb ob tb atb : Nat)
    (hr : Right g) (ha : inside g a = true)
    (p1 : w3.cell? ⟨pb, 0, none⟩ = some (.int .i64 a.1)) (p2 : w3.cell? ⟨pb, 1, none⟩ = some (.int .i64 a.2))
    (g1 : w3.cell? ⟨gb, 0, none⟩ = some (.int .i64 g.rows)) (g2 : w3.cell? ⟨gb, 1, none⟩ = some (.int .i64 g.cols)) (g3 : w3.cell? ⟨gb, 2, none⟩ = some (.slice ga g.bl.length gc))
    (hc : Cells2 w3 ga g.bl) (m1 : pb ≠ atb) (m2 : gb ≠ atb) (m3 : g.bl ≠ [] → ∀ b off, ga = some ⟨b, off, none⟩ → b ≠ atb)
    (o1 : w3.cell? ⟨ob, 0, none⟩ = some (.pointer (some ⟨tb, 0, none⟩))) (t0 : TabAt w3 tb D)
    (a1 : w3.cell? ⟨atb, 0, none⟩ = some (.int .i64 a.1)) (a2 : w3.cell? ⟨atb, 1, none⟩ = some (.int .i64 a.2)) (a3 : w3.frozen? ⟨atb, 0, none⟩ = false) (a4 : w3.frozen? ⟨atb, 1, none⟩ = false)
    (hw : 0 ≤ D a) (hw2 : D a < 5000) (hex : ∃ x ∈ near g a, D x = D a - 1)
    (u0 u1 u2 u3 u4 u5 u6 u7 u9 u11 u12 u13 u14 u15 u16 u17 u18 u19 u20 u21 u22 u23 u24 u25 u26 u27 u28 u29 u30 u31 u32 u34 u35 u36 u37 u38 u39 u40 u41 u42 u43 u44 u45 u46 u47 u48 u49 u50 u51 u52 u53 u54 u55 u56 u57 u58 u59 u60 u61 : Value) (ds : List Deferred) (Q : Exit → Act → World → Prop)
    (hstop : ∀ (Db : Nat) (W : World), w3.heap.size ≤ Db → Db < W.heap.size → RtEnd g D a atb w3 W (stepTo g D a) → W.heap[Db]? = some (.deferred (some [])) →
      (Code.exit 2).wp Try.prog Q { tmps := #[u0, u1, u2, u3, u4, u5, u6, u7, .pointer (some ⟨ob, 0, none⟩), u9, .pointer (some ⟨atb, 0, none⟩), u11, u12, u13, u14, u15, u16, u17, u18, u19, u20, u21, u22, u23, u24, u25, u26, u27, u28, u29, u30, u31, u32, .func (.func 82) #[] #[.pointer (some ⟨pb, 0, none⟩), .pointer (some ⟨gb, 0, none⟩)], u34, u35, u36, u37, u38, u39, u40, u41, u42, u43, u44, u45, u46, u47, u48, u49, u50, u51, u52, u53, u54, u55, u56, u57, u58, u59, u60, u61], defers := mark Db :: ds } W) :
    (Code.rangeFunc (.tmp 33) #[34] cas cbd).wp Try.prog Q { tmps := #[u0, u1, u2, u3, u4, u5, u6, u7, .pointer (some ⟨ob, 0, none⟩), u9, .pointer (some ⟨atb, 0, none⟩), u11, u12, u13, u14, u15, u16, u17, u18, u19, u20, u21, u22, u23, u24, u25, u26, u27, u28, u29, u30, u31, u32, .func (.func 82) #[] #[.pointer (some ⟨pb, 0, none⟩), .pointer (some ⟨gb, 0, none⟩)], u34, u35, u36, u37, u38, u39, u40, u41, u42, u43, u44, u45, u46, u47, u48, u49, u50, u51, u52, u53, u54, u55, u56, u57, u58, u59, u60, u61], defers := ds } w3 := by
  have HC := Lib.hid hcode
  have HR := Lib.hid hr
  have hat : atb < w3.heap.size := cell_lt a1
  have hwr : IntKind.i64.wrap (D a - 1) = D a - 1 := IntWalk.i64_in _ (by omega)
  have hia := inG_of hr ha
  have EX := Lib.hid hex
  refine wp_range (n := 0) (gf := 82) (lb := #[.pointer (some ⟨pb, 0, none⟩), .pointer (some ⟨gb, 0, none⟩)]) rfl (enters_of Try.func82 (by kernel_rfl) rfl)
    (around1_iter g a ga gc w3 pb gb (fun k => k = atb) hr ha p1 p2 g1 g2 g3 hc m1 m2 m3) (fun q => rfl)
    (fun A B h k o hk ho => by rw [Below.block h k (Array.getElem?_eq_some_iff.1 ho).1]; exact ho)
    (fun pre W => Ext w3 W ∧ ∀ y ∈ pre, D y ≠ D a - 1)
    (fun c pre W => c = .exit 2 ∧ ∃ pre' x, pre = pre' ++ [x] ∧ (∀ y ∈ pre', D y ≠ D a - 1) ∧ D x = D a - 1 ∧ RtEnd g D a atb w3 W x)
    (fun pre A B h k => ⟨h.1.trans k, h.2⟩) (fun c pre A B h k => by
      obtain ⟨h1, pre', x, h2, h3, h4, h5⟩ := h
      exact ⟨h1, pre', x, h2, h3, h4, h5.ext hat (k.mono (Nat.le_trans (Nat.le_refl _) h5.c.1))⟩)
    (fun pre A B h k => ⟨Below.trans h.1 k.1, h.2⟩) (fun c pre A B h k => by
      obtain ⟨h1, pre', x, h2, h3, h4, h5⟩ := h
      exact ⟨h1, pre', x, h2, h3, h4, h5.ext hat k.1⟩)
    ⟨Ext.refl _, fun y hy => by cases hy⟩
    (fun (x : Pt) a' W => ∃ qb, w3.heap.size + 2 < qb ∧ W.cell? ⟨qb, 0, none⟩ = some (.int .i64 x.1) ∧ W.cell? ⟨qb, 1, none⟩ = some (.int .i64 x.2) ∧ a' = { tmps := #[u0, u1, u2, u3, u4, u5, u6, u7, .pointer (some ⟨ob, 0, none⟩), u9, .pointer (some ⟨atb, 0, none⟩), .pointer (some ⟨qb, 0, none⟩), u12, u13, u14, u15, u16, u17, u18, u19, u20, u21, u22, u23, u24, u25, u26, u27, u28, u29, u30, u31, u32, .func (.func 82) #[] #[.pointer (some ⟨pb, 0, none⟩), .pointer (some ⟨gb, 0, none⟩)], .agg #[.int .i64 x.1, .int .i64 x.2], u35, u36, u37, u38, u39, u40, u41, u42, u43, u44, u45, u46, u47, u48, u49, u50, u51, u52, u53, u54, u55, u56, u57, u58, u59, u60, u61], defers := [] })
    ?hax ?assign ?body (fun pre A B h k => ⟨h.1.trans k, h.2⟩) ?done ?stop
  case hax =>
    rintro q a' A B ⟨qb, h1, h2, h3, h4⟩ hk
    exact ⟨qb, h1, hk.cell h2, hk.cell h3, h4⟩
  case assign =>
    simp only [Try.f54, rngOf, Option.getD, List.nil_append, List.append_nil] at hcode
    cases hcode
    intro l pre x W K hm hI hK
    clear HC
    gi_wp2
    exact hK _ _ ((Ext.refl _).alloc _) ⟨W.heap.size, by omega, by go_simp, by go_simp, rfl⟩
  case body =>
    simp only [Try.f54, rngOf, Option.getD, List.nil_append, List.append_nil] at hcode
    cases hcode
    rintro l pre x a' W hpre hm ⟨hE, hn⟩ ⟨qb, hqb, q1, q2, rfl⟩
    have hxn : x ∈ near g a := hpre.subset (by simp)
    obtain ⟨r1, r2, r3, r4⟩ := inG_of HR.out (near_inside hxn)
    have c1 := ((t0.ext hE) x ⟨r1, r2, r3, r4⟩).1
    have c2 := ((t0.ext hE) a hia).1
    have o1 := hE.cell o1
    have b1 := hE.cell a1
    have b2 := hE.cell a2
    have b3 := (Below.frozen hE (p := ⟨atb, 0, none⟩) hat).trans a3
    have b4 := (Below.frozen hE (p := ⟨atb, 1, none⟩) hat).trans a4
    obtain ⟨s1, s2, s3, s4⟩ := hia
    have HE := Lib.hid hE
    have HN := Lib.hid hn
    clear HC hE hn hr hxn hpre m3 hc t0 p1 p2 g1 g2 g3 a1 a2 a3 a4 hex EX ha
    cases hd : (D x == D a - 1)
    · have HD := Lib.hid hd
      gi_wp2
      refine round_quiet (by kernel_rfl) (by kernel_rfl) (by kernel_rfl) (fun ⟨_, _, h⟩ => h) ?_
      repeat (go_big_quiet_step (fail))
      refine wpQuiet_nil ?_
      rintro _ ⟨nq, rfl⟩
      gi_wp2
      have hdr : Ext W (W.drewN nq) := (Ext.refl _).drewN _
      refine ⟨Kept.ext hdr _ _, (Chg.others (Chg.ext (B := fun _ => False) hdr) (fun _ h => h.elim)).from _, HE.out.trans hdr, fun y hy => ?_⟩
      rcases List.mem_append.1 hy with hy | hy
      · exact HN.out y hy
      · simp at hy
        subst hy
        simpa using HD.out
    · have HD := Lib.hid hd
      gi_wp2
      refine round_quiet (by kernel_rfl) (by kernel_rfl) (by kernel_rfl) (fun ⟨_, _, h⟩ => h) ?_
      repeat (go_big_quiet_step (fail))
      refine wpQuiet_nil ?_
      rintro _ ⟨nq, rfl⟩
      gi_wp2
      have hdr : Ext W (W.drewN nq) := (Ext.refl _).drewN _
      have hatW : atb < W.heap.size := cell_lt b1
      have C : Chg (fun k => k = atb) W (((W.drewN nq).setCell ⟨atb, 0, none⟩ (.int .i64 x.1)).setCell ⟨atb, 1, none⟩ (.int .i64 x.2)) := ((Chg.ext hdr).trans (Chg.setCell (B := fun k => k = atb) ⟨atb, _, none⟩ _ rfl)).trans (Chg.setCell (B := fun k => k = atb) ⟨atb, _, none⟩ _ rfl)
      refine ⟨C.kept ?_, (C.others ?_).from _, rfl, pre, x, rfl, HN.out, by simpa using HD.out, ?_⟩
      · rintro k (⟨_, h⟩ | h) _ e
        · exact h e
        · omega
      · rintro k rfl o ho
        exact isCells_of_cell b1 ho
      · have d1 := hdr.cell b1
        have d2 := hdr.cell b2
        have d3 := (Below.frozen hdr (p := ⟨atb, 0, none⟩) hatW).trans b3
        have d4 := (Below.frozen hdr (p := ⟨atb, 1, none⟩) hatW).trans b4
        have d5 : ((W.drewN nq).setCell ⟨atb, 0, none⟩ (.int .i64 x.1)).cell? ⟨atb, 1, none⟩ = some (.int .i64 a.2) := by
          rw [World.cell?_setCell_other _ _ _ _ (fun h => by simp at h)]; exact d2
        exact {
          b := (((Below.mono HE.out (Nat.le_of_lt hat)).trans (hdr.mono (Nat.le_of_lt hatW))).setCell (p := ⟨atb, _, none⟩) (Nat.le_refl _) _).setCell (p := ⟨atb, _, none⟩) (Nat.le_refl _) _
          c := (Chg.ext HE.out).trans C
          a1 := by
            rw [World.cell?_setCell_other _ _ _ _ (fun h => by simp at h)]
            exact World.cell?_setCell_same _ _ _ d1
          a2 := World.cell?_setCell_same _ _ _ d5
          f1 := by rw [World.frozen?_setCell, World.frozen?_setCell]; exact d3
          f2 := by rw [World.frozen?_setCell, World.frozen?_setCell]; exact d4 }
  case done =>
    rintro Db W h1 h2 ⟨h3, h4⟩ h5
    obtain ⟨x, hx, hd⟩ := EX.out
    exact absurd hd (h4 x hx)
  case stop =>
    rintro Db c pre W h1 h2 hpre ⟨rfl, pre', x, rfl, h4, h5, h6⟩ h7
    rw [← stepTo_of hpre h4 h5] at h6
    exact hstop Db W h1 h2 h6 h7
end Go.Proofs.Ytfigooilhnahfaa
/- The route. -/
namespace Go.Proofs.Ytfigooilhnahfaa
open Go.RowKit
attribute [local go_sem] Oper.semAt_some

def routeL (g : Gr) (p q : Pt) : List Pt := if dst g q p < 0 then [] else way g p q
def RoutePost (g : Gr) (p q : Pt) (w : World) (e : Ending) (w' : World) : Prop :=
  ∃ v, e = .returned (.tuple #[v, .int .i64 (if dst g q p < 0 then 6 else 0)]) ∧ Owns w' v (routeL g p q) ∧ Ext w w'

def sliceLen : Value → Nat
  | .slice _ n _ => n
  | _ => 0
def fuelR (a : Act) : Nat := 5000 - sliceLen (a.tmps.getD 9 undef)

/-- a frame with marks leaves: only the marks turn -/
theorem leaves_keep {P : Program} {fn : Func} {tmps : Array Value} {R : Ending → World → Prop} {m n : Nat} {v : Value} (hv : ∀ w, (results fn tmps).run P w = .ok v w) :
    ∀ (ds : List Deferred) (w : World), Marks n ds w → (∀ w', Keep n w w' → R (.returned v) w') → LeavesInM Fence.wide m P fn tmps R ds .returning w := by
  intro ds
  induction ds with
  | nil => intro w _ hR; exact ⟨v, hv w, hR w (Keep.refl _ _)⟩
  | cons d ds ih =>
    intro w hm hR
    obtain ⟨Ds, h1, h2, h3⟩ := hm
    cases Ds with
    | nil => cases h1
    | cons D Ds =>
      simp only [List.map_cons, List.cons.injEq] at h1
      obtain ⟨rfl, rfl⟩ := h1
      have hD := h3 D (List.mem_cons_self ..)
      have hb : Keep n w (w.putObj D (.deferred none)) := Keep.turn hD.1 hD.2 rfl
      refine ⟨(by simp), .inl ⟨D, _, rfl, run_takeDeferred hD.2, ih _ ⟨Ds, rfl, (List.nodup_cons.1 h2).2, fun E hE => ⟨(h3 E (List.mem_cons_of_mem _ hE)).1, ?_⟩⟩ (fun w' hw' => hR w' (hb.trans hw'))⟩⟩
      have hne : E ≠ D := fun e => (List.nodup_cons.1 h2).1 (e ▸ hE)
      rw [World.putObj_heap_other hne]
      exact (h3 E (List.mem_cons_of_mem _ hE)).2

theorem owns_new (W : World) (p : Pt) : Owns (W.alloc (.cells #[.int .i64 p.1, .int .i64 p.2] 26)) (.slice (some ⟨W.heap.size, 0, none⟩) [p].length 1) [p] :=
  ⟨rfl, .inr ⟨W.heap.size, 1, #[.int .i64 p.1, .int .i64 p.2], rfl, Nat.zero_le _, World.alloc_heap_new _ _, by simp, by decide, rfl, rfl⟩⟩

theorem stepTo_spec {g : Gr} {D : Pt → Int} {a : Pt} (h : ∃ x ∈ near g a, D x = D a - 1) : stepTo g D a ∈ near g a ∧ D (stepTo g D a) = D a - 1 := by
  obtain ⟨x, h1, h2⟩ := h
  unfold stepTo
  cases hf : (near g a).find? (fun x => decide (D x = D a - 1)) with
  | none => exact absurd (List.find?_eq_none.1 hf x h1) (by simp [h2])
  | some y => exact ⟨List.mem_of_find?_eq_some hf, by simpa using List.find?_some hf⟩

structure RtLoop (g : Gr) (p q : Pt) (W0 : World) (k : Nat) (a : Pt) (L : List Pt) (v : Value) (atb : Nat) (ds : List Deferred) (w : World) : Prop where
  eq : way g p q = L ++ wayGo g (dst g q) k a
  isd : IsD g q a k
  op : opn g a = true
  be : Below W0.heap.size W0 w
  a1 : w.cell? ⟨atb, 0, none⟩ = some (.int .i64 a.1)
  a2 : w.cell? ⟨atb, 1, none⟩ = some (.int .i64 a.2)
  a3 : w.frozen? ⟨atb, 0, none⟩ = false
  a4 : w.frozen? ⟨atb, 1, none⟩ = false
  own : Owns w v L
  vb : ∀ b, v.ownBlock = some b → W0.heap.size ≤ b ∧ b ≠ atb
  am : W0.heap.size ≤ atb
  ms : Marks W0.heap.size ds w
def RtLoopA (g : Gr) (p q : Pt) (W0 : World) (gb qb ob : Nat) (x : Act) (w : World) : Prop :=
  ∃ (k : Nat) (a : Pt) (L : List Pt) (av : Option Addr) (cv atb : Nat) (ds : List Deferred) (u0 u1 u2 u4 u6 u7 u11 u12 u13 u14 u15 u16 u17 u18 u19 u20 u21 u22 u23 u24 u25 u26 u27 u28 u29 u30 u31 u32 u33 u34 u35 u36 u37 u38 u39 u40 u41 u42 u43 u44 u45 u46 u47 u48 u49 u50 u51 u52 u53 u54 u55 u56 u57 u58 u59 u60 u61 : Value), x = { tmps := #[u0, u1, u2, .pointer (some ⟨gb, 0, none⟩), u4, .pointer (some ⟨qb, 0, none⟩), u6, u7, .pointer (some ⟨ob, 0, none⟩), .slice av L.length cv, .pointer (some ⟨atb, 0, none⟩), u11, u12, u13, u14, u15, u16, u17, u18, u19, u20, u21, u22, u23, u24, u25, u26, u27, u28, u29, u30, u31, u32, u33, u34, u35, u36, u37, u38, u39, u40, u41, u42, u43, u44, u45, u46, u47, u48, u49, u50, u51, u52, u53, u54, u55, u56, u57, u58, u59, u60, u61], defers := ds } ∧ RtLoop g p q W0 k a L (.slice av L.length cv) atb ds w

set_option maxHeartbeats 4000000 in
set_option maxRecDepth 100000 in
theorem route_any (g : Gr) (p q : Pt) (ga : Option Addr) (gc : Nat) (w : World) (hr : Right g) (hp : opn g p = true) (hq : opn g q = true) (hc : Cells2 w ga g.bl) :
    Calls Try.prog 54 #[.agg #[.int .i64 g.rows, .int .i64 g.cols, .slice ga g.bl.length gc], .agg #[.int .i64 p.1, .int .i64 p.2], .agg #[.int .i64 q.1, .int .i64 q.2]] w fun e w' => RoutePost g p q w e w' := by
  have HR := Lib.hid hr
  have HC : Hid (Cells2 w ga g.bl) := hc
  have HP := Lib.hid hp
  have HQ := Lib.hid hq
  obtain ⟨r1, r2, r3, r4⟩ := inG_of hr (opn_inside hp)
  have E0 : Ext w ((( (( ((w).alloc (.cells #[.int .i64 g.rows, .int .i64 g.cols, .slice ga g.bl.length gc] 33))).alloc (.cells #[.int .i64 p.1, .int .i64 p.2] 26))).alloc (.cells #[.int .i64 q.1, .int .i64 q.2] 26))) := (((Ext.refl _).alloc _).alloc _).alloc _
  have a1 : ((( (( ((w).alloc (.cells #[.int .i64 g.rows, .int .i64 g.cols, .slice ga g.bl.length gc] 33))).alloc (.cells #[.int .i64 p.1, .int .i64 p.2] 26))).alloc (.cells #[.int .i64 q.1, .int .i64 q.2] 26))).cell? ⟨w.heap.size, 0, none⟩ = some (.int .i64 g.rows) := by go_simp
  have a2 : ((( (( ((w).alloc (.cells #[.int .i64 g.rows, .int .i64 g.cols, .slice ga g.bl.length gc] 33))).alloc (.cells #[.int .i64 p.1, .int .i64 p.2] 26))).alloc (.cells #[.int .i64 q.1, .int .i64 q.2] 26))).cell? ⟨w.heap.size, 1, none⟩ = some (.int .i64 g.cols) := by go_simp
  have a3 : ((( (( ((w).alloc (.cells #[.int .i64 g.rows, .int .i64 g.cols, .slice ga g.bl.length gc] 33))).alloc (.cells #[.int .i64 p.1, .int .i64 p.2] 26))).alloc (.cells #[.int .i64 q.1, .int .i64 q.2] 26))).cell? ⟨w.heap.size, 2, none⟩ = some (.slice ga g.bl.length gc) := by go_simp
  have a4 : ((( (( ((w).alloc (.cells #[.int .i64 g.rows, .int .i64 g.cols, .slice ga g.bl.length gc] 33))).alloc (.cells #[.int .i64 p.1, .int .i64 p.2] 26))).alloc (.cells #[.int .i64 q.1, .int .i64 q.2] 26))).cell? ⟨w.heap.size + 1, 0, none⟩ = some (.int .i64 p.1) := by go_simp
  have a5 : ((( (( ((w).alloc (.cells #[.int .i64 g.rows, .int .i64 g.cols, .slice ga g.bl.length gc] 33))).alloc (.cells #[.int .i64 p.1, .int .i64 p.2] 26))).alloc (.cells #[.int .i64 q.1, .int .i64 q.2] 26))).cell? ⟨w.heap.size + 1, 1, none⟩ = some (.int .i64 p.2) := by go_simp
  have a6 : ((( (( ((w).alloc (.cells #[.int .i64 g.rows, .int .i64 g.cols, .slice ga g.bl.length gc] 33))).alloc (.cells #[.int .i64 p.1, .int .i64 p.2] 26))).alloc (.cells #[.int .i64 q.1, .int .i64 q.2] 26))).cell? ⟨w.heap.size + 1 + 1, 0, none⟩ = some (.int .i64 q.1) := by go_simp
  have a7 : ((( (( ((w).alloc (.cells #[.int .i64 g.rows, .int .i64 g.cols, .slice ga g.bl.length gc] 33))).alloc (.cells #[.int .i64 p.1, .int .i64 p.2] 26))).alloc (.cells #[.int .i64 q.1, .int .i64 q.2] 26))).cell? ⟨w.heap.size + 1 + 1, 1, none⟩ = some (.int .i64 q.2) := by go_simp
  clear hc hr hp hq
  refine (callsIn_wide (n := 0)).1 ?_
  refine callsIn_of_wp_marks Try.func54 rfl trivial ?_
  simp only [Try.ntmps54, List.size_toArray, List.length_cons, List.length_nil, Nat.reduceAdd, Nat.reduceSub, Array.replicate_succ, Array.replicate_zero, List.push_toArray, List.append_toArray, List.nil_append, List.cons_append]
  gi_wp2_with fail
  refine ⟨trivial, rfl, ?_⟩
  gi_at_call 49
  refine (callsIn_wide.2 (distances_any g q ga gc _ HR.out (opn_inside HQ.out) (HC.out.ext E0))).mono ?_
  rintro e w1 ⟨tb, rfl, hT, hE⟩
  have E1 : Ext w1 (w1.alloc (.cells #[.pointer (some ⟨tb, 0, none⟩)] 86)) := (Ext.refl _).alloc _
  have o1 : (w1.alloc (.cells #[.pointer (some ⟨tb, 0, none⟩)] 86)).cell? ⟨w1.heap.size, 0, none⟩ = some (.pointer (some ⟨tb, 0, none⟩)) := by go_simp
  have EX := hE.trans E1
  have b1 := EX.cell a1
  have b2 := EX.cell a2
  have b3 := EX.cell a3
  have b4 := EX.cell a4
  have b5 := EX.cell a5
  have b6 := EX.cell a6
  have b7 := EX.cell a7
  have hTT := hT.ext E1
  have c1 := (hTT p ⟨r1, r2, r3, r4⟩).1
  have EW := E0.trans EX
  have HT := Lib.hid hTT
  have HCw : Hid (Cells2 (w1.alloc (.cells #[.pointer (some ⟨tb, 0, none⟩)] 86)) ga g.bl) := HC.out.ext EW
  clear hT hE E1 EX hTT HC E0 a1 a2 a3 a4 a5 a6 a7
  generalize hob : w1.heap.size = ob at o1
  have zob : ob < (w1.alloc (.cells #[.pointer (some ⟨tb, 0, none⟩)] 86)).heap.size := by rw [← hob]; simp
  gi_wp2_with fail
  generalize w1.alloc (.cells #[.pointer (some ⟨tb, 0, none⟩)] 86) = w2 at o1 b1 b2 b3 b4 b5 b6 b7 c1 EW HT HCw zob ⊢
  clear hob
  rcases dst_cases HR.out (opn_inside HQ.out) p with ⟨k, hk, hd⟩ | ⟨hno, hd⟩
  · have hneg : ¬ dst g q p < 0 := by omega
    have HNEG := Lib.hid hneg
    have HK := Lib.hid hk
    have HD := Lib.hid hd
    clear hk hd
    refine wpIn_wide.2 ?_
    go_quiet (fail)
    have EN : Ext w2 (w2.drewN nq) := (Ext.refl _).drewN _
    have o1 := EN.cell o1
    have b1 := EN.cell b1
    have b2 := EN.cell b2
    have b3 := EN.cell b3
    have b4 := EN.cell b4
    have b5 := EN.cell b5
    have b6 := EN.cell b6
    have b7 := EN.cell b7
    have T0 := Lib.hid (HT.out.ext EN)
    have C0 := Lib.hid (HCw.out.ext EN)
    have EW0 := EW.trans EN
    generalize w2.drewN nq = W0 at EN o1 b1 b2 b3 b4 b5 b6 b7 T0 C0 EW0 ⊢
    clear EN HT HCw EW zob c1
    have hgb : w.heap.size < W0.heap.size := cell_lt b1
    have hpb : w.heap.size + 1 < W0.heap.size := cell_lt b4
    have hqb : w.heap.size + 1 + 1 < W0.heap.size := cell_lt b6
    have HO : ob < W0.heap.size := cell_lt o1
    have HTb : tb < W0.heap.size := T0.out.lt
    have HBL : Hid (g.bl ≠ [] → ∀ b off, ga = some ⟨b, off, none⟩ → b < W0.heap.size) := fun hne b off hb => C0.out.lt hne hb
    gi_wp2
    refine wpIn_loop (RtLoopA g p q W0 w.heap.size (w.heap.size + 1 + 1) ob) (fun a _ => fuelR a) ?_ ?_
    · have E4 : Ext W0 ((( W0).alloc (.cells #[.int .i64 p.1, .int .i64 p.2] 26))) := (Ext.refl _).alloc _
      have E5 : Ext ((( W0).alloc (.cells #[.int .i64 p.1, .int .i64 p.2] 26))) ((( (( W0).alloc (.cells #[.int .i64 p.1, .int .i64 p.2] 26))).alloc (.cells #[.int .i64 p.1, .int .i64 p.2] 26))) := (Ext.refl _).alloc _
      refine ⟨k, p, [p], some ⟨W0.heap.size, 0, none⟩, 1, W0.heap.size + 1, [], _, _, _, _, _, _, _, _, _, _, _, _, _, _, _, _, _, _, _, _, _, _, _, _, _, _, _, _, _, _, _, _, _, _, _, _, _, _, _, _, _, _, _, _, _, _, _, _, _, _, _, _, _, _, _, _, _, rfl, ?_⟩
      exact {
        eq := by unfold way; rw [HD.out]; rfl
        isd := HK.out
        op := HP.out
        be := E4.trans E5
        a1 := by go_simp
        a2 := by go_simp
        a3 := by go_simp
        a4 := by go_simp
        own := (owns_new W0 p).ext E5
        vb := fun b hb => by
          have hb : some W0.heap.size = some b := hb
          cases hb
          exact ⟨Nat.le_refl _, by omega⟩
        am := by omega
        ms := Marks.nil _ _ }
    · have HK2 : Hid (dst g q p < 4097) := by show _ < _; have h1 := HK.out.lt HR.out (opn_inside HQ.out); have h2 := HD.out; omega
      clear HK
      rintro x wr ⟨k, a, L, av, cv, atb, ds, u0, u1, u2, u4, u6, u7, u11, u12, u13, u14, u15, u16, u17, u18, u19, u20, u21, u22, u23, u24, u25, u26, u27, u28, u29, u30, u31, u32, u33, u34, u35, u36, u37, u38, u39, u40, u41, u42, u43, u44, u45, u46, u47, u48, u49, u50, u51, u52, u53, u54, u55, u56, u57, u58, u59, u60, u61, rfl, h⟩
      have H := Lib.hid h
      have q1 : wr.cell? ⟨w.heap.size + 1 + 1, 0, none⟩ = some (.int .i64 q.1) := (h.be.cell (p := ⟨w.heap.size + 1 + 1, 0, none⟩) hqb).trans b6
      have q2 : wr.cell? ⟨w.heap.size + 1 + 1, 1, none⟩ = some (.int .i64 q.2) := (h.be.cell (p := ⟨w.heap.size + 1 + 1, 1, none⟩) hqb).trans b7
      have g1 : wr.cell? ⟨w.heap.size, 0, none⟩ = some (.int .i64 g.rows) := (h.be.cell (p := ⟨w.heap.size, 0, none⟩) hgb).trans b1
      have g2 : wr.cell? ⟨w.heap.size, 1, none⟩ = some (.int .i64 g.cols) := (h.be.cell (p := ⟨w.heap.size, 1, none⟩) hgb).trans b2
      have g3 : wr.cell? ⟨w.heap.size, 2, none⟩ = some (.slice ga g.bl.length gc) := (h.be.cell (p := ⟨w.heap.size, 2, none⟩) hgb).trans b3
      have oo : wr.cell? ⟨ob, 0, none⟩ = some (.pointer (some ⟨tb, 0, none⟩)) := (h.be.cell (p := ⟨ob, 0, none⟩) HO).trans o1
      have a1 := h.a1
      have a2 := h.a2
      have hatb : atb < wr.heap.size := cell_lt a1
      have zgb : w.heap.size < wr.heap.size := cell_lt g1
      have TT : Hid (TabAt wr tb (dst g q)) := T0.out.below h.be HTb
      have CC : Hid (Cells2 wr ga g.bl) := Cells2.kept (Kd := fun k => k < W0.heap.size) (n := 0) ⟨h.be.size, fun k o hk ho _ => by rw [h.be.block k hk]; exact ho⟩ (fun b off hb hne => HBL.out hne b off hb) C0.out
      clear h b1 b2 b3 b4 b5 b6 b7 o1
      cases k with
      | zero =>
        obtain rfl : a = q := H.out.isd.w.zero
        gi_wp2
        refine leaves_keep (v := .tuple #[.slice av L.length cv, .int .i64 0]) (fun w => (results_tmp2 (t := 6) (u := 7) rfl _ _ _).trans rfl) _ _ H.out.ms (fun w' hw' => ?_)
        refine ⟨.slice av L.length cv, by rw [if_neg (show ¬ _ < (0 : Int) by have := HNEG.out; omega)], ?_, ?_⟩
        · unfold routeL
          rw [if_neg (show ¬ _ < (0 : Int) by have := HNEG.out; omega), H.out.eq]
          simp only [wayGo, List.append_nil]
          exact H.out.own.keep hw'
        · exact Below.trans EW0 ((H.out.be.trans hw'.1).mono EW0.size)
      | succ k =>
        have hne : a ≠ q := by
          rintro rfl
          have := (IsD.self g a).unique H.out.isd
          omega
        have hia : Hid (inside g a = true) := opn_inside H.out.op
        obtain ⟨x, hx1, hx2⟩ := stepTo_ex HR.out HQ.out H.out.op H.out.isd
        have hda : dst g q a = (k : Int) + 1 := by have := dst_of HR.out (opn_inside HQ.out) H.out.isd; rw [this]; omega
        have hlt := H.out.isd.lt HR.out (opn_inside HQ.out)
        have EX : Hid (∃ x ∈ near g a, dst g q x = dst g q a - 1) := ⟨x, hx1, by rw [hx2, hda]; omega⟩
        have HDA := Lib.hid hda
        clear hx1 hx2 hda
        have HH1 : a.1 = q.1 → (a.2 == q.2) = false := fun h1 => by
          cases hb : (a.2 == q.2)
          · rfl
          · exact absurd (Prod.ext h1 (by simpa using hb)) hne
        have step : ∀ (b1 b2 : Bool), (a.1 == q.1) = b1 → (a.2 == q.2) = b2 → b1 = false ∨ b2 = false → True := fun _ _ _ _ _ => trivial
        clear step
        have main : ∀ (K : Prop), ((a.1 == q.1) = false → K) → (a.1 = q.1 → (a.2 == q.2) = false → K) → K := fun K h1 h2 => by
          by_cases e : a.1 = q.1
          · exact h2 e (HH1 e)
          · exact h1 (by simpa using e)
        clear HH1 hne
        have HEQ := Lib.hid (stepTo_spec EX.out)
        have HLT := Lib.hid hlt
        have hown : Hid (∀ b, (Value.slice av L.length cv).ownBlock = some b → b < wr.heap.size) := fun b hb => H.out.own.lt hb
        clear hlt hneg
        refine main _ (fun e1 => ?_) (fun e1 e2 => ?_)
        all_goals (try clear main)
        · gi_wp2_with fail
          refine ⟨trivial, rfl, ?_⟩
          gi_at_call 74
          refine (callsIn_wide.2 (around_any g a _ _)).mono ?_
          rintro e w3 ⟨rfl, hw3⟩
          gi_wp2_with fail
          have E6 : Ext wr w3 := by rw [← hw3]; exact ((Ext.refl _).alloc _).alloc _
          have hz3 : w3.heap.size = wr.heap.size + 2 := by rw [← hw3]; simp
          have G1 : w3.cell? ⟨wr.heap.size, 0, none⟩ = some (.int .i64 g.rows) := by rw [← hw3, World.cell?_alloc2_first]; rfl
          have G2 : w3.cell? ⟨wr.heap.size, 1, none⟩ = some (.int .i64 g.cols) := by rw [← hw3, World.cell?_alloc2_first]; rfl
          have G3 : w3.cell? ⟨wr.heap.size, 2, none⟩ = some (.slice ga g.bl.length gc) := by rw [← hw3, World.cell?_alloc2_first]; rfl
          have P1 : w3.cell? ⟨wr.heap.size + 1, 0, none⟩ = some (.int .i64 (a).1) := by rw [← hw3, World.cell?_alloc2_new]; rfl
          have P2 : w3.cell? ⟨wr.heap.size + 1, 1, none⟩ = some (.int .i64 (a).2) := by rw [← hw3, World.cell?_alloc2_new]; rfl
          have ham := H.out.am
          refine wpIn_wide.2 (route_range _ _ rfl g a (dst g q) ga gc w3 (wr.heap.size + 1) wr.heap.size ob tb atb HR.out hia.out P1 P2 G1 G2 G3 (CC.out.ext E6) (by omega) (by omega)
            (fun hne b off h => by have := HBL.out hne b off h; omega) (E6.cell oo) (TT.out.ext E6) (E6.cell a1) (E6.cell a2)
            ((Below.frozen E6 (p := ⟨atb, 0, none⟩) hatb).trans H.out.a3) ((Below.frozen E6 (p := ⟨atb, 1, none⟩) hatb).trans H.out.a4) (by rw [HDA.out]; omega) (by rw [HDA.out]; have := HLT.out; omega) EX.out _ _ _ _ _ _ _ _ _ _ _ _ _ _ _ _ _ _ _ _ _ _ _ _ _ _ _ _ _ _ _ _ _ _ _ _ _ _ _ _ _ _ _ _ _ _ _ _ _ _ _ _ _ _ _ _ _ _ _ _ _ ?_)
          intro Db w4 k1 k2 hend k4
          generalize hx : stepTo g (dst g q) a = x at hend
          have HX := Lib.hid hx
          have HE := Lib.hid hend
          have x1 := hend.a1
          have x2 := hend.a2
          have K4 := Lib.hid k4
          have hz4 : w3.heap.size ≤ w4.heap.size := hend.c.1
          clear hx hend k4 P1 P2 G1 G2 G3 hw3
          have V4 : Hid (Owns w4 (.slice av L.length cv) L) := (H.out.own.ext E6).kept (X := fun k => k ≠ atb) (n := 0) (HE.out.c.kept (fun k hk _ => hk)) (fun b hb => (H.out.vb b hb).2)
          obtain ⟨i0, hi, hi0, hi1, hi2⟩ := info_parts infoPl
          have hlen : L.length ≤ 4097 := by
            have h1 : (way g p q).length = L.length + (k + 1) := by rw [H.out.eq, List.length_append, wayGo_len]
            have h2 : (way g p q).length = (dst g q p).toNat + 1 := by unfold way; simp [wayGo_len]
            have h3 := HNEG.out
            have h4 := HK2.out
            omega
          refine (wpIn_wide (n := 0)).1 ?_
          gi_wp2_with (gi_at_builtin; refine wpListIn_append1 _ rfl _ _ 22 rfl 26 i0 (.agg #[.int .i64 0, .int .i64 0]) 2 16 Try.underlying22 hi hi0 hi1 hi2 rfl (by decide) (.slice av L.length cv) _ _ rfl (V4.out.ext ((Ext.refl _).alloc _)) ⟨w4.heap.size, 0, none⟩ 1 1 (by decide) [.int .i64 x.1, .int .i64 x.2] rfl rfl (cell_two_new _ _ _ _) ?c1 ?c2 ?c3 ?c4)
          case c1 => intro u hu; simp at hu; rcases hu with rfl | rfl <;> rfl
          case c2 => unfold maxLen; omega
          case c3 => omega
          case c4 =>
            intro v' w5 hown5 hend5
            have O5 := owns_succ hown5
            obtain ⟨av', cv', rfl, _, hbk⟩ := O5.reads
            have E4 : Ext w4 (w4.alloc (.cells #[.int .i64 x.1, .int .i64 x.2] 26)) := (Ext.refl _).alloc _
            have CA : Chg (fun k => (Value.slice av L.length cv).ownBlock = some k) (w4.alloc (.cells #[.int .i64 x.1, .int .i64 x.2] 26)) w5 := Chg.app hend5 (fun b hb => hb)
            have KA : Kept (fun k => k = atb) 0 (w4.alloc (.cells #[.int .i64 x.1, .int .i64 x.2] 26)) w5 := CA.kept (fun k hk _ e => (H.out.vb k e).2 hk)
            have d1 : w5.cell? ⟨atb, 0, none⟩ = some (.int .i64 x.1) := KA.cell (p := ⟨atb, 0, none⟩) rfl (E4.cell x1)
            have d2 : w5.cell? ⟨atb, 1, none⟩ = some (.int .i64 x.2) := KA.cell (p := ⟨atb, 1, none⟩) rfl (E4.cell x2)
            have HCA := Lib.hid CA
            have HE4 := Lib.hid E4
            have HEND := Lib.hid hend5
            have HO5 := Lib.hid O5
            clear KA CA E4 hend5 hown5 O5 hbk x1 x2
            gi_wp2
            have E7 : Ext w5 (w5.alloc (.cells #[.int .i64 x.1, .int .i64 x.2] 26)) := (Ext.refl _).alloc _
            have s0 : W0.heap.size ≤ wr.heap.size := H.out.be.size
            have s1 : wr.heap.size + 2 ≤ w4.heap.size := by omega
            have s2 : w4.heap.size + 1 ≤ w5.heap.size := by have := HCA.out.1; simp at this; omega
            have C46 : Chg (fun k => (Value.slice av L.length cv).ownBlock = some k) w4 (w5.alloc (.cells #[.int .i64 x.1, .int .i64 x.2] 26)) := ((Chg.ext HE4.out).trans HCA.out).trans (Chg.ext E7)
            have C6 : Chg (fun k => k = atb ∨ (Value.slice av L.length cv).ownBlock = some k) wr (w5.alloc (.cells #[.int .i64 x.1, .int .i64 x.2] 26)) :=
              ((Chg.ext E6).trans ⟨HE.out.c.1, fun k hk hn => HE.out.c.2 k hk (fun e => hn (.inl e))⟩).trans ⟨C46.1, fun k hk hn => C46.2 k hk (fun e => hn (.inr e))⟩
            refine ⟨⟨k, x, L ++ [x], av', cv', w5.heap.size, mark Db :: ds, _, _, _, _, _, _, _, _, _, _, _, _, _, _, _, _, _, _, _, _, _, _, _, _, _, _, _, _, _, _, _, _, _, _, _, _, _, _, _, _, _, _, _, _, _, _, _, _, _, _, _, _, _, _, _, _, _, by rw [List.length_append, List.length_singleton], ?_⟩, by simp [fuelR, sliceLen]; omega⟩
            exact {
              eq := by rw [H.out.eq, List.append_assoc, ← HX.out]; rfl
              isd := stepTo_isD HR.out HQ.out H.out.isd (HX.out ▸ HEQ.out.1) (by rw [← HX.out, HEQ.out.2, HDA.out]; omega)
              op := near_opn (HX.out ▸ HEQ.out.1)
              be := ((((H.out.be.trans (E6.mono s0)).trans (HE.out.b.mono ham)).trans (HE4.out.mono (by omega))).trans (HEND.out.below (by simp; omega) (fun b hb => (H.out.vb b hb).1))).trans (E7.mono (by omega))
              a1 := by go_simp
              a2 := by go_simp
              a3 := by go_simp
              a4 := by go_simp
              own := HO5.out.ext E7
              vb := fun b hb => by
                refine ⟨?_, fun e => by have := HO5.out.lt hb; omega⟩
                rcases HEND.out with ⟨h1, _, _⟩ | ⟨h1, _⟩
                · rw [h1] at hb; exact (H.out.vb b hb).1
                · rw [h1] at hb
                  have hb' : b = (w4.alloc (.cells #[.int .i64 x.1, .int .i64 x.2] 26)).heap.size := by cases hb; rfl
                  simp at hb'
                  omega
              am := by omega
              ms := Marks.cons (A := wr) H.out.ms (by omega) (by omega) (H.out.ms.keptX (X := fun k => ¬ (k = atb ∨ (Value.slice av L.length cv).ownBlock = some k)) (C6.kept (fun k hk _ => hk)) (fun D _ hD => by
                  rintro (e | e)
                  · have := isCells_of_cell (p := ⟨atb, _, none⟩) H.out.a1 (e ▸ hD)
                    cases this
                  · have := H.out.own.isCells e hD
                    cases this))
                ((C46.2 Db k2 (fun e => by have := hown.out Db e; omega)).trans K4.out) }
        · obtain ⟨ax, ay⟩ := a
          dsimp only at a1 a2 e1 e2
          subst e1
          gi_wp2_with fail
          refine ⟨trivial, rfl, ?_⟩
          gi_at_call 74
          refine (callsIn_wide.2 (around_any g (q.1, ay) _ _)).mono ?_
          rintro e w3 ⟨rfl, hw3⟩
          gi_wp2_with fail
          have E6 : Ext wr w3 := by rw [← hw3]; exact ((Ext.refl _).alloc _).alloc _
          have hz3 : w3.heap.size = wr.heap.size + 2 := by rw [← hw3]; simp
          have G1 : w3.cell? ⟨wr.heap.size, 0, none⟩ = some (.int .i64 g.rows) := by rw [← hw3, World.cell?_alloc2_first]; rfl
          have G2 : w3.cell? ⟨wr.heap.size, 1, none⟩ = some (.int .i64 g.cols) := by rw [← hw3, World.cell?_alloc2_first]; rfl
          have G3 : w3.cell? ⟨wr.heap.size, 2, none⟩ = some (.slice ga g.bl.length gc) := by rw [← hw3, World.cell?_alloc2_first]; rfl
          have P1 : w3.cell? ⟨wr.heap.size + 1, 0, none⟩ = some (.int .i64 ((q.1, ay)).1) := by rw [← hw3, World.cell?_alloc2_new]; rfl
          have P2 : w3.cell? ⟨wr.heap.size + 1, 1, none⟩ = some (.int .i64 ((q.1, ay)).2) := by rw [← hw3, World.cell?_alloc2_new]; rfl
          have ham := H.out.am
          refine wpIn_wide.2 (route_range _ _ rfl g (q.1, ay) (dst g q) ga gc w3 (wr.heap.size + 1) wr.heap.size ob tb atb HR.out hia.out P1 P2 G1 G2 G3 (CC.out.ext E6) (by omega) (by omega)
            (fun hne b off h => by have := HBL.out hne b off h; omega) (E6.cell oo) (TT.out.ext E6) (E6.cell a1) (E6.cell a2)
            ((Below.frozen E6 (p := ⟨atb, 0, none⟩) hatb).trans H.out.a3) ((Below.frozen E6 (p := ⟨atb, 1, none⟩) hatb).trans H.out.a4) (by rw [HDA.out]; omega) (by rw [HDA.out]; have := HLT.out; omega) EX.out _ _ _ _ _ _ _ _ _ _ _ _ _ _ _ _ _ _ _ _ _ _ _ _ _ _ _ _ _ _ _ _ _ _ _ _ _ _ _ _ _ _ _ _ _ _ _ _ _ _ _ _ _ _ _ _ _ _ _ _ _ ?_)
          intro Db w4 k1 k2 hend k4
          generalize hx : stepTo g (dst g q) (q.1, ay) = x at hend
          have HX := Lib.hid hx
          have HE := Lib.hid hend
          have x1 := hend.a1
          have x2 := hend.a2
          have K4 := Lib.hid k4
          have hz4 : w3.heap.size ≤ w4.heap.size := hend.c.1
          clear hx hend k4 P1 P2 G1 G2 G3 hw3
          have V4 : Hid (Owns w4 (.slice av L.length cv) L) := (H.out.own.ext E6).kept (X := fun k => k ≠ atb) (n := 0) (HE.out.c.kept (fun k hk _ => hk)) (fun b hb => (H.out.vb b hb).2)
          obtain ⟨i0, hi, hi0, hi1, hi2⟩ := info_parts infoPl
          have hlen : L.length ≤ 4097 := by
            have h1 : (way g p q).length = L.length + (k + 1) := by rw [H.out.eq, List.length_append, wayGo_len]
            have h2 : (way g p q).length = (dst g q p).toNat + 1 := by unfold way; simp [wayGo_len]
            have h3 := HNEG.out
            have h4 := HK2.out
            omega
          refine (wpIn_wide (n := 0)).1 ?_
          gi_wp2_with (gi_at_builtin; refine wpListIn_append1 _ rfl _ _ 22 rfl 26 i0 (.agg #[.int .i64 0, .int .i64 0]) 2 16 Try.underlying22 hi hi0 hi1 hi2 rfl (by decide) (.slice av L.length cv) _ _ rfl (V4.out.ext ((Ext.refl _).alloc _)) ⟨w4.heap.size, 0, none⟩ 1 1 (by decide) [.int .i64 x.1, .int .i64 x.2] rfl rfl (cell_two_new _ _ _ _) ?c1 ?c2 ?c3 ?c4)
          case c1 => intro u hu; simp at hu; rcases hu with rfl | rfl <;> rfl
          case c2 => unfold maxLen; omega
          case c3 => omega
          case c4 =>
            intro v' w5 hown5 hend5
            have O5 := owns_succ hown5
            obtain ⟨av', cv', rfl, _, hbk⟩ := O5.reads
            have E4 : Ext w4 (w4.alloc (.cells #[.int .i64 x.1, .int .i64 x.2] 26)) := (Ext.refl _).alloc _
            have CA : Chg (fun k => (Value.slice av L.length cv).ownBlock = some k) (w4.alloc (.cells #[.int .i64 x.1, .int .i64 x.2] 26)) w5 := Chg.app hend5 (fun b hb => hb)
            have KA : Kept (fun k => k = atb) 0 (w4.alloc (.cells #[.int .i64 x.1, .int .i64 x.2] 26)) w5 := CA.kept (fun k hk _ e => (H.out.vb k e).2 hk)
            have d1 : w5.cell? ⟨atb, 0, none⟩ = some (.int .i64 x.1) := KA.cell (p := ⟨atb, 0, none⟩) rfl (E4.cell x1)
            have d2 : w5.cell? ⟨atb, 1, none⟩ = some (.int .i64 x.2) := KA.cell (p := ⟨atb, 1, none⟩) rfl (E4.cell x2)
            have HCA := Lib.hid CA
            have HE4 := Lib.hid E4
            have HEND := Lib.hid hend5
            have HO5 := Lib.hid O5
            clear KA CA E4 hend5 hown5 O5 hbk x1 x2
            gi_wp2
            have E7 : Ext w5 (w5.alloc (.cells #[.int .i64 x.1, .int .i64 x.2] 26)) := (Ext.refl _).alloc _
            have s0 : W0.heap.size ≤ wr.heap.size := H.out.be.size
            have s1 : wr.heap.size + 2 ≤ w4.heap.size := by omega
            have s2 : w4.heap.size + 1 ≤ w5.heap.size := by have := HCA.out.1; simp at this; omega
            have C46 : Chg (fun k => (Value.slice av L.length cv).ownBlock = some k) w4 (w5.alloc (.cells #[.int .i64 x.1, .int .i64 x.2] 26)) := ((Chg.ext HE4.out).trans HCA.out).trans (Chg.ext E7)
            have C6 : Chg (fun k => k = atb ∨ (Value.slice av L.length cv).ownBlock = some k) wr (w5.alloc (.cells #[.int .i64 x.1, .int .i64 x.2] 26)) :=
              ((Chg.ext E6).trans ⟨HE.out.c.1, fun k hk hn => HE.out.c.2 k hk (fun e => hn (.inl e))⟩).trans ⟨C46.1, fun k hk hn => C46.2 k hk (fun e => hn (.inr e))⟩
            refine ⟨⟨k, x, L ++ [x], av', cv', w5.heap.size, mark Db :: ds, _, _, _, _, _, _, _, _, _, _, _, _, _, _, _, _, _, _, _, _, _, _, _, _, _, _, _, _, _, _, _, _, _, _, _, _, _, _, _, _, _, _, _, _, _, _, _, _, _, _, _, _, _, _, _, _, _, by rw [List.length_append, List.length_singleton], ?_⟩, by simp [fuelR, sliceLen]; omega⟩
            exact {
              eq := by rw [H.out.eq, List.append_assoc, ← HX.out]; rfl
              isd := stepTo_isD HR.out HQ.out H.out.isd (HX.out ▸ HEQ.out.1) (by rw [← HX.out, HEQ.out.2, HDA.out]; omega)
              op := near_opn (HX.out ▸ HEQ.out.1)
              be := ((((H.out.be.trans (E6.mono s0)).trans (HE.out.b.mono ham)).trans (HE4.out.mono (by omega))).trans (HEND.out.below (by simp; omega) (fun b hb => (H.out.vb b hb).1))).trans (E7.mono (by omega))
              a1 := by go_simp
              a2 := by go_simp
              a3 := by go_simp
              a4 := by go_simp
              own := HO5.out.ext E7
              vb := fun b hb => by
                refine ⟨?_, fun e => by have := HO5.out.lt hb; omega⟩
                rcases HEND.out with ⟨h1, _, _⟩ | ⟨h1, _⟩
                · rw [h1] at hb; exact (H.out.vb b hb).1
                · rw [h1] at hb
                  have hb' : b = (w4.alloc (.cells #[.int .i64 x.1, .int .i64 x.2] 26)).heap.size := by cases hb; rfl
                  simp at hb'
                  omega
              am := by omega
              ms := Marks.cons (A := wr) H.out.ms (by omega) (by omega) (H.out.ms.keptX (X := fun k => ¬ (k = atb ∨ (Value.slice av L.length cv).ownBlock = some k)) (C6.kept (fun k hk _ => hk)) (fun D _ hD => by
                  rintro (e | e)
                  · have := isCells_of_cell (p := ⟨atb, _, none⟩) H.out.a1 (e ▸ hD)
                    cases this
                  · have := H.out.own.isCells e hD
                    cases this))
                ((C46.2 Db k2 (fun e => by have := hown.out Db e; omega)).trans K4.out) }
  · have hneg : dst g q p < 0 := by omega
    have HD := Lib.hid hd
    clear hd
    refine wpIn_wide.2 ?_
    go_quiet (fail)
    gi_wp2
    refine leaves_marks (n := w.heap.size) (v := .tuple #[.slice none 0 0, .int .i64 6]) (fun w => (results_tmp2 (t := 6) (u := 7) rfl _ _ _).trans rfl) _ _ (Marks.nil _ _) (fun w' hw' => ?_)
    refine ⟨.slice none 0 0, ?_, ?_, ?_⟩
    · rw [if_pos hneg]
    · unfold routeL
      rw [if_pos hneg]
      exact Owns.nil _
    · exact Below.trans EW (Below.trans (((Ext.refl _).drewN _).mono EW.size) hw')
end Go.Proofs.Ytfigooilhnahfaa
/- Route. -/
namespace Go.Proofs.Ytfigooilhnahfaa
open Go.RowKit

def routeV (g : Gr) (p q : Pt) : List Pt := if givenErr g [p, q] ≠ 0 then [] else routeL g p q
def RouteAPost (g : Gr) (p q : Pt) (w : World) (e : Ending) (w' : World) : Prop :=
  ∃ v, e = .returned (.tuple #[v, .int .i64 (lenE g p q)]) ∧ Owns w' v (routeV g p q) ∧ Ext w w'

set_option maxHeartbeats 1000000 in
theorem Route_any (g : Gr) (p q : Pt) (ga : Option Addr) (gc : Nat) (w : World) (hg : g.bl.length ≤ maxLen) (hc : Cells2 w ga g.bl) :
    Calls Try.prog 29 #[.agg #[.int .i64 g.rows, .int .i64 g.cols, .slice ga g.bl.length gc], .agg #[.int .i64 p.1, .int .i64 p.2], .agg #[.int .i64 q.1, .int .i64 q.2]] w fun e w' => RouteAPost g p q w e w' := by
  have HC : Hid (Cells2 w ga g.bl) := hc
  have HG := Lib.hid hg
  clear hc hg
  have E0 : Ext w ((( (( ((w).alloc (.cells #[.int .i64 g.rows, .int .i64 g.cols, .slice ga g.bl.length gc] 33))).alloc (.cells #[.int .i64 p.1, .int .i64 p.2] 26))).alloc (.cells #[.int .i64 q.1, .int .i64 q.2] 26))) := (((Ext.refl _).alloc _).alloc _).alloc _
  have a1 : ((( (( ((w).alloc (.cells #[.int .i64 g.rows, .int .i64 g.cols, .slice ga g.bl.length gc] 33))).alloc (.cells #[.int .i64 p.1, .int .i64 p.2] 26))).alloc (.cells #[.int .i64 q.1, .int .i64 q.2] 26))).cell? ⟨w.heap.size, 0, none⟩ = some (.int .i64 g.rows) := by go_simp
  have a2 : ((( (( ((w).alloc (.cells #[.int .i64 g.rows, .int .i64 g.cols, .slice ga g.bl.length gc] 33))).alloc (.cells #[.int .i64 p.1, .int .i64 p.2] 26))).alloc (.cells #[.int .i64 q.1, .int .i64 q.2] 26))).cell? ⟨w.heap.size, 1, none⟩ = some (.int .i64 g.cols) := by go_simp
  have a3 : ((( (( ((w).alloc (.cells #[.int .i64 g.rows, .int .i64 g.cols, .slice ga g.bl.length gc] 33))).alloc (.cells #[.int .i64 p.1, .int .i64 p.2] 26))).alloc (.cells #[.int .i64 q.1, .int .i64 q.2] 26))).cell? ⟨w.heap.size, 2, none⟩ = some (.slice ga g.bl.length gc) := by go_simp
  have a4 : ((( (( ((w).alloc (.cells #[.int .i64 g.rows, .int .i64 g.cols, .slice ga g.bl.length gc] 33))).alloc (.cells #[.int .i64 p.1, .int .i64 p.2] 26))).alloc (.cells #[.int .i64 q.1, .int .i64 q.2] 26))).cell? ⟨w.heap.size + 1, 0, none⟩ = some (.int .i64 p.1) := by go_simp
  have a5 : ((( (( ((w).alloc (.cells #[.int .i64 g.rows, .int .i64 g.cols, .slice ga g.bl.length gc] 33))).alloc (.cells #[.int .i64 p.1, .int .i64 p.2] 26))).alloc (.cells #[.int .i64 q.1, .int .i64 q.2] 26))).cell? ⟨w.heap.size + 1, 1, none⟩ = some (.int .i64 p.2) := by go_simp
  have a6 : ((( (( ((w).alloc (.cells #[.int .i64 g.rows, .int .i64 g.cols, .slice ga g.bl.length gc] 33))).alloc (.cells #[.int .i64 p.1, .int .i64 p.2] 26))).alloc (.cells #[.int .i64 q.1, .int .i64 q.2] 26))).cell? ⟨w.heap.size + 1 + 1, 0, none⟩ = some (.int .i64 q.1) := by go_simp
  have a7 : ((( (( ((w).alloc (.cells #[.int .i64 g.rows, .int .i64 g.cols, .slice ga g.bl.length gc] 33))).alloc (.cells #[.int .i64 p.1, .int .i64 p.2] 26))).alloc (.cells #[.int .i64 q.1, .int .i64 q.2] 26))).cell? ⟨w.heap.size + 1 + 1, 1, none⟩ = some (.int .i64 q.2) := by go_simp
  by_cases h0 : givenErr g [p, q] = 0
  · obtain ⟨hr, ho⟩ := given_ok h0
    have HR := Lib.hid hr
    have HQ : Hid (opn g q = true) := ho q (by simp)
    have HP : Hid (opn g p = true) := ho p (by simp)
    have hv : Hid (routeV g p q = routeL g p q ∧ lenE g p q = if dst g q p < 0 then 6 else 0) := by
      show _ ∧ _
      unfold routeV lenE
      rw [h0]
      exact ⟨rfl, rfl⟩
    have H0 := Lib.hid h0
    clear hr ho h0
    go_enter Try.func29, Try.ntmps29
    go_wp2_with fail
    refine (given_any g [p, q] ga gc _ _ _ HG.out (HC.out.ext (E0.alloc _)) (by simp [maxLen]) (cells2_two (by go_simp) (by go_simp) (by go_simp) (by go_simp))).mono ?_
    rintro e w1 ⟨rfl, hE⟩
    rw [H0.out]
    have E1 : Ext ((( (( ((w).alloc (.cells #[.int .i64 g.rows, .int .i64 g.cols, .slice ga g.bl.length gc] 33))).alloc (.cells #[.int .i64 p.1, .int .i64 p.2] 26))).alloc (.cells #[.int .i64 q.1, .int .i64 q.2] 26))) w1 := ((Ext.refl _).alloc _).trans hE
    have b1 := E1.cell a1
    have b2 := E1.cell a2
    have b3 := E1.cell a3
    have b4 := E1.cell a4
    have b5 := E1.cell a5
    have b6 := E1.cell a6
    have b7 := E1.cell a7
    have E2 : Ext w w1 := E0.trans E1
    clear hE E1 E0 a1 a2 a3 a4 a5 a6 a7
    go_wp2_with fail
    refine (route_any g p q ga gc _ HR.out HP.out HQ.out (HC.out.ext E2)).mono ?_
    rintro e w2 ⟨v, rfl, hO, hE⟩
    rw [← hv.out.2]
    have HO := Lib.hid hO
    clear hO
    go_wp2
    go_ret2
    exact ⟨v, rfl, by rw [hv.out.1]; exact HO.out, E2.trans hE⟩
  · have hn : Hid (routeV g p q = [] ∧ lenE g p q = givenErr g [p, q]) := by
      show _ ∧ _
      unfold routeV lenE
      rw [if_pos h0, if_pos h0]
      exact ⟨rfl, rfl⟩
    have hb : (givenErr g [p, q] != 0) = true := by simp [h0]
    have hb2 : (givenErr g [p, q] == 0) = false := by simp [h0]
    clear h0
    go_enter Try.func29, Try.ntmps29
    go_wp2_with fail
    refine (given_any g [p, q] ga gc _ _ _ HG.out (HC.out.ext (E0.alloc _)) (by simp [maxLen]) (cells2_two (by go_simp) (by go_simp) (by go_simp) (by go_simp))).mono ?_
    rintro e w1 ⟨rfl, hE⟩
    go_wp2
    go_ret2
    refine ⟨.slice none 0 0, ?_, by rw [hn.out.1]; exact Owns.nil _, (E0.alloc _).trans hE⟩
    have h2 := hn.out.2
    rw [h2]
    rfl
end Go.Proofs.Ytfigooilhnahfaa
/- The difference of the rows and columns of two cells. -/
namespace Go.Proofs.Ytfigooilhnahfaa
open Go.RowKit

def awayI (p q : Pt) : Int := max (p.1 - q.1) (q.1 - p.1) + max (p.2 - q.2) (q.2 - p.2)

theorem away_any (p q : Pt) (w : World) (hp : InG p) (hq : InG q) :
    Calls Try.prog 81 #[.agg #[.int .i64 p.1, .int .i64 p.2], .agg #[.int .i64 q.1, .int .i64 q.2]] w fun e w' => e = .returned (.int .i64 (awayI p q)) ∧ Ext w w' := by
  obtain ⟨p1, p2, p3, p4⟩ := hp
  obtain ⟨q1, q2, q3, q4⟩ := hq
  have w1 : IntKind.i64.wrap (p.1 - q.1) = p.1 - q.1 := IntWalk.i64_in _ (by omega)
  have w2 : IntKind.i64.wrap (q.1 - p.1) = q.1 - p.1 := IntWalk.i64_in _ (by omega)
  have w3 : IntKind.i64.wrap (p.2 - q.2) = p.2 - q.2 := IntWalk.i64_in _ (by omega)
  have w4 : IntKind.i64.wrap (q.2 - p.2) = q.2 - p.2 := IntWalk.i64_in _ (by omega)
  have E0 : Ext w ((( (( w).alloc (.cells #[.int .i64 p.1, .int .i64 p.2] 26))).alloc (.cells #[.int .i64 q.1, .int .i64 q.2] 26))) := ((Ext.refl _).alloc _).alloc _
  go_enter Try.func81, Try.ntmps81
  go_wp2
  all_goals go_ret
  all_goals exact ⟨ret_int (by unfold awayI; omega), E0⟩
end Go.Proofs.Ytfigooilhnahfaa
/- Maps as sets: map[K]bool, where each entry is true. -/
namespace Go.Proofs.Ytfigooilhnahfaa
open Go.RowKit Go.Maps

/-- block b of w is a map of at most n entries, whose keys are those of S, each true -/
def SetAt {α : Type} [DecidableEq α] (P : Program) (k e : TypeId) (ev : α → Value) (w : World) (b n : Nat) (S : List α) : Prop :=
  ∃ D : DataW Unit, w.ownsMap P k (plainElem P e) b n D ∧ (∀ a kl, keyOf P k (ev a) = some kl → D.atKey kl (.lit (.bool false)) = .lit (.bool (decide (a ∈ S))) ∧ Maps.has D kl = decide (a ∈ S)) ∧ Maps.size D = S.length ∧ S.Nodup

section
variable {α : Type} [DecidableEq α] {P : Program} {t k e : TypeId} {ev : α → Value} {w : World} {b n : Nat} {S : List α}

theorem SetAt.made (P : Program) (k e : TypeId) (ev : α → Value) (w : World) : SetAt P k e ev (w.alloc (.map #[] 0)) w.heap.size 0 ([] : List α) :=
  ⟨.map [], World.ownsMap_made _ _ _ _, fun _ _ _ => ⟨rfl, rfl⟩, rfl, List.nodup_nil⟩
theorem SetAt.lt (h : SetAt P k e ev w b n S) : b < w.heap.size := by
  obtain ⟨D, h1, _⟩ := h
  exact h1.lt
theorem SetAt.at (h : SetAt P k e ev w b n S) : ∃ es clock, w.heap[b]? = some (.map es clock) := by
  obtain ⟨D, ⟨es, clock, hb, _⟩, _⟩ := h
  exact ⟨es, clock, hb⟩
theorem SetAt.same {w' : World} (h : SetAt P k e ev w b n S) (hb : w'.heap[b]? = w.heap[b]?) : SetAt P k e ev w' b n S := by
  obtain ⟨D, ⟨es, clock, h1, h2⟩, h3⟩ := h
  exact ⟨D, ⟨es, clock, hb.trans h1, h2⟩, h3⟩
theorem SetAt.ext {w' : World} (h : SetAt P k e ev w b n S) (hx : Ext w w') : SetAt P k e ev w' b n S := h.same (Below.block hx _ h.lt)
theorem SetAt.lookup (h : SetAt P k e ev w b n S) (K : Keyed P k) (ht : P.underlying t = some (.map k e)) (he : P.underlying e = some .bool) (hz : (zeroValue e).run P w = .ok (.bool false) w)
    {a : α} {kl : Lit} (hkey : keyOf P k (ev a) = some kl) : (Instr.lookup t (.map (some b)) (ev a) false).run P w = .ok (.bool (decide (a ∈ S))) w := by
  obtain ⟨D, h1, h2, _⟩ := h
  obtain ⟨v, ps, hrun, hv⟩ := h1.lookup K ht hz (plainElem_bool he false) hkey
  rw [(h2 a kl hkey).1] at hv
  rw [hrun]
  have : v = .bool (decide (a ∈ S)) := by
    unfold plainElem at hv
    rw [he] at hv
    cases v <;> simp at hv
    rename_i x
    rw [hv.1]
  rw [this]
theorem SetAt.update (h : SetAt P k e ev w b n S) (K : Keyed P k) (ht : P.underlying t = some (.map k e)) (he : P.underlying e = some .bool) (hn : n < maxLen) (hinj : ∀ x y, ev x = ev y → x = y)
    {a : α} {kl : Lit} (hkey : keyOf P k (ev a) = some kl) : ∃ w', (Instr.mapUpdate t (.map (some b)) (ev a) (.bool true)).run P w = .ok () w' ∧ SetAt P k e ev w' b (n + 1) (if a ∈ S then S else a :: S) ∧ w.grownBy w' (some b) := by
  obtain ⟨D, h1, h2, h3, h4⟩ := h
  obtain ⟨w', hrun, r1, r2⟩ := h1.update K ht hn hkey (plainElem_bool he true)
  have hT := h1.tidy K
  refine ⟨w', hrun, ⟨_, r1, fun a' kl' hk' => ?_, ?_, ?_⟩, r2⟩
  · by_cases e1 : a' = a
    · subst e1
      rw [hkey] at hk'
      cases hk'
      have hm : a' ∈ (if a' ∈ S then S else a' :: S) := by
        split
        · assumption
        · exact List.mem_cons_self ..
      rw [atKey_put_same hT.isMap (K.key hkey), has_put_same hT.isMap (K.key hkey)]
      simp [hm]
    · have hne : kl' ≠ kl := fun e2 => e1 (hinj _ _ (K.inj hk' (e2 ▸ hkey)))
      have hm : decide (a' ∈ (if a ∈ S then S else a :: S)) = decide (a' ∈ S) := by
        by_cases e2 : a ∈ S
        · rw [if_pos e2]
        · rw [if_neg e2]; simp [e1]
      rw [atKey_put_other hne, has_put_other hne, hm]
      exact h2 a' kl' hk'
  · rw [size_put hT, (h2 a kl hkey).2]
    by_cases e2 : a ∈ S
    · simp [e2, h3]
    · simp [e2, h3]
  · by_cases e2 : a ∈ S
    · rw [if_pos e2]; exact h4
    · rw [if_neg e2]; exact List.nodup_cons.2 ⟨e2, h4⟩
end

/-! ### The two keys of this program -/
theorem laidOut : laidOutB Try.prog = true := by kernel_rfl
theorem rowPl : (26 : TypeId) < Try.prog.types.size := of_decide_eq_true (by kernel_rfl)
theorem rowPr : (74 : TypeId) < Try.prog.types.size := of_decide_eq_true (by kernel_rfl)
theorem lawPl : Keyed Try.prog 26 := Keyed.of_law (deep_law_laid laidOut (m := 3) (by omega) rowPl (by kernel_rfl) (by rw [Try.underlying26]))
theorem lawPr : Keyed Try.prog 74 := Keyed.of_law (deep_law_laid laidOut (m := 4) (by omega) rowPr (by kernel_rfl) (by rw [Try.underlying74]))
def evPl (p : Pt) : Value := .agg #[.int .i64 p.1, .int .i64 p.2]
def evPr (p : Pt × Pt) : Value := .agg #[.int .i64 p.1.1, .int .i64 p.1.2, .int .i64 p.2.1, .int .i64 p.2.2]
theorem evPl_inj (x y : Pt) (h : evPl x = evPl y) : x = y := by
  unfold evPl at h
  simp at h
  exact Prod.ext h.1 h.2
theorem evPr_inj (x y : Pt × Pt) (h : evPr x = evPr y) : x = y := by
  unfold evPr at h
  simp at h
  obtain ⟨h1, h2, h3, h4⟩ := h
  exact Prod.ext (Prod.ext h1 h2) (Prod.ext h3 h4)
def Wf64 (a : Int) : Prop := (Lit.int .i64 a).wf = true
theorem cellsPl : Try.prog.cellsOf 26 = 2 := by kernel_rfl
theorem cellsInt : Try.prog.cellsOf 3 = 1 := by kernel_rfl
theorem cellsPr : Try.prog.cellsOf 74 = 4 := by kernel_rfl
theorem typesSz : ∃ m, Try.prog.types.size + 1 = m + 3 := ⟨Try.prog.types.size - 2, by
  have : 3 ≤ Try.prog.types.size := of_decide_eq_true (by kernel_rfl)
  omega⟩
theorem litsPl {p : Pt} (h1 : Wf64 p.1) (h2 : Wf64 p.2) (m : Nat) : Try.prog.keyLits (m + 2) 26 [.int .i64 p.1, .int .i64 p.2] = some [.int .i64 p.1, .int .i64 p.2] := by
  unfold Wf64 at h1 h2
  unfold Program.keyLits
  rw [Try.underlying26]
  simp [cellsPl, cellsInt, Program.keyLits, Try.underlying3, h1, h2]
theorem keyPl {p : Pt} (h1 : Wf64 p.1) (h2 : Wf64 p.2) : ∃ kl, keyOf Try.prog 26 (evPl p) = some kl := by
  obtain ⟨m, hm⟩ := typesSz
  have hk : Try.prog.keyType 26 = true := by kernel_rfl
  have hf : (evPl p).formed Try.prog 26 = true := by simp [evPl, Value.formed, Try.underlying26, cellsPl]
  have hl := litsPl h1 h2 (m + 1)
  unfold keyOf
  rw [Try.underlying26]
  simp only [hk, hf, hm]
  simp [evPl, Value.cells, hl]
theorem keyPr {p : Pt × Pt} (h1 : Wf64 p.1.1) (h2 : Wf64 p.1.2) (h3 : Wf64 p.2.1) (h4 : Wf64 p.2.2) : ∃ kl, keyOf Try.prog 74 (evPr p) = some kl := by
  obtain ⟨m, hm⟩ := typesSz
  have hk : Try.prog.keyType 74 = true := by kernel_rfl
  have hf : (evPr p).formed Try.prog 74 = true := by simp [evPr, Value.formed, Try.underlying74, cellsPr]
  have l1 := litsPl (p := p.1) h1 h2 m
  have l2 := litsPl (p := p.2) h3 h4 m
  have hl : Try.prog.keyLits (m + 3) 74 [.int .i64 p.1.1, .int .i64 p.1.2, .int .i64 p.2.1, .int .i64 p.2.2] = some [.int .i64 p.1.1, .int .i64 p.1.2, .int .i64 p.2.1, .int .i64 p.2.2] := by
    unfold Program.keyLits
    rw [Try.underlying74]
    simp [cellsPr, cellsPl, List.range_succ, l1, l2]
  unfold keyOf
  rw [Try.underlying74]
  simp only [hk, hf, hm]
  simp [evPr, Value.cells, hl]
theorem wf_inG {p : Pt} (h : InG p) : Wf64 p.1 ∧ Wf64 p.2 := by
  obtain ⟨h1, h2, h3, h4⟩ := h
  exact ⟨WalkArith.wf_i64 (by omega), WalkArith.wf_i64 (by omega)⟩
end Go.Proofs.Ytfigooilhnahfaa
