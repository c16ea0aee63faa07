/- Steps of the proof: LChecks, Open. No conditions. -/
import Derived.ProofKit
import Derived.OpenShut
import Derived.Lib.SmallJoins
import Derived.Deep.Slices
import Derived.Test.YtfigooilhnahfaaZChecks1
import Derived.Test.YtfigooilhnahfaaZChecks2
import Derived.Test.YtfigooilhnahfaaZChecks3
import Derived.Test.YtfigooilhnahfaaZChecks4
import Derived.Test.YtfigooilhnahfaaZChecks5
import Derived.Test.YtfigooilhnahfaaZChecks6
/- The law TubingChecks: its walk. -/
namespace Go.Proofs.Ytfigooilhnahfaa
open Go.RowKit

theorem partsL_len (g : Gr) : (partsL g).length ≤ maxLen := by
  unfold partsL
  split
  · simp
  · rename_i h
    have hr := right_of_chk (g := g) (by simpa using h)
    have h1 := partK_len g (g.rows.toNat * g.cols.toNat)
    have h2 : g.rows.toNat * g.cols.toNat ≤ 64 * 64 := Nat.mul_le_mul (by have := hr.r2; omega) (by have := hr.c2; omega)
    rw [List.length_mergeSort]
    unfold partsU maxLen
    omega

set_option maxHeartbeats 4000000 in
set_option maxRecDepth 100000 in
theorem TubingChecks_any (g : Gr) (p : Pt) (ga : Option Addr) (gc : Nat) (w : World) (hg : g.bl.length ≤ maxLen) (hc : Cells2 w ga g.bl) :
    Calls Try.prog 5 #[.agg #[.int .i64 g.rows, .int .i64 g.cols, .slice ga g.bl.length gc], .agg #[.int .i64 p.1, .int .i64 p.2]] w fun e w' => e = .returned (.bool true) ∧ Ext w w' := by
  have HC : Hid (Cells2 w ga g.bl) := hc
  have HG := Lib.hid hg
  clear hc hg
  have E0 : Ext w ((( ((w).alloc (.cells #[.int .i64 g.rows, .int .i64 g.cols, .slice ga g.bl.length gc] 24))).alloc (.cells #[.int .i64 p.1, .int .i64 p.2] 26))) := ((Ext.refl _).alloc _).alloc _
  have a1 : ((( ((w).alloc (.cells #[.int .i64 g.rows, .int .i64 g.cols, .slice ga g.bl.length gc] 24))).alloc (.cells #[.int .i64 p.1, .int .i64 p.2] 26))).cell? ⟨w.heap.size, 0, none⟩ = some (.int .i64 g.rows) := by go_simp
  have a2 : ((( ((w).alloc (.cells #[.int .i64 g.rows, .int .i64 g.cols, .slice ga g.bl.length gc] 24))).alloc (.cells #[.int .i64 p.1, .int .i64 p.2] 26))).cell? ⟨w.heap.size, 1, none⟩ = some (.int .i64 g.cols) := by go_simp
  have a3 : ((( ((w).alloc (.cells #[.int .i64 g.rows, .int .i64 g.cols, .slice ga g.bl.length gc] 24))).alloc (.cells #[.int .i64 p.1, .int .i64 p.2] 26))).cell? ⟨w.heap.size, 2, none⟩ = some (.slice ga g.bl.length gc) := by go_simp
  have a4 : ((( ((w).alloc (.cells #[.int .i64 g.rows, .int .i64 g.cols, .slice ga g.bl.length gc] 24))).alloc (.cells #[.int .i64 p.1, .int .i64 p.2] 26))).cell? ⟨w.heap.size + 1, 0, none⟩ = some (.int .i64 p.1) := by go_simp
  have a5 : ((( ((w).alloc (.cells #[.int .i64 g.rows, .int .i64 g.cols, .slice ga g.bl.length gc] 24))).alloc (.cells #[.int .i64 p.1, .int .i64 p.2] 26))).cell? ⟨w.heap.size + 1, 1, none⟩ = some (.int .i64 p.2) := by go_simp
  go_enter Try.func5, Try.ntmps5
  go_wp2_with fail
  refine (Few_any g ga gc _ HG.out (HC.out.ext E0)).mono ?_
  rintro e W1 ⟨rfl, hE⟩
  have E1 := E0.trans hE
  have a1 := hE.cell a1
  have a2 := hE.cell a2
  have a3 := hE.cell a3
  have a4 := hE.cell a4
  have a5 := hE.cell a5
  clear hE E0
  cases hf : fewB g
  · clear hf
    go_wp2_with fail
    refine (awake_any _).mono ?_
    rintro e W2 ⟨rfl, hE⟩
    go_wp2
    go_ret
    exact ⟨rfl, E1.trans hE⟩
  · clear hf
    have z1 := cell_lt a1
    have z2 := cell_lt a4
    dsimp only at z1 z2
    go_wp2_with fail
    go_region_held3 (fun w' => Sees W1 w') ((repeat (first | exact Sees.refl _ | assumption | apply Sees.drew | apply Sees.alloc | (refine Sees.ext ?_ (by assumption))))) (first | (go_at_call 15; refine (sent_any g ga gc _).mono ?_; rintro e w' ⟨rfl, hE2⟩) | (go_at_call 20; refine (Open_any g p ga gc _ HG.out (HC.out.ext (E1.trans (by exact (show Sees W1 _ by assumption).2.2)))).mono ?_; rintro e w' ⟨rfl, hE2⟩))
    have hS := (show Sees W1 _ by assumption).2.2
    have E2 := E1.trans hS
    have a1 := hS.cell a1
    have a2 := hS.cell a2
    have a3 := hS.cell a3
    have a4 := hS.cell a4
    have a5 := hS.cell a5
    clear hS E1 z1 z2
    generalize w' = W2 at a1 a2 a3 a4 a5 E2 ⊢
    go_wp2_with fail
    refine (OpenR_any g p ga gc _ HG.out (HC.out.ext E2)).mono ?_
    rintro e W3 ⟨rfl, hE⟩
    have E3 := E2.trans hE
    have a1 := hE.cell a1
    have a2 := hE.cell a2
    have a3 := hE.cell a3
    clear hE E2 a4 a5
    go_wp2_with fail
    refine (sent_any g ga gc _).mono ?_
    rintro e W4 ⟨rfl, hE⟩
    have E4 := E3.trans hE
    have a1 := hE.cell a1
    have a2 := hE.cell a2
    have a3 := hE.cell a3
    clear hE E3
    go_wp2_with fail
    refine (Parts_any g ga gc _ HG.out (HC.out.ext E4)).mono ?_
    rintro e W5 ⟨pa, pc, rfl, hI, hE⟩
    have HI := Lib.hid hI
    have E5 := E4.trans hE
    have a1 := hE.cell a1
    have a2 := hE.cell a2
    have a3 := hE.cell a3
    clear hE E4 hI
    go_wp2_with fail
    refine (PartsR_any g ga gc _ HG.out (HC.out.ext E5)).mono ?_
    rintro e W6 ⟨qa, qc, rfl, hJ, hE⟩
    have HJ := Lib.hid hJ
    have HI := Lib.hid (HI.out.ext hE)
    have E6 := E5.trans hE
    have a1 := hE.cell a1
    have a2 := hE.cell a2
    have a3 := hE.cell a3
    clear hE E5 hJ
    have z1 := cell_lt a1
    dsimp only at z1
    have HPL := Lib.hid (partsL_len g)
    generalize hLe : partsL g = L at HI HJ HPL ⊢
    generalize hMe : L.length = M
    have HM : Hid (∀ (W' : World), Ext W6 W' → Calls Try.prog 26 #[.slice pa M pc, .slice qa M qc] W' fun e w' => e = .returned (.bool true) ∧ Ext W' w') := fun W' hW => by
      rw [← hMe]
      have := SameInts_any L L pa qa pc qc W' HPL.out (HI.out.ext hW) (HJ.out.ext hW)
      rw [decide_eq_true rfl] at this
      exact this
    clear hLe hMe HI HJ HPL
    go_wp2_with fail
    go_region_held3 (fun w' => Sees W6 w') ((repeat (first | exact Sees.refl _ | assumption | apply Sees.drew | apply Sees.alloc | (refine Sees.ext ?_ (by assumption))))) (first | (go_at_call 13; refine (awake_any _).mono ?_; rintro e w' ⟨rfl, hE2⟩) | (go_at_call 15; refine (sent_any g ga gc _).mono ?_; rintro e w' ⟨rfl, hE2⟩) | (go_at_call 24; refine (Check_any g ga gc _ HG.out (HC.out.ext (E6.trans (by exact (show Sees W6 _ by assumption).2.2)))).mono ?_; rintro e w' ⟨rfl, hE2⟩) | (go_at_call 25; refine (CheckR_any g ga gc _ HG.out (HC.out.ext (E6.trans (by exact (show Sees W6 _ by assumption).2.2)))).mono ?_; rintro e w' ⟨rfl, hE2⟩) | (go_at_call 26; refine (HM.out _ (by exact (show Sees W6 _ by assumption).2.2)).mono ?_; rintro e w' ⟨rfl, hE2⟩))
    all_goals have hS := (show Sees W6 _ by assumption).2.2
    all_goals go_wp2
    all_goals go_ret
    all_goals exact ⟨rfl, E6.trans hS⟩
end Go.Proofs.Ytfigooilhnahfaa
/- The arguments of the laws, opened: grids, places. -/
namespace Go.Proofs.Ytfigooilhnahfaa
open Go.RowKit Go.ChangeShapes Go.WideShapes Go.Joins Go.Deep

def WfP (p : Pt) : Prop := (Lit.int .i64 p.1).wf = true ∧ (Lit.int .i64 p.2).wf = true
theorem list2 {α : Type} {l : List α} (h : l.length = 2) : ∃ a b, l = [a, b] := by
  match l, h with
  | [a, b], _ => exact ⟨a, b, rfl⟩
theorem list6 {α : Type} {l : List α} (h : l.length = 6) : ∃ a b c d e f, l = [a, b, c, d, e, f] := by
  match l, h with
  | [a, b, c, d, e, f], _ => exact ⟨a, b, c, d, e, f, rfl⟩
theorem cellsOfPl : Try.prog.cellsOf 26 = 2 := by kernel_rfl
theorem cellsOfInt : Try.prog.cellsOf 3 = 1 := by kernel_rfl

section
variable {H : Type} {enc : TypeId × Value → H} {w : World} {base : Nat} {spare : Nat → Bool} {held : Bool}
theorem open_place {fuel : Nat} {cs : List Value} {x : DataW H × List MemPlace} (h : DataW.trod enc Try.prog w base spare held fuel 26 cs = some x) : ∃ p : Pt, cs = [.int .i64 p.1, .int .i64 p.2] ∧ WfP p := by
  obtain ⟨y0, y1, n, _, hl, h0, h1⟩ := trod_struct2 Try.underlying26 h
  rw [cellsOfPl] at hl
  obtain ⟨a, b, rfl⟩ := list2 hl
  rw [cellsOfInt] at h0 h1
  obtain ⟨i, e0, _, w0⟩ := DataW.trod_int Try.underlying3 h0
  obtain ⟨j, e1, _, w1⟩ := DataW.trod_int Try.underlying3 h1
  simp at e0 e1
  subst e0; subst e1
  exact ⟨(i, j), rfl, w0, w1⟩
theorem open_places {a : Addr} {len : Nat} (h : ∀ i, i < len → ∃ cs' n x, w.cells? base (a.add (i * 2)) 2 = some cs' ∧ DataW.trod enc Try.prog w base spare held n 26 cs' = some x) : ∃ l : List Pt, l.length = len ∧ Cells2 w (some a) l ∧ ∀ p ∈ l, WfP p := by
  have key : ∀ i, i < len → ∃ p : Pt, w.cell? (a.add (i * 2)) = some (.int .i64 p.1) ∧ w.cell? ((a.add (i * 2)).add 1) = some (.int .i64 p.2) ∧ WfP p := fun i hi => by
    obtain ⟨cs', n, x, h1, h2⟩ := h i hi
    obtain ⟨p, rfl, hw⟩ := open_place h2
    obtain ⟨_, _, hc⟩ := World.cells?_some h1
    have c0 := hc 0 (by omega)
    have c1 := hc 1 (by omega)
    refine ⟨p, ?_, c1, hw⟩
    have e : (a.add (i * 2)).add 0 = a.add (i * 2) := by simp [Addr.add]
    rw [e] at c0
    exact c0
  obtain ⟨f, hf⟩ := choose_lt (α := Pt) key
  refine ⟨(List.range len).map f, by simp, fun i hi => ?_, fun p hp => ?_⟩
  · have hi' : i < len := by simpa using hi
    obtain ⟨h1, h2, _⟩ := hf i hi'
    have hp : pt ((List.range len).map f) i = f i := by simp [pt, List.getD, hi']
    rw [hp]
    obtain ⟨b, off, spot⟩ := a
    have hs : spot = none := by
      have h0 := World.cell?_spot (hf 0 (by omega)).1
      simpa [Addr.add] using h0
    subst hs
    rw [Addr.add_lit] at h1 h2
    rw [Addr.add_lit] at h2
    exact ⟨b, off, rfl, h1, h2⟩
  · obtain ⟨i, hi, rfl⟩ := List.mem_map.1 hp
    exact (hf i (by simpa using hi)).2.2
theorem open_slicePl {fuel : Nat} {v : Value} {x : DataW H × List MemPlace} (h : DataW.trod enc Try.prog w base spare held fuel 22 [v] = some x) :
    ∃ (l : List Pt) (a : Option Addr) (cap : Nat), v = .slice a l.length cap ∧ Cells2 w a l ∧ l.length ≤ maxLen ∧ ∀ p ∈ l, WfP p := by
  rcases open_slice Try.underlying22 h with ⟨h1, _⟩ | ⟨a, len, cap, m, n, D, Pl, h1, hb, hl, hm, hmm, _, hx⟩
  · simp at h1
    exact ⟨[], none, 0, h1, fun i hi => by simp at hi, by simp, fun p hp => by cases hp⟩
  · simp at h1
    rw [cellsOfPl] at hx
    have hlm : len ≤ m := by rw [hmm]; split <;> omega
    obtain ⟨l, hll, hc, hw⟩ := open_places (enc := enc) (spare := spare) (held := held) (w := w) (base := base) (a := a) (len := len) (fun i hi => by
      obtain ⟨cs', h2, h3⟩ := hx i (by omega)
      exact ⟨cs', n, _, h2, h3⟩)
    exact ⟨l, some a, cap, by rw [h1, hll], hc, by rw [hll]; omega, hw⟩
set_option maxRecDepth 100000 in
theorem open_grid {r : Reach} {b0 : Nat} {v : Value} {d : DataW H} {p : List MemPlace} (hv : Value.okWide Try.prog w r b0 24 v) (h : DataW.Trod enc Try.prog w base spare held 24 v d p) :
    ∃ (g : Gr) (ga : Option Addr) (gc : Nat), v = .agg #[.int .i64 g.rows, .int .i64 g.cols, .slice ga g.bl.length gc] ∧ Cells2 w ga g.bl ∧ g.bl.length ≤ maxLen ∧ (Lit.int .i64 g.rows).wf = true ∧ (Lit.int .i64 g.cols).wf = true ∧ ∀ p ∈ g.bl, WfP p := by
  obtain ⟨c0, c1, c2, y0, y1, y2, n, rfl, _, _, h0, h1, h2⟩ := open_agg3 Try.underlying24 (by kernel_rfl) (by kernel_rfl) hv h
  obtain ⟨i, e0, _, w0⟩ := DataW.trod_int Try.underlying3 h0
  obtain ⟨j, e1, _, w1⟩ := DataW.trod_int Try.underlying3 h1
  obtain ⟨l, a, cap, e2, hc, hl, hw⟩ := open_slicePl h2
  simp at e0 e1
  subst e0; subst e1; subst e2
  exact ⟨⟨i, j, l⟩, a, cap, rfl, hc, hl, w0, w1, hw⟩
set_option maxRecDepth 100000 in
theorem open_three {r : Reach} {b0 : Nat} {v : Value} {d : DataW H} {p : List MemPlace} (hv : Value.okWide Try.prog w r b0 27 v) (h : DataW.Trod enc Try.prog w base spare held 27 v d p) :
    ∃ p q r : Pt, v = .agg #[.int .i64 p.1, .int .i64 p.2, .int .i64 q.1, .int .i64 q.2, .int .i64 r.1, .int .i64 r.2] ∧ WfP p ∧ WfP q ∧ WfP r := by
  simp only [Value.okWide, Try.underlying27] at hv
  obtain ⟨cs, rfl, _, _⟩ := hv
  obtain ⟨fuel, hf⟩ := h
  obtain ⟨xs, m, _, _, hl, hxs, hx⟩ := DataW.trod_array Try.underlying27 hf
  have hl6 : cs.toList.length = 6 := hl.trans (by kernel_rfl)
  obtain ⟨a, b, c, d, e, f, hcs⟩ := list6 hl6
  have hc : (Value.agg cs).cells.toList = [a, b, c, d, e, f] := hcs
  rw [hc, cellsOfPl] at hx
  have get : ∀ i, i < 3 → ∃ y, xs[i]? = some y := fun i hi => ⟨xs[i], List.getElem?_eq_getElem (by omega)⟩
  obtain ⟨y0, g0⟩ := get 0 (by omega)
  obtain ⟨y1, g1⟩ := get 1 (by omega)
  obtain ⟨y2, g2⟩ := get 2 (by omega)
  have k0 := hx 0 (by omega)
  have k1 := hx 1 (by omega)
  have k2 := hx 2 (by omega)
  rw [g0] at k0
  rw [g1] at k1
  rw [g2] at k2
  obtain ⟨p, e0, w0⟩ := open_place k0
  obtain ⟨q, e1, w1⟩ := open_place k1
  obtain ⟨r, e2, w2⟩ := open_place k2
  simp at e0 e1 e2
  obtain ⟨rfl, rfl⟩ := e0
  obtain ⟨rfl, rfl⟩ := e1
  obtain ⟨rfl, rfl⟩ := e2
  refine ⟨p, q, r, ?_, w0, w1, w2⟩
  rw [show cs = cs.toList.toArray by simp, hcs]
end
end Go.Proofs.Ytfigooilhnahfaa
