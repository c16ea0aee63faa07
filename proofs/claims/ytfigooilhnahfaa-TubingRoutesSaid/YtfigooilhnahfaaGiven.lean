/- given, listed, Open. -/
import Derived.Test.YtfigooilhnahfaaCells
namespace Go.Proofs.Ytfigooilhnahfaa
open Go.RowKit

theorem cells2_one {w : World} {b : Nat} {p : Pt} (h1 : w.cell? ⟨b, 0, none⟩ = some (.int .i64 p.1)) (h2 : w.cell? ⟨b, 1, none⟩ = some (.int .i64 p.2)) : Cells2 w (some ⟨b, 0, none⟩) [p] := fun i hi => by
  obtain rfl : i = 0 := by simp at hi; omega
  exact ⟨b, 0, rfl, by simpa [pt] using h1, by simpa [pt] using h2⟩

theorem given_any (g : Gr) (l : List Pt) (ga : Option Addr) (gc : Nat) (a : Option Addr) (cap : Nat) (w : World) (hg : g.bl.length ≤ maxLen) (hc : Cells2 w ga g.bl) (hl : l.length ≤ maxLen) (hcl : Cells2 w a l) :
    Calls Try.prog 48 #[.agg #[.int .i64 g.rows, .int .i64 g.cols, .slice ga g.bl.length gc], .slice a l.length cap] w fun e w' => e = .returned (.int .i64 (givenErr g l)) ∧ Ext w w' := by
  have HC : Hid (Cells2 w ga g.bl) := hc
  have HL : Hid (Cells2 w a l) := hcl
  have HG := Lib.hid hg
  have HM := Lib.hid hl
  clear hc hcl hg hl
  have H : Ext w (w.alloc (.cells #[.int .i64 g.rows, .int .i64 g.cols, .slice ga g.bl.length gc] 33)) := (Ext.refl _).alloc _
  by_cases hz : chk g = 0
  · have hr := Lib.hid (right_of_chk hz)
    have hf : Hid (givenErr g l = cellsErr g l) := by show _ = _; unfold givenErr; rw [if_neg (by simp [hz])]
    go_enter Try.func48, Try.ntmps48
    go_wp2_with fail
    refine (Check_any g ga gc _ HG.out (HC.out.ext H)).mono ?_
    rintro e w1 ⟨rfl, hE⟩
    rw [hz]
    have hS := sees hE
    go_wp2_with fail
    refine (cells_any g l ga gc a cap _ hr.out (HC.out.ext (H.trans hE)) HM.out (HL.out.ext (H.trans hE))).mono ?_
    rintro e w2 ⟨rfl, hE2⟩
    go_wp2
    go_ret
    exact ⟨ret_int hf.out.symm, (H.trans hE).trans hE2⟩
  · have hf : Hid (givenErr g l = chk g) := by show _ = _; unfold givenErr; rw [if_pos hz]
    have hz1 : (chk g == 0) = false := by simp [hz]
    have hz2 : (chk g != 0) = true := by simp [hz]
    clear hz
    go_enter Try.func48, Try.ntmps48
    go_wp2_with fail
    refine (Check_any g ga gc _ HG.out (HC.out.ext H)).mono ?_
    rintro e w1 ⟨rfl, hE⟩
    go_wp2
    go_ret
    exact ⟨ret_int hf.out.symm, H.trans hE⟩

theorem givenR_any (g : Gr) (l : List Pt) (ga : Option Addr) (gc : Nat) (a : Option Addr) (cap : Nat) (w : World) (hg : g.bl.length ≤ maxLen) (hc : Cells2 w ga g.bl) (hl : l.length ≤ maxLen) (hcl : Cells2 w a l) :
    Calls Try.prog 50 #[.agg #[.int .i64 g.rows, .int .i64 g.cols, .slice ga g.bl.length gc], .slice a l.length cap] w fun e w' => e = .returned (.int .i64 (givenErr g l)) ∧ Ext w w' := by
  have HC : Hid (Cells2 w ga g.bl) := hc
  have HL : Hid (Cells2 w a l) := hcl
  have HG := Lib.hid hg
  have HM := Lib.hid hl
  clear hc hcl hg hl
  have H : Ext w (w.alloc (.cells #[.int .i64 g.rows, .int .i64 g.cols, .slice ga g.bl.length gc] 24)) := (Ext.refl _).alloc _
  by_cases hz : chk g = 0
  · have hf : Hid (givenErr g l = cellsErr g l) := by show _ = _; unfold givenErr; rw [if_neg (by simp [hz])]
    go_enter Try.func50, Try.ntmps50
    go_wp2_with fail
    refine (CheckR_any g ga gc _ HG.out (HC.out.ext H)).mono ?_
    rintro e w1 ⟨rfl, hE⟩
    rw [hz]
    have hS := sees hE
    go_wp2_with fail
    refine (cellsR_any g l ga gc a cap _ HG.out (HC.out.ext (H.trans hE)) HM.out (HL.out.ext (H.trans hE))).mono ?_
    rintro e w2 ⟨rfl, hE2⟩
    go_wp2
    go_ret
    exact ⟨ret_int hf.out.symm, (H.trans hE).trans hE2⟩
  · have hf : Hid (givenErr g l = chk g) := by show _ = _; unfold givenErr; rw [if_pos hz]
    have hz1 : (chk g == 0) = false := by simp [hz]
    have hz2 : (chk g != 0) = true := by simp [hz]
    clear hz
    go_enter Try.func50, Try.ntmps50
    go_wp2_with fail
    refine (CheckR_any g ga gc _ HG.out (HC.out.ext H)).mono ?_
    rintro e w1 ⟨rfl, hE⟩
    go_wp2
    go_ret
    exact ⟨ret_int hf.out.symm, H.trans hE⟩

def openErr (g : Gr) (p : Pt) : Int := if chk g ≠ 0 then chk g else if inside g p = false then 2 else 0
def openB (g : Gr) (p : Pt) : Bool := decide (chk g = 0) && opn g p
theorem chkFrom_val (g : Gr) : ∀ n k, chkFrom g n k = 0 ∨ chkFrom g n k = 2 ∨ chkFrom g n k = 9 := by
  intro n
  induction n with
  | zero => intro k; left; rfl
  | succ n ih =>
    intro k
    unfold chkFrom
    split
    · right; left; rfl
    · split
      · right; right; rfl
      · exact ih _
theorem chk_val (g : Gr) : chk g = 0 ∨ chk g = 2 ∨ chk g = 5 ∨ chk g = 9 := by
  unfold chk
  repeat' split
  · simp
  · simp
  · simp
  · rcases chkFrom_val g g.bl.length 0 with h | h | h <;> simp [h]
theorem open_given (g : Gr) (p : Pt) : (givenErr g [p] = 14 ∧ openErr g p = 0 ∧ openB g p = false) ∨ (givenErr g [p] ≠ 14 ∧ openErr g p = givenErr g [p] ∧ openB g p = decide (givenErr g [p] = 0)) := by
  unfold givenErr openErr openB opn
  by_cases h : chk g = 0
  · simp only [h, ne_eq, not_true_eq_false, if_false, cellsErr]
    cases h1 : inside g p <;> cases h2 : blk g p <;> simp
  · simp only [ne_eq, h, not_false_eq_true, if_true]
    rcases chk_val g with h1 | h1 | h1 | h1 <;> simp [h1] at h ⊢

theorem Open_any (g : Gr) (p : Pt) (ga : Option Addr) (gc : Nat) (w : World) (hg : g.bl.length ≤ maxLen) (hc : Cells2 w ga g.bl) :
    Calls Try.prog 20 #[.agg #[.int .i64 g.rows, .int .i64 g.cols, .slice ga g.bl.length gc], .agg #[.int .i64 p.1, .int .i64 p.2]] w fun e w' => e = .returned (.tuple #[.bool (openB g p), .int .i64 (openErr g p)]) ∧ Ext w w' := by
  have HC : Hid (Cells2 w ga g.bl) := hc
  have HG := Lib.hid hg
  clear hc hg
  have H : Ext w (((w.alloc (.cells #[.int .i64 g.rows, .int .i64 g.cols, .slice ga g.bl.length gc] 33)).alloc (.cells #[.int .i64 p.1, .int .i64 p.2] 26)).alloc (.cells #[.int .i64 p.1, .int .i64 p.2] 26)) := (((Ext.refl _).alloc _).alloc _).alloc _
  have HO := Lib.hid (open_given g p)
  by_cases h14 : givenErr g [p] = 14
  · go_enter Try.func20, Try.ntmps20
    go_wp2_with fail
    refine (given_any g [p] ga gc _ _ _ HG.out (HC.out.ext H) (by simp [maxLen]) (cells2_one (by go_simp) (by go_simp))).mono ?_
    rintro e w1 ⟨rfl, hE⟩
    rw [h14]
    go_wp2
    go_ret2
    rcases HO.out with ⟨h1, h2, h3⟩ | ⟨h1, h2, h3⟩
    · rw [h2, h3]; exact ⟨rfl, H.trans hE⟩
    · exact absurd h14 h1
  · have hb : (givenErr g [p] == 14) = false := by simp [h14]
    have HX := Lib.hid h14
    clear h14
    go_enter Try.func20, Try.ntmps20
    go_wp2_with fail
    refine (given_any g [p] ga gc _ _ _ HG.out (HC.out.ext H) (by simp [maxLen]) (cells2_one (by go_simp) (by go_simp))).mono ?_
    rintro e w1 ⟨rfl, hE⟩
    go_wp2
    go_ret2
    rcases HO.out with ⟨h1, h2, h3⟩ | ⟨h1, h2, h3⟩
    · exact absurd h1 HX.out
    · rw [h2, h3]
      refine ⟨?_, H.trans hE⟩
      congr 4

theorem OpenR_any (g : Gr) (p : Pt) (ga : Option Addr) (gc : Nat) (w : World) (hg : g.bl.length ≤ maxLen) (hc : Cells2 w ga g.bl) :
    Calls Try.prog 21 #[.agg #[.int .i64 g.rows, .int .i64 g.cols, .slice ga g.bl.length gc], .agg #[.int .i64 p.1, .int .i64 p.2]] w fun e w' => e = .returned (.tuple #[.bool (openB g p), .int .i64 (openErr g p)]) ∧ Ext w w' := by
  have HC : Hid (Cells2 w ga g.bl) := hc
  have HG := Lib.hid hg
  clear hc hg
  have H : Ext w ((w.alloc (.cells #[.int .i64 g.rows, .int .i64 g.cols, .slice ga g.bl.length gc] 24)).alloc (.cells #[.int .i64 p.1, .int .i64 p.2] 26)) := ((Ext.refl _).alloc _).alloc _
  by_cases hz : chk g = 0
  · cases hin : inside g p
    · have hf : Hid (openB g p = false ∧ openErr g p = 2) := by unfold Hid openB openErr opn; simp [hz, hin]
      go_enter Try.func21, Try.ntmps21
      go_wp2_with fail
      refine (CheckR_any g ga gc _ HG.out (HC.out.ext H)).mono ?_
      rintro e w1 ⟨rfl, hE⟩
      rw [hz]
      have hS := sees hE
      go_wp2_with fail
      refine (Cell_any g p _ _).mono ?_
      rintro e w2 ⟨rfl, hE2⟩
      go_wp2
      go_ret2
      rw [hf.out.1, hf.out.2]
      exact ⟨rfl, (H.trans hE).trans hE2⟩
    · have hf : Hid (openB g p = !decide (p ∈ g.bl) ∧ openErr g p = 0) := by unfold Hid openB openErr opn blk; simp [hz, hin]
      go_enter Try.func21, Try.ntmps21
      go_wp2_with fail
      refine (CheckR_any g ga gc _ HG.out (HC.out.ext H)).mono ?_
      rintro e w1 ⟨rfl, hE⟩
      rw [hz]
      have hS := sees hE
      have z1 : w.heap.size + 1 < w1.heap.size := hE.size_lt (by simp)
      have z2 : w.heap.size < w1.heap.size := by omega
      go_wp2_with fail
      refine (Cell_any g p _ _).mono ?_
      rintro e w2 ⟨rfl, hE2⟩
      have hS2 := sees hE2
      go_wp2_with fail
      refine (Has_any g.bl p ga gc _ HG.out (HC.out.ext ((H.trans hE).trans hE2))).mono ?_
      rintro e w3 ⟨rfl, hE3⟩
      go_wp2
      go_ret2
      rw [hf.out.1, hf.out.2]
      exact ⟨rfl, ((H.trans hE).trans hE2).trans hE3⟩
  · have hz1 : (chk g == 0) = false := by simp [hz]
    have hz2 : (chk g != 0) = true := by simp [hz]
    have hf : Hid (openB g p = false ∧ openErr g p = chk g) := by unfold Hid openB openErr; simp [hz]
    clear hz
    go_enter Try.func21, Try.ntmps21
    go_wp2_with fail
    refine (CheckR_any g ga gc _ HG.out (HC.out.ext H)).mono ?_
    rintro e w1 ⟨rfl, hE⟩
    go_wp2
    go_ret2
    rw [hf.out.1, hf.out.2]
    exact ⟨rfl, H.trans hE⟩

theorem listed_any (g : Gr) (l : List Pt) (ga : Option Addr) (gc : Nat) (a : Option Addr) (cap : Nat) (w : World) (hg : g.bl.length ≤ maxLen) (hc : Cells2 w ga g.bl) (hl : l.length ≤ maxLen) (hcl : Cells2 w a l) :
    Calls Try.prog 67 #[.agg #[.int .i64 g.rows, .int .i64 g.cols, .slice ga g.bl.length gc], .slice a l.length cap] w fun e w' => e = .returned (.int .i64 (listedErr g l)) ∧ Ext w w' := by
  have HC : Hid (Cells2 w ga g.bl) := hc
  have HL : Hid (Cells2 w a l) := hcl
  have HG := Lib.hid hg
  have HM := Lib.hid hl
  clear hc hcl hg hl
  have H : Ext w (w.alloc (.cells #[.int .i64 g.rows, .int .i64 g.cols, .slice ga g.bl.length gc] 33)) := (Ext.refl _).alloc _
  by_cases hz : chk g = 0
  · have hr := Lib.hid (right_of_chk hz)
    by_cases h0 : l.length = 0
    · have hf : Hid (listedErr g l = 13) := by show _ = _; unfold listedErr; rw [if_neg (by simp [hz]), if_pos (List.length_eq_zero_iff.1 h0)]
      go_enter Try.func67, Try.ntmps67
      go_wp2_with fail
      refine (Check_any g ga gc _ HG.out (HC.out.ext H)).mono ?_
      rintro e w1 ⟨rfl, hE⟩
      rw [hz]
      have hS := sees hE
      go_wp2
      go_ret
      exact ⟨ret_int hf.out.symm, H.trans hE⟩
    · have hb : ((l.length : Int) == 0) = false := by simp; intro h; simp [h] at h0
      have hb' : (l.length == 0) = false := by simp; intro h; simp [h] at h0
      by_cases h1 : 4096 < l.length
      · have hf : Hid (listedErr g l = 5) := by show _ = _; unfold listedErr; rw [if_neg (by simp [hz]), if_neg (by intro h; simp [h] at h0), if_pos h1]
        clear h0
        go_enter Try.func67, Try.ntmps67
        go_wp2_with fail
        refine (Check_any g ga gc _ HG.out (HC.out.ext H)).mono ?_
        rintro e w1 ⟨rfl, hE⟩
        rw [hz]
        have hS := sees hE
        go_wp2
        go_ret
        exact ⟨ret_int hf.out.symm, H.trans hE⟩
      · have hf : Hid (listedErr g l = cellsErr g l) := by show _ = _; unfold listedErr; rw [if_neg (by simp [hz]), if_neg (by intro h; simp [h] at h0), if_neg h1]
        clear h0
        go_enter Try.func67, Try.ntmps67
        go_wp2_with fail
        refine (Check_any g ga gc _ HG.out (HC.out.ext H)).mono ?_
        rintro e w1 ⟨rfl, hE⟩
        rw [hz]
        have hS := sees hE
        go_wp2_with fail
        refine (cells_any g l ga gc a cap _ hr.out (HC.out.ext (H.trans hE)) HM.out (HL.out.ext (H.trans hE))).mono ?_
        rintro e w2 ⟨rfl, hE2⟩
        go_wp2
        go_ret
        exact ⟨ret_int hf.out.symm, (H.trans hE).trans hE2⟩
  · have hf : Hid (listedErr g l = chk g) := by show _ = _; unfold listedErr; rw [if_pos hz]
    have hz1 : (chk g == 0) = false := by simp [hz]
    have hz2 : (chk g != 0) = true := by simp [hz]
    clear hz
    go_enter Try.func67, Try.ntmps67
    go_wp2_with fail
    refine (Check_any g ga gc _ HG.out (HC.out.ext H)).mono ?_
    rintro e w1 ⟨rfl, hE⟩
    go_wp2
    go_ret
    exact ⟨ret_int hf.out.symm, H.trans hE⟩

theorem listedR_any (g : Gr) (l : List Pt) (ga : Option Addr) (gc : Nat) (a : Option Addr) (cap : Nat) (w : World) (hg : g.bl.length ≤ maxLen) (hc : Cells2 w ga g.bl) (hl : l.length ≤ maxLen) (hcl : Cells2 w a l) :
    Calls Try.prog 69 #[.agg #[.int .i64 g.rows, .int .i64 g.cols, .slice ga g.bl.length gc], .slice a l.length cap] w fun e w' => e = .returned (.int .i64 (listedErr g l)) ∧ Ext w w' := by
  have HC : Hid (Cells2 w ga g.bl) := hc
  have HL : Hid (Cells2 w a l) := hcl
  have HG := Lib.hid hg
  have HM := Lib.hid hl
  clear hc hcl hg hl
  have H : Ext w (w.alloc (.cells #[.int .i64 g.rows, .int .i64 g.cols, .slice ga g.bl.length gc] 24)) := (Ext.refl _).alloc _
  by_cases hz : chk g = 0
  · by_cases h0 : l.length = 0
    · have hf : Hid (listedErr g l = 13) := by show _ = _; unfold listedErr; rw [if_neg (by simp [hz]), if_pos (List.length_eq_zero_iff.1 h0)]
      go_enter Try.func69, Try.ntmps69
      go_wp2_with fail
      refine (CheckR_any g ga gc _ HG.out (HC.out.ext H)).mono ?_
      rintro e w1 ⟨rfl, hE⟩
      rw [hz]
      have hS := sees hE
      go_wp2
      go_ret
      exact ⟨ret_int hf.out.symm, H.trans hE⟩
    · have hb : ((l.length : Int) == 0) = false := by simp; intro h; simp [h] at h0
      have hb' : (l.length == 0) = false := by simp; intro h; simp [h] at h0
      by_cases h1 : 4096 < l.length
      · have hf : Hid (listedErr g l = 5) := by show _ = _; unfold listedErr; rw [if_neg (by simp [hz]), if_neg (by intro h; simp [h] at h0), if_pos h1]
        clear h0
        go_enter Try.func69, Try.ntmps69
        go_wp2_with fail
        refine (CheckR_any g ga gc _ HG.out (HC.out.ext H)).mono ?_
        rintro e w1 ⟨rfl, hE⟩
        rw [hz]
        have hS := sees hE
        go_wp2
        go_ret
        exact ⟨ret_int hf.out.symm, H.trans hE⟩
      · have hf : Hid (listedErr g l = cellsErr g l) := by show _ = _; unfold listedErr; rw [if_neg (by simp [hz]), if_neg (by intro h; simp [h] at h0), if_neg h1]
        clear h0
        go_enter Try.func69, Try.ntmps69
        go_wp2_with fail
        refine (CheckR_any g ga gc _ HG.out (HC.out.ext H)).mono ?_
        rintro e w1 ⟨rfl, hE⟩
        rw [hz]
        have hS := sees hE
        go_wp2_with fail
        refine (cellsR_any g l ga gc a cap _ HG.out (HC.out.ext (H.trans hE)) HM.out (HL.out.ext (H.trans hE))).mono ?_
        rintro e w2 ⟨rfl, hE2⟩
        go_wp2
        go_ret
        exact ⟨ret_int hf.out.symm, (H.trans hE).trans hE2⟩
  · have hf : Hid (listedErr g l = chk g) := by show _ = _; unfold listedErr; rw [if_pos hz]
    have hz1 : (chk g == 0) = false := by simp [hz]
    have hz2 : (chk g != 0) = true := by simp [hz]
    clear hz
    go_enter Try.func69, Try.ntmps69
    go_wp2_with fail
    refine (CheckR_any g ga gc _ HG.out (HC.out.ext H)).mono ?_
    rintro e w1 ⟨rfl, hE⟩
    go_wp2
    go_ret
    exact ⟨ret_int hf.out.symm, H.trans hE⟩
end Go.Proofs.Ytfigooilhnahfaa
