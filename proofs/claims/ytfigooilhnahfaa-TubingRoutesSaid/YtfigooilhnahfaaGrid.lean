/- Cells of grids: inside, blocked, Check and the errors of cells. -/
import Derived.Test.YtfigooilhnahfaaOrd
namespace Go.Proofs.Ytfigooilhnahfaa
open Go.RowKit

/-- a list of places in memory: from cell 'off' of block b on -/
def Cells2 (w : World) (a : Option Addr) (l : List Pt) : Prop :=
  ∀ i, i < l.length → ∃ b off, a = some ⟨b, off, none⟩ ∧ w.cell? ⟨b, off + i * 2, none⟩ = some (.int .i64 (pt l i).1) ∧ w.cell? ⟨b, off + i * 2 + 1, none⟩ = some (.int .i64 (pt l i).2)
theorem Cells2.ext {w w' : World} {a : Option Addr} {l : List Pt} (h : Cells2 w a l) (he : Ext w w') : Cells2 w' a l := fun i hi => by
  obtain ⟨b, off, h1, h2, h3⟩ := h i hi
  exact ⟨b, off, h1, he.cell h2, he.cell h3⟩

theorem inside_any (g : Gr) (p : Pt) (s : Value) (w : World) :
    Calls Try.prog 64 #[.agg #[.int .i64 g.rows, .int .i64 g.cols, s], .agg #[.int .i64 p.1, .int .i64 p.2]] w fun e w' => e = .returned (.bool (inside g p)) ∧ Ext w w' := by
  unfold inside
  go_enter Try.func64, Try.ntmps64
  go_wp2
  all_goals go_ret
  all_goals exact ⟨by first | rfl | (simp [*]; done) | (simp [*]; omega), ((Ext.refl _).alloc _).alloc _⟩
theorem Cell_any (g : Gr) (p : Pt) (s : Value) (w : World) :
    Calls Try.prog 58 #[.agg #[.int .i64 g.rows, .int .i64 g.cols, s], .agg #[.int .i64 p.1, .int .i64 p.2]] w fun e w' => e = .returned (.bool (inside g p)) ∧ Ext w w' := by
  unfold inside
  go_enter Try.func58, Try.ntmps58
  go_wp2
  all_goals go_ret
  all_goals exact ⟨by first | rfl | (simp [*]; done) | (simp [*]; omega), ((Ext.refl _).alloc _).alloc _⟩
theorem Before_any (a b : Pt) (w : World) :
    Calls Try.prog 65 #[.agg #[.int .i64 a.1, .int .i64 a.2], .agg #[.int .i64 b.1, .int .i64 b.2]] w fun e w' => e = .returned (.bool (bef a b)) ∧ Ext w w' := by
  unfold bef
  by_cases h1 : a.1 < b.1
  · go_enter Try.func65, Try.ntmps65
    go_wp2
    all_goals go_ret
    all_goals exact ⟨by simp [*], ((Ext.refl _).alloc _).alloc _⟩
  · by_cases h2 : a.1 = b.1
    · have h2' : (a.1 == b.1) = true := by simp [h2]
      go_enter Try.func65, Try.ntmps65
      go_wp2
      all_goals go_ret
      all_goals exact ⟨by simp [*], ((Ext.refl _).alloc _).alloc _⟩
    · have h2' : (a.1 == b.1) = false := by simp [h2]
      go_enter Try.func65, Try.ntmps65
      go_wp2
      all_goals go_ret
      all_goals exact ⟨by simp [*], ((Ext.refl _).alloc _).alloc _⟩

set_option maxHeartbeats 1000000 in
theorem Has_any (l : List Pt) (p : Pt) (a : Option Addr) (cap : Nat) (w : World) (hl : l.length ≤ maxLen) (hc : Cells2 w a l) :
    Calls Try.prog 59 #[.slice a l.length cap, .agg #[.int .i64 p.1, .int .i64 p.2]] w fun e w' => e = .returned (.bool (decide (p ∈ l))) ∧ Ext w w' := by
  unfold maxLen at hl
  go_enter Try.func59, Try.ntmps59
  go_wp2
  have H : Ext w (w.alloc (.cells #[.int .i64 p.1, .int .i64 p.2] 26)) := (Ext.refl _).alloc _
  have c1 : (w.alloc (.cells #[.int .i64 p.1, .int .i64 p.2] 26)).cell? ⟨w.heap.size, 0, none⟩ = some (.int .i64 p.1) := by go_simp
  have c2 : (w.alloc (.cells #[.int .i64 p.1, .int .i64 p.2] 26)).cell? ⟨w.heap.size, 1, none⟩ = some (.int .i64 p.2) := by go_simp
  generalize w.alloc (.cells #[.int .i64 p.1, .int .i64 p.2] 26) = W at H c1 c2 ⊢
  have hc := hc.ext H
  go_loopw [5] (fun i wr => ∃ k : Nat, k ≤ l.length ∧ i = .int .i64 k ∧ Hid (∀ j, j < k → pt l j ≠ p) ∧ Ext W wr) (fun i _ => l.length - (intOf i).toNat)
  case atStart => exact ⟨0, Nat.zero_le _, rfl, fun j hj => by omega, Ext.refl _⟩
  case round =>
    obtain ⟨k, hk, rfl, hn, he⟩ := hrel
    have d1 := he.cell c1
    have d2 := he.cell c2
    by_cases hlt : k < l.length
    · obtain ⟨b, off, ha, e1, e2⟩ := hc.ext he k hlt
      subst ha
      clear hc c1 c2
      by_cases heq : pt l k = p
      · have hm : Hid (decide (p ∈ l) = true) := by
          have : pt l k ∈ l := by unfold pt; rw [List.getD_eq_getElem?_getD, List.getElem?_eq_getElem hlt]; simp
          rw [heq] at this; simpa [Hid] using this
        rw [heq] at e1 e2
        clear heq
        go_wp2
        go_quiet (fail)
        go_wp2
        all_goals go_ret
        exact ⟨ret_bool hm.out.symm, (H.trans he).drewN _⟩
      · have HN : Hid (pt l k ≠ p) := heq
        by_cases h1 : (pt l k).1 = p.1
        · have h2 : ((pt l k).2 == p.2) = false := by
            cases hb : ((pt l k).2 == p.2)
            · rfl
            · exact absurd (Prod.ext h1 (by simpa using hb)) heq
          rw [h1] at e1
          clear heq h1
          go_wp2
          go_quiet (fail)
          go_wp2
          refine ⟨⟨k + 1, by omega, by go_num, fun j hj => ?_, he.drewN _⟩, by simp [intOf]; omega⟩
          by_cases e : j = k
          · subst e; exact HN.out
          · exact hn.out j (by omega)
        · have h2 : ((pt l k).1 == p.1) = false := by simpa using h1
          clear heq h1
          go_wp2
          go_quiet (fail)
          go_wp2
          refine ⟨⟨k + 1, by omega, by go_num, fun j hj => ?_, he.drewN _⟩, by simp [intOf]; omega⟩
          by_cases e : j = k
          · subst e; exact HN.out
          · exact hn.out j (by omega)
    · go_wp2
      go_ret
      refine ⟨ret_bool ?_, H.trans he⟩
      symm
      rw [decide_eq_false_iff_not]
      intro hm
      obtain ⟨j, hj, e⟩ := List.getElem_of_mem hm
      refine hn.out j (by omega) ?_
      unfold pt
      rw [List.getD_eq_getElem?_getD, List.getElem?_eq_getElem hj]
      simpa using e
end Go.Proofs.Ytfigooilhnahfaa
