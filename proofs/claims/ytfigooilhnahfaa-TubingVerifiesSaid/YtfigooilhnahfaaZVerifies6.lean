/- Steps of the proof: Bends, BendR, PartS, PartsR, Shelf, SortI. No conditions. -/
import Derived.Shelf.Small.Bits
import Derived.Shelf.Small.Wraps
import Derived.Shelf.Strconv.Itoa0
import Derived.Shelf.Slices.Equal
import Derived.Ground.Names2Prog
import Derived.Shelf.Slices.SearchI
import Derived.Shelf.Slices.Empties2
import Derived.Ground.SlsfProg
import Derived.Shelf.SlSortCmp.Insertion
import Derived.Shelf.SlSortCmp.SiftDown1
import Derived.Shelf.SlSortCmp.HeapSort1
import Derived.Shelf.SlSortCmp.Insertion1
import Derived.Shelf.SlSortCmp.Median1
import Derived.Shelf.SlSortCmp.Pivot1
import Derived.Shelf.SlSortCmp.ReverseRange1
import Derived.Shelf.SlSortCmp.PartialInsertion1
import Derived.Shelf.SlSortCmp.PartitionEqual1
import Derived.Shelf.SlSortCmp.Partition1
import Derived.Shelf.SlSortCmp.Pdq1
import Derived.Shelf.SlSortCmp.Whole1
import Derived.Shelf.SlSortCmp.NoneTotal
import Derived.Test.YtfigooilhnahfaaProg
import Derived.Lib.SortBridge
import Derived.Test.YtfigooilhnahfaaZVerifies1
import Derived.Test.YtfigooilhnahfaaZVerifies2
import Derived.Test.YtfigooilhnahfaaZVerifies3
import Derived.Test.YtfigooilhnahfaaZVerifies4
import Derived.Test.YtfigooilhnahfaaZVerifies5
/- Bends. -/
namespace Go.Proofs.Ytfigooilhnahfaa
open Go.RowKit Go.Maps

/-- the bends among the first k cells -/
def bendN (l : List Pt) : Nat → Nat
  | 0 => 0
  | k + 1 => bendN l k + (if 2 ≤ k ∧ (pt l (k - 2)).1 ≠ (pt l k).1 ∧ (pt l (k - 2)).2 ≠ (pt l k).2 then 1 else 0)
theorem bendN_le (l : List Pt) : ∀ k, bendN l k ≤ k := by
  intro k
  induction k with
  | zero => exact Nat.le_refl _
  | succ k ih => unfold bendN; split <;> omega
theorem bendN_two (l : List Pt) : bendN l 2 = 0 := by simp [bendN]
def bendV (g : Gr) (l : List Pt) : Int := if listedErr g l ≠ 0 then 0 else if joinedB l = false then 0 else ((bendN l (max 2 l.length) : Nat) : Int)
def bendE (g : Gr) (l : List Pt) : Int := if listedErr g l ≠ 0 then listedErr g l else if joinedB l = false then 3 else 0

set_option maxHeartbeats 2000000 in
set_option maxRecDepth 100000 in
theorem Bends_any (g : Gr) (l : List Pt) (ga : Option Addr) (gc : Nat) (a : Option Addr) (cap : Nat) (w : World) (hg : g.bl.length ≤ maxLen) (hc : Cells2 w ga g.bl) (hl : l.length ≤ maxLen) (hcl : Cells2 w a l) :
    Calls Try.prog 34 #[.agg #[.int .i64 g.rows, .int .i64 g.cols, .slice ga g.bl.length gc], .slice a l.length cap] w fun e w' => e = .returned (.tuple #[.int .i64 (bendV g l), .int .i64 (bendE g l)]) ∧ Ext w w' := by
  have HC : Hid (Cells2 w ga g.bl) := hc
  have HL : Hid (Cells2 w a l) := hcl
  have HG := Lib.hid hg
  have HM := Lib.hid hl
  clear hc hcl hg hl
  have E0 : Ext w (((w).alloc (.cells #[.int .i64 g.rows, .int .i64 g.cols, .slice ga g.bl.length gc] 33))) := (Ext.refl _).alloc _
  have a1 : (((w).alloc (.cells #[.int .i64 g.rows, .int .i64 g.cols, .slice ga g.bl.length gc] 33))).cell? ⟨w.heap.size, 0, none⟩ = some (.int .i64 g.rows) := by go_simp
  have a2 : (((w).alloc (.cells #[.int .i64 g.rows, .int .i64 g.cols, .slice ga g.bl.length gc] 33))).cell? ⟨w.heap.size, 1, none⟩ = some (.int .i64 g.cols) := by go_simp
  have a3 : (((w).alloc (.cells #[.int .i64 g.rows, .int .i64 g.cols, .slice ga g.bl.length gc] 33))).cell? ⟨w.heap.size, 2, none⟩ = some (.slice ga g.bl.length gc) := by go_simp
  by_cases h0 : listedErr g l = 0
  · obtain ⟨hr, hne, hlen, ho⟩ := listed_ok h0
    have HR := Lib.hid hr
    have HIN : Hid (∀ i, i < l.length → inside g (pt l i) = true) := fun i hi => opn_inside (ho _ (pt_mem hi))
    have hv : Hid (bendV g l = (if joinedB l = false then 0 else ((bendN l (max 2 l.length) : Nat) : Int)) ∧ bendE g l = if joinedB l = false then 3 else 0) := by
      show _ ∧ _
      unfold bendV bendE
      exact ⟨by rw [if_neg (by simp [h0])], by rw [if_neg (by simp [h0])]⟩
    have H0 := Lib.hid h0
    have HLEN := Lib.hid hlen
    clear hr ho h0 hne
    go_enter Try.func34, Try.ntmps34
    go_wp2_with fail
    refine (listed_any g l ga gc a cap _ HG.out (HC.out.ext E0) HM.out (HL.out.ext E0)).mono ?_
    rintro e w1 ⟨rfl, hE⟩
    rw [H0.out]
    have E1 : Ext w w1 := E0.trans hE
    clear hE E0 a1 a2 a3
    go_wp2_with fail
    refine (joined_any l a cap _ HLEN.out (fun i hi => inG_of HR.out (HIN.out i hi)) (HL.out.ext E1)).mono ?_
    rintro e w2 ⟨rfl, hE⟩
    have E2 : Ext w w2 := E1.trans hE
    clear hE E1
    cases hj : joinedB l
    · have HJ := Lib.hid hj
      clear hj
      go_wp2
      go_ret2
      refine ⟨?_, E2⟩
      rw [hv.out.1, hv.out.2, HJ.out]
      rfl
    · have HJ := Lib.hid hj
      clear hj
      go_wp2
      go_loopw [7, 8] (fun n i wr => ∃ k : Nat, 2 ≤ k ∧ k ≤ max 2 l.length ∧ i = .int .i64 k ∧ n = .int .i64 (bendN l k) ∧ Ext w2 wr) (fun _ i _ => l.length - (intOf i).toNat)
      case atStart => exact ⟨2, Nat.le_refl _, by omega, rfl, by rw [bendN_two]; rfl, Ext.refl _⟩
      case round =>
        obtain ⟨k, hk2, hkm, rfl, rfl, he⟩ := hrel
        have hnb := bendN_le l k
        by_cases hlt : k < l.length
        · obtain ⟨b, off, ha, e1, e2⟩ := HL.out.ext (E2.trans he) k hlt
          obtain ⟨b', off', ha', f1, f2⟩ := HL.out.ext (E2.trans he) (k - 2) (by omega)
          subst ha
          cases ha'
          have q0 : IntKind.i64.wrap ((k : Int) - 2) = (k : Int) - 2 := IntWalk.i64_in _ (by omega)
          have q1 : ((k : Int) - 2).toNat = k - 2 := by omega
          have q2 : 0 ≤ (k : Int) - 2 := by omega
          have q3 : (2 : Int) ≤ (k : Int) := by omega
          have q4 : (k : Int) - 2 < (l.length : Int) := by omega
          have q5 : IntKind.i64.wrap ((bendN l k : Int) + 1) = (bendN l k : Int) + 1 := IntWalk.i64_in _ (by omega)
          have zb := cell_lt f1
          dsimp only at zb
          have HK := Lib.hid (show bendN l (k + 1) = bendN l k + (if 2 ≤ k ∧ (pt l (k - 2)).1 ≠ (pt l k).1 ∧ (pt l (k - 2)).2 ≠ (pt l k).2 then 1 else 0) from rfl)
          cases hx : ((pt l (k - 2)).1 != (pt l k).1)
          · go_wp2_with fail
            go_region
            · have E3 : Ext wr (((wr.alloc (.cells #[.int .i64 (pt l (k - 2)).1, .int .i64 (pt l (k - 2)).2] 26)).alloc (.cells #[.int .i64 (pt l k).1, .int .i64 (pt l k).2] 26)).drew) := (((Ext.refl _).alloc _).alloc _).drew
              have p1 : (((wr.alloc (.cells #[.int .i64 (pt l (k - 2)).1, .int .i64 (pt l (k - 2)).2] 26)).alloc (.cells #[.int .i64 (pt l k).1, .int .i64 (pt l k).2] 26)).drew).cell? ⟨wr.heap.size, 0, none⟩ = some (.int .i64 (pt l (k - 2)).1) := by go_simp
              have p2 : (((wr.alloc (.cells #[.int .i64 (pt l (k - 2)).1, .int .i64 (pt l (k - 2)).2] 26)).alloc (.cells #[.int .i64 (pt l k).1, .int .i64 (pt l k).2] 26)).drew).cell? ⟨wr.heap.size, 1, none⟩ = some (.int .i64 (pt l (k - 2)).2) := by go_simp
              have p3 : (((wr.alloc (.cells #[.int .i64 (pt l (k - 2)).1, .int .i64 (pt l (k - 2)).2] 26)).alloc (.cells #[.int .i64 (pt l k).1, .int .i64 (pt l k).2] 26)).drew).cell? ⟨wr.heap.size + 1, 0, none⟩ = some (.int .i64 (pt l k).1) := by go_simp
              have p4 : (((wr.alloc (.cells #[.int .i64 (pt l (k - 2)).1, .int .i64 (pt l (k - 2)).2] 26)).alloc (.cells #[.int .i64 (pt l k).1, .int .i64 (pt l k).2] 26)).drew).cell? ⟨wr.heap.size + 1, 1, none⟩ = some (.int .i64 (pt l k).2) := by go_simp
              clear e1 e2 f1 f2
              generalize (((wr.alloc (.cells #[.int .i64 (pt l (k - 2)).1, .int .i64 (pt l (k - 2)).2] 26)).alloc (.cells #[.int .i64 (pt l k).1, .int .i64 (pt l k).2] 26)).drew) = W at p1 p2 p3 p4 E3 ⊢
              go_wp2
              refine ⟨⟨k + 1, by omega, by omega, by go_num, ?_, he.trans E3⟩, by simp [intOf]; omega⟩
              rw [HK.out, if_neg (fun h => by first | exact absurd h.2.1 (by simpa using hx) | exact absurd h.2.2 (by simpa using hy))]
              rfl
            · have E3 : Ext wr (((wr.alloc (.cells #[.int .i64 (pt l k).1, .int .i64 (pt l k).2] 26)).alloc (.cells #[.int .i64 (pt l (k - 2)).1, .int .i64 (pt l (k - 2)).2] 26)).drew) := (((Ext.refl _).alloc _).alloc _).drew
              have p1 : (((wr.alloc (.cells #[.int .i64 (pt l k).1, .int .i64 (pt l k).2] 26)).alloc (.cells #[.int .i64 (pt l (k - 2)).1, .int .i64 (pt l (k - 2)).2] 26)).drew).cell? ⟨wr.heap.size + 1, 0, none⟩ = some (.int .i64 (pt l (k - 2)).1) := by go_simp
              have p2 : (((wr.alloc (.cells #[.int .i64 (pt l k).1, .int .i64 (pt l k).2] 26)).alloc (.cells #[.int .i64 (pt l (k - 2)).1, .int .i64 (pt l (k - 2)).2] 26)).drew).cell? ⟨wr.heap.size + 1, 1, none⟩ = some (.int .i64 (pt l (k - 2)).2) := by go_simp
              have p3 : (((wr.alloc (.cells #[.int .i64 (pt l k).1, .int .i64 (pt l k).2] 26)).alloc (.cells #[.int .i64 (pt l (k - 2)).1, .int .i64 (pt l (k - 2)).2] 26)).drew).cell? ⟨wr.heap.size, 0, none⟩ = some (.int .i64 (pt l k).1) := by go_simp
              have p4 : (((wr.alloc (.cells #[.int .i64 (pt l k).1, .int .i64 (pt l k).2] 26)).alloc (.cells #[.int .i64 (pt l (k - 2)).1, .int .i64 (pt l (k - 2)).2] 26)).drew).cell? ⟨wr.heap.size, 1, none⟩ = some (.int .i64 (pt l k).2) := by go_simp
              clear e1 e2 f1 f2
              generalize (((wr.alloc (.cells #[.int .i64 (pt l k).1, .int .i64 (pt l k).2] 26)).alloc (.cells #[.int .i64 (pt l (k - 2)).1, .int .i64 (pt l (k - 2)).2] 26)).drew) = W at p1 p2 p3 p4 E3 ⊢
              go_wp2
              refine ⟨⟨k + 1, by omega, by omega, by go_num, ?_, he.trans E3⟩, by simp [intOf]; omega⟩
              rw [HK.out, if_neg (fun h => by first | exact absurd h.2.1 (by simpa using hx) | exact absurd h.2.2 (by simpa using hy))]
              rfl
          · cases hy : ((pt l (k - 2)).2 != (pt l k).2)
            · go_wp2_with fail
              go_region
              · have E3 : Ext wr (((wr.alloc (.cells #[.int .i64 (pt l (k - 2)).1, .int .i64 (pt l (k - 2)).2] 26)).alloc (.cells #[.int .i64 (pt l k).1, .int .i64 (pt l k).2] 26)).drew) := (((Ext.refl _).alloc _).alloc _).drew
                have p1 : (((wr.alloc (.cells #[.int .i64 (pt l (k - 2)).1, .int .i64 (pt l (k - 2)).2] 26)).alloc (.cells #[.int .i64 (pt l k).1, .int .i64 (pt l k).2] 26)).drew).cell? ⟨wr.heap.size, 0, none⟩ = some (.int .i64 (pt l (k - 2)).1) := by go_simp
                have p2 : (((wr.alloc (.cells #[.int .i64 (pt l (k - 2)).1, .int .i64 (pt l (k - 2)).2] 26)).alloc (.cells #[.int .i64 (pt l k).1, .int .i64 (pt l k).2] 26)).drew).cell? ⟨wr.heap.size, 1, none⟩ = some (.int .i64 (pt l (k - 2)).2) := by go_simp
                have p3 : (((wr.alloc (.cells #[.int .i64 (pt l (k - 2)).1, .int .i64 (pt l (k - 2)).2] 26)).alloc (.cells #[.int .i64 (pt l k).1, .int .i64 (pt l k).2] 26)).drew).cell? ⟨wr.heap.size + 1, 0, none⟩ = some (.int .i64 (pt l k).1) := by go_simp
                have p4 : (((wr.alloc (.cells #[.int .i64 (pt l (k - 2)).1, .int .i64 (pt l (k - 2)).2] 26)).alloc (.cells #[.int .i64 (pt l k).1, .int .i64 (pt l k).2] 26)).drew).cell? ⟨wr.heap.size + 1, 1, none⟩ = some (.int .i64 (pt l k).2) := by go_simp
                clear e1 e2 f1 f2
                generalize (((wr.alloc (.cells #[.int .i64 (pt l (k - 2)).1, .int .i64 (pt l (k - 2)).2] 26)).alloc (.cells #[.int .i64 (pt l k).1, .int .i64 (pt l k).2] 26)).drew) = W at p1 p2 p3 p4 E3 ⊢
                go_wp2
                refine ⟨⟨k + 1, by omega, by omega, by go_num, ?_, he.trans E3⟩, by simp [intOf]; omega⟩
                rw [HK.out, if_neg (fun h => by first | exact absurd h.2.1 (by simpa using hx) | exact absurd h.2.2 (by simpa using hy))]
                rfl
              · have E3 : Ext wr (((wr.alloc (.cells #[.int .i64 (pt l k).1, .int .i64 (pt l k).2] 26)).alloc (.cells #[.int .i64 (pt l (k - 2)).1, .int .i64 (pt l (k - 2)).2] 26)).drew) := (((Ext.refl _).alloc _).alloc _).drew
                have p1 : (((wr.alloc (.cells #[.int .i64 (pt l k).1, .int .i64 (pt l k).2] 26)).alloc (.cells #[.int .i64 (pt l (k - 2)).1, .int .i64 (pt l (k - 2)).2] 26)).drew).cell? ⟨wr.heap.size + 1, 0, none⟩ = some (.int .i64 (pt l (k - 2)).1) := by go_simp
                have p2 : (((wr.alloc (.cells #[.int .i64 (pt l k).1, .int .i64 (pt l k).2] 26)).alloc (.cells #[.int .i64 (pt l (k - 2)).1, .int .i64 (pt l (k - 2)).2] 26)).drew).cell? ⟨wr.heap.size + 1, 1, none⟩ = some (.int .i64 (pt l (k - 2)).2) := by go_simp
                have p3 : (((wr.alloc (.cells #[.int .i64 (pt l k).1, .int .i64 (pt l k).2] 26)).alloc (.cells #[.int .i64 (pt l (k - 2)).1, .int .i64 (pt l (k - 2)).2] 26)).drew).cell? ⟨wr.heap.size, 0, none⟩ = some (.int .i64 (pt l k).1) := by go_simp
                have p4 : (((wr.alloc (.cells #[.int .i64 (pt l k).1, .int .i64 (pt l k).2] 26)).alloc (.cells #[.int .i64 (pt l (k - 2)).1, .int .i64 (pt l (k - 2)).2] 26)).drew).cell? ⟨wr.heap.size, 1, none⟩ = some (.int .i64 (pt l k).2) := by go_simp
                clear e1 e2 f1 f2
                generalize (((wr.alloc (.cells #[.int .i64 (pt l k).1, .int .i64 (pt l k).2] 26)).alloc (.cells #[.int .i64 (pt l (k - 2)).1, .int .i64 (pt l (k - 2)).2] 26)).drew) = W at p1 p2 p3 p4 E3 ⊢
                go_wp2
                refine ⟨⟨k + 1, by omega, by omega, by go_num, ?_, he.trans E3⟩, by simp [intOf]; omega⟩
                rw [HK.out, if_neg (fun h => by first | exact absurd h.2.1 (by simpa using hx) | exact absurd h.2.2 (by simpa using hy))]
                rfl
            · go_wp2_with fail
              go_region
              · have E3 : Ext wr (((wr.alloc (.cells #[.int .i64 (pt l (k - 2)).1, .int .i64 (pt l (k - 2)).2] 26)).alloc (.cells #[.int .i64 (pt l k).1, .int .i64 (pt l k).2] 26)).drew) := (((Ext.refl _).alloc _).alloc _).drew
                have p1 : (((wr.alloc (.cells #[.int .i64 (pt l (k - 2)).1, .int .i64 (pt l (k - 2)).2] 26)).alloc (.cells #[.int .i64 (pt l k).1, .int .i64 (pt l k).2] 26)).drew).cell? ⟨wr.heap.size, 0, none⟩ = some (.int .i64 (pt l (k - 2)).1) := by go_simp
                have p2 : (((wr.alloc (.cells #[.int .i64 (pt l (k - 2)).1, .int .i64 (pt l (k - 2)).2] 26)).alloc (.cells #[.int .i64 (pt l k).1, .int .i64 (pt l k).2] 26)).drew).cell? ⟨wr.heap.size, 1, none⟩ = some (.int .i64 (pt l (k - 2)).2) := by go_simp
                have p3 : (((wr.alloc (.cells #[.int .i64 (pt l (k - 2)).1, .int .i64 (pt l (k - 2)).2] 26)).alloc (.cells #[.int .i64 (pt l k).1, .int .i64 (pt l k).2] 26)).drew).cell? ⟨wr.heap.size + 1, 0, none⟩ = some (.int .i64 (pt l k).1) := by go_simp
                have p4 : (((wr.alloc (.cells #[.int .i64 (pt l (k - 2)).1, .int .i64 (pt l (k - 2)).2] 26)).alloc (.cells #[.int .i64 (pt l k).1, .int .i64 (pt l k).2] 26)).drew).cell? ⟨wr.heap.size + 1, 1, none⟩ = some (.int .i64 (pt l k).2) := by go_simp
                clear e1 e2 f1 f2
                generalize (((wr.alloc (.cells #[.int .i64 (pt l (k - 2)).1, .int .i64 (pt l (k - 2)).2] 26)).alloc (.cells #[.int .i64 (pt l k).1, .int .i64 (pt l k).2] 26)).drew) = W at p1 p2 p3 p4 E3 ⊢
                go_wp2
                refine ⟨⟨k + 1, by omega, by omega, by go_num, ?_, he.trans E3⟩, by simp [intOf]; omega⟩
                rw [HK.out, if_pos ⟨hk2, by simpa using hx, by simpa using hy⟩]
                first | rfl | go_num | (simp)
              · have E3 : Ext wr (((wr.alloc (.cells #[.int .i64 (pt l k).1, .int .i64 (pt l k).2] 26)).alloc (.cells #[.int .i64 (pt l (k - 2)).1, .int .i64 (pt l (k - 2)).2] 26)).drew) := (((Ext.refl _).alloc _).alloc _).drew
                have p1 : (((wr.alloc (.cells #[.int .i64 (pt l k).1, .int .i64 (pt l k).2] 26)).alloc (.cells #[.int .i64 (pt l (k - 2)).1, .int .i64 (pt l (k - 2)).2] 26)).drew).cell? ⟨wr.heap.size + 1, 0, none⟩ = some (.int .i64 (pt l (k - 2)).1) := by go_simp
                have p2 : (((wr.alloc (.cells #[.int .i64 (pt l k).1, .int .i64 (pt l k).2] 26)).alloc (.cells #[.int .i64 (pt l (k - 2)).1, .int .i64 (pt l (k - 2)).2] 26)).drew).cell? ⟨wr.heap.size + 1, 1, none⟩ = some (.int .i64 (pt l (k - 2)).2) := by go_simp
                have p3 : (((wr.alloc (.cells #[.int .i64 (pt l k).1, .int .i64 (pt l k).2] 26)).alloc (.cells #[.int .i64 (pt l (k - 2)).1, .int .i64 (pt l (k - 2)).2] 26)).drew).cell? ⟨wr.heap.size, 0, none⟩ = some (.int .i64 (pt l k).1) := by go_simp
                have p4 : (((wr.alloc (.cells #[.int .i64 (pt l k).1, .int .i64 (pt l k).2] 26)).alloc (.cells #[.int .i64 (pt l (k - 2)).1, .int .i64 (pt l (k - 2)).2] 26)).drew).cell? ⟨wr.heap.size, 1, none⟩ = some (.int .i64 (pt l k).2) := by go_simp
                clear e1 e2 f1 f2
                generalize (((wr.alloc (.cells #[.int .i64 (pt l k).1, .int .i64 (pt l k).2] 26)).alloc (.cells #[.int .i64 (pt l (k - 2)).1, .int .i64 (pt l (k - 2)).2] 26)).drew) = W at p1 p2 p3 p4 E3 ⊢
                go_wp2
                refine ⟨⟨k + 1, by omega, by omega, by go_num, ?_, he.trans E3⟩, by simp [intOf]; omega⟩
                rw [HK.out, if_pos ⟨hk2, by simpa using hx, by simpa using hy⟩]
                first | rfl | go_num | (simp)
        · go_wp2
          go_ret2
          refine ⟨?_, E2.trans he⟩
          rw [hv.out.1, hv.out.2, HJ.out, show max 2 l.length = k by omega]
          rfl
  · have hv : Hid (bendV g l = 0 ∧ bendE g l = listedErr g l) := by
      show _ ∧ _
      unfold bendV bendE
      rw [if_pos h0, if_pos h0]
      exact ⟨rfl, rfl⟩
    have hb : (listedErr g l != 0) = true := by simp [h0]
    have hb2 : (listedErr g l == 0) = false := by simp [h0]
    clear h0
    go_enter Try.func34, Try.ntmps34
    go_wp2_with fail
    refine (listed_any g l ga gc a cap _ HG.out (HC.out.ext E0) HM.out (HL.out.ext E0)).mono ?_
    rintro e w1 ⟨rfl, hE⟩
    go_wp2
    go_ret2
    rw [hv.out.1, hv.out.2]
    exact ⟨rfl, E0.trans hE⟩
end Go.Proofs.Ytfigooilhnahfaa
/- The reference's Bends. -/
namespace Go.Proofs.Ytfigooilhnahfaa
open Go.RowKit

set_option maxHeartbeats 4000000 in
set_option maxRecDepth 100000 in
theorem BendsR_any (g : Gr) (l : List Pt) (ga : Option Addr) (gc : Nat) (a : Option Addr) (cap : Nat) (w : World) (hg : g.bl.length ≤ maxLen) (hc : Cells2 w ga g.bl) (hl : l.length ≤ maxLen) (hcap : l.length ≤ cap) (hcl : Cells2 w a l) :
    Calls Try.prog 35 #[.agg #[.int .i64 g.rows, .int .i64 g.cols, .slice ga g.bl.length gc], .slice a l.length cap] w fun e w' => e = .returned (.tuple #[.int .i64 (bendV g l), .int .i64 (bendE g l)]) ∧ Ext w w' := by
  have HC : Hid (Cells2 w ga g.bl) := hc
  have HL : Hid (Cells2 w a l) := hcl
  have HG := Lib.hid hg
  have HM := Lib.hid hl
  have HCAP := Lib.hid hcap
  clear hc hcl hg hl hcap
  have E0 : Ext w (((w).alloc (.cells #[.int .i64 g.rows, .int .i64 g.cols, .slice ga g.bl.length gc] 24))) := (Ext.refl _).alloc _
  have a1 : (((w).alloc (.cells #[.int .i64 g.rows, .int .i64 g.cols, .slice ga g.bl.length gc] 24))).cell? ⟨w.heap.size, 0, none⟩ = some (.int .i64 g.rows) := by go_simp
  have a2 : (((w).alloc (.cells #[.int .i64 g.rows, .int .i64 g.cols, .slice ga g.bl.length gc] 24))).cell? ⟨w.heap.size, 1, none⟩ = some (.int .i64 g.cols) := by go_simp
  have a3 : (((w).alloc (.cells #[.int .i64 g.rows, .int .i64 g.cols, .slice ga g.bl.length gc] 24))).cell? ⟨w.heap.size, 2, none⟩ = some (.slice ga g.bl.length gc) := by go_simp
  by_cases h0 : listedErr g l = 0
  · obtain ⟨hr, hne, hlen, ho⟩ := listed_ok h0
    have H0 := Lib.hid h0
    have HR := Lib.hid hr
    have HO := Lib.hid ho
    obtain ⟨m, hm⟩ : ∃ m, m = l.length := ⟨_, rfl⟩
    have HML := Lib.hid hm
    have hm4 : m ≤ 4096 := by omega
    have HJH : Hid (∀ (w0 : World), Cells2 w0 ga g.bl → Cells2 w0 a l → Calls Try.prog 70 #[.agg #[.int .i64 g.rows, .int .i64 g.cols, .slice ga g.bl.length gc], .slice a m cap] w0 fun e w' => e = .returned (.bool (joinedB l)) ∧ Ext w0 w') := fun w0 h2 h3 => by
      rw [HML.out]
      exact JoinR_any g l ga gc _ cap w0 HR.out HO.out h2 (by rw [← HML.out]; omega) HCAP.out h3
    have HLI : Hid (∀ (w0 : World), Cells2 w0 ga g.bl → Cells2 w0 a l → Calls Try.prog 69 #[.agg #[.int .i64 g.rows, .int .i64 g.cols, .slice ga g.bl.length gc], .slice a m cap] w0 fun e w' => e = .returned (.int .i64 0) ∧ Ext w0 w') := fun w0 h1 h2 => by
      have := listedR_any g l ga gc a cap w0 HG.out h1 HM.out h2
      rw [H0.out, ← HML.out] at this
      exact this
    have HV : Hid (bendV g l = (if joinedB l = false then 0 else ((bendN l (max 2 m) : Nat) : Int)) ∧ bendE g l = if joinedB l = false then 3 else 0) := by
      show _ ∧ _
      unfold bendV bendE
      rw [H0.out, HML.out]
      exact ⟨rfl, rfl⟩
    rw [← hm]
    clear h0 hr hne hlen ho hm
    go_enter Try.func35, Try.ntmps35
    go_wp2_with fail
    refine (HLI.out _ (HC.out.ext E0) (HL.out.ext E0)).mono ?_
    rintro e W ⟨rfl, hE⟩
    have E1 := E0.trans hE
    have a1 := hE.cell a1
    have a2 := hE.cell a2
    have a3 := hE.cell a3
    clear hE E0
    go_wp2_with fail
    refine (HJH.out _ (HC.out.ext E1) (HL.out.ext E1)).mono ?_
    rintro e W2 ⟨rfl, hE⟩
    have E2 := E1.trans hE
    clear hE E1 a1 a2 a3
    have HL := Lib.hid (HL.out.ext E2)
    cases hj : joinedB l
    · have HF : Hid (bendV g l = 0 ∧ bendE g l = 3) := by rw [HV.out.1, HV.out.2, hj]; exact ⟨rfl, rfl⟩
      go_wp2
      go_ret2
      rw [HF.out.1, HF.out.2]
      exact ⟨rfl, E2⟩
    · have HF : Hid (bendV g l = ((bendN l (max 2 m) : Nat) : Int) ∧ bendE g l = 0) := by rw [HV.out.1, HV.out.2, hj]; exact ⟨rfl, rfl⟩
      clear hj
      go_wp2
      go_loopw [7, 8] (fun n i wr => ∃ k : Nat, 2 ≤ k ∧ k ≤ max 2 m ∧ n = .int .i64 (bendN l k : Nat) ∧ i = .int .i64 k ∧ Ext W2 wr) (fun _ i _ => m - (intOf i).toNat)
      case atStart => exact ⟨2, Nat.le_refl _, by omega, by rw [bendN_two]; rfl, rfl, Ext.refl _⟩
      case round =>
        obtain ⟨k, hk2, hk, rfl, rfl, he⟩ := hrel
        have hbn := bendN_le l k
        by_cases hlt : k < m
        · have hlt' : (k : Int) < (m : Int) := by omega
          obtain ⟨km, hkm⟩ : ∃ km, km + 2 = k := ⟨k - 2, by omega⟩
          have q10 : IntKind.i64.wrap ((k : Int) - 2) = (km : Int) := by rw [IntWalk.i64_in _ (by omega)]; omega
          have i1 : (km : Int) < (m : Int) := by omega
          obtain ⟨b, off, rfl, d1, d2⟩ := HL.out.ext he k (by rw [← HML.out]; exact hlt)
          obtain ⟨b', off', hb', f1, f2⟩ := HL.out.ext he km (by rw [← HML.out]; omega)
          cases hb'
          have HST : Hid (bendN l (k + 1) = bendN l k + (if (pt l km).1 ≠ (pt l k).1 ∧ (pt l km).2 ≠ (pt l k).2 then 1 else 0)) := by
            show _ = _
            conv => lhs; unfold bendN
            rw [show k - 2 = km by omega]
            congr 1
            by_cases h : (pt l km).1 ≠ (pt l k).1 ∧ (pt l km).2 ≠ (pt l k).2
            · rw [if_pos h, if_pos ⟨hk2, h⟩]
            · rw [if_neg h, if_neg (fun x => h x.2)]
          generalize pt l km = y at f1 f2 HST
          generalize pt l k = x at d1 d2 HST
          have q11 : IntKind.i64.wrap ((bendN l k : Nat) + 1 : Int) = ((bendN l k + 1 : Nat) : Int) := by rw [IntWalk.i64_in _ (by omega)]; omega
          have HKM := Lib.hid hkm
          clear hkm
          by_cases r1 : x.1 = y.1
          · have HN : Hid (bendN l (k + 1) = bendN l k) := by show _ = _; rw [HST.out, if_neg (fun h => h.1 r1.symm)]; rfl
            have r2 : (x.1 != y.1) = false := by simp [r1]
            clear r1
            go_wp2
            go_quiet (fail)
            go_wp2
            exact ⟨⟨k + 1, by omega, by omega, by rw [HN.out], by go_num, he.trans ((Ext.refl _).drewN _)⟩, by simp [intOf]; omega⟩
          · have r2 : (x.1 != y.1) = true := by simp [r1]
            by_cases r3 : x.2 = y.2
            · have HN : Hid (bendN l (k + 1) = bendN l k) := by show _ = _; rw [HST.out, if_neg (fun h => h.2 r3.symm)]; rfl
              have r4 : (x.2 != y.2) = false := by simp [r3]
              clear r1 r3
              go_wp2
              go_quiet (fail)
              go_wp2
              exact ⟨⟨k + 1, by omega, by omega, by rw [HN.out], by go_num, he.trans ((Ext.refl _).drewN _)⟩, by simp [intOf]; omega⟩
            · have HN : Hid (bendN l (k + 1) = bendN l k + 1) := by show _ = _; rw [HST.out, if_pos ⟨fun h => r1 h.symm, fun h => r3 h.symm⟩]
              have r4 : (x.2 != y.2) = true := by simp [r3]
              clear r1 r3
              go_wp2
              go_quiet (fail)
              go_wp2
              exact ⟨⟨k + 1, by omega, by omega, by rw [HN.out]; first | rfl | (simp only [q11]; done) | (congr 1; done) | omega, by go_num, he.trans ((Ext.refl _).drewN _)⟩, by simp [intOf]; omega⟩
        · have hlt' : ¬ (k : Int) < (m : Int) := by omega
          have HK : Hid (k = max 2 m) := by show _ = _; omega
          go_wp2
          go_ret2
          rw [HF.out.1, HF.out.2, ← HK.out]
          exact ⟨rfl, E2.trans he⟩
  · have hv : Hid (bendV g l = 0 ∧ bendE g l = listedErr g l) := by show _ ∧ _; unfold bendV bendE; rw [if_pos h0, if_pos h0]; exact ⟨rfl, rfl⟩
    have hb : (listedErr g l != 0) = true := by simp [h0]
    have hb2 : (listedErr g l == 0) = false := by simp [h0]
    clear h0
    go_enter Try.func35, Try.ntmps35
    go_wp2_with fail
    refine (listedR_any g l ga gc _ _ _ HG.out (HC.out.ext E0) HM.out (HL.out.ext E0)).mono ?_
    rintro e W ⟨rfl, hE⟩
    go_wp2
    go_ret2
    rw [hv.out.1, hv.out.2]
    exact ⟨rfl, E0.trans hE⟩
end Go.Proofs.Ytfigooilhnahfaa
/- The parts of a grid, in plain Lean. -/
namespace Go.Proofs.Ytfigooilhnahfaa

def ins (S : List Pt) (a : Pt) : List Pt := if a ∈ S then S else a :: S
def insAll (S l : List Pt) : List Pt := l.foldl ins S
theorem ins_mem (S : List Pt) (a x : Pt) : x ∈ ins S a ↔ x ∈ S ∨ x = a := by
  unfold ins
  split
  · rename_i h
    constructor
    · exact .inl
    · rintro (h1 | rfl)
      · exact h1
      · exact h
  · rw [List.mem_cons]
    constructor
    · rintro (h | h)
      · exact .inr h
      · exact .inl h
    · rintro (h | h)
      · exact .inr h
      · exact .inl h
theorem insAll_mem (l : List Pt) : ∀ (S : List Pt) (x : Pt), x ∈ insAll S l ↔ x ∈ S ∨ x ∈ l := by
  induction l with
  | nil => intro S x; simp [insAll]
  | cons a l ih =>
    intro S x
    show x ∈ insAll (ins S a) l ↔ _
    rw [ih, ins_mem, List.mem_cons]
    constructor
    · rintro ((h | h) | h)
      · exact .inl h
      · exact .inr (.inl h)
      · exact .inr (.inr h)
    · rintro (h | h | h)
      · exact .inl (.inl h)
      · exact .inl (.inr h)
      · exact .inr h
theorem insAll_snoc (S l : List Pt) (a : Pt) : insAll S (l ++ [a]) = ins (insAll S l) a := by
  unfold insAll
  rw [List.foldl_append]
  rfl

def partStep (g : Gr) (s : List Pt × List Int) (p : Pt) : List Pt × List Int :=
  if p ∈ s.1 then s else if blk g p = true then s else (insAll s.1 ((wave g p).map (·.1)), s.2 ++ [((wave g p).length : Int)])
/-- the cells seen and the sizes of the parts, behind the first k cells -/
def partK (g : Gr) : Nat → List Pt × List Int
  | 0 => ([], [])
  | k + 1 => partStep g (partK g k) (cellAt g k)
def partsU (g : Gr) : List Int := (partK g (g.rows.toNat * g.cols.toNat)).2
def partsL (g : Gr) : List Int := if chk g ≠ 0 then [] else (partsU g).mergeSort fun x y => decide (y ≤ x)

theorem wave_len {g : Gr} (hr : Right g) {p : Pt} (hp : inside g p = true) : (wave g p).length ≤ 4096 := by
  rw [← List.length_map (f := (·.1))]
  refine nodup_pts (wave_nodup g p) (fun q hq => ?_)
  obtain ⟨x, hx, rfl⟩ := List.mem_map.1 hq
  exact inG_of hr (wave_inside hp x hx)
theorem cellAt_inside {g : Gr} (hr : Right g) {k : Nat} (h : k < g.rows.toNat * g.cols.toNat) : inside g (cellAt g k) = true := by
  have h1 := hr.r1
  have h2 := hr.c1
  have h3 : 0 < g.cols.toNat := by omega
  have h4 : k / g.cols.toNat < g.rows.toNat := (Nat.div_lt_iff_lt_mul h3).2 h
  have h5 : k % g.cols.toNat < g.cols.toNat := Nat.mod_lt _ h3
  unfold inside cellAt
  generalize k / g.cols.toNat = a at h4 ⊢
  generalize k % g.cols.toNat = b at h5 ⊢
  simp only [Bool.and_eq_true, decide_eq_true_eq]
  omega
theorem partK_len (g : Gr) : ∀ k, (partK g k).2.length ≤ k := by
  intro k
  induction k with
  | zero => simp [partK]
  | succ k ih =>
    unfold partK partStep
    split
    · omega
    · split
      · omega
      · simp; omega
theorem partK_bd {g : Gr} (hr : Right g) : ∀ k, k ≤ g.rows.toNat * g.cols.toNat → ∀ x ∈ (partK g k).2, 0 ≤ x ∧ x ≤ 4096 := by
  intro k
  induction k with
  | zero => intro _ x hx; simp [partK] at hx
  | succ k ih =>
    intro hk x hx
    unfold partK partStep at hx
    split at hx
    · exact ih (by omega) x hx
    · split at hx
      · exact ih (by omega) x hx
      · rcases List.mem_append.1 hx with hx | hx
        · exact ih (by omega) x hx
        · simp at hx
          subst hx
          have := wave_len hr (cellAt_inside hr (show k < _ by omega))
          omega
end Go.Proofs.Ytfigooilhnahfaa
/- The parts: the loop over the wave. -/
namespace Go.Proofs.Ytfigooilhnahfaa
open Go.RowKit Go.Maps
attribute [local go_sem] Oper.semAt_some

/-- a set of places in memory -/
def SeenM (w : World) (mb : Nat) (n : Nat) (S : List Pt) : Prop := ∃ k, k ≤ n ∧ SetAt Try.prog 26 4 evPl w mb k S
theorem SeenM.same {w w' : World} {mb n : Nat} {S : List Pt} (h : SeenM w mb n S) (hb : w'.heap[mb]? = w.heap[mb]?) : SeenM w' mb n S := by
  obtain ⟨k, h1, h2⟩ := h
  exact ⟨k, h1, h2.same hb⟩
theorem SeenM.lt {w : World} {mb n : Nat} {S : List Pt} (h : SeenM w mb n S) : mb < w.heap.size := by
  obtain ⟨k, _, h2⟩ := h
  exact h2.lt

/-- what holds while the wave runs -/
structure PtR (mb sb nb lo n0 : Nat) (S0 : List Pt) (w3 : World) (pre : List (Pt × Nat)) (W : World) : Prop where
  cn : W.cell? ⟨nb, 0, none⟩ = some (.int .i64 pre.length)
  fn : W.frozen? ⟨nb, 0, none⟩ = false
  cm : W.cell? ⟨sb, 0, none⟩ = some (.map (some mb))
  se : SeenM W mb (n0 + pre.length) (insAll S0 (pre.map (·.1)))
  ch : Chg (fun k => k = nb ∨ k = mb) w3 W
  be : Below lo w3 W
theorem PtR.below {mb sb nb lo n0 : Nat} {S0 : List Pt} {w3 : World} {pre : List (Pt × Nat)} {A B : World} (h : PtR mb sb nb lo n0 S0 w3 pre A) (k : Below w3.heap.size A B) (h1 : mb < w3.heap.size) (h2 : sb < w3.heap.size) (h3 : nb < w3.heap.size) (h4 : lo ≤ w3.heap.size) : PtR mb sb nb lo n0 S0 w3 pre B :=
  ⟨(k.cell (p := ⟨nb, 0, none⟩) h3).trans h.cn, (k.frozen (p := ⟨nb, 0, none⟩) h3).trans h.fn, (k.cell (p := ⟨sb, 0, none⟩) h2).trans h.cm, h.se.same (k.block mb h1), ⟨Nat.le_trans h.ch.1 k.size, fun i hi hb => (k.block i hi).trans (h.ch.2 i hi hb)⟩, h.be.trans (k.mono h4)⟩

set_option maxHeartbeats 4000000 in
set_option maxRecDepth 100000 in
theorem parts_range (cas cbd : Code) (hcode : rngOf (Try.f22.body.getD .skip) = [(cas, cbd)]) (g : Gr) (p : Pt) (ga : Option Addr) (gc : Nat) (w3 : World) (pb gb mb sb nb lo n0 : Nat) (S0 : List Pt)
    (hr : Right g) (hp : inside g p = true)
    (p1 : w3.cell? ⟨pb, 0, none⟩ = some (.int .i64 p.1)) (p2 : w3.cell? ⟨pb, 1, none⟩ = some (.int .i64 p.2))
    (g1 : w3.cell? ⟨gb, 0, none⟩ = some (.int .i64 g.rows)) (g2 : w3.cell? ⟨gb, 1, none⟩ = some (.int .i64 g.cols)) (g3 : w3.cell? ⟨gb, 2, none⟩ = some (.slice ga g.bl.length gc))
    (hc : Cells2 w3 ga g.bl) (m1 : ¬ (pb = nb ∨ pb = mb)) (m2 : ¬ (gb = nb ∨ gb = mb)) (m3 : g.bl ≠ [] → ∀ b off, ga = some ⟨b, off, none⟩ → ¬ (b = nb ∨ b = mb))
    (h0 : PtR mb sb nb lo n0 S0 w3 [] w3) (hs1 : sb ≠ nb) (hs2 : sb ≠ mb) (hmn : mb ≠ nb) (hlo : lo ≤ nb) (hlo2 : lo ≤ mb) (hn0 : n0 ≤ 16777216)
    (u0 u1 u2 u3 u4 u5 u7 u8 u9 u11 u12 u13 u14 u15 u16 u17 u18 u19 u20 u21 u22 u23 u24 u25 u26 u27 u28 u29 u30 u31 u32 u33 u34 u35 u36 u37 u38 u39 u40 u42 u43 u44 u45 u46 u47 u48 u49 u50 u51 u52 u53 u54 u55 u56 : Value) (ds : List Deferred) (Q : Exit → Act → World → Prop)
    (hdone : ∀ (D : Nat) (W : World), w3.heap.size ≤ D → D < W.heap.size → PtR mb sb nb lo n0 S0 w3 (wave g p) W → W.heap[D]? = some (.deferred (some [])) →
      Q .normal { tmps := #[u0, u1, u2, u3, u4, u5, .pointer (some ⟨sb, 0, none⟩), u7, u8, u9, .pointer (some ⟨nb, 0, none⟩), u11, u12, u13, u14, u15, u16, u17, u18, u19, u20, u21, u22, u23, u24, u25, u26, u27, u28, u29, u30, u31, u32, u33, u34, u35, u36, u37, u38, u39, u40, .func (.func 78) #[] #[.pointer (some ⟨pb, 0, none⟩), .pointer (some ⟨gb, 0, none⟩)], u42, u43, u44, u45, u46, u47, u48, u49, u50, u51, u52, u53, u54, u55, u56], defers := mark D :: ds } W) :
    (Code.rangeFunc (.tmp 41) #[42, 43] cas cbd).wp Try.prog Q { tmps := #[u0, u1, u2, u3, u4, u5, .pointer (some ⟨sb, 0, none⟩), u7, u8, u9, .pointer (some ⟨nb, 0, none⟩), u11, u12, u13, u14, u15, u16, u17, u18, u19, u20, u21, u22, u23, u24, u25, u26, u27, u28, u29, u30, u31, u32, u33, u34, u35, u36, u37, u38, u39, u40, .func (.func 78) #[] #[.pointer (some ⟨pb, 0, none⟩), .pointer (some ⟨gb, 0, none⟩)], u42, u43, u44, u45, u46, u47, u48, u49, u50, u51, u52, u53, u54, u55, u56], defers := ds } w3 := by
  have HC := Lib.hid hcode
  have HR := Lib.hid hr
  have HP := Lib.hid hp
  have hzm := h0.se.lt
  have hzs : sb < w3.heap.size := cell_lt h0.cm
  have hzn : nb < w3.heap.size := cell_lt h0.cn
  have hlo3 : lo ≤ w3.heap.size := by omega
  refine wp_range (n := 0) (gf := 78) (lb := #[.pointer (some ⟨pb, 0, none⟩), .pointer (some ⟨gb, 0, none⟩)]) rfl (enters_of Try.func78 (by kernel_rfl) rfl)
    (wave1_iter g p ga gc w3 pb gb (fun k => k = nb ∨ k = mb) hr hp p1 p2 g1 g2 g3 hc m1 m2 m3) (fun q => rfl)
    (fun A B h k o hk ho => by rw [Below.block h k hk]; exact ho)
    (PtR mb sb nb lo n0 S0 w3) (fun _ _ _ => False)
    (fun pre A B h k => h.below (k.mono (by omega)) hzm hzs hzn hlo3) (fun _ _ _ _ h _ => h.elim)
    (fun pre A B h k => h.below k.1 hzm hzs hzn hlo3) (fun _ _ _ _ h _ => h.elim)
    h0
    (fun (x : Pt × Nat) a' W => ∃ qb, w3.heap.size + 2 ≤ qb ∧ W.cell? ⟨qb, 0, none⟩ = some (.int .i64 x.1.1) ∧ W.cell? ⟨qb, 1, none⟩ = some (.int .i64 x.1.2) ∧ a' = { tmps := #[u0, u1, u2, u3, u4, u5, .pointer (some ⟨sb, 0, none⟩), u7, u8, u9, .pointer (some ⟨nb, 0, none⟩), .pointer (some ⟨qb, 0, none⟩), u12, u13, u14, u15, u16, u17, u18, u19, u20, u21, u22, u23, u24, u25, u26, u27, u28, u29, u30, u31, u32, u33, u34, u35, u36, u37, u38, u39, u40, .func (.func 78) #[] #[.pointer (some ⟨pb, 0, none⟩), .pointer (some ⟨gb, 0, none⟩)], .agg #[.int .i64 x.1.1, .int .i64 x.1.2], .int .i64 x.2, u44, u45, u46, u47, u48, u49, u50, u51, u52, u53, u54, u55, u56], defers := [] })
    ?hax ?assign ?body (fun pre A B h k => h.below (k.mono (Nat.le_trans (Nat.le_refl _) h.ch.1)) hzm hzs hzn hlo3) ?done (fun _ _ _ _ _ _ _ h _ => h.elim)
  case hax =>
    rintro q a' A B ⟨qb, h1, h2, h3, h4⟩ hk
    exact ⟨qb, h1, hk.cell h2, hk.cell h3, h4⟩
  case assign =>
    simp only [Try.f22, rngOf, Option.getD, List.nil_append, List.append_nil] at hcode
    cases hcode
    intro l pre x W K hm hI hK
    clear HC
    gi_wp2
    exact hK _ _ ((Ext.refl _).alloc _) ⟨W.heap.size, by omega, by go_simp, by go_simp, rfl⟩
  case body =>
    simp only [Try.f22, rngOf, Option.getD, List.nil_append, List.append_nil] at hcode
    cases hcode
    rintro l pre x a' W hpre hm hI ⟨qb, hqb, q1, q2, rfl⟩
    have hxi : inside g x.1 = true := wave_inside hp x (hpre.subset (by simp))
    have hlen : pre.length + 1 ≤ 4096 := by
      have h1 := hpre.length_le
      have h2 := wave_len hr hp
      simp at h1
      omega
    have c1 := hI.cn
    have c2 := hI.fn
    have c3 := hI.cm
    have HI := Lib.hid hI
    obtain ⟨kn, hkn, hS⟩ := hI.se
    obtain ⟨kl, hkl⟩ := keyPl (wf_inG (inG_of HR.out hxi)).1 (wf_inG (inG_of HR.out hxi)).2
    have hnl : kn < maxLen := by unfold maxLen; omega
    have hmx : maxLen = 9223372036854775807 := rfl
    obtain ⟨w6, hup, hS6, hg6⟩ := hS.update (t := 98) lawPl Try.underlying98 Try.underlying4 hnl evPl_inj hkl
    have HS6 := Lib.hid hS6
    have HG6 := Lib.hid hg6
    have HKN := Lib.hid hkn
    have C6 : Chg (fun k => k = nb ∨ k = mb) W w6 := ⟨hg6.size, fun k hk hn => hg6.block k hk (fun e => hn (.inr (by cases e; rfl)))⟩
    have CM : Chg (fun k => k = mb) W w6 := ⟨hg6.size, fun k hk hn => hg6.block k hk (fun e => hn (by cases e; rfl))⟩
    have KM : Kept (fun k => k ≠ mb) 0 W w6 := CM.kept (fun k hk _ => hk)
    have d1 : w6.cell? ⟨nb, 0, none⟩ = some (.int .i64 pre.length) := KM.cell (p := ⟨nb, 0, none⟩) (fun e => hmn e.symm) c1
    have d2 : w6.frozen? ⟨nb, 0, none⟩ = false := (KM.frozen (p := ⟨nb, 0, none⟩) (fun e => hmn e.symm) c1).trans c2
    have d3 : w6.cell? ⟨sb, 0, none⟩ = some (.map (some mb)) := KM.cell (p := ⟨sb, 0, none⟩) hs2 c3
    have q0 : IntKind.i64.wrap ((pre.length : Int) + 1) = (pre.length : Int) + 1 := IntWalk.i64_in _ (by omega)
    have HC6 := Lib.hid C6
    unfold evPl at hup
    clear HC hI hp hr hpre m3 hc h0 p1 p2 g1 g2 g3 hS hS6 hg6 hkn C6 CM KM hkl hnl hmx
    gi_wp2
    have C : Chg (fun k => k = nb ∨ k = mb) W (w6.setCell ⟨nb, 0, none⟩ (.int .i64 ((pre.length : Int) + 1))) := HC6.out.trans (Chg.setCell (B := fun k => k = nb ∨ k = mb) ⟨nb, _, none⟩ _ (.inl rfl))
    have zm : lo ≤ W.heap.size := by have := HI.out.ch.1; omega
    refine ⟨C.kept ?_, ⟨C.1, fun k o hB hk _ => (C.2 k (Array.getElem?_eq_some_iff.1 hk).1 (by omega)).trans hk⟩, ?_⟩
    · rintro k (⟨_, h1, h2⟩ | h) _ (e | e)
      · exact h1 e
      · exact h2 e
      · omega
      · omega
    · exact {
        cn := by
          rw [World.cell?_setCell_same _ _ _ d1, List.length_append, List.length_singleton]
          rfl
        fn := by rw [World.frozen?_setCell]; exact d2
        cm := by
          rw [World.cell?_setCell_other _ _ _ _ (fun h => by simp only [Addr.mk.injEq] at h; exact hs1 h.1.symm)]
          exact d3
        se := by
          have h1 : SeenM w6 mb (n0 + (pre ++ [x]).length) (insAll S0 ((pre ++ [x]).map (·.1))) := by
            refine ⟨kn + 1, ?_, ?_⟩
            · have := HKN.out; simp; omega
            · rw [List.map_append, List.map_singleton, insAll_snoc]
              have h9 := HS6.out
              unfold ins
              split at h9 <;> split <;> first | exact h9 | contradiction
          exact h1.same (Below.heap_setCell _ _ _ _ (fun e => hmn e))
        ch := HI.out.ch.trans C
        be := (HI.out.be.grown HG6.out zm (fun j hj => by cases hj; exact hlo2)).setCell (p := ⟨nb, _, none⟩) hlo _ }
  case done =>
    rintro D W h1 h2 h3 h6
    exact hdone D W h1 h2 h3 h6
end Go.Proofs.Ytfigooilhnahfaa
/-
  DERIVED: THE SHELF's CONTRACTS AT THIS DUMP, IN PLAIN WORDS (tools/lay-plain.mjs out of 'TryShelf.lean', which tools/lay-shelf.mjs wrote): THE SAME DECLARATIONS UNDER THE SAME NAMES: 'import', 'namespace', 'open', 'def', 'theorem' AND NOTHING ELSE: no command of the shelf's: FOR A HAND-IN. Each laying: the table of numbers ('.._ren') and one theorem, a field a fact of the dump's own or the kernel's comparison; each contract: ONE APPLICATION.
-/
namespace Go.Proofs
open Go.Shelf
def Try.lays128_ren : Go.Shelf.Ren := ⟨fun | 128 => 92 | n => n, fun | 51 => 134 | 3 => 3 | 4 => 4 | 46 => 124 | 5 => 5 | 9 => 9 | n => n, fun | n => n⟩
theorem Try.lays128 : Go.Proofs.Lays.n128 Try.prog Try.lays128_ren := {
  mixed := by kernel_rfl
  f128 := Try.func92.trans (congrArg some (by kernel_rfl))
  t3 := Try.underlying3
  a3 := Try.isAgg3
  z3 := Try.sizeOf3
  v3 := Try.zeroValue3
  t4 := Try.underlying4
  a4 := Try.isAgg4
  z4 := Try.sizeOf4
  v4 := Try.zeroValue4
  t5 := Try.underlying5
  a5 := Try.isAgg5
  z5 := Try.sizeOf5
  v5 := Try.zeroValue5
  t9 := Try.underlying9
  a9 := Try.isAgg9
  z9 := Try.sizeOf9
  v9 := Try.zeroValue9
  t46 := Try.underlying124
  a46 := Try.isAgg124
  z46 := Try.sizeOf124
  v46 := Try.zeroValue124
  t51 := Try.underlying134
  a51 := Try.isAgg134
  z51 := Try.sizeOf134
  v51 := Try.zeroValue134 }
/-- bits.Len32: "Len32 returns the minimum number of bits required to represent x; the result is 0 for x == 0.": IT RETURNS 'Lib.bitLen x'; the world is as it was. ('h0', 'h1': x is a uint32.) (LAID: no walk: one application.) -/
theorem Try.bits_Len32 (x : Int) (w : World) (h0 : 0 ≤ x) (h1 : x ≤ 4294967295) :
    Calls Try.prog 92 #[.int .u32 x] w fun e w' => e = .returned (.int .i64 (Lib.bitLen x.toNat)) ∧ w' = w := Any.bits_Len32 Try.lays128 x w h0 h1
def Try.lays125_ren : Go.Shelf.Ren := ⟨fun | 125 => 80 | 128 => 92 | 129 => 93 | n => n, fun | 46 => 124 | 3 => 3 | 51 => 134 | 53 => 136 | 4 => 4 | 5 => 5 | 9 => 9 | n => n, fun | n => n⟩
theorem Try.lays125 : Go.Proofs.Lays.n125 Try.prog Try.lays125_ren := {
  mixed := by kernel_rfl
  f125 := Try.func80.trans (congrArg some (by kernel_rfl))
  f128 := Try.func92.trans (congrArg some (by kernel_rfl))
  f129 := Try.func93.trans (congrArg some (by kernel_rfl))
  t3 := Try.underlying3
  a3 := Try.isAgg3
  z3 := Try.sizeOf3
  v3 := Try.zeroValue3
  t4 := Try.underlying4
  a4 := Try.isAgg4
  z4 := Try.sizeOf4
  v4 := Try.zeroValue4
  t5 := Try.underlying5
  a5 := Try.isAgg5
  z5 := Try.sizeOf5
  v5 := Try.zeroValue5
  t9 := Try.underlying9
  a9 := Try.isAgg9
  z9 := Try.sizeOf9
  v9 := Try.zeroValue9
  t46 := Try.underlying124
  a46 := Try.isAgg124
  z46 := Try.sizeOf124
  v46 := Try.zeroValue124
  t51 := Try.underlying134
  a51 := Try.isAgg134
  z51 := Try.sizeOf134
  v51 := Try.zeroValue134
  t53 := Try.underlying136
  a53 := Try.isAgg136
  z53 := Try.sizeOf136
  v53 := Try.zeroValue136 }
/-- bits.Len: "Len returns the minimum number of bits required to represent x; the result is 0 for x == 0.": IT RETURNS 'Lib.bitLen x'; the world is as it was. (A uint has 64 bits in the model.) ITS CALLEE bits.Len64 IS MET BY ITS OWN CONTRACT OFF THE SHELF (lay that first). (LAID: no walk: one application.) -/
theorem Try.bits_Len (x : Int) (w : World) (h0 : 0 ≤ x) (h1 : x ≤ 18446744073709551615) :
    Calls Try.prog 80 #[.int .u64 x] w fun e w' => e = .returned (.int .i64 (Lib.bitLen x.toNat)) ∧ w' = w := Any.bits_Len Try.lays125 x w h0 h1
def Try.lays215_ren : Go.Shelf.Ren := ⟨fun | 215 => 83 | n => n, fun | 3 => 3 | 4 => 4 | n => n, fun | n => n⟩
theorem Try.lays215 : Go.Proofs.Lays.n215 Try.prog Try.lays215_ren := {
  mixed := by kernel_rfl
  f215 := Try.func83.trans (congrArg some (by kernel_rfl))
  t3 := Try.underlying3
  a3 := Try.isAgg3
  z3 := Try.sizeOf3
  v3 := Try.zeroValue3
  t4 := Try.underlying4
  a4 := Try.isAgg4
  z4 := Try.sizeOf4
  v4 := Try.zeroValue4 }
open Go.RowKit in
/-- cmp.isNaN at int: 'x != x': false. (LAID: no walk: one application.) -/
theorem Try.cmp_isNaN_int (x : Int) (w : World) :
    Calls Try.prog 83 #[.int .i64 x] w fun e w' => e = .returned (.bool false) ∧ w' = w := Any.cmp_isNaN_int Try.lays215 x w
def Try.lays122_ren : Go.Shelf.Ren := ⟨fun | 122 => 76 | 215 => 83 | n => n, fun | 3 => 3 | 4 => 4 | n => n, fun | n => n⟩
theorem Try.lays122 : Go.Proofs.Lays.n122 Try.prog Try.lays122_ren := {
  mixed := by kernel_rfl
  f122 := Try.func76.trans (congrArg some (by kernel_rfl))
  f215 := Try.func83.trans (congrArg some (by kernel_rfl))
  t3 := Try.underlying3
  a3 := Try.isAgg3
  z3 := Try.sizeOf3
  v3 := Try.zeroValue3
  t4 := Try.underlying4
  a4 := Try.isAgg4
  z4 := Try.sizeOf4
  v4 := Try.zeroValue4 }
open Go.RowKit in
/-- cmp.Compare at int: "Compare returns -1 if x is less than y, 0 if x equals y, +1 if x is greater than y.": IT RETURNS 'Lib.compareInt x y'; the world is as it was. (LAID: no walk: one application.) -/
theorem Try.cmp_Compare_int (x y : Int) (w : World) :
    Calls Try.prog 76 #[.int .i64 x, .int .i64 y] w fun e w' => e = .returned (.int .i64 (Lib.compareInt x y)) ∧ w' = w := Any.cmp_Compare_int Try.lays122 x y w
def Try.lays129_ren : Go.Shelf.Ren := ⟨fun | 129 => 93 | n => n, fun | 53 => 136 | 3 => 3 | 4 => 4 | 46 => 124 | 5 => 5 | 9 => 9 | n => n, fun | n => n⟩
theorem Try.lays129 : Go.Proofs.Lays.n129 Try.prog Try.lays129_ren := {
  mixed := by kernel_rfl
  f129 := Try.func93.trans (congrArg some (by kernel_rfl))
  t3 := Try.underlying3
  a3 := Try.isAgg3
  z3 := Try.sizeOf3
  v3 := Try.zeroValue3
  t4 := Try.underlying4
  a4 := Try.isAgg4
  z4 := Try.sizeOf4
  v4 := Try.zeroValue4
  t5 := Try.underlying5
  a5 := Try.isAgg5
  z5 := Try.sizeOf5
  v5 := Try.zeroValue5
  t9 := Try.underlying9
  a9 := Try.isAgg9
  z9 := Try.sizeOf9
  v9 := Try.zeroValue9
  t46 := Try.underlying124
  a46 := Try.isAgg124
  z46 := Try.sizeOf124
  v46 := Try.zeroValue124
  t53 := Try.underlying136
  a53 := Try.isAgg136
  z53 := Try.sizeOf136
  v53 := Try.zeroValue136 }
/-- bits.Len64: "Len64 returns the minimum number of bits required to represent x; the result is 0 for x == 0.": IT RETURNS 'Lib.bitLen x'; the world is as it was. ('h0', 'h1': x is a uint64.) (LAID: no walk: one application.) -/
theorem Try.bits_Len64 (x : Int) (w : World) (h0 : 0 ≤ x) (h1 : x ≤ 18446744073709551615) :
    Calls Try.prog 93 #[.int .u64 x] w fun e w' => e = .returned (.int .i64 (Lib.bitLen x.toNat)) ∧ w' = w := Any.bits_Len64 Try.lays129 x w h0 h1
def Try.lays111_ren : Go.Shelf.Ren := ⟨fun | 111 => 47 | n => n, fun | 28 => 50 | 3 => 3 | 4 => 4 | 0 => 0 | n => n, fun | n => n⟩
theorem Try.lays111 : Go.Proofs.Lays.n111 Try.prog Try.lays111_ren := {
  mixed := by kernel_rfl
  f111 := Try.func47.trans (congrArg some (by kernel_rfl))
  t0 := Try.underlying0
  a0 := Try.isAgg0
  z0 := Try.sizeOf0
  v0 := Try.zeroValue0
  t3 := Try.underlying3
  a3 := Try.isAgg3
  z3 := Try.sizeOf3
  v3 := Try.zeroValue3
  t4 := Try.underlying4
  a4 := Try.isAgg4
  z4 := Try.sizeOf4
  v4 := Try.zeroValue4
  t28 := Try.underlying50
  a28 := Try.isAgg50
  z28 := Try.sizeOf50
  v28 := Try.zeroValue50 }
open Go.RowKit Go.Lib in
/-- slices.Equal at []int: "Equal reports whether two slices are equal: the same length and all elements equal. If the lengths are different, Equal returns false. Otherwise, the elements are compared in increasing index order, and the comparison stops at the first unequal pair. Empty and nil slices are considered equal.": IT RETURNS WHETHER THE TWO LISTS OF ELEMENTS ARE ONE; the world is as it was but for the count of draws (the test 's1[i] != s2[i]' has two reads, whose order the model draws, once a round). 'xs', 'ys': what the cells behind the two addresses hold (the spare capacity too, if you have it); 'xs.take n', 'ys.take m': the elements. THE TWO SLICES MAY OVERLAP. (LAID: no walk: one application.) -/
theorem Try.slices_Equal_int (b1 o1 n c b2 o2 m d : Nat) (xs ys : List Int) (w : World) (hx : n ≤ xs.length) (hy : m ≤ ys.length) (hbig : n ≤ 9223372036854775807) (hbig2 : m ≤ 9223372036854775807) (hc1 : ∀ j, j < xs.length → w.cell? ⟨b1, o1 + j, none⟩ = some (.int .i64 (xs.getD j 0))) (hc2 : ∀ j, j < ys.length → w.cell? ⟨b2, o2 + j, none⟩ = some (.int .i64 (ys.getD j 0))) :
    Calls Try.prog 47 #[.slice (some ⟨b1, o1, none⟩) n c, .slice (some ⟨b2, o2, none⟩) m d] w fun e w' => e = .returned (.bool (xs.take n == ys.take m)) ∧ ∃ q, w' = w.drewN q := Any.slices_Equal_int Try.lays111 b1 o1 n c b2 o2 m d xs ys w hx hy hbig hbig2 hc1 hc2
open Go.RowKit Go.Lib in
/-- The same where the first is of length 0 (a nil one too): no cell is asked for. (LAID: no walk: one application.) -/
theorem Try.slices_Equal_int_empty (a1 a2 : Option Addr) (c m d : Nat) (w : World) (hbig2 : m ≤ 9223372036854775807) :
    Calls Try.prog 47 #[.slice a1 0 c, .slice a2 m d] w fun e w' => e = .returned (.bool (decide (m = 0))) ∧ w' = w := Any.slices_Equal_int_empty Try.lays111 a1 a2 c m d w hbig2
def Try.laysNm237_ren : Go.Shelf.Ren := ⟨fun | 37 => 83 | n => n, fun | 3 => 3 | 4 => 4 | n => n, fun | n => n⟩
theorem Try.laysNm237 : Go.Proofs.Lays2.n37 Try.prog Try.laysNm237_ren := {
  mixed := by kernel_rfl
  f37 := Try.func83.trans (congrArg some (by kernel_rfl))
  t3 := Try.underlying3
  a3 := Try.isAgg3
  z3 := Try.sizeOf3
  v3 := Try.zeroValue3
  t4 := Try.underlying4
  a4 := Try.isAgg4
  z4 := Try.sizeOf4
  v4 := Try.zeroValue4 }
open Go.RowKit Go.Lib in
/-- cmp.isNaN[int]: 'x != x': false. (LAID: no walk: one application.) -/
theorem Try.cmp_isNaN_int2 (x : Int) (w : World) :
    Calls Try.prog 83 #[.int .i64 x] w fun e w' => e = .returned (.bool false) ∧ w' = w := Any.cmp_isNaN_int2 Try.laysNm237 x w
open Go.RowKit Go.Lib in
theorem Try.slices_Equal_int_lens (a1 a2 : Option Addr) (n c m d : Nat) (w : World) (hnm : n ≠ m) :
    Calls Try.prog 47 #[.slice a1 n c, .slice a2 m d] w fun e w' => e = .returned (.bool false) ∧ w' = w := Any.slices_Equal_int_lens Try.lays111 a1 a2 n c m d w hnm
def Try.laysSlF20_f84_ren : Go.Shelf.Ren := ⟨fun | 20 => 84 | n => n, fun | 24 => 3 | 22 => 50 | 3 => 3 | 25 => 79 | 4 => 4 | 0 => 0 | n => n, fun | n => n⟩
theorem Try.laysSlF20_f84 : Go.Proofs.SlLaysF.n20 Try.prog Try.laysSlF20_f84_ren := {
  mixed := by kernel_rfl
  f20 := ⟨Try.f84.name, by decide, Try.func84.trans (congrArg some (by kernel_rfl))⟩
  t0 := Try.underlying0
  a0 := Try.isAgg0
  z0 := Try.sizeOf0
  v0 := Try.zeroValue0
  t3 := Try.underlying3
  a3 := Try.isAgg3
  z3 := Try.sizeOf3
  v3 := Try.zeroValue3
  t4 := Try.underlying4
  a4 := Try.isAgg4
  z4 := Try.sizeOf4
  v4 := Try.zeroValue4
  t22 := Try.underlying50
  a22 := Try.isAgg50
  z22 := Try.sizeOf50
  v22 := Try.zeroValue50
  a24 := Try.isAgg3
  z24 := Try.sizeOf3
  t25 := Try.underlying79
  a25 := Try.isAgg79
  z25 := Try.sizeOf79
  v25 := Try.zeroValue79 }
open Go.RowKit Go.Lib Go.Sort in
theorem Try.insertionSortCmpFunc_one {α : Type} [Inhabited α] (enc : α → Value) (hO : OneCell enc) (cf : α → α → Int) (g : Nat) (cb : Array Value) (blk off cap a b : Nat) (d : Array α) (w : World) (eg : ∀ args w, (callFunc g args).run Try.prog w = .ok (.enter g args) w) (hcmp : CmpReads Try.prog g cb enc cf blk off d.size w) (hH : Holds enc w blk off d) (hab : a ≤ b) (hb : b ≤ d.size) (hsz : d.size < 4611686018427387904) :
    Calls Try.prog 84 #[.slice (some ⟨blk, off, none⟩) d.size cap, .int .i64 a, .int .i64 b, .func (.func g) #[] cb] w fun e w' =>
      e = .returned (.tuple #[]) ∧ ∃ n, w' = (putRow enc w blk off (Sort.insertionSort (ltOf cf) d a b)).drewN n := Any.insertionSortCmpFunc_one Try.laysSlF20_f84 enc hO cf g cb blk off cap a b d w eg hcmp hH hab hb hsz
def Try.laysSlF46_f94_ren : Go.Shelf.Ren := ⟨fun | 46 => 94 | n => n, fun | 24 => 3 | 22 => 50 | 3 => 3 | 25 => 79 | 4 => 4 | 0 => 0 | n => n, fun | n => n⟩
theorem Try.laysSlF46_f94 : Go.Proofs.SlLaysF.n46 Try.prog Try.laysSlF46_f94_ren := {
  mixed := by kernel_rfl
  f46 := ⟨Try.f94.name, by decide, Try.func94.trans (congrArg some (by kernel_rfl))⟩
  t0 := Try.underlying0
  a0 := Try.isAgg0
  z0 := Try.sizeOf0
  v0 := Try.zeroValue0
  t3 := Try.underlying3
  a3 := Try.isAgg3
  z3 := Try.sizeOf3
  v3 := Try.zeroValue3
  t4 := Try.underlying4
  a4 := Try.isAgg4
  z4 := Try.sizeOf4
  v4 := Try.zeroValue4
  t22 := Try.underlying50
  a22 := Try.isAgg50
  z22 := Try.sizeOf50
  v22 := Try.zeroValue50
  a24 := Try.isAgg3
  z24 := Try.sizeOf3
  t25 := Try.underlying79
  a25 := Try.isAgg79
  z25 := Try.sizeOf79
  v25 := Try.zeroValue79 }
open Go.RowKit Go.Lib Go.Sort in
/-- slices.siftDownCmpFunc at elements of one cell: from a world of the sort's to a world of the sort's. (LAID AT THE INSTANCE 'slices.siftDownCmpFunc[int]': no walk: one application.) -/
theorem Try.siftDownCmpFunc {α : Type} [Inhabited α] (enc : α → Value) (cf : α → α → Int) (g : Nat) (cb : Array Value) (blk off cap lo hi first : Nat) (d0 d : Array α) (w0 w : World) (eg : ∀ args w, (callFunc g args).run Try.prog w = .ok (.enter g args) w) (hcmp : CmpLays1 Try.prog g cb enc cf blk off d0.size w0) (R : Row1 enc w0 blk off d0) (hs : d0.size = d.size) (S : SW enc w0 blk off d w) (hlo : lo ≤ hi) (hb : first + hi ≤ d.size) (hsz : d.size < 4611686018427387904) :
    Calls Try.prog 94 #[.slice (some ⟨blk, off, none⟩) d.size cap, .int .i64 lo, .int .i64 hi, .int .i64 first, .func (.func g) #[] cb] w fun e w' =>
      e = .returned (.tuple #[]) ∧ SW enc w0 blk off (siftDown (ltOf cf) hi first lo d) w' := Any.siftDownCmpFunc Try.laysSlF46_f94 enc cf g cb blk off cap lo hi first d0 d w0 w eg hcmp R hs S hlo hb hsz
def Try.laysSlF21_f85_ren : Go.Shelf.Ren := ⟨fun | 21 => 85 | 46 => 94 | n => n, fun | 24 => 3 | 22 => 50 | 3 => 3 | 25 => 79 | 4 => 4 | 0 => 0 | n => n, fun | n => n⟩
theorem Try.laysSlF21_f85 : Go.Proofs.SlLaysF.n21 Try.prog Try.laysSlF21_f85_ren := {
  mixed := by kernel_rfl
  f21 := ⟨Try.f85.name, by decide, Try.func85.trans (congrArg some (by kernel_rfl))⟩
  f46 := ⟨Try.f94.name, by decide, Try.func94.trans (congrArg some (by kernel_rfl))⟩
  t0 := Try.underlying0
  a0 := Try.isAgg0
  z0 := Try.sizeOf0
  v0 := Try.zeroValue0
  t3 := Try.underlying3
  a3 := Try.isAgg3
  z3 := Try.sizeOf3
  v3 := Try.zeroValue3
  t4 := Try.underlying4
  a4 := Try.isAgg4
  z4 := Try.sizeOf4
  v4 := Try.zeroValue4
  t22 := Try.underlying50
  a22 := Try.isAgg50
  z22 := Try.sizeOf50
  v22 := Try.zeroValue50
  a24 := Try.isAgg3
  z24 := Try.sizeOf3
  t25 := Try.underlying79
  a25 := Try.isAgg79
  z25 := Try.sizeOf79
  v25 := Try.zeroValue79 }
open Go.RowKit Go.Lib Go.Sort in
/-- slices.heapSortCmpFunc at elements of one cell. (LAID AT THE INSTANCE 'slices.heapSortCmpFunc[int]': no walk: one application.) -/
theorem Try.heapSortCmpFunc {α : Type} [Inhabited α] (enc : α → Value) (cf : α → α → Int) (g : Nat) (cb : Array Value) (blk off cap a b : Nat) (d0 d : Array α) (w0 w : World) (eg : ∀ args w, (callFunc g args).run Try.prog w = .ok (.enter g args) w) (hcmp : CmpLays1 Try.prog g cb enc cf blk off d0.size w0) (R : Row1 enc w0 blk off d0) (hs : d0.size = d.size) (S : SW enc w0 blk off d w) (hab : a ≤ b) (hb : b ≤ d.size) (hsz : d.size < 4611686018427387904) :
    Calls Try.prog 85 #[.slice (some ⟨blk, off, none⟩) d.size cap, .int .i64 a, .int .i64 b, .func (.func g) #[] cb] w fun e w' =>
      e = .returned (.tuple #[]) ∧ SW enc w0 blk off (heapSort (ltOf cf) d a b) w' := Any.heapSortCmpFunc Try.laysSlF21_f85 enc cf g cb blk off cap a b d0 d w0 w eg hcmp R hs S hab hb hsz
open Go.RowKit Go.Lib Go.Sort in
/-- slices.insertionSortCmpFunc at elements of one cell: from a world of the sort's to a world of the sort's. (LAID AT THE INSTANCE 'slices.insertionSortCmpFunc[int]': no walk: one application.) -/
theorem Try.insertionSortCmpFunc_s {α : Type} [Inhabited α] (enc : α → Value) (cf : α → α → Int) (g : Nat) (cb : Array Value) (blk off cap a b : Nat) (d0 d : Array α) (w0 w : World) (eg : ∀ args w, (callFunc g args).run Try.prog w = .ok (.enter g args) w) (hcmp : CmpLays1 Try.prog g cb enc cf blk off d0.size w0) (R : Row1 enc w0 blk off d0) (hs : d0.size = d.size) (S : SW enc w0 blk off d w) (hab : a ≤ b) (hb : b ≤ d.size) (hsz : d.size < 4611686018427387904) :
    Calls Try.prog 84 #[.slice (some ⟨blk, off, none⟩) d.size cap, .int .i64 a, .int .i64 b, .func (.func g) #[] cb] w fun e w' => e = .returned (.tuple #[]) ∧ SW enc w0 blk off (Sort.insertionSort (ltOf cf) d a b) w' := Any.insertionSortCmpFunc_s Try.laysSlF20_f84 enc cf g cb blk off cap a b d0 d w0 w eg hcmp R hs S hab hb hsz
def Try.laysSlF57_f99_ren : Go.Shelf.Ren := ⟨fun | 57 => 99 | n => n, fun | 24 => 3 | 22 => 50 | 3 => 3 | 70 => 141 | 25 => 79 | 0 => 0 | 4 => 4 | n => n, fun | n => n⟩
theorem Try.laysSlF57_f99 : Go.Proofs.SlLaysF.n57 Try.prog Try.laysSlF57_f99_ren := {
  mixed := by kernel_rfl
  f57 := ⟨Try.f99.name, by decide, Try.func99.trans (congrArg some (by kernel_rfl))⟩
  t0 := Try.underlying0
  a0 := Try.isAgg0
  z0 := Try.sizeOf0
  v0 := Try.zeroValue0
  t3 := Try.underlying3
  a3 := Try.isAgg3
  z3 := Try.sizeOf3
  v3 := Try.zeroValue3
  t4 := Try.underlying4
  a4 := Try.isAgg4
  z4 := Try.sizeOf4
  v4 := Try.zeroValue4
  t22 := Try.underlying50
  a22 := Try.isAgg50
  z22 := Try.sizeOf50
  v22 := Try.zeroValue50
  a24 := Try.isAgg3
  z24 := Try.sizeOf3
  t25 := Try.underlying79
  a25 := Try.isAgg79
  z25 := Try.sizeOf79
  v25 := Try.zeroValue79
  t70 := Try.underlying141
  a70 := Try.isAgg141
  z70 := Try.sizeOf141
  v70 := Try.zeroValue141 }
open Go.RowKit Go.Lib Go.Sort in
/-- slices.order2CmpFunc at elements of one cell. (LAID AT THE INSTANCE 'slices.order2CmpFunc[int]': no walk: one application.) -/
theorem Try.order2CmpFunc {α : Type} [Inhabited α] (enc : α → Value) (cf : α → α → Int) (g : Nat) (cb : Array Value) (blk off cap a b c s : Nat) (d0 d : Array α) (w0 W : World) (eg : ∀ args w, (callFunc g args).run Try.prog w = .ok (.enter g args) w) (hcmp : CmpLays1 Try.prog g cb enc cf blk off d0.size w0) (R : Row1 enc w0 blk off d0) (hs : d0.size = d.size) (C : Cnt1 enc w0 blk off d c s W) (ha : a < d.size) (hb : b < d.size) (hsz : d.size < 4611686018427387904) (hss : s < 4611686018427387904) :
    Calls Try.prog 99 #[.slice (some ⟨blk, off, none⟩) d.size cap, .int .i64 a, .int .i64 b, .pointer (some ⟨c, 0, none⟩), .func (.func g) #[] cb] W fun e w' =>
      e = .returned (.tuple #[.int .i64 (order2 (ltOf cf) d a b s).1, .int .i64 (order2 (ltOf cf) d a b s).2.1]) ∧ Cnt1 enc w0 blk off d c (order2 (ltOf cf) d a b s).2.2 w' := Any.order2CmpFunc Try.laysSlF57_f99 enc cf g cb blk off cap a b c s d0 d w0 W eg hcmp R hs C ha hb hsz hss
def Try.laysSlF50_f98_ren : Go.Shelf.Ren := ⟨fun | 50 => 98 | 57 => 99 | n => n, fun | 24 => 3 | 22 => 50 | 3 => 3 | 70 => 141 | 25 => 79 | 77 => 61 | 0 => 0 | 4 => 4 | n => n, fun | n => n⟩
theorem Try.laysSlF50_f98 : Go.Proofs.SlLaysF.n50 Try.prog Try.laysSlF50_f98_ren := {
  mixed := by kernel_rfl
  f50 := ⟨Try.f98.name, by decide, Try.func98.trans (congrArg some (by kernel_rfl))⟩
  f57 := ⟨Try.f99.name, by decide, Try.func99.trans (congrArg some (by kernel_rfl))⟩
  t0 := Try.underlying0
  a0 := Try.isAgg0
  z0 := Try.sizeOf0
  v0 := Try.zeroValue0
  t3 := Try.underlying3
  a3 := Try.isAgg3
  z3 := Try.sizeOf3
  v3 := Try.zeroValue3
  t4 := Try.underlying4
  a4 := Try.isAgg4
  z4 := Try.sizeOf4
  v4 := Try.zeroValue4
  t22 := Try.underlying50
  a22 := Try.isAgg50
  z22 := Try.sizeOf50
  v22 := Try.zeroValue50
  a24 := Try.isAgg3
  z24 := Try.sizeOf3
  t25 := Try.underlying79
  a25 := Try.isAgg79
  z25 := Try.sizeOf79
  v25 := Try.zeroValue79
  t70 := Try.underlying141
  a70 := Try.isAgg141
  z70 := Try.sizeOf141
  v70 := Try.zeroValue141
  t77 := Try.underlying61
  a77 := Try.isAgg61
  z77 := Try.sizeOf61
  v77 := Try.zeroValue61 }
open Go.RowKit Go.Lib Go.Sort in
/-- slices.medianCmpFunc at elements of one cell. (LAID AT THE INSTANCE 'slices.medianCmpFunc[int]': no walk: one application.) -/
theorem Try.medianCmpFunc {α : Type} [Inhabited α] (enc : α → Value) (cf : α → α → Int) (g : Nat) (cb : Array Value) (blk off cap a b c' c s : Nat) (d0 d : Array α) (w0 W : World) (eg : ∀ args w, (callFunc g args).run Try.prog w = .ok (.enter g args) w) (hcmp : CmpLays1 Try.prog g cb enc cf blk off d0.size w0) (R : Row1 enc w0 blk off d0) (hs : d0.size = d.size) (C : Cnt1 enc w0 blk off d c s W) (ha : a < d.size) (hb : b < d.size) (hc : c' < d.size) (hsz : d.size < 4611686018427387904) (hss : s + 3 < 4611686018427387904) :
    Calls Try.prog 98 #[.slice (some ⟨blk, off, none⟩) d.size cap, .int .i64 a, .int .i64 b, .int .i64 c', .pointer (some ⟨c, 0, none⟩), .func (.func g) #[] cb] W fun e w' =>
      e = .returned (.int .i64 (median (ltOf cf) d a b c' s).1) ∧ Cnt1 enc w0 blk off d c (median (ltOf cf) d a b c' s).2 w' := Any.medianCmpFunc Try.laysSlF50_f98 enc cf g cb blk off cap a b c' c s d0 d w0 W eg hcmp R hs C ha hb hc hsz hss
def Try.laysSlF49_f97_ren : Go.Shelf.Ren := ⟨fun | 49 => 97 | 50 => 98 | 57 => 99 | n => n, fun | 24 => 3 | 22 => 50 | 3 => 3 | 70 => 141 | 25 => 79 | 77 => 61 | 0 => 0 | 4 => 4 | n => n, fun | n => n⟩
theorem Try.laysSlF49_f97 : Go.Proofs.SlLaysF.n49 Try.prog Try.laysSlF49_f97_ren := {
  mixed := by kernel_rfl
  f49 := ⟨Try.f97.name, by decide, Try.func97.trans (congrArg some (by kernel_rfl))⟩
  f50 := ⟨Try.f98.name, by decide, Try.func98.trans (congrArg some (by kernel_rfl))⟩
  f57 := ⟨Try.f99.name, by decide, Try.func99.trans (congrArg some (by kernel_rfl))⟩
  t0 := Try.underlying0
  a0 := Try.isAgg0
  z0 := Try.sizeOf0
  v0 := Try.zeroValue0
  t3 := Try.underlying3
  a3 := Try.isAgg3
  z3 := Try.sizeOf3
  v3 := Try.zeroValue3
  t4 := Try.underlying4
  a4 := Try.isAgg4
  z4 := Try.sizeOf4
  v4 := Try.zeroValue4
  t22 := Try.underlying50
  a22 := Try.isAgg50
  z22 := Try.sizeOf50
  v22 := Try.zeroValue50
  a24 := Try.isAgg3
  z24 := Try.sizeOf3
  t25 := Try.underlying79
  a25 := Try.isAgg79
  z25 := Try.sizeOf79
  v25 := Try.zeroValue79
  t70 := Try.underlying141
  a70 := Try.isAgg141
  z70 := Try.sizeOf141
  v70 := Try.zeroValue141
  t77 := Try.underlying61
  a77 := Try.isAgg61
  z77 := Try.sizeOf61
  v77 := Try.zeroValue61 }
open Go.RowKit Go.Lib Go.Sort in
/-- slices.medianAdjacentCmpFunc at elements of one cell. (LAID AT THE INSTANCE 'slices.medianAdjacentCmpFunc[int]': no walk: one application.) -/
theorem Try.medianAdjacentCmpFunc {α : Type} [Inhabited α] (enc : α → Value) (cf : α → α → Int) (g : Nat) (cb : Array Value) (blk off cap a c s : Nat) (d0 d : Array α) (w0 W : World) (eg : ∀ args w, (callFunc g args).run Try.prog w = .ok (.enter g args) w) (hcmp : CmpLays1 Try.prog g cb enc cf blk off d0.size w0) (R : Row1 enc w0 blk off d0) (hs : d0.size = d.size) (C : Cnt1 enc w0 blk off d c s W) (ha1 : 1 ≤ a) (ha2 : a + 1 < d.size) (hsz : d.size < 4611686018427387904) (hss : s + 3 < 4611686018427387904) :
    Calls Try.prog 97 #[.slice (some ⟨blk, off, none⟩) d.size cap, .int .i64 a, .pointer (some ⟨c, 0, none⟩), .func (.func g) #[] cb] W fun e w' =>
      e = .returned (.int .i64 (medianAdjacent (ltOf cf) d a s).1) ∧ Cnt1 enc w0 blk off d c (medianAdjacent (ltOf cf) d a s).2 w' := Any.medianAdjacentCmpFunc Try.laysSlF49_f97 enc cf g cb blk off cap a c s d0 d w0 W eg hcmp R hs C ha1 ha2 hsz hss
def Try.laysSlF23_f87_ren : Go.Shelf.Ren := ⟨fun | 23 => 87 | 49 => 97 | 50 => 98 | 57 => 99 | n => n, fun | 24 => 3 | 22 => 50 | 3 => 3 | 25 => 79 | 45 => 127 | 0 => 0 | 4 => 4 | 70 => 141 | 77 => 61 | n => n, fun | n => n⟩
theorem Try.laysSlF23_f87 : Go.Proofs.SlLaysF.n23 Try.prog Try.laysSlF23_f87_ren := {
  mixed := by kernel_rfl
  f23 := ⟨Try.f87.name, by decide, Try.func87.trans (congrArg some (by kernel_rfl))⟩
  f49 := ⟨Try.f97.name, by decide, Try.func97.trans (congrArg some (by kernel_rfl))⟩
  f50 := ⟨Try.f98.name, by decide, Try.func98.trans (congrArg some (by kernel_rfl))⟩
  f57 := ⟨Try.f99.name, by decide, Try.func99.trans (congrArg some (by kernel_rfl))⟩
  t0 := Try.underlying0
  a0 := Try.isAgg0
  z0 := Try.sizeOf0
  v0 := Try.zeroValue0
  t3 := Try.underlying3
  a3 := Try.isAgg3
  z3 := Try.sizeOf3
  v3 := Try.zeroValue3
  t4 := Try.underlying4
  a4 := Try.isAgg4
  z4 := Try.sizeOf4
  v4 := Try.zeroValue4
  t22 := Try.underlying50
  a22 := Try.isAgg50
  z22 := Try.sizeOf50
  v22 := Try.zeroValue50
  a24 := Try.isAgg3
  z24 := Try.sizeOf3
  t25 := Try.underlying79
  a25 := Try.isAgg79
  z25 := Try.sizeOf79
  v25 := Try.zeroValue79
  t45 := Try.underlying127
  a45 := Try.isAgg127
  z45 := Try.sizeOf127
  v45 := Try.zeroValue127
  t70 := Try.underlying141
  a70 := Try.isAgg141
  z70 := Try.sizeOf141
  v70 := Try.zeroValue141
  t77 := Try.underlying61
  a77 := Try.isAgg61
  z77 := Try.sizeOf61
  v77 := Try.zeroValue61 }
open Go.RowKit Go.Lib Go.Sort in
/-- slices.choosePivotCmpFunc at elements of one cell: THE LIBRARY's OWN TEXT COMPUTES 'Sort.choosePivot (ltOf cf) d a b'; the row is not turned. (After Derived/Shelf/SlSortFuncK/PivotK.lean, row for row; the counter's world by 'CntK'.) (LAID AT THE INSTANCE 'slices.choosePivotCmpFunc[int]': no walk: one application.) -/
theorem Try.choosePivotCmpFunc {α : Type} [Inhabited α] (enc : α → Value) (cf : α → α → Int) (g : Nat) (cb : Array Value) (blk off cap a b : Nat) (d0 d : Array α) (w0 W : World) (eg : ∀ args w, (callFunc g args).run Try.prog w = .ok (.enter g args) w) (hcmp : CmpLays1 Try.prog g cb enc cf blk off d0.size w0) (R : Row1 enc w0 blk off d0) (hs : d0.size = d.size) (S : SW enc w0 blk off d W) (hab : a < b) (hb : b ≤ d.size) (hsz : d.size < 4611686018427387904) :
    Calls Try.prog 87 #[.slice (some ⟨blk, off, none⟩) d.size cap, .int .i64 a, .int .i64 b, .func (.func g) #[] cb] W fun e w' =>
      e = .returned (.tuple #[.int .i64 (choosePivot (ltOf cf) d a b).1, .int .i64 (hintCode (choosePivot (ltOf cf) d a b).2)]) ∧ SW enc w0 blk off d w' := Any.choosePivotCmpFunc Try.laysSlF23_f87 enc cf g cb blk off cap a b d0 d w0 W eg hcmp R hs S hab hb hsz
def Try.laysSlF24_f88_ren : Go.Shelf.Ren := ⟨fun | 24 => 88 | n => n, fun | 24 => 3 | 22 => 50 | 3 => 3 | 25 => 79 | 4 => 4 | 0 => 0 | n => n, fun | n => n⟩
theorem Try.laysSlF24_f88 : Go.Proofs.SlLaysF.n24 Try.prog Try.laysSlF24_f88_ren := {
  mixed := by kernel_rfl
  f24 := ⟨Try.f88.name, by decide, Try.func88.trans (congrArg some (by kernel_rfl))⟩
  t0 := Try.underlying0
  a0 := Try.isAgg0
  z0 := Try.sizeOf0
  v0 := Try.zeroValue0
  t3 := Try.underlying3
  a3 := Try.isAgg3
  z3 := Try.sizeOf3
  v3 := Try.zeroValue3
  t4 := Try.underlying4
  a4 := Try.isAgg4
  z4 := Try.sizeOf4
  v4 := Try.zeroValue4
  t22 := Try.underlying50
  a22 := Try.isAgg50
  z22 := Try.sizeOf50
  v22 := Try.zeroValue50
  a24 := Try.isAgg3
  z24 := Try.sizeOf3
  t25 := Try.underlying79
  a25 := Try.isAgg79
  z25 := Try.sizeOf79
  v25 := Try.zeroValue79 }
open Go.RowKit Go.Lib Go.Sort in
/-- slices.reverseRangeCmpFunc at elements of one cell: it exchanges and does not compare. (LAID AT THE INSTANCE 'slices.reverseRangeCmpFunc[int]': no walk: one application.) -/
theorem Try.reverseRangeCmpFunc {α : Type} [Inhabited α] (enc : α → Value) (g : Nat) (cb : Array Value) (blk off cap a b : Nat) (d0 d : Array α) (w0 w : World) (R : Row1 enc w0 blk off d0) (hs : d0.size = d.size) (S : SW enc w0 blk off d w) (hab : a ≤ b) (hb : b ≤ d.size) (hsz : d.size < 4611686018427387904) :
    Calls Try.prog 88 #[.slice (some ⟨blk, off, none⟩) d.size cap, .int .i64 a, .int .i64 b, .func (.func g) #[] cb] w fun e w' => e = .returned (.tuple #[]) ∧ SW enc w0 blk off (reverseRange d a b) w' := Any.reverseRangeCmpFunc Try.laysSlF24_f88 enc g cb blk off cap a b d0 d w0 w R hs S hab hb hsz
def Try.laysSlF25_f89_ren : Go.Shelf.Ren := ⟨fun | 25 => 89 | n => n, fun | 24 => 3 | 22 => 50 | 3 => 3 | 25 => 79 | 4 => 4 | 0 => 0 | n => n, fun | n => n⟩
theorem Try.laysSlF25_f89 : Go.Proofs.SlLaysF.n25 Try.prog Try.laysSlF25_f89_ren := {
  mixed := by kernel_rfl
  f25 := ⟨Try.f89.name, by decide, Try.func89.trans (congrArg some (by kernel_rfl))⟩
  t0 := Try.underlying0
  a0 := Try.isAgg0
  z0 := Try.sizeOf0
  v0 := Try.zeroValue0
  t3 := Try.underlying3
  a3 := Try.isAgg3
  z3 := Try.sizeOf3
  v3 := Try.zeroValue3
  t4 := Try.underlying4
  a4 := Try.isAgg4
  z4 := Try.sizeOf4
  v4 := Try.zeroValue4
  t22 := Try.underlying50
  a22 := Try.isAgg50
  z22 := Try.sizeOf50
  v22 := Try.zeroValue50
  a24 := Try.isAgg3
  z24 := Try.sizeOf3
  t25 := Try.underlying79
  a25 := Try.isAgg79
  z25 := Try.sizeOf79
  v25 := Try.zeroValue79 }
open Go.RowKit Go.Lib Go.Sort in
/-- slices.partialInsertionSortCmpFunc at elements of one cell. (LAID AT THE INSTANCE 'slices.partialInsertionSortCmpFunc[int]': no walk: one application.) -/
theorem Try.partialInsertionSortCmpFunc {α : Type} [Inhabited α] (enc : α → Value) (cf : α → α → Int) (g : Nat) (cb : Array Value) (blk off cap a b : Nat) (d0 d : Array α) (w0 w : World) (eg : ∀ args w, (callFunc g args).run Try.prog w = .ok (.enter g args) w) (hcmp : CmpLays1 Try.prog g cb enc cf blk off d0.size w0) (R : Row1 enc w0 blk off d0) (hs : d0.size = d.size) (S : SW enc w0 blk off d w) (hab : a < b) (hb : b ≤ d.size) (hsz : d.size < 4611686018427387904) :
    Calls Try.prog 89 #[.slice (some ⟨blk, off, none⟩) d.size cap, .int .i64 a, .int .i64 b, .func (.func g) #[] cb] w fun e w' =>
      e = .returned (.bool (Sort.partialInsertionSort (ltOf cf) d a b).2) ∧ SW enc w0 blk off (Sort.partialInsertionSort (ltOf cf) d a b).1 w' := Any.partialInsertionSortCmpFunc Try.laysSlF25_f89 enc cf g cb blk off cap a b d0 d w0 w eg hcmp R hs S hab hb hsz
def Try.laysSlF26_f90_ren : Go.Shelf.Ren := ⟨fun | 26 => 90 | n => n, fun | 24 => 3 | 22 => 50 | 3 => 3 | 25 => 79 | 0 => 0 | 4 => 4 | n => n, fun | n => n⟩
theorem Try.laysSlF26_f90 : Go.Proofs.SlLaysF.n26 Try.prog Try.laysSlF26_f90_ren := {
  mixed := by kernel_rfl
  f26 := ⟨Try.f90.name, by decide, Try.func90.trans (congrArg some (by kernel_rfl))⟩
  t0 := Try.underlying0
  a0 := Try.isAgg0
  z0 := Try.sizeOf0
  v0 := Try.zeroValue0
  t3 := Try.underlying3
  a3 := Try.isAgg3
  z3 := Try.sizeOf3
  v3 := Try.zeroValue3
  t4 := Try.underlying4
  a4 := Try.isAgg4
  z4 := Try.sizeOf4
  v4 := Try.zeroValue4
  t22 := Try.underlying50
  a22 := Try.isAgg50
  z22 := Try.sizeOf50
  v22 := Try.zeroValue50
  a24 := Try.isAgg3
  z24 := Try.sizeOf3
  t25 := Try.underlying79
  a25 := Try.isAgg79
  z25 := Try.sizeOf79
  v25 := Try.zeroValue79 }
open Go.RowKit Go.Lib Go.Sort in
/-- slices.partitionEqualCmpFunc at elements of one cell. (After Derived/Shelf/SlSortFuncK/PartitionK.lean, row for row.) (LAID AT THE INSTANCE 'slices.partitionEqualCmpFunc[int]': no walk: one application.) -/
theorem Try.partitionEqualCmpFunc {α : Type} [Inhabited α] (enc : α → Value) (cf : α → α → Int) (g : Nat) (cb : Array Value) (blk off cap a b pivot : Nat) (d0 d : Array α) (w0 w : World) (eg : ∀ args w, (callFunc g args).run Try.prog w = .ok (.enter g args) w) (hcmp : CmpLays1 Try.prog g cb enc cf blk off d0.size w0) (R : Row1 enc w0 blk off d0) (hs : d0.size = d.size) (S : SW enc w0 blk off d w) (hap : a ≤ pivot) (hpb : pivot < b) (hb : b ≤ d.size) (hsz : d.size < 4611686018427387904) :
    Calls Try.prog 90 #[.slice (some ⟨blk, off, none⟩) d.size cap, .int .i64 a, .int .i64 b, .int .i64 pivot, .func (.func g) #[] cb] w fun e w' =>
      e = .returned (.int .i64 (Sort.partitionEqual (ltOf cf) d a b pivot).1) ∧ SW enc w0 blk off (Sort.partitionEqual (ltOf cf) d a b pivot).2 w' := Any.partitionEqualCmpFunc Try.laysSlF26_f90 enc cf g cb blk off cap a b pivot d0 d w0 w eg hcmp R hs S hap hpb hb hsz
def Try.laysSlF27_f91_ren : Go.Shelf.Ren := ⟨fun | 27 => 91 | n => n, fun | 24 => 3 | 22 => 50 | 3 => 3 | 25 => 79 | 4 => 4 | 0 => 0 | n => n, fun | n => n⟩
theorem Try.laysSlF27_f91 : Go.Proofs.SlLaysF.n27 Try.prog Try.laysSlF27_f91_ren := {
  mixed := by kernel_rfl
  f27 := ⟨Try.f91.name, by decide, Try.func91.trans (congrArg some (by kernel_rfl))⟩
  t0 := Try.underlying0
  a0 := Try.isAgg0
  z0 := Try.sizeOf0
  v0 := Try.zeroValue0
  t3 := Try.underlying3
  a3 := Try.isAgg3
  z3 := Try.sizeOf3
  v3 := Try.zeroValue3
  t4 := Try.underlying4
  a4 := Try.isAgg4
  z4 := Try.sizeOf4
  v4 := Try.zeroValue4
  t22 := Try.underlying50
  a22 := Try.isAgg50
  z22 := Try.sizeOf50
  v22 := Try.zeroValue50
  a24 := Try.isAgg3
  z24 := Try.sizeOf3
  t25 := Try.underlying79
  a25 := Try.isAgg79
  z25 := Try.sizeOf79
  v25 := Try.zeroValue79 }
open Go.RowKit Go.Lib Go.Sort in
/-- slices.partitionCmpFunc at elements of one cell. (After Derived/Shelf/SlSortFuncK/PartitionK.lean, row for row.) (LAID AT THE INSTANCE 'slices.partitionCmpFunc[int]': no walk: one application.) -/
theorem Try.partitionCmpFunc {α : Type} [Inhabited α] (enc : α → Value) (cf : α → α → Int) (g : Nat) (cb : Array Value) (blk off cap a b pivot : Nat) (d0 d : Array α) (w0 w : World) (eg : ∀ args w, (callFunc g args).run Try.prog w = .ok (.enter g args) w) (hcmp : CmpLays1 Try.prog g cb enc cf blk off d0.size w0) (R : Row1 enc w0 blk off d0) (hs : d0.size = d.size) (S : SW enc w0 blk off d w) (hap : a ≤ pivot) (hpb : pivot < b) (hb : b ≤ d.size) (hsz : d.size < 4611686018427387904) :
    Calls Try.prog 91 #[.slice (some ⟨blk, off, none⟩) d.size cap, .int .i64 a, .int .i64 b, .int .i64 pivot, .func (.func g) #[] cb] w fun e w' =>
      e = .returned (.tuple #[.int .i64 (Sort.partition (ltOf cf) d a b pivot).1, .bool (Sort.partition (ltOf cf) d a b pivot).2.1]) ∧ SW enc w0 blk off (Sort.partition (ltOf cf) d a b pivot).2.2 w' := Any.partitionCmpFunc Try.laysSlF27_f91 enc cf g cb blk off cap a b pivot d0 d w0 w eg hcmp R hs S hap hpb hb hsz
def Try.laysSlF14_f79_ren : Go.Shelf.Ren := ⟨fun | 14 => 79 | 20 => 84 | 21 => 85 | 22 => 86 | 23 => 87 | 24 => 88 | 25 => 89 | 26 => 90 | 27 => 91 | 46 => 94 | 47 => 95 | 48 => 96 | 49 => 97 | 50 => 98 | 15 => 80 | 57 => 99 | 28 => 92 | 29 => 93 | n => n, fun | 24 => 3 | 22 => 50 | 3 => 3 | 25 => 79 | 4 => 4 | 0 => 0 | 46 => 128 | 45 => 127 | 50 => 117 | 66 => 137 | 39 => 124 | 55 => 136 | 70 => 141 | 76 => 143 | 77 => 61 | 53 => 134 | 5 => 5 | 9 => 9 | n => n, fun | n => n⟩
theorem Try.laysSlF14_f79 : Go.Proofs.SlLaysF.n14 Try.prog Try.laysSlF14_f79_ren := {
  mixed := by kernel_rfl
  f14 := ⟨Try.f79.name, by decide, Try.func79.trans (congrArg some (by kernel_rfl))⟩
  f15 := Try.func80.trans (congrArg some (by kernel_rfl))
  f20 := ⟨Try.f84.name, by decide, Try.func84.trans (congrArg some (by kernel_rfl))⟩
  f21 := ⟨Try.f85.name, by decide, Try.func85.trans (congrArg some (by kernel_rfl))⟩
  f22 := ⟨Try.f86.name, by decide, Try.func86.trans (congrArg some (by kernel_rfl))⟩
  f23 := ⟨Try.f87.name, by decide, Try.func87.trans (congrArg some (by kernel_rfl))⟩
  f24 := ⟨Try.f88.name, by decide, Try.func88.trans (congrArg some (by kernel_rfl))⟩
  f25 := ⟨Try.f89.name, by decide, Try.func89.trans (congrArg some (by kernel_rfl))⟩
  f26 := ⟨Try.f90.name, by decide, Try.func90.trans (congrArg some (by kernel_rfl))⟩
  f27 := ⟨Try.f91.name, by decide, Try.func91.trans (congrArg some (by kernel_rfl))⟩
  f28 := Try.func92.trans (congrArg some (by kernel_rfl))
  f29 := Try.func93.trans (congrArg some (by kernel_rfl))
  f46 := ⟨Try.f94.name, by decide, Try.func94.trans (congrArg some (by kernel_rfl))⟩
  f47 := Try.func95.trans (congrArg some (by kernel_rfl))
  f48 := Try.func96.trans (congrArg some (by kernel_rfl))
  f49 := ⟨Try.f97.name, by decide, Try.func97.trans (congrArg some (by kernel_rfl))⟩
  f50 := ⟨Try.f98.name, by decide, Try.func98.trans (congrArg some (by kernel_rfl))⟩
  f57 := ⟨Try.f99.name, by decide, Try.func99.trans (congrArg some (by kernel_rfl))⟩
  t0 := Try.underlying0
  a0 := Try.isAgg0
  z0 := Try.sizeOf0
  v0 := Try.zeroValue0
  t3 := Try.underlying3
  a3 := Try.isAgg3
  z3 := Try.sizeOf3
  v3 := Try.zeroValue3
  t4 := Try.underlying4
  a4 := Try.isAgg4
  z4 := Try.sizeOf4
  v4 := Try.zeroValue4
  t5 := Try.underlying5
  a5 := Try.isAgg5
  z5 := Try.sizeOf5
  v5 := Try.zeroValue5
  t9 := Try.underlying9
  a9 := Try.isAgg9
  z9 := Try.sizeOf9
  v9 := Try.zeroValue9
  t22 := Try.underlying50
  a22 := Try.isAgg50
  z22 := Try.sizeOf50
  v22 := Try.zeroValue50
  a24 := Try.isAgg3
  z24 := Try.sizeOf3
  t25 := Try.underlying79
  a25 := Try.isAgg79
  z25 := Try.sizeOf79
  v25 := Try.zeroValue79
  t39 := Try.underlying124
  a39 := Try.isAgg124
  z39 := Try.sizeOf124
  v39 := Try.zeroValue124
  t45 := Try.underlying127
  a45 := Try.isAgg127
  z45 := Try.sizeOf127
  v45 := Try.zeroValue127
  t46 := Try.underlying128
  a46 := Try.isAgg128
  z46 := Try.sizeOf128
  v46 := Try.zeroValue128
  t50 := Try.underlying117
  a50 := Try.isAgg117
  z50 := Try.sizeOf117
  v50 := Try.zeroValue117
  t53 := Try.underlying134
  a53 := Try.isAgg134
  z53 := Try.sizeOf134
  v53 := Try.zeroValue134
  t55 := Try.underlying136
  a55 := Try.isAgg136
  z55 := Try.sizeOf136
  v55 := Try.zeroValue136
  t66 := Try.underlying137
  a66 := Try.isAgg137
  z66 := Try.sizeOf137
  v66 := Try.zeroValue137
  t70 := Try.underlying141
  a70 := Try.isAgg141
  z70 := Try.sizeOf141
  v70 := Try.zeroValue141
  t76 := Try.underlying143
  a76 := Try.isAgg143
  z76 := Try.sizeOf143
  v76 := Try.zeroValue143
  t77 := Try.underlying61
  a77 := Try.isAgg61
  z77 := Try.sizeOf61
  v77 := Try.zeroValue61 }
open Go.RowKit Go.Lib Go.Sort in
/-- slices.pdqsortCmpFunc at elements of one cell, WHOLE. (After Derived/Shelf/SlSortFuncK/PdqK.lean, row for row: the slots and the regions' numbers are this body's.) (LAID AT THE INSTANCE 'slices.pdqsortCmpFunc[int]': no walk: one application.) -/
theorem Try.pdqsortCmpFunc_all {α : Type} [Inhabited α] (enc : α → Value) (cf : α → α → Int) (g : Nat) (cb : Array Value) (hO : SWO (ltOf cf)) (blk off cap : Nat) (d0 : Array α) (w0 : World) (eg : ∀ args w, (callFunc g args).run Try.prog w = .ok (.enter g args) w) (hcmp : CmpLays1 Try.prog g cb enc cf blk off d0.size w0) (R : Row1 enc w0 blk off d0) :
    ∀ (N a b limit : Nat) (d : Array α) (w : World), b - a < N → d0.size = d.size → SW enc w0 blk off d w → a ≤ b → b ≤ d.size → d.size < 4611686018427387904 → limit < 4611686018427387904 → Below (ltOf cf) a b d →
    Calls Try.prog 79 #[.slice (some ⟨blk, off, none⟩) d.size cap, .int .i64 a, .int .i64 b, .int .i64 limit, .func (.func g) #[] cb] w fun e w' => e = .returned (.tuple #[]) ∧ SW enc w0 blk off (pdq (ltOf cf) d a b limit true true) w' := Any.pdqsortCmpFunc_all Try.laysSlF14_f79 enc cf g cb hO blk off cap d0 w0 eg hcmp R
def Try.laysSlF6_f62_ren : Go.Shelf.Ren := ⟨fun | 6 => 62 | 15 => 80 | 14 => 79 | 28 => 92 | 29 => 93 | 20 => 84 | 21 => 85 | 22 => 86 | 23 => 87 | 24 => 88 | 25 => 89 | 26 => 90 | 27 => 91 | 46 => 94 | 47 => 95 | 48 => 96 | 49 => 97 | 50 => 98 | 57 => 99 | n => n, fun | 22 => 50 | 24 => 3 | 25 => 79 | 3 => 3 | 39 => 124 | 0 => 0 | 53 => 134 | 55 => 136 | 4 => 4 | 46 => 128 | 45 => 127 | 50 => 117 | 5 => 5 | 9 => 9 | 66 => 137 | 70 => 141 | 76 => 143 | 77 => 61 | n => n, fun | n => n⟩
theorem Try.laysSlF6_f62 : Go.Proofs.SlLaysF.n6 Try.prog Try.laysSlF6_f62_ren := {
  mixed := by kernel_rfl
  f6 := ⟨Try.f62.name, by decide, Try.func62.trans (congrArg some (by kernel_rfl))⟩
  f14 := ⟨Try.f79.name, by decide, Try.func79.trans (congrArg some (by kernel_rfl))⟩
  f15 := Try.func80.trans (congrArg some (by kernel_rfl))
  f20 := ⟨Try.f84.name, by decide, Try.func84.trans (congrArg some (by kernel_rfl))⟩
  f21 := ⟨Try.f85.name, by decide, Try.func85.trans (congrArg some (by kernel_rfl))⟩
  f22 := ⟨Try.f86.name, by decide, Try.func86.trans (congrArg some (by kernel_rfl))⟩
  f23 := ⟨Try.f87.name, by decide, Try.func87.trans (congrArg some (by kernel_rfl))⟩
  f24 := ⟨Try.f88.name, by decide, Try.func88.trans (congrArg some (by kernel_rfl))⟩
  f25 := ⟨Try.f89.name, by decide, Try.func89.trans (congrArg some (by kernel_rfl))⟩
  f26 := ⟨Try.f90.name, by decide, Try.func90.trans (congrArg some (by kernel_rfl))⟩
  f27 := ⟨Try.f91.name, by decide, Try.func91.trans (congrArg some (by kernel_rfl))⟩
  f28 := Try.func92.trans (congrArg some (by kernel_rfl))
  f29 := Try.func93.trans (congrArg some (by kernel_rfl))
  f46 := ⟨Try.f94.name, by decide, Try.func94.trans (congrArg some (by kernel_rfl))⟩
  f47 := Try.func95.trans (congrArg some (by kernel_rfl))
  f48 := Try.func96.trans (congrArg some (by kernel_rfl))
  f49 := ⟨Try.f97.name, by decide, Try.func97.trans (congrArg some (by kernel_rfl))⟩
  f50 := ⟨Try.f98.name, by decide, Try.func98.trans (congrArg some (by kernel_rfl))⟩
  f57 := ⟨Try.f99.name, by decide, Try.func99.trans (congrArg some (by kernel_rfl))⟩
  t0 := Try.underlying0
  a0 := Try.isAgg0
  z0 := Try.sizeOf0
  v0 := Try.zeroValue0
  t3 := Try.underlying3
  a3 := Try.isAgg3
  z3 := Try.sizeOf3
  v3 := Try.zeroValue3
  t4 := Try.underlying4
  a4 := Try.isAgg4
  z4 := Try.sizeOf4
  v4 := Try.zeroValue4
  t5 := Try.underlying5
  a5 := Try.isAgg5
  z5 := Try.sizeOf5
  v5 := Try.zeroValue5
  t9 := Try.underlying9
  a9 := Try.isAgg9
  z9 := Try.sizeOf9
  v9 := Try.zeroValue9
  t22 := Try.underlying50
  a22 := Try.isAgg50
  z22 := Try.sizeOf50
  v22 := Try.zeroValue50
  a24 := Try.isAgg3
  z24 := Try.sizeOf3
  t25 := Try.underlying79
  a25 := Try.isAgg79
  z25 := Try.sizeOf79
  v25 := Try.zeroValue79
  t39 := Try.underlying124
  a39 := Try.isAgg124
  z39 := Try.sizeOf124
  v39 := Try.zeroValue124
  t45 := Try.underlying127
  a45 := Try.isAgg127
  z45 := Try.sizeOf127
  v45 := Try.zeroValue127
  t46 := Try.underlying128
  a46 := Try.isAgg128
  z46 := Try.sizeOf128
  v46 := Try.zeroValue128
  t50 := Try.underlying117
  a50 := Try.isAgg117
  z50 := Try.sizeOf117
  v50 := Try.zeroValue117
  t53 := Try.underlying134
  a53 := Try.isAgg134
  z53 := Try.sizeOf134
  v53 := Try.zeroValue134
  t55 := Try.underlying136
  a55 := Try.isAgg136
  z55 := Try.sizeOf136
  v55 := Try.zeroValue136
  t66 := Try.underlying137
  a66 := Try.isAgg137
  z66 := Try.sizeOf137
  v66 := Try.zeroValue137
  t70 := Try.underlying141
  a70 := Try.isAgg141
  z70 := Try.sizeOf141
  v70 := Try.zeroValue141
  t76 := Try.underlying143
  a76 := Try.isAgg143
  z76 := Try.sizeOf143
  v76 := Try.zeroValue143
  t77 := Try.underlying61
  a77 := Try.isAgg61
  z77 := Try.sizeOf61
  v77 := Try.zeroValue61 }
open Go.RowKit Go.Lib Go.Sort in
/-- **slices.SortFunc: WHAT THE ROW HOLDS, TO THE ELEMENT.** (LAID AT THE INSTANCE 'slices.SortFunc[[]int,int]': no walk: one application.) -/
theorem Try.slices_SortFunc_eq {α : Type} [Inhabited α] (enc : α → Value) (h1 : OneCell enc) (cf : α → α → Int) (hO : SWO (ltOf cf)) (g : Nat) (cb : Array Value) (blk off cap : Nat) (d : Array α) (w : World) (eg : ∀ args w, (callFunc g args).run Try.prog w = .ok (.enter g args) w) (hcmp : CmpLays1 Try.prog g cb enc cf blk off d.size w) (hH : Holds enc w blk off d) (hblk : blk < w.heap.size) (hsz : d.size < 4611686018427387904) :
    Calls Try.prog 62 #[.slice (some ⟨blk, off, none⟩) d.size cap, .func (.func g) #[] cb] w fun e w' =>
      e = .returned (.tuple #[]) ∧ ∃ n os, w' = sortWorld enc w blk off n (pdq (ltOf cf) d 0 d.size (Lib.bitLen d.size) true true) os := Any.slices_SortFunc_eq Try.laysSlF6_f62 enc h1 cf hO g cb blk off cap d w eg hcmp hH hblk hsz
open Go.RowKit Go.Lib Go.Sort in
/-- **slices.SortFunc, IN THE DOCUMENTATION's OWN TERMS: A PERMUTATION OF WHAT THE ROW HELD, SORTED BY 'cmp(a, b) < 0'.** Which of two equals comes first is left open ("The sort is not guaranteed to be stable"). (LAID AT THE INSTANCE 'slices.SortFunc[[]int,int]': no walk: one application.) -/
theorem Try.slices_SortFunc {α : Type} [Inhabited α] (enc : α → Value) (h1 : OneCell enc) (cf : α → α → Int) (hO : SWO (ltOf cf)) (g : Nat) (cb : Array Value) (blk off cap : Nat) (d : Array α) (w : World) (eg : ∀ args w, (callFunc g args).run Try.prog w = .ok (.enter g args) w) (hcmp : CmpLays1 Try.prog g cb enc cf blk off d.size w) (hH : Holds enc w blk off d) (hblk : blk < w.heap.size) (hsz : d.size < 4611686018427387904) :
    Calls Try.prog 62 #[.slice (some ⟨blk, off, none⟩) d.size cap, .func (.func g) #[] cb] w fun e w' =>
      e = .returned (.tuple #[]) ∧ ∃ d' n os, PermIn 0 d.size d d' ∧ SortedIn (ltOf cf) 0 d.size d' ∧ w' = sortWorld enc w blk off n d' os := Any.slices_SortFunc Try.laysSlF6_f62 enc h1 cf hO g cb blk off cap d w eg hcmp hH hblk hsz
def Try.laysSlF020_f84_ren : Go.Shelf.Ren := ⟨fun | 20 => 84 | n => n, fun | 24 => 3 | 22 => 50 | 3 => 3 | 25 => 79 | 4 => 4 | 0 => 0 | n => n, fun | n => n⟩
theorem Try.laysSlF020_f84 : Go.Proofs.SlLaysF0.n20 Try.prog Try.laysSlF020_f84_ren := {
  mixed := by kernel_rfl
  f20 := ⟨Try.f84.name, by decide, Try.func84.trans (congrArg some (by kernel_rfl))⟩
  t0 := Try.underlying0
  a0 := Try.isAgg0
  z0 := Try.sizeOf0
  v0 := Try.zeroValue0
  t3 := Try.underlying3
  a3 := Try.isAgg3
  z3 := Try.sizeOf3
  v3 := Try.zeroValue3
  t4 := Try.underlying4
  a4 := Try.isAgg4
  z4 := Try.sizeOf4
  v4 := Try.zeroValue4
  t22 := Try.underlying50
  a22 := Try.isAgg50
  z22 := Try.sizeOf50
  v22 := Try.zeroValue50
  t25 := Try.underlying79
  a25 := Try.isAgg79
  z25 := Try.sizeOf79
  v25 := Try.zeroValue79 }
open Go.RowKit Go.Lib Go.Sort in
theorem Try.insertionSortCmpFunc_none {α : Type} [Inhabited α] (p : Option Addr) (cap : Nat) (fv : Value) (w : World) :
    Calls Try.prog 84 #[.slice p 0 cap, .int .i64 0, .int .i64 0, fv] w fun e w' => e = .returned (.tuple #[]) ∧ w' = w := AnyF.insertionSortCmpFunc_none Try.laysSlF020_f84 p cap fv w
def Try.laysSlF014_f79_ren : Go.Shelf.Ren := ⟨fun | 14 => 79 | 20 => 84 | 21 => 85 | 22 => 86 | 23 => 87 | 24 => 88 | 25 => 89 | 26 => 90 | 27 => 91 | 46 => 94 | 47 => 95 | 48 => 96 | 49 => 97 | 50 => 98 | 15 => 80 | 57 => 99 | 28 => 92 | 29 => 93 | n => n, fun | 24 => 3 | 22 => 50 | 3 => 3 | 25 => 79 | 4 => 4 | 0 => 0 | 46 => 128 | 45 => 127 | 50 => 117 | 66 => 137 | 39 => 124 | 55 => 136 | 70 => 141 | 76 => 143 | 77 => 61 | 53 => 134 | 5 => 5 | 9 => 9 | n => n, fun | n => n⟩
theorem Try.laysSlF014_f79 : Go.Proofs.SlLaysF0.n14 Try.prog Try.laysSlF014_f79_ren := {
  mixed := by kernel_rfl
  f14 := ⟨Try.f79.name, by decide, Try.func79.trans (congrArg some (by kernel_rfl))⟩
  f15 := Try.func80.trans (congrArg some (by kernel_rfl))
  f20 := ⟨Try.f84.name, by decide, Try.func84.trans (congrArg some (by kernel_rfl))⟩
  f21 := ⟨Try.f85.name, by decide, Try.func85.trans (congrArg some (by kernel_rfl))⟩
  f22 := ⟨Try.f86.name, by decide, Try.func86.trans (congrArg some (by kernel_rfl))⟩
  f23 := ⟨Try.f87.name, by decide, Try.func87.trans (congrArg some (by kernel_rfl))⟩
  f24 := ⟨Try.f88.name, by decide, Try.func88.trans (congrArg some (by kernel_rfl))⟩
  f25 := ⟨Try.f89.name, by decide, Try.func89.trans (congrArg some (by kernel_rfl))⟩
  f26 := ⟨Try.f90.name, by decide, Try.func90.trans (congrArg some (by kernel_rfl))⟩
  f27 := ⟨Try.f91.name, by decide, Try.func91.trans (congrArg some (by kernel_rfl))⟩
  f28 := Try.func92.trans (congrArg some (by kernel_rfl))
  f29 := Try.func93.trans (congrArg some (by kernel_rfl))
  f46 := ⟨Try.f94.name, by decide, Try.func94.trans (congrArg some (by kernel_rfl))⟩
  f47 := Try.func95.trans (congrArg some (by kernel_rfl))
  f48 := Try.func96.trans (congrArg some (by kernel_rfl))
  f49 := ⟨Try.f97.name, by decide, Try.func97.trans (congrArg some (by kernel_rfl))⟩
  f50 := ⟨Try.f98.name, by decide, Try.func98.trans (congrArg some (by kernel_rfl))⟩
  f57 := ⟨Try.f99.name, by decide, Try.func99.trans (congrArg some (by kernel_rfl))⟩
  t0 := Try.underlying0
  a0 := Try.isAgg0
  z0 := Try.sizeOf0
  v0 := Try.zeroValue0
  t3 := Try.underlying3
  a3 := Try.isAgg3
  z3 := Try.sizeOf3
  v3 := Try.zeroValue3
  t4 := Try.underlying4
  a4 := Try.isAgg4
  z4 := Try.sizeOf4
  v4 := Try.zeroValue4
  t5 := Try.underlying5
  a5 := Try.isAgg5
  z5 := Try.sizeOf5
  v5 := Try.zeroValue5
  t9 := Try.underlying9
  a9 := Try.isAgg9
  z9 := Try.sizeOf9
  v9 := Try.zeroValue9
  t22 := Try.underlying50
  a22 := Try.isAgg50
  z22 := Try.sizeOf50
  v22 := Try.zeroValue50
  t25 := Try.underlying79
  a25 := Try.isAgg79
  z25 := Try.sizeOf79
  v25 := Try.zeroValue79
  t39 := Try.underlying124
  a39 := Try.isAgg124
  z39 := Try.sizeOf124
  v39 := Try.zeroValue124
  t45 := Try.underlying127
  a45 := Try.isAgg127
  z45 := Try.sizeOf127
  v45 := Try.zeroValue127
  t46 := Try.underlying128
  a46 := Try.isAgg128
  z46 := Try.sizeOf128
  v46 := Try.zeroValue128
  t50 := Try.underlying117
  a50 := Try.isAgg117
  z50 := Try.sizeOf117
  v50 := Try.zeroValue117
  t53 := Try.underlying134
  a53 := Try.isAgg134
  z53 := Try.sizeOf134
  v53 := Try.zeroValue134
  t55 := Try.underlying136
  a55 := Try.isAgg136
  z55 := Try.sizeOf136
  v55 := Try.zeroValue136
  t66 := Try.underlying137
  a66 := Try.isAgg137
  z66 := Try.sizeOf137
  v66 := Try.zeroValue137
  t70 := Try.underlying141
  a70 := Try.isAgg141
  z70 := Try.sizeOf141
  v70 := Try.zeroValue141
  t76 := Try.underlying143
  a76 := Try.isAgg143
  z76 := Try.sizeOf143
  v76 := Try.zeroValue143
  t77 := Try.underlying61
  a77 := Try.isAgg61
  z77 := Try.sizeOf61
  v77 := Try.zeroValue61 }
open Go.RowKit Go.Lib Go.Sort in
theorem Try.pdqsortCmpFunc_none {α : Type} [Inhabited α] (p : Option Addr) (cap : Nat) (lim : Int) (fv : Value) (w : World) :
    Calls Try.prog 79 #[.slice p 0 cap, .int .i64 0, .int .i64 0, .int .i64 lim, fv] w fun e w' => e = .returned (.tuple #[]) ∧ w' = w := AnyF.pdqsortCmpFunc_none Try.laysSlF014_f79 p cap lim fv w
def Try.laysSlF06_f62_ren : Go.Shelf.Ren := ⟨fun | 6 => 62 | 15 => 80 | 14 => 79 | 28 => 92 | 29 => 93 | 20 => 84 | 21 => 85 | 22 => 86 | 23 => 87 | 24 => 88 | 25 => 89 | 26 => 90 | 27 => 91 | 46 => 94 | 47 => 95 | 48 => 96 | 49 => 97 | 50 => 98 | 57 => 99 | n => n, fun | 22 => 50 | 24 => 3 | 25 => 79 | 3 => 3 | 39 => 124 | 0 => 0 | 53 => 134 | 55 => 136 | 4 => 4 | 46 => 128 | 45 => 127 | 50 => 117 | 5 => 5 | 9 => 9 | 66 => 137 | 70 => 141 | 76 => 143 | 77 => 61 | n => n, fun | n => n⟩
theorem Try.laysSlF06_f62 : Go.Proofs.SlLaysF0.n6 Try.prog Try.laysSlF06_f62_ren := {
  mixed := by kernel_rfl
  f6 := ⟨Try.f62.name, by decide, Try.func62.trans (congrArg some (by kernel_rfl))⟩
  f14 := ⟨Try.f79.name, by decide, Try.func79.trans (congrArg some (by kernel_rfl))⟩
  f15 := Try.func80.trans (congrArg some (by kernel_rfl))
  f20 := ⟨Try.f84.name, by decide, Try.func84.trans (congrArg some (by kernel_rfl))⟩
  f21 := ⟨Try.f85.name, by decide, Try.func85.trans (congrArg some (by kernel_rfl))⟩
  f22 := ⟨Try.f86.name, by decide, Try.func86.trans (congrArg some (by kernel_rfl))⟩
  f23 := ⟨Try.f87.name, by decide, Try.func87.trans (congrArg some (by kernel_rfl))⟩
  f24 := ⟨Try.f88.name, by decide, Try.func88.trans (congrArg some (by kernel_rfl))⟩
  f25 := ⟨Try.f89.name, by decide, Try.func89.trans (congrArg some (by kernel_rfl))⟩
  f26 := ⟨Try.f90.name, by decide, Try.func90.trans (congrArg some (by kernel_rfl))⟩
  f27 := ⟨Try.f91.name, by decide, Try.func91.trans (congrArg some (by kernel_rfl))⟩
  f28 := Try.func92.trans (congrArg some (by kernel_rfl))
  f29 := Try.func93.trans (congrArg some (by kernel_rfl))
  f46 := ⟨Try.f94.name, by decide, Try.func94.trans (congrArg some (by kernel_rfl))⟩
  f47 := Try.func95.trans (congrArg some (by kernel_rfl))
  f48 := Try.func96.trans (congrArg some (by kernel_rfl))
  f49 := ⟨Try.f97.name, by decide, Try.func97.trans (congrArg some (by kernel_rfl))⟩
  f50 := ⟨Try.f98.name, by decide, Try.func98.trans (congrArg some (by kernel_rfl))⟩
  f57 := ⟨Try.f99.name, by decide, Try.func99.trans (congrArg some (by kernel_rfl))⟩
  t0 := Try.underlying0
  a0 := Try.isAgg0
  z0 := Try.sizeOf0
  v0 := Try.zeroValue0
  t3 := Try.underlying3
  a3 := Try.isAgg3
  z3 := Try.sizeOf3
  v3 := Try.zeroValue3
  t4 := Try.underlying4
  a4 := Try.isAgg4
  z4 := Try.sizeOf4
  v4 := Try.zeroValue4
  t5 := Try.underlying5
  a5 := Try.isAgg5
  z5 := Try.sizeOf5
  v5 := Try.zeroValue5
  t9 := Try.underlying9
  a9 := Try.isAgg9
  z9 := Try.sizeOf9
  v9 := Try.zeroValue9
  t22 := Try.underlying50
  a22 := Try.isAgg50
  z22 := Try.sizeOf50
  v22 := Try.zeroValue50
  t25 := Try.underlying79
  a25 := Try.isAgg79
  z25 := Try.sizeOf79
  v25 := Try.zeroValue79
  t39 := Try.underlying124
  a39 := Try.isAgg124
  z39 := Try.sizeOf124
  v39 := Try.zeroValue124
  t45 := Try.underlying127
  a45 := Try.isAgg127
  z45 := Try.sizeOf127
  v45 := Try.zeroValue127
  t46 := Try.underlying128
  a46 := Try.isAgg128
  z46 := Try.sizeOf128
  v46 := Try.zeroValue128
  t50 := Try.underlying117
  a50 := Try.isAgg117
  z50 := Try.sizeOf117
  v50 := Try.zeroValue117
  t53 := Try.underlying134
  a53 := Try.isAgg134
  z53 := Try.sizeOf134
  v53 := Try.zeroValue134
  t55 := Try.underlying136
  a55 := Try.isAgg136
  z55 := Try.sizeOf136
  v55 := Try.zeroValue136
  t66 := Try.underlying137
  a66 := Try.isAgg137
  z66 := Try.sizeOf137
  v66 := Try.zeroValue137
  t70 := Try.underlying141
  a70 := Try.isAgg141
  z70 := Try.sizeOf141
  v70 := Try.zeroValue141
  t76 := Try.underlying143
  a76 := Try.isAgg143
  z76 := Try.sizeOf143
  v76 := Try.zeroValue143
  t77 := Try.underlying61
  a77 := Try.isAgg61
  z77 := Try.sizeOf61
  v77 := Try.zeroValue61 }
open Go.RowKit Go.Lib Go.Sort in
/-- **slices.SortFunc AT NO ELEMENT, A nil SLICE TOO: nothing turns.** (LAID AT THE INSTANCE 'slices.SortFunc[[]int,int]': no walk: one application.) -/
theorem Try.slices_SortFunc_none {α : Type} [Inhabited α] (p : Option Addr) (cap : Nat) (fv : Value) (w : World) :
    Calls Try.prog 62 #[.slice p 0 cap, fv] w fun e w' => e = .returned (.tuple #[]) ∧ w' = w := AnyF.slices_SortFunc_none Try.laysSlF06_f62 p cap fv w
open Go.RowKit Go.Lib Go.Sort in
/-- **slices.SortFunc AT ONE CELL, UNDER A 'cmp' THAT PARTS WHATEVER TWO THAT ARE NOT ONE: THE ROW HOLDS core's 'mergeSort'.** (LAID AT THE INSTANCE 'slices.SortFunc[[]int,int]': no walk: one application.) -/
theorem Try.slices_SortFunc_total {α : Type} [Inhabited α] (enc : α → Value) (h1 : OneCell enc) (cf : α → α → Int) (hO : SWO (ltOf cf)) (g : Nat) (cb : Array Value) (blk off cap : Nat) (d : Array α) (w : World) (eg : ∀ args w, (callFunc g args).run Try.prog w = .ok (.enter g args) w) (hcmp : CmpLays1 Try.prog g cb enc cf blk off d.size w) (hH : Holds enc w blk off d) (hblk : blk < w.heap.size) (hsz : d.size < 4611686018427387904) (hT : ∀ x y, (ltOf cf) x y = false → (ltOf cf) y x = false → x = y) :
    Calls Try.prog 62 #[.slice (some ⟨blk, off, none⟩) d.size cap, .func (.func g) #[] cb] w fun e w' =>
      e = .returned (.tuple #[]) ∧ ∃ n os, w' = sortWorld enc w blk off n (d.toList.mergeSort fun x y => !(ltOf cf) y x).toArray os := Any.slices_SortFunc_total Try.laysSlF6_f62 enc h1 cf hO g cb blk off cap d w eg hcmp hH hblk hsz hT
end Go.Proofs
/- slices.SortFunc over the sizes of the parts: in descending order. -/
namespace Go.Proofs.Ytfigooilhnahfaa
open Go.RowKit Go.Shelf Go.Sort

abbrev Sm := { n : Int // 0 ≤ n ∧ n ≤ 1000000 }
instance : Inhabited Sm := ⟨⟨0, by decide⟩⟩
def encS (x : Sm) : Value := .int .i64 x.1
def cfS (x y : Sm) : Int := y.1 - x.1
theorem Parts1_any (x y : Sm) (w : World) : Calls Try.prog 63 #[encS x, encS y] w fun e w' => e = .returned (.int .i64 (cfS x y)) ∧ w' = w := by
  obtain ⟨x, hx1, hx2⟩ := x
  obtain ⟨y, hy1, hy2⟩ := y
  show Calls Try.prog 63 #[.int .i64 x, .int .i64 y] w fun e w' => e = .returned (.int .i64 (y - x)) ∧ w' = w
  have q0 : IntKind.i64.wrap (y - x) = y - x := IntWalk.i64_in _ (by omega)
  go_enter Try.func63, Try.ntmps63
  go_wp2
  go_ret
  exact ⟨rfl, rfl⟩
theorem ltS (x y : Sm) : ltOf cfS x y = decide (y.1 < x.1) := by
  unfold ltOf cfS
  by_cases h : y.1 < x.1
  · simp [h]; omega
  · simp [h]; omega
theorem swoS : SWO (ltOf cfS) where
  irrefl x := by rw [ltS]; simp
  trans x y z h1 h2 := by rw [ltS] at *; simp at *; omega
  ntrans x y z h1 h2 := by rw [ltS] at *; simp at *; omega
theorem totS (x y : Sm) (h1 : ltOf cfS x y = false) (h2 : ltOf cfS y x = false) : x = y := by
  rw [ltS] at *
  simp at h1 h2
  exact Subtype.ext (by omega)
theorem toSm {l : List Int} (h : ∀ x ∈ l, 0 ≤ x ∧ x ≤ 1000000) : ∃ d : List Sm, d.map (·.1) = l := by
  induction l with
  | nil => exact ⟨[], rfl⟩
  | cons a l ih =>
    obtain ⟨d, hd⟩ := ih (fun x hx => h x (List.mem_cons_of_mem _ hx))
    exact ⟨⟨a, h a (List.mem_cons_self ..)⟩ :: d, by simp [hd]⟩

set_option maxHeartbeats 1000000 in
theorem SortFunc_any (l : List Int) (h : ∀ x ∈ l, 0 ≤ x ∧ x ≤ 1000000) (v : Value) (w : World) (ho : OwnsI w v l) (hlen : l.length ≤ 4096) :
    Calls Try.prog 62 #[v, .func (.func 63) #[] #[]] w fun e w' => e = .returned (.tuple #[]) ∧
      (∃ a cap, v = .slice a l.length cap ∧ CellsI w' a (l.mergeSort fun x y => decide (y ≤ x))) ∧ (∀ n, n ≤ w.heap.size → (∀ b, v.ownBlock = some b → n ≤ b) → Below n w w') ∧ Chg (fun k => v.ownBlock = some k) w w' := by
  obtain ⟨a, cap, hv, hc, hb⟩ := ho.reads
  rcases hb with rfl | ⟨b, rfl, hvb, hb⟩
  · subst hv
    refine (Try.slices_SortFunc_none (α := Sm) a cap (.func (.func 63) #[] #[]) w).mono ?_
    rintro e w' ⟨rfl, rfl⟩
    exact ⟨rfl, ⟨a, cap, rfl, by simpa using CellsI.nil _ _⟩, fun n _ _ => Below.refl _ _, Chg.refl _ _⟩
  · obtain ⟨d, rfl⟩ := toSm h
    subst hv
    have hbw : b < w.heap.size := ho.lt hvb
    have eg : ∀ args w, (callFunc 63 args).run Try.prog w = .ok (.enter 63 args) w := enters_of Try.func63 (by kernel_rfl) rfl
    have hH : Holds encS w b 0 d.toArray := fun j hj => by
      have hj' : j < (d.map (·.1)).length := by simpa using hj
      obtain ⟨h1, h2⟩ := hb j hj'
      rw [Nat.zero_add]
      refine ⟨?_, h2⟩
      rw [h1]
      have hj2 : j < d.length := by simpa using hj
      simp [encS, List.getD, hj2]
    have key := Try.slices_SortFunc_total encS (fun _ => rfl) cfS swoS 63 #[] b 0 cap d.toArray w eg (CmpReads.lays fun m os dk _ x y => (Parts1_any x y _).mono fun e w' ⟨h1, h2⟩ => ⟨h1, 0, h2⟩) hH hbw (by simp at hlen ⊢; omega) totS
    have hsz : d.toArray.size = (d.map (·.1)).length := by simp
    rw [hsz] at key
    refine key.mono ?_
    rintro e w' ⟨rfl, n, os, rfl⟩
    have hms : ((d.toArray.toList.mergeSort fun x y => !(ltOf cfS) y x)).map (·.1) = (d.map (·.1)).mergeSort fun x y => decide (y ≤ x) := by
      refine List.map_mergeSort fun x _ y _ => ?_
      rw [ltS]
      by_cases hxy : y.1 ≤ x.1
      · simp [hxy]
      · simp [hxy]; omega
    have hl : (d.toArray.toList.mergeSort fun x y => !(ltOf cfS) y x).length = d.toArray.size := by simp
    have hw := Lib.sorted_world encS w b 0 n d.toArray (d.toArray.toList.mergeSort fun x y => !(ltOf cfS) y x) os hH hl
    refine ⟨rfl, ⟨_, cap, rfl, ?_⟩, ?_, ?_⟩
    · intro i hi
      refine ⟨b, 0, rfl, ?_⟩
      rw [← hms] at hi ⊢
      unfold sortWorld
      rw [hw]
      have hc2 := Lib.cells_sorted_ints (W := w) (b := b) (off := 0) (q := n) (zs := d.map (·.1)) (n := (d.map (·.1)).length) (ys := (d.toArray.toList.mergeSort fun x y => !(ltOf cfS) y x).map (·.1)) (os := os) (Nat.le_refl _) (by simp) (fun j hj => by rw [Nat.zero_add]; exact (hb j hj).1)
      have := hc2 i (by simpa using hi)
      rw [List.drop_length, List.append_nil] at this
      have e : (d.toArray.toList.mergeSort fun x y => !(ltOf cfS) y x).map encS = ((d.toArray.toList.mergeSort fun x y => !(ltOf cfS) y x).map (·.1)).map (Value.int .i64) := by rw [List.map_map]; rfl
      rw [e]
      exact this
    · intro m hm hmb
      unfold sortWorld
      rw [hw]
      have hbm := hmb b hvb
      have h1 : Below m w (w.drewN n) := ((Ext.refl w).drewN n).mono hm
      have h2 : ∀ (vs : List Value) (o : Nat) (A : World), Below m A (A.setCells b o vs) := by
        intro vs
        induction vs with
        | nil => intro o A; exact Below.refl _ _
        | cons v vs ih => intro o A; exact (Below.setCell (p := ⟨b, o, none⟩) (Below.refl m A) hbm v).trans (ih _ _)
      refine (h1.trans (h2 _ _ _)).trans ⟨rfl, rfl, rfl, by simp [grow], fun k hk => ?_⟩
      have hz : m ≤ ((w.drewN n).setCells b 0 (List.map encS (d.toArray.toList.mergeSort fun x y => !ltOf cfS y x))).heap.size := Nat.le_trans hm (h1.trans (h2 _ _ _)).size
      exact heap_grow_old _ os (by omega)
    · unfold sortWorld
      rw [hw]
      have h2 : ∀ (vs : List Value) (o : Nat) (A : World), Chg (fun k => (Value.slice (some ⟨b, 0, none⟩) (d.map (·.1)).length cap).ownBlock = some k) A (A.setCells b o vs) := by
        intro vs
        induction vs with
        | nil => intro o A; exact Chg.refl _ _
        | cons v vs ih => intro o A; exact (Chg.setCell (B := fun k => (Value.slice (some ⟨b, 0, none⟩) (d.map (·.1)).length cap).ownBlock = some k) ⟨b, o, none⟩ v rfl).trans (ih _ _)
      refine ((Chg.ext ((Ext.refl w).drewN n)).trans (h2 _ _ _)).trans ⟨by simp [grow], fun k hk _ => heap_grow_old _ os hk⟩
end Go.Proofs.Ytfigooilhnahfaa
