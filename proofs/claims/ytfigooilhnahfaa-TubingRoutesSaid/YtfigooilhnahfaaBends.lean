/- Bends. -/
import Derived.Test.YtfigooilhnahfaaVerify
namespace Go.Proofs.Ytfigooilhnahfaa
open Go.RowKit Go.Maps

/-- the bends among the first k cells -/
def bendN (l : List Pt) : Nat → Nat
  | 0 => 0
  | k + 1 => bendN l k + (if 2 ≤ k ∧ (pt l (k - 2)).1 ≠ (pt l k).1 ∧ (pt l (k - 2)).2 ≠ (pt l k).2 then 1 else 0)
theorem bendN_le (l : List Pt) : ∀ k, bendN l k ≤ k := by
  intro k
  induction k with
  | zero => exact Nat.le_refl _
  | succ k ih => unfold bendN; split <;> omega
theorem bendN_two (l : List Pt) : bendN l 2 = 0 := by simp [bendN]
def bendV (g : Gr) (l : List Pt) : Int := if listedErr g l ≠ 0 then 0 else if joinedB l = false then 0 else ((bendN l (max 2 l.length) : Nat) : Int)
def bendE (g : Gr) (l : List Pt) : Int := if listedErr g l ≠ 0 then listedErr g l else if joinedB l = false then 3 else 0

set_option maxHeartbeats 2000000 in
set_option maxRecDepth 100000 in
theorem Bends_any (g : Gr) (l : List Pt) (ga : Option Addr) (gc : Nat) (a : Option Addr) (cap : Nat) (w : World) (hg : g.bl.length ≤ maxLen) (hc : Cells2 w ga g.bl) (hl : l.length ≤ maxLen) (hcl : Cells2 w a l) :
    Calls Try.prog 34 #[.agg #[.int .i64 g.rows, .int .i64 g.cols, .slice ga g.bl.length gc], .slice a l.length cap] w fun e w' => e = .returned (.tuple #[.int .i64 (bendV g l), .int .i64 (bendE g l)]) ∧ Ext w w' := by
  have HC : Hid (Cells2 w ga g.bl) := hc
  have HL : Hid (Cells2 w a l) := hcl
  have HG := Lib.hid hg
  have HM := Lib.hid hl
  clear hc hcl hg hl
  have E0 : Ext w (((w).alloc (.cells #[.int .i64 g.rows, .int .i64 g.cols, .slice ga g.bl.length gc] 33))) := (Ext.refl _).alloc _
  have a1 : (((w).alloc (.cells #[.int .i64 g.rows, .int .i64 g.cols, .slice ga g.bl.length gc] 33))).cell? ⟨w.heap.size, 0, none⟩ = some (.int .i64 g.rows) := by go_simp
  have a2 : (((w).alloc (.cells #[.int .i64 g.rows, .int .i64 g.cols, .slice ga g.bl.length gc] 33))).cell? ⟨w.heap.size, 1, none⟩ = some (.int .i64 g.cols) := by go_simp
  have a3 : (((w).alloc (.cells #[.int .i64 g.rows, .int .i64 g.cols, .slice ga g.bl.length gc] 33))).cell? ⟨w.heap.size, 2, none⟩ = some (.slice ga g.bl.length gc) := by go_simp
  by_cases h0 : listedErr g l = 0
  · obtain ⟨hr, hne, hlen, ho⟩ := listed_ok h0
    have HR := Lib.hid hr
    have HIN : Hid (∀ i, i < l.length → inside g (pt l i) = true) := fun i hi => opn_inside (ho _ (pt_mem hi))
    have hv : Hid (bendV g l = (if joinedB l = false then 0 else ((bendN l (max 2 l.length) : Nat) : Int)) ∧ bendE g l = if joinedB l = false then 3 else 0) := by
      show _ ∧ _
      unfold bendV bendE
      exact ⟨by rw [if_neg (by simp [h0])], by rw [if_neg (by simp [h0])]⟩
    have H0 := Lib.hid h0
    have HLEN := Lib.hid hlen
    clear hr ho h0 hne
    go_enter Try.func34, Try.ntmps34
    go_wp2_with fail
    refine (listed_any g l ga gc a cap _ HG.out (HC.out.ext E0) HM.out (HL.out.ext E0)).mono ?_
    rintro e w1 ⟨rfl, hE⟩
    rw [H0.out]
    have E1 : Ext w w1 := E0.trans hE
    clear hE E0 a1 a2 a3
    go_wp2_with fail
    refine (joined_any l a cap _ HLEN.out (fun i hi => inG_of HR.out (HIN.out i hi)) (HL.out.ext E1)).mono ?_
    rintro e w2 ⟨rfl, hE⟩
    have E2 : Ext w w2 := E1.trans hE
    clear hE E1
    cases hj : joinedB l
    · have HJ := Lib.hid hj
      clear hj
      go_wp2
      go_ret2
      refine ⟨?_, E2⟩
      rw [hv.out.1, hv.out.2, HJ.out]
      rfl
    · have HJ := Lib.hid hj
      clear hj
      go_wp2
      go_loopw [7, 8] (fun n i wr => ∃ k : Nat, 2 ≤ k ∧ k ≤ max 2 l.length ∧ i = .int .i64 k ∧ n = .int .i64 (bendN l k) ∧ Ext w2 wr) (fun _ i _ => l.length - (intOf i).toNat)
      case atStart => exact ⟨2, Nat.le_refl _, by omega, rfl, by rw [bendN_two]; rfl, Ext.refl _⟩
      case round =>
        obtain ⟨k, hk2, hkm, rfl, rfl, he⟩ := hrel
        have hnb := bendN_le l k
        by_cases hlt : k < l.length
        · obtain ⟨b, off, ha, e1, e2⟩ := HL.out.ext (E2.trans he) k hlt
          obtain ⟨b', off', ha', f1, f2⟩ := HL.out.ext (E2.trans he) (k - 2) (by omega)
          subst ha
          cases ha'
          have q0 : IntKind.i64.wrap ((k : Int) - 2) = (k : Int) - 2 := IntWalk.i64_in _ (by omega)
          have q1 : ((k : Int) - 2).toNat = k - 2 := by omega
          have q2 : 0 ≤ (k : Int) - 2 := by omega
          have q3 : (2 : Int) ≤ (k : Int) := by omega
          have q4 : (k : Int) - 2 < (l.length : Int) := by omega
          have q5 : IntKind.i64.wrap ((bendN l k : Int) + 1) = (bendN l k : Int) + 1 := IntWalk.i64_in _ (by omega)
          have zb := cell_lt f1
          dsimp only at zb
          have HK := Lib.hid (show bendN l (k + 1) = bendN l k + (if 2 ≤ k ∧ (pt l (k - 2)).1 ≠ (pt l k).1 ∧ (pt l (k - 2)).2 ≠ (pt l k).2 then 1 else 0) from rfl)
          cases hx : ((pt l (k - 2)).1 != (pt l k).1)
          · go_wp2_with fail
            go_region
            · have E3 : Ext wr (((wr.alloc (.cells #[.int .i64 (pt l (k - 2)).1, .int .i64 (pt l (k - 2)).2] 26)).alloc (.cells #[.int .i64 (pt l k).1, .int .i64 (pt l k).2] 26)).drew) := (((Ext.refl _).alloc _).alloc _).drew
              have p1 : (((wr.alloc (.cells #[.int .i64 (pt l (k - 2)).1, .int .i64 (pt l (k - 2)).2] 26)).alloc (.cells #[.int .i64 (pt l k).1, .int .i64 (pt l k).2] 26)).drew).cell? ⟨wr.heap.size, 0, none⟩ = some (.int .i64 (pt l (k - 2)).1) := by go_simp
              have p2 : (((wr.alloc (.cells #[.int .i64 (pt l (k - 2)).1, .int .i64 (pt l (k - 2)).2] 26)).alloc (.cells #[.int .i64 (pt l k).1, .int .i64 (pt l k).2] 26)).drew).cell? ⟨wr.heap.size, 1, none⟩ = some (.int .i64 (pt l (k - 2)).2) := by go_simp
              have p3 : (((wr.alloc (.cells #[.int .i64 (pt l (k - 2)).1, .int .i64 (pt l (k - 2)).2] 26)).alloc (.cells #[.int .i64 (pt l k).1, .int .i64 (pt l k).2] 26)).drew).cell? ⟨wr.heap.size + 1, 0, none⟩ = some (.int .i64 (pt l k).1) := by go_simp
              have p4 : (((wr.alloc (.cells #[.int .i64 (pt l (k - 2)).1, .int .i64 (pt l (k - 2)).2] 26)).alloc (.cells #[.int .i64 (pt l k).1, .int .i64 (pt l k).2] 26)).drew).cell? ⟨wr.heap.size + 1, 1, none⟩ = some (.int .i64 (pt l k).2) := by go_simp
              clear e1 e2 f1 f2
              generalize (((wr.alloc (.cells #[.int .i64 (pt l (k - 2)).1, .int .i64 (pt l (k - 2)).2] 26)).alloc (.cells #[.int .i64 (pt l k).1, .int .i64 (pt l k).2] 26)).drew) = W at p1 p2 p3 p4 E3 ⊢
              go_wp2
              refine ⟨⟨k + 1, by omega, by omega, by go_num, ?_, he.trans E3⟩, by simp [intOf]; omega⟩
              rw [HK.out, if_neg (fun h => by first | exact absurd h.2.1 (by simpa using hx) | exact absurd h.2.2 (by simpa using hy))]
              rfl
            · have E3 : Ext wr (((wr.alloc (.cells #[.int .i64 (pt l k).1, .int .i64 (pt l k).2] 26)).alloc (.cells #[.int .i64 (pt l (k - 2)).1, .int .i64 (pt l (k - 2)).2] 26)).drew) := (((Ext.refl _).alloc _).alloc _).drew
              have p1 : (((wr.alloc (.cells #[.int .i64 (pt l k).1, .int .i64 (pt l k).2] 26)).alloc (.cells #[.int .i64 (pt l (k - 2)).1, .int .i64 (pt l (k - 2)).2] 26)).drew).cell? ⟨wr.heap.size + 1, 0, none⟩ = some (.int .i64 (pt l (k - 2)).1) := by go_simp
              have p2 : (((wr.alloc (.cells #[.int .i64 (pt l k).1, .int .i64 (pt l k).2] 26)).alloc (.cells #[.int .i64 (pt l (k - 2)).1, .int .i64 (pt l (k - 2)).2] 26)).drew).cell? ⟨wr.heap.size + 1, 1, none⟩ = some (.int .i64 (pt l (k - 2)).2) := by go_simp
              have p3 : (((wr.alloc (.cells #[.int .i64 (pt l k).1, .int .i64 (pt l k).2] 26)).alloc (.cells #[.int .i64 (pt l (k - 2)).1, .int .i64 (pt l (k - 2)).2] 26)).drew).cell? ⟨wr.heap.size, 0, none⟩ = some (.int .i64 (pt l k).1) := by go_simp
              have p4 : (((wr.alloc (.cells #[.int .i64 (pt l k).1, .int .i64 (pt l k).2] 26)).alloc (.cells #[.int .i64 (pt l (k - 2)).1, .int .i64 (pt l (k - 2)).2] 26)).drew).cell? ⟨wr.heap.size, 1, none⟩ = some (.int .i64 (pt l k).2) := by go_simp
              clear e1 e2 f1 f2
              generalize (((wr.alloc (.cells #[.int .i64 (pt l k).1, .int .i64 (pt l k).2] 26)).alloc (.cells #[.int .i64 (pt l (k - 2)).1, .int .i64 (pt l (k - 2)).2] 26)).drew) = W at p1 p2 p3 p4 E3 ⊢
              go_wp2
              refine ⟨⟨k + 1, by omega, by omega, by go_num, ?_, he.trans E3⟩, by simp [intOf]; omega⟩
              rw [HK.out, if_neg (fun h => by first | exact absurd h.2.1 (by simpa using hx) | exact absurd h.2.2 (by simpa using hy))]
              rfl
          · cases hy : ((pt l (k - 2)).2 != (pt l k).2)
            · go_wp2_with fail
              go_region
              · have E3 : Ext wr (((wr.alloc (.cells #[.int .i64 (pt l (k - 2)).1, .int .i64 (pt l (k - 2)).2] 26)).alloc (.cells #[.int .i64 (pt l k).1, .int .i64 (pt l k).2] 26)).drew) := (((Ext.refl _).alloc _).alloc _).drew
                have p1 : (((wr.alloc (.cells #[.int .i64 (pt l (k - 2)).1, .int .i64 (pt l (k - 2)).2] 26)).alloc (.cells #[.int .i64 (pt l k).1, .int .i64 (pt l k).2] 26)).drew).cell? ⟨wr.heap.size, 0, none⟩ = some (.int .i64 (pt l (k - 2)).1) := by go_simp
                have p2 : (((wr.alloc (.cells #[.int .i64 (pt l (k - 2)).1, .int .i64 (pt l (k - 2)).2] 26)).alloc (.cells #[.int .i64 (pt l k).1, .int .i64 (pt l k).2] 26)).drew).cell? ⟨wr.heap.size, 1, none⟩ = some (.int .i64 (pt l (k - 2)).2) := by go_simp
                have p3 : (((wr.alloc (.cells #[.int .i64 (pt l (k - 2)).1, .int .i64 (pt l (k - 2)).2] 26)).alloc (.cells #[.int .i64 (pt l k).1, .int .i64 (pt l k).2] 26)).drew).cell? ⟨wr.heap.size + 1, 0, none⟩ = some (.int .i64 (pt l k).1) := by go_simp
                have p4 : (((wr.alloc (.cells #[.int .i64 (pt l (k - 2)).1, .int .i64 (pt l (k - 2)).2] 26)).alloc (.cells #[.int .i64 (pt l k).1, .int .i64 (pt l k).2] 26)).drew).cell? ⟨wr.heap.size + 1, 1, none⟩ = some (.int .i64 (pt l k).2) := by go_simp
                clear e1 e2 f1 f2
                generalize (((wr.alloc (.cells #[.int .i64 (pt l (k - 2)).1, .int .i64 (pt l (k - 2)).2] 26)).alloc (.cells #[.int .i64 (pt l k).1, .int .i64 (pt l k).2] 26)).drew) = W at p1 p2 p3 p4 E3 ⊢
                go_wp2
                refine ⟨⟨k + 1, by omega, by omega, by go_num, ?_, he.trans E3⟩, by simp [intOf]; omega⟩
                rw [HK.out, if_neg (fun h => by first | exact absurd h.2.1 (by simpa using hx) | exact absurd h.2.2 (by simpa using hy))]
                rfl
              · have E3 : Ext wr (((wr.alloc (.cells #[.int .i64 (pt l k).1, .int .i64 (pt l k).2] 26)).alloc (.cells #[.int .i64 (pt l (k - 2)).1, .int .i64 (pt l (k - 2)).2] 26)).drew) := (((Ext.refl _).alloc _).alloc _).drew
                have p1 : (((wr.alloc (.cells #[.int .i64 (pt l k).1, .int .i64 (pt l k).2] 26)).alloc (.cells #[.int .i64 (pt l (k - 2)).1, .int .i64 (pt l (k - 2)).2] 26)).drew).cell? ⟨wr.heap.size + 1, 0, none⟩ = some (.int .i64 (pt l (k - 2)).1) := by go_simp
                have p2 : (((wr.alloc (.cells #[.int .i64 (pt l k).1, .int .i64 (pt l k).2] 26)).alloc (.cells #[.int .i64 (pt l (k - 2)).1, .int .i64 (pt l (k - 2)).2] 26)).drew).cell? ⟨wr.heap.size + 1, 1, none⟩ = some (.int .i64 (pt l (k - 2)).2) := by go_simp
                have p3 : (((wr.alloc (.cells #[.int .i64 (pt l k).1, .int .i64 (pt l k).2] 26)).alloc (.cells #[.int .i64 (pt l (k - 2)).1, .int .i64 (pt l (k - 2)).2] 26)).drew).cell? ⟨wr.heap.size, 0, none⟩ = some (.int .i64 (pt l k).1) := by go_simp
                have p4 : (((wr.alloc (.cells #[.int .i64 (pt l k).1, .int .i64 (pt l k).2] 26)).alloc (.cells #[.int .i64 (pt l (k - 2)).1, .int .i64 (pt l (k - 2)).2] 26)).drew).cell? ⟨wr.heap.size, 1, none⟩ = some (.int .i64 (pt l k).2) := by go_simp
                clear e1 e2 f1 f2
                generalize (((wr.alloc (.cells #[.int .i64 (pt l k).1, .int .i64 (pt l k).2] 26)).alloc (.cells #[.int .i64 (pt l (k - 2)).1, .int .i64 (pt l (k - 2)).2] 26)).drew) = W at p1 p2 p3 p4 E3 ⊢
                go_wp2
                refine ⟨⟨k + 1, by omega, by omega, by go_num, ?_, he.trans E3⟩, by simp [intOf]; omega⟩
                rw [HK.out, if_neg (fun h => by first | exact absurd h.2.1 (by simpa using hx) | exact absurd h.2.2 (by simpa using hy))]
                rfl
            · go_wp2_with fail
              go_region
              · have E3 : Ext wr (((wr.alloc (.cells #[.int .i64 (pt l (k - 2)).1, .int .i64 (pt l (k - 2)).2] 26)).alloc (.cells #[.int .i64 (pt l k).1, .int .i64 (pt l k).2] 26)).drew) := (((Ext.refl _).alloc _).alloc _).drew
                have p1 : (((wr.alloc (.cells #[.int .i64 (pt l (k - 2)).1, .int .i64 (pt l (k - 2)).2] 26)).alloc (.cells #[.int .i64 (pt l k).1, .int .i64 (pt l k).2] 26)).drew).cell? ⟨wr.heap.size, 0, none⟩ = some (.int .i64 (pt l (k - 2)).1) := by go_simp
                have p2 : (((wr.alloc (.cells #[.int .i64 (pt l (k - 2)).1, .int .i64 (pt l (k - 2)).2] 26)).alloc (.cells #[.int .i64 (pt l k).1, .int .i64 (pt l k).2] 26)).drew).cell? ⟨wr.heap.size, 1, none⟩ = some (.int .i64 (pt l (k - 2)).2) := by go_simp
                have p3 : (((wr.alloc (.cells #[.int .i64 (pt l (k - 2)).1, .int .i64 (pt l (k - 2)).2] 26)).alloc (.cells #[.int .i64 (pt l k).1, .int .i64 (pt l k).2] 26)).drew).cell? ⟨wr.heap.size + 1, 0, none⟩ = some (.int .i64 (pt l k).1) := by go_simp
                have p4 : (((wr.alloc (.cells #[.int .i64 (pt l (k - 2)).1, .int .i64 (pt l (k - 2)).2] 26)).alloc (.cells #[.int .i64 (pt l k).1, .int .i64 (pt l k).2] 26)).drew).cell? ⟨wr.heap.size + 1, 1, none⟩ = some (.int .i64 (pt l k).2) := by go_simp
                clear e1 e2 f1 f2
                generalize (((wr.alloc (.cells #[.int .i64 (pt l (k - 2)).1, .int .i64 (pt l (k - 2)).2] 26)).alloc (.cells #[.int .i64 (pt l k).1, .int .i64 (pt l k).2] 26)).drew) = W at p1 p2 p3 p4 E3 ⊢
                go_wp2
                refine ⟨⟨k + 1, by omega, by omega, by go_num, ?_, he.trans E3⟩, by simp [intOf]; omega⟩
                rw [HK.out, if_pos ⟨hk2, by simpa using hx, by simpa using hy⟩]
                first | rfl | go_num | (simp)
              · have E3 : Ext wr (((wr.alloc (.cells #[.int .i64 (pt l k).1, .int .i64 (pt l k).2] 26)).alloc (.cells #[.int .i64 (pt l (k - 2)).1, .int .i64 (pt l (k - 2)).2] 26)).drew) := (((Ext.refl _).alloc _).alloc _).drew
                have p1 : (((wr.alloc (.cells #[.int .i64 (pt l k).1, .int .i64 (pt l k).2] 26)).alloc (.cells #[.int .i64 (pt l (k - 2)).1, .int .i64 (pt l (k - 2)).2] 26)).drew).cell? ⟨wr.heap.size + 1, 0, none⟩ = some (.int .i64 (pt l (k - 2)).1) := by go_simp
                have p2 : (((wr.alloc (.cells #[.int .i64 (pt l k).1, .int .i64 (pt l k).2] 26)).alloc (.cells #[.int .i64 (pt l (k - 2)).1, .int .i64 (pt l (k - 2)).2] 26)).drew).cell? ⟨wr.heap.size + 1, 1, none⟩ = some (.int .i64 (pt l (k - 2)).2) := by go_simp
                have p3 : (((wr.alloc (.cells #[.int .i64 (pt l k).1, .int .i64 (pt l k).2] 26)).alloc (.cells #[.int .i64 (pt l (k - 2)).1, .int .i64 (pt l (k - 2)).2] 26)).drew).cell? ⟨wr.heap.size, 0, none⟩ = some (.int .i64 (pt l k).1) := by go_simp
                have p4 : (((wr.alloc (.cells #[.int .i64 (pt l k).1, .int .i64 (pt l k).2] 26)).alloc (.cells #[.int .i64 (pt l (k - 2)).1, .int .i64 (pt l (k - 2)).2] 26)).drew).cell? ⟨wr.heap.size, 1, none⟩ = some (.int .i64 (pt l k).2) := by go_simp
                clear e1 e2 f1 f2
                generalize (((wr.alloc (.cells #[.int .i64 (pt l k).1, .int .i64 (pt l k).2] 26)).alloc (.cells #[.int .i64 (pt l (k - 2)).1, .int .i64 (pt l (k - 2)).2] 26)).drew) = W at p1 p2 p3 p4 E3 ⊢
                go_wp2
                refine ⟨⟨k + 1, by omega, by omega, by go_num, ?_, he.trans E3⟩, by simp [intOf]; omega⟩
                rw [HK.out, if_pos ⟨hk2, by simpa using hx, by simpa using hy⟩]
                first | rfl | go_num | (simp)
        · go_wp2
          go_ret2
          refine ⟨?_, E2.trans he⟩
          rw [hv.out.1, hv.out.2, HJ.out, show max 2 l.length = k by omega]
          rfl
  · have hv : Hid (bendV g l = 0 ∧ bendE g l = listedErr g l) := by
      show _ ∧ _
      unfold bendV bendE
      rw [if_pos h0, if_pos h0]
      exact ⟨rfl, rfl⟩
    have hb : (listedErr g l != 0) = true := by simp [h0]
    have hb2 : (listedErr g l == 0) = false := by simp [h0]
    clear h0
    go_enter Try.func34, Try.ntmps34
    go_wp2_with fail
    refine (listed_any g l ga gc a cap _ HG.out (HC.out.ext E0) HM.out (HL.out.ext E0)).mono ?_
    rintro e w1 ⟨rfl, hE⟩
    go_wp2
    go_ret2
    rw [hv.out.1, hv.out.2]
    exact ⟨rfl, E0.trans hE⟩
end Go.Proofs.Ytfigooilhnahfaa
