/- Steps of the proof: PartQ, Ducts, Bends, WallE, Same, SameI, Awake. No conditions. -/
import Derived.Test.YtfigooilhnahfaaZChecks1
import Derived.Test.YtfigooilhnahfaaZChecks2
import Derived.Test.YtfigooilhnahfaaZChecks3
import Derived.Test.YtfigooilhnahfaaZChecks4
import Derived.Test.YtfigooilhnahfaaZChecks5
/- The reference's Parts. -/
namespace Go.Proofs.Ytfigooilhnahfaa
open Go.RowKit

theorem infoBool : (Try.prog.info? 4).map (fun i => (i.zero, i.size, i.bytes)) = some (some (.bool false), 1, 1) := by kernel_rfl
/-- the block sb holds n truth values and no more -/
def SeenF (w : World) (sb n : Nat) (f : Nat → Bool) : Prop := (∀ i, i < n → w.cell? ⟨sb, i, none⟩ = some (.bool (f i)) ∧ w.frozen? ⟨sb, i, none⟩ = false) ∧ ∀ i, n ≤ i → w.cell? ⟨sb, i, none⟩ = none
theorem SeenF.congr {w : World} {sb n : Nat} {f h : Nat → Bool} (k : SeenF w sb n f) (e : ∀ i, i < n → f i = h i) : SeenF w sb n h := ⟨fun i hi => by rw [← e i hi]; exact k.1 i hi, k.2⟩
theorem SeenF.same {w w' : World} {sb n : Nat} {f : Nat → Bool} (k : SeenF w sb n f) (h : w'.heap[sb]? = w.heap[sb]?) : SeenF w' sb n f :=
  ⟨fun i hi => ⟨(World.cell?_of_block (w := w) (a := ⟨sb, i, none⟩) h).trans (k.1 i hi).1, (World.frozen?_of_block (w := w) (a := ⟨sb, i, none⟩) h).trans (k.1 i hi).2⟩, fun i hi => (World.cell?_of_block (w := w) (a := ⟨sb, i, none⟩) h).trans (k.2 i hi)⟩
theorem SeenF.set {w : World} {sb n : Nat} {f : Nat → Bool} (k : SeenF w sb n f) {j : Nat} (hj : j < n) : SeenF (w.setCell ⟨sb, j, none⟩ (.bool true)) sb n (fun i => f i || decide (i = j)) := by
  refine ⟨fun i hi => ⟨?_, by rw [World.frozen?_setCell]; exact (k.1 i hi).2⟩, fun i hi => ?_⟩
  · by_cases e : i = j
    · subst e; rw [World.cell?_setCell_same _ _ _ (k.1 i hi).1]; simp
    · rw [World.cell?_setCell_other _ _ _ _ (fun h => e (by simp only [Addr.mk.injEq, true_and, and_true] at h; exact h.symm)), (k.1 i hi).1]; simp [e]
  · rw [World.cell?_setCell_other _ _ _ _ (fun h => by simp only [Addr.mk.injEq, true_and, and_true] at h; omega)]
    exact k.2 i hi
theorem SeenF.ne {w : World} {sb n : Nat} {f : Nat → Bool} (k : SeenF w sb n f) {b off : Nat} {x : Int} (h : w.cell? ⟨b, off, none⟩ = some (.int .i64 x)) : b ≠ sb := by
  rintro rfl
  by_cases hi : off < n
  · rw [(k.1 off hi).1] at h; cases h
  · rw [k.2 off (by omega)] at h; cases h
theorem SeenF.lt {w : World} {sb n : Nat} {f : Nat → Bool} (k : SeenF w sb n f) (hn : 0 < n) : sb < w.heap.size := cell_lt (k.1 0 hn).1
theorem CellsI.chg {B : Nat → Prop} {w w' : World} {a : Option Addr} {l : List Int} (h : CellsI w a l) (he : Chg B w w') (hm : ∀ b off, a = some ⟨b, off, none⟩ → ¬ B b) : CellsI w' a l := fun i hi => by
  obtain ⟨b, off, h1, h2⟩ := h i hi
  exact ⟨b, off, h1, (World.cell?_of_block (w := w) (a := ⟨b, _, none⟩) (he.2 b (cell_lt h2) (hm b off h1))).trans h2⟩
theorem OwnsI.chg {B : Nat → Prop} {w w' : World} {v : Value} {l : List Int} (h : OwnsI w v l) (he : Chg B w w') (hm : ∀ b, v.ownBlock = some b → ¬ B b) : OwnsI w' v l :=
  h.kept (X := fun k => ¬ B k) (n := 0) (he.kept (fun _ hk _ => hk)) hm
/-- a store into a slice of one's own -/
theorem OwnsI.set {w : World} {b n cap : Nat} {l : List Int} (h : OwnsI w (.slice (some ⟨b, 0, none⟩) n cap) l) {i : Nat} (_hi : i < l.length) (x : Int) : OwnsI (w.setCell ⟨b, i, none⟩ (.int .i64 x)) (.slice (some ⟨b, 0, none⟩) n cap) (l.set i x) := by
  unfold OwnsI at h ⊢
  obtain ⟨h1, h2⟩ := h
  refine ⟨by simp [vals], ?_⟩
  rcases h2 with ⟨hv, _⟩ | ⟨g, c, cur, hv, hg, hh, hnc, hm, hcs, ht⟩
  · cases hv
  · injection hv with hv1 hv2 hv3
    injection hv1 with hv1
    injection hv1 with hv1 _ _
    subst hv1; subst hv2; subst hv3
    refine .inr ⟨b, cap, cur.setIfInBounds i (.int .i64 x), by simp, hg, ?_, by simpa using hnc, hm, by simpa using hcs, ?_⟩
    · simp only [World.setCell, Array.getElem?_modify, hh]
      simp
    · rw [List.length_set, Array.toList_setIfInBounds, List.take_set, ht]
      unfold vals
      rw [List.map_set]

theorem OwnsI.at {w : World} {b n cap : Nat} {l : List Int} (h : OwnsI w (.slice (some ⟨b, 0, none⟩) n cap) l) {i : Nat} (hi : i < l.length) : w.cell? ⟨b, i, none⟩ = some (.int .i64 (l.getD i 0)) ∧ w.frozen? ⟨b, i, none⟩ = false := by
  obtain ⟨a, c, hv, _, hb⟩ := h.reads
  rcases hb with rfl | ⟨b', rfl, _, hc⟩
  · simp at hi
  · injection hv with hv _ _
    injection hv with hv
    injection hv with hv _ _
    subst hv
    exact hc i hi

/-- what holds between the rounds of Parts -/
structure PQ (g : Gr) (W0 : World) (sb n k : Nat) (v : Value) (w : World) : Prop where
  se : SeenF w sb n (fun i => decide (cellAt g i ∈ (partK g k).1))
  own : OwnsI w v (isortD (partK g k).2)
  vb : ∀ b, v.ownBlock = some b → sb < b
  be : Below sb W0 w

theorem partStep_seen {g : Gr} {k : Nat} (h : cellAt g k ∈ (partK g k).1) : partK g (k + 1) = partK g k := by
  show partStep g (partK g k) (cellAt g k) = _
  unfold partStep
  rw [if_pos h]
theorem partStep_blk {g : Gr} {k : Nat} (h : blk g (cellAt g k) = true) : partK g (k + 1) = partK g k := by
  show partStep g (partK g k) (cellAt g k) = _
  unfold partStep
  rw [if_pos h]
  split <;> rfl
theorem partStep_new {g : Gr} {k : Nat} (h : ¬ cellAt g k ∈ (partK g k).1) (h2 : blk g (cellAt g k) = false) : partK g (k + 1) = (insAll (partK g k).1 ((wave g (cellAt g k)).map (·.1)), (partK g k).2 ++ [((wave g (cellAt g k)).length : Int)]) := by
  show partStep g (partK g k) (cellAt g k) = _
  unfold partStep
  rw [if_neg h, if_neg (by simp [h2])]
theorem partsL_is {g : Gr} (h : chk g = 0) : isortD (partK g (g.rows.toNat * g.cols.toNat)).2 = partsL g := by
  unfold partsL
  rw [if_neg (by simp [h])]
  exact isortD_is _

set_option maxHeartbeats 4000000 in
set_option maxRecDepth 100000 in
theorem PartsR_any (g : Gr) (ga : Option Addr) (gc : Nat) (w : World) (hg : g.bl.length ≤ maxLen) (hc : Cells2 w ga g.bl) :
    Calls Try.prog 23 #[.agg #[.int .i64 g.rows, .int .i64 g.cols, .slice ga g.bl.length gc]] w fun e w' => PartsPost g w e w' := by
  have HC : Hid (Cells2 w ga g.bl) := hc
  have HG := Lib.hid hg
  clear hc hg
  have E0 : Ext w ((w).alloc (.cells #[.int .i64 g.rows, .int .i64 g.cols, .slice ga g.bl.length gc] 24)) := (Ext.refl _).alloc _
  have a1 : ((w).alloc (.cells #[.int .i64 g.rows, .int .i64 g.cols, .slice ga g.bl.length gc] 24)).cell? ⟨w.heap.size, 0, none⟩ = some (.int .i64 g.rows) := by go_simp
  have a2 : ((w).alloc (.cells #[.int .i64 g.rows, .int .i64 g.cols, .slice ga g.bl.length gc] 24)).cell? ⟨w.heap.size, 1, none⟩ = some (.int .i64 g.cols) := by go_simp
  have a3 : ((w).alloc (.cells #[.int .i64 g.rows, .int .i64 g.cols, .slice ga g.bl.length gc] 24)).cell? ⟨w.heap.size, 2, none⟩ = some (.slice ga g.bl.length gc) := by go_simp
  by_cases h0 : chk g = 0
  · have hr := right_of_chk h0
    have H0 := Lib.hid h0
    obtain ⟨n, hn⟩ : ∃ n, n = g.rows.toNat * g.cols.toNat := ⟨_, rfl⟩
    have hn1 : n ≤ 4096 := by rw [hn]; exact Nat.mul_le_mul (show g.rows.toNat ≤ 64 by have := hr.r2; omega) (show g.cols.toNat ≤ 64 by have := hr.c2; omega)
    have hn0 : 0 < n := by rw [hn]; exact Nat.mul_pos (by have := hr.r1; omega) (by have := hr.c1; omega)
    have hmul : IntKind.i64.wrap (g.rows * g.cols) = (n : Int) := by
      have h1 := hr.r1; have h2 := hr.c1
      have e : g.rows * g.cols = (n : Int) := by
        rw [hn, Int.natCast_mul, Int.toNat_of_nonneg (by omega), Int.toNat_of_nonneg (by omega)]
      rw [e]; exact IntWalk.i64_in _ (by omega)
    have HR := Lib.hid hr
    have HNN := Lib.hid hn
    obtain ⟨i0, hi, hi0, hi1, hi2⟩ := info_parts infoBool
    clear h0 hr hn
    go_enter Try.func23, Try.ntmps23
    go_wp2_with fail
    refine (CheckR_any g ga gc _ HG.out (HC.out.ext E0)).mono ?_
    rintro e w1 ⟨rfl, hE⟩
    rw [H0.out]
    have E1 : Ext w w1 := E0.trans hE
    have a1 := hE.cell a1
    have a2 := hE.cell a2
    have a3 := hE.cell a3
    clear hE E0
    go_wp2_with (at_make; refine wpList_make_full _ rfl _ _ 104 rfl 0 4 i0 (.bool false) 1 Try.underlying104 hi hi0 hi1 _ _ _ _ n rfl rfl rfl rfl ?b2 ?b3 ?b4 ?hK)
    case b2 => rw [hi2]; omega
    case b3 => unfold maxLen; omega
    case b4 => exact Nat.zero_le _
    case hK =>
      intro w2 hown hgr
      obtain ⟨sb, hsb⟩ : ∃ sb, sb = w1.heap.size := ⟨_, rfl⟩
      have hz1 : sb < w2.heap.size := by rw [hsb]; exact (World.ownsRow.lt hown _ rfl).2
      have E2 : Ext w1 w2 := ⟨hgr.os, hgr.tape, hgr.output, hgr.size, fun k hk => hgr.block k hk (by simp)⟩
      have zw : w.heap.size < sb := by rw [hsb]; exact cell_lt a1
      have a1 := E2.cell a1
      have a2 := E2.cell a2
      have a3 := E2.cell a3
      have EW := E1.trans E2
      have HS0 : Hid (SeenF w2 sb n (fun i => decide (cellAt g i ∈ (partK g 0).1))) := by
        rw [hsb]
        refine ⟨fun j hj => ⟨?_, hown.frozenAt j⟩, fun j hj => ?_⟩
        · rw [hown.cellAt j (by omega)]
          simp [madeCells, hj, Nat.mod_one, partK]
        · rcases hown.2 with ⟨hv, _⟩ | ⟨b, c, cur, hv, _, hh, _, _, hcs, _⟩
          · cases hv
          · injection hv with hv1 hv2 hv3
            injection hv1 with hv1
            injection hv1 with hv1 _ _
            subst hv1
            unfold World.cell?
            dsimp only
            rw [hh]
            simp
            omega
      have HCW := Lib.hid (HC.out.ext EW)
      have HBL : Hid (g.bl ≠ [] → ∀ b off, ga = some ⟨b, off, none⟩ → b < sb) := fun hne b off hb => by
        have := HC.out.lt hne hb
        omega
      rw [← hsb]
      clear hsb hown hgr E2 E1 hmul hi hi0 hi1 hi2 i0
      go_wp2
      go_loopw [6, 7] (fun v i wr => ∃ k : Nat, k ≤ n ∧ i = .int .i64 k ∧ Hid (PQ g w2 sb n k v wr)) (fun _ i _ => n - (intOf i).toNat)
      case atStart => exact ⟨0, Nat.zero_le _, rfl, PQ.mk HS0.out (OwnsI.nil _) (fun b hb => by cases hb) (Below.refl _ _)⟩
      case round =>
        obtain ⟨k, hk, rfl, hP⟩ := hrel
        have zwr : w2.heap.size ≤ wr.heap.size := hP.out.be.size
        by_cases hlt : k < n
        · have hlt' : (k : Int) < (n : Int) := by omega
          have a1 : wr.cell? ⟨w.heap.size, 0, none⟩ = some (.int .i64 g.rows) := (hP.out.be.cell (p := ⟨w.heap.size, 0, none⟩) zw).trans a1
          have a2 : wr.cell? ⟨w.heap.size, 1, none⟩ = some (.int .i64 g.cols) := (hP.out.be.cell (p := ⟨w.heap.size, 1, none⟩) zw).trans a2
          have a3 : wr.cell? ⟨w.heap.size, 2, none⟩ = some (.slice ga g.bl.length gc) := (hP.out.be.cell (p := ⟨w.heap.size, 2, none⟩) zw).trans a3
          have HCR := Lib.hid (HCW.out.below hP.out.be HBL.out)
          obtain ⟨P, hPe⟩ : ∃ P : Pt, P = cellAt g k := ⟨_, rfl⟩
          have hin : inside g P = true := by rw [hPe]; exact cellAt_inside HR.out (by rw [← HNN.out]; exact hlt)
          obtain ⟨ig1, ig2, ig3, ig4⟩ := inG_of HR.out hin
          have x1 : (k : Int).tdiv g.cols = P.1 := by rw [hPe]; exact (quoF HR.out k).1
          have x2 : (k : Int).tmod g.cols = P.2 := by rw [hPe]; exact (quoF HR.out k).2.1
          have x3 : (k : Int) / g.cols = P.1 := by rw [hPe]; exact (quoF HR.out k).2.2.1
          have x4 : (k : Int) % g.cols = P.2 := by rw [hPe]; exact (quoF HR.out k).2.2.2
          have x5 : IntKind.i64.wrap P.1 = P.1 := IntWalk.i64_in _ (by omega)
          have x6 : IntKind.i64.wrap P.2 = P.2 := IntWalk.i64_in _ (by omega)
          have x7 : (g.cols == 0) = false := by have := HR.out.c1; simp; omega
          have x8 : ¬ g.cols = 0 := by have := HR.out.c1; omega
          have HIN := Lib.hid hin
          have HPP := Lib.hid hPe
          clear hPe hin
          have zg := cell_lt a1
          dsimp only at zg
          obtain ⟨L, hL⟩ : ∃ L, L = isortD (partK g k).2 := ⟨_, rfl⟩
          have HLL := Lib.hid hL
          have hLm : L.length ≤ 4096 := by
            rw [hL, isortD_len]
            have := partK_len g k
            omega
          obtain ⟨vv, vvc, hvv, _, _⟩ := hP.out.own.reads
          rw [← hL] at hvv
          subst hvv
          clear hL
          go_wp2_with fail
          go_region_held3 (fun w' => Sees wr w') ((repeat (first | exact Sees.refl _ | assumption | apply Sees.store | apply Sees.drew | apply Sees.alloc | (refine Sees.ext ?_ (by assumption))))) (fail)
          clear ig1 ig2 ig3 ig4 x1 x2 x3 x4 x5 x6 x7 x8 zg
          have E3 : Ext wr ((wr.alloc (.cells #[.int .i64 P.1, .int .i64 P.2] 26)).drew) := ((Ext.refl _).alloc _).drew
          have c1 : ((wr.alloc (.cells #[.int .i64 P.1, .int .i64 P.2] 26)).drew).cell? ⟨wr.heap.size, 0, none⟩ = some (.int .i64 P.1) := by go_simp
          have c2 : ((wr.alloc (.cells #[.int .i64 P.1, .int .i64 P.2] 26)).drew).cell? ⟨wr.heap.size, 1, none⟩ = some (.int .i64 P.2) := by go_simp
          have a1 := E3.cell a1
          have a2 := E3.cell a2
          have a3 := E3.cell a3
          have HSE := Lib.hid (hP.out.se.same (Below.block E3 sb (by omega)))
          have HOW := Lib.hid (hP.out.own.ext E3)
          rw [← HLL.out] at HOW
          have HVB := Lib.hid hP.out.vb
          have HB3 : Hid (Below sb w2 ((wr.alloc (.cells #[.int .i64 P.1, .int .i64 P.2] 26)).drew)) := Below.trans hP.out.be (E3.mono (by omega))
          have HC3 := Lib.hid (HCR.out.ext E3)
          have z3 : sb < ((wr.alloc (.cells #[.int .i64 P.1, .int .i64 P.2] 26)).drew).heap.size := by have := E3.size; omega
          obtain ⟨pb, hpb⟩ : ∃ pb, pb = wr.heap.size := ⟨_, rfl⟩
          rw [← hpb] at c1 c2 ⊢
          clear hpb hP E3 HCR
          generalize (wr.alloc (.cells #[.int .i64 P.1, .int .i64 P.2] 26)).drew = W3 at a1 a2 a3 c1 c2 HSE HOW HB3 HC3 z3 ⊢
          have d1 : W3.cell? ⟨sb, k, none⟩ = some (.bool (decide (P ∈ (partK g k).1))) := by
            have := (HSE.out.1 k hlt).1
            rw [HPP.out]
            exact this
          by_cases hsn : P ∈ (partK g k).1
          · rw [decide_eq_true hsn] at d1
            have HST : Hid (partK g (k + 1) = partK g k) := partStep_seen (by rw [← HPP.out]; exact hsn)
            clear hsn
            go_wp2
            exact ⟨⟨k + 1, by omega, by go_num, PQ.mk (by rw [HST.out]; exact HSE.out) (by rw [HST.out, ← HLL.out]; exact HOW.out) HVB.out HB3.out⟩, by simp [intOf]; omega⟩
          · rw [decide_eq_false hsn] at d1
            have HSN := Lib.hid hsn
            clear hsn
            go_wp2_with fail
            refine (Has_any g.bl P ga gc _ HG.out HC3.out).mono ?_
            rintro e W4 ⟨rfl, hE⟩
            have a1 := hE.cell a1
            have a2 := hE.cell a2
            have a3 := hE.cell a3
            have c1 := hE.cell c1
            have c2 := hE.cell c2
            have HSE := Lib.hid (HSE.out.same (Below.block hE sb z3))
            have HOW := Lib.hid (HOW.out.ext hE)
            have HB4 := Lib.hid (Below.trans HB3.out (hE.mono (by omega)))
            have HC4 := Lib.hid (HC3.out.ext hE)
            have z4 : sb < W4.heap.size := by have := hE.size; omega
            clear hE HB3 HC3 z3 d1
            by_cases hbk : P ∈ g.bl
            · have HST : Hid (partK g (k + 1) = partK g k) := partStep_blk (by rw [← HPP.out]; unfold blk; simp [hbk])
              rw [decide_eq_true hbk]
              clear hbk
              go_wp2
              exact ⟨⟨k + 1, by omega, by go_num, PQ.mk (by rw [HST.out]; exact HSE.out) (by rw [HST.out, ← HLL.out]; exact HOW.out) HVB.out HB4.out⟩, by simp [intOf]; omega⟩
            · rw [decide_eq_false hbk]
              have HST := Lib.hid (partStep_new (g := g) (k := k) (by rw [← HPP.out]; exact HSN.out) (by rw [← HPP.out]; unfold blk; simp [hbk]))
              rw [← HPP.out] at HST
              clear hbk
              go_wp2_with fail
              refine (Far_any2 g P ga gc n _ HNN.out HR.out HIN.out HC4.out).mono ?_
              rintro e W5 ⟨fa, fc, rfl, hI, hE⟩
              have a1 := hE.cell a1
              have a2 := hE.cell a2
              have a3 := hE.cell a3
              have HSE := Lib.hid (HSE.out.same (Below.block hE sb z4))
              have HOW := Lib.hid (HOW.out.ext hE)
              have HB5 := Lib.hid (Below.trans HB4.out (hE.mono (by omega)))
              have HI := Lib.hid hI
              have z5 : sb < W5.heap.size := by have := hE.size; omega
              clear hE HB4 HC4 z4 hI c1 c2
              go_wp2_with fail
              go_loopw [9, 53] (fun c i wx => ∃ j : Nat, j ≤ n ∧ i = .int .i64 j ∧ c = .int .i64 (cntD (dst g P) g j) ∧ Hid (SeenF wx sb n (fun i => decide (cellAt g i ∈ (partK g k).1) || (decide (i < j) && decide (0 ≤ dst g P (cellAt g i))))) ∧ Hid (Chg (fun b => b = sb) W5 wx) ∧ Hid (Below sb W5 wx)) (fun _ i _ => n - (intOf i).toNat)
              case atStart => exact ⟨0, Nat.zero_le _, rfl, rfl, HSE.out.congr (fun i _ => by simp), Chg.refl _ _, Below.refl _ _⟩
              case round =>
                obtain ⟨j, hj, rfl, rfl, hsf, hch, hbe⟩ := hrel
                have hcn := cntD_le (dst g P) g j
                by_cases hjl : j < n
                · have hjl' : (j : Int) < (n : Int) := by omega
                  have HJ : Hid (j < g.rows.toNat * g.cols.toNat) := by show _ < _; rw [← HNN.out]; exact hjl
                  obtain ⟨fb, foff, hfa, e1⟩ := (HI.out.chg hch.out (fun b off h => by
                    obtain ⟨b', off', h1, h2⟩ := HI.out 0 (by rw [tabL_len, ← HNN.out]; omega)
                    rw [h] at h1
                    injection h1 with h1
                    injection h1 with h1 _ _
                    subst h1
                    exact HSE.out.ne h2)) j (by rw [tabL_len]; exact HJ.out)
                  subst hfa
                  rw [tabL_get HJ.out] at e1
                  have zf := cell_lt e1
                  dsimp only at zf
                  obtain ⟨d1, d2⟩ := hsf.out.1 j hjl
                  dsimp only at d1
                  have hcs : cntD (dst g P) g (j + 1) = cntD (dst g P) g j + if 0 ≤ dst g P (cellAt g j) then 1 else 0 := rfl
                  generalize hD : dst g P (cellAt g j) = D at e1 hcs
                  by_cases hpos : 0 ≤ D
                  · rw [if_pos hpos] at hcs
                    have HCS := Lib.hid hcs
                    have HDP : Hid (0 ≤ dst g P (cellAt g j)) := by show _ ≤ _; rw [hD]; exact hpos
                    have w1 : IntKind.i64.wrap ((cntD (dst g P) g j : Nat) + 1 : Int) = (cntD (dst g P) g j : Nat) + 1 := IntWalk.i64_in _ (by omega)
                    clear hcs hD
                    go_wp2
                    refine ⟨⟨j + 1, by omega, by go_num, by rw [HCS.out]; go_num, (hsf.out.set hjl).congr (fun i hi => ?_), hch.out.trans (Chg.setCell (B := fun b => b = sb) ⟨sb, _, none⟩ _ rfl), Below.setCell (p := ⟨sb, _, none⟩) hbe.out (Nat.le_refl _) _⟩, by simp [intOf]; omega⟩
                    by_cases e : i = j
                    · subst e; simp [HDP.out]
                    · have : decide (i < j + 1) = decide (i < j) := by simp; omega
                      rw [this]; simp [e]
                  · rw [if_neg hpos] at hcs
                    have HCS := Lib.hid hcs
                    have HDP : Hid (¬ 0 ≤ dst g P (cellAt g j)) := by show ¬ _; rw [hD]; exact hpos
                    clear hcs hD
                    go_wp2
                    refine ⟨⟨j + 1, by omega, by go_num, by rw [HCS.out]; rfl, hsf.out.congr (fun i hi => ?_), hch.out, hbe.out⟩, by simp [intOf]; omega⟩
                    by_cases e : i = j
                    · subst e; simp [HDP.out]
                    · have : decide (i < j + 1) = decide (i < j) := by simp; omega
                      rw [this]
                · have hje : j = n := by omega
                  subst hje
                  have hcw : cntD (dst g P) g j = (wave g P).length := by rw [HNN.out]; exact cnt_wave HR.out HIN.out
                  have hwl := wave_len HR.out HIN.out
                  obtain ⟨x, hx⟩ : ∃ x : Int, x = ((wave g P).length : Int) := ⟨_, rfl⟩
                  have HSE7 : Hid (SeenF wr sb j (fun i => decide (cellAt g i ∈ insAll (partK g k).1 ((wave g P).map (·.1))))) := hsf.out.congr (fun i hi => by
                    rw [Bool.eq_iff_iff]
                    simp only [Bool.or_eq_true, Bool.and_eq_true, decide_eq_true_eq, insAll_mem, mem_wave HR.out HIN.out]
                    constructor
                    · rintro (h | h)
                      · exact .inl h
                      · exact .inr h.2
                    · rintro (h | h)
                      · exact .inl h
                      · exact .inr ⟨hi, h⟩)
                  have HOW7 : Hid (OwnsI wr (.slice vv L.length vvc) L) := HOW.out.chg hch.out (fun b hb e => by have := HVB.out b hb; omega)
                  have HB7 := Lib.hid (Below.trans HB5.out hbe.out)
                  have z7 : sb < wr.heap.size := by have := hch.out.1; omega
                  rw [← hx] at HST
                  rw [hcw, ← hx]
                  obtain ⟨i0, hi, hi0, hi1, hi2⟩ := info_parts infoInt
                  clear hx hwl hcw hsf hch hbe HSE HOW HB5 z5 a1 a2 a3 hcn hjl hj
                  go_wp2_with (at_builtin; refine wpList_append1 _ rfl _ _ 50 rfl 3 i0 (.int .i64 0) 1 8 Try.underlying50 hi hi0 hi1 hi2 rfl (by decide) (.slice vv L.length vvc) _ _ rfl (HOW7.out.ext ((Ext.refl _).alloc _)) ⟨wr.heap.size, 0, none⟩ 1 1 (by decide) [.int .i64 x] rfl rfl (cell_one_int _ _ _) ?c1 ?c2 ?c3 ?c4)
                  case c1 => intro u hu; simp at hu; subst hu; rfl
                  case c2 => unfold maxLen; omega
                  case c3 => omega
                  case c4 =>
                    intro v' w6 hown hend
                    have O6 : OwnsI w6 v' (L ++ [x]) := ownsI_succ hown
                    obtain ⟨va, vc, hva, _, hbk⟩ := O6.reads
                    rcases hbk with hbk | ⟨b2, rfl, hb2, _⟩
                    · simp at hbk
                    rw [List.length_append, List.length_singleton] at hva
                    have hsb2 : sb < b2 := by
                      rcases hend with ⟨h1, _, _⟩ | ⟨h1, _⟩
                      · rw [h1] at hb2; exact HVB.out b2 hb2
                      · rw [h1] at hb2; injection hb2 with hb2; simp at hb2; omega
                    have CA : Chg (fun b => (Value.slice vv L.length vvc).ownBlock = some b) (wr.alloc (.cells #[.int .i64 x] 3)) w6 := Chg.app hend (fun b hb => hb)
                    have EA : Ext wr (wr.alloc (.cells #[.int .i64 x] 3)) := (Ext.refl _).alloc _
                    have hz6 : (wr.alloc (.cells #[.int .i64 x] 3)).heap.size = wr.heap.size + 1 := by simp
                    have z6 : sb < w6.heap.size := by have := CA.1; omega
                    have HSE6 := Lib.hid ((HSE7.out.same (Below.block EA sb z7)).same (CA.2 sb (by omega) (fun e => by have := HVB.out sb e; omega)))
                    have HB6 : Hid (Below sb w2 w6) := Below.trans HB7.out (Below.trans (EA.mono (by omega)) (hend.below (n := sb) (by omega) (fun b hb => Nat.le_of_lt (HVB.out b hb))))
                    subst hva
                    have HO6 : Hid (OwnsI w6 (.slice (some ⟨b2, 0, none⟩) (L.length + 1) vc) (putAt L x L.length)) := by show OwnsI _ _ _; rw [putAt_end]; exact O6
                    have FIN : Hid (∀ (t : Nat) (wy : World), pos L x L.length = t → OwnsI wy (.slice (some ⟨b2, 0, none⟩) (L.length + 1) vc) (putAt L x t) → Chg (fun b => b = b2) w6 wy → Below sb w6 wy → PQ g w2 sb j (k + 1) (.slice (some ⟨b2, 0, none⟩) (L.length + 1) vc) wy) := fun t wy h2 h3 h4 h5 =>
                      PQ.mk (by rw [HST.out]; exact HSE6.out.same (h4.2 sb z6 (by omega))) (by rw [HST.out, isortD_snoc, ← HLL.out]; unfold insD; rw [h2]; exact h3) (fun b hb => by cases hb; exact hsb2) (Below.trans HB6.out h5)
                    have q1 : IntKind.i64.wrap ((L.length : Int) + 1 - 1) = (L.length : Int) := by rw [Int.add_sub_cancel]; exact IntWalk.i64_in _ (by omega)
                    clear hown hend O6 hb2 CA EA hz6 HSE6 HSE7 HOW7 HB7 z7 hi hi0 hi1 hi2 i0 HB6
                    go_wp2
                    go_loopw [12] (fun i wy => ∃ t : Nat, t ≤ L.length ∧ i = .int .i64 t ∧ Hid (pos L x L.length = pos L x t) ∧ Hid (OwnsI wy (.slice (some ⟨b2, 0, none⟩) (L.length + 1) vc) (putAt L x t)) ∧ Hid (Chg (fun b => b = b2) w6 wy) ∧ Hid (Below sb w6 wy)) (fun i _ => (intOf i).toNat)
                    case atStart => exact ⟨L.length, Nat.le_refl _, rfl, rfl, HO6.out, Chg.refl _ _, Below.refl _ _⟩
                    case round =>
                      obtain ⟨t, ht, rfl, hps, ho, hch2, hbe2⟩ := hrel
                      cases t with
                      | zero =>
                        go_wp2
                        go_quiet (fail)
                        go_wp2
                        exact ⟨⟨k + 1, by omega, by go_num, (FIN.out 0 _ hps.out ho.out (hch2.out.trans (Chg.ext ((Ext.refl wr).drewN _))) (Below.trans hbe2.out (Below.mono ((Ext.refl wr).drewN _) (by have := hch2.out.1; omega))))⟩, by simp [intOf]; omega⟩
                      | succ s =>
                        have e1 : wr.cell? ⟨b2, s + 1, none⟩ = some (.int .i64 x) := by
                          have := (ho.out.at (i := s + 1) (by rw [putAt_len _ _ ht]; omega)).1
                          rw [putAt_get L x ht, if_neg (by omega), if_pos rfl] at this
                          exact this
                        have e2 : wr.frozen? ⟨b2, s + 1, none⟩ = false := (ho.out.at (i := s + 1) (by rw [putAt_len _ _ ht]; omega)).2
                        have e3 : wr.cell? ⟨b2, s, none⟩ = some (.int .i64 (L.getD s 0)) := by
                          have := (ho.out.at (i := s) (by rw [putAt_len _ _ ht]; omega)).1
                          rw [putAt_get L x ht, if_pos (by omega)] at this
                          exact this
                        have e4 : wr.frozen? ⟨b2, s, none⟩ = false := (ho.out.at (i := s) (by rw [putAt_len _ _ ht]; omega)).2
                        have zy := cell_lt e1
                        dsimp only at zy
                        have hpq : pos L x (s + 1) = if L.getD s 0 < x then pos L x s else s + 1 := rfl
                        have hst : putAt L x s = ((putAt L x (s + 1)).set (s + 1) (L.getD s 0)).set s x := putAt_step L x ht
                        generalize hy : L.getD s 0 = y at e3 hpq hst
                        have q2 : IntKind.i64.wrap ((s : Int) + 1 - 1) = (s : Int) := by rw [Int.add_sub_cancel]; exact IntWalk.i64_in _ (by omega)
                        have q3 : (0 : Int) ≤ (s : Int) := Int.natCast_nonneg s
                        have q4 : (0 : Int) ≤ (s : Int) + 1 := by omega
                        have q5 : (s : Int) + 1 < (L.length : Int) + 1 := by omega
                        have q6 : (s : Int) < (L.length : Int) + 1 := by omega
                        have q7 : (0 : Int) < (s : Int) + 1 := by omega
                        by_cases hgt : y < x
                        · rw [if_pos hgt] at hpq
                          have HPQ := Lib.hid (hps.out.trans hpq)
                          have HSTQ := Lib.hid hst
                          clear hpq hst hy
                          go_wp2
                          go_quiet (fail)
                          go_wp2_with fail
                          go_region
                          go_wp2
                          have ED : Ext wr (wr.drewN (nq + 1)) := (Ext.refl wr).drewN _
                          have hzl : sb ≤ wr.heap.size := by have := hch2.out.1; omega
                          refine ⟨⟨s, by omega, by go_num, HPQ.out, ?_, ?_, ?_⟩, by simp [intOf]⟩
                          · show OwnsI _ _ _
                            rw [HSTQ.out]
                            exact ((ho.out.ext ED).set (by rw [putAt_len _ _ ht]; omega) y).set (by rw [List.length_set, putAt_len _ _ ht]; omega) x
                          · exact ((hch2.out.trans (Chg.ext ED)).trans (Chg.setCell (B := fun b => b = b2) ⟨b2, _, none⟩ _ rfl)).trans (Chg.setCell (B := fun b => b = b2) ⟨b2, _, none⟩ _ rfl)
                          · exact Below.setCell (p := ⟨b2, _, none⟩) (Below.setCell (p := ⟨b2, _, none⟩) (Below.trans hbe2.out (Below.mono ED hzl)) (Nat.le_of_lt hsb2) _) (Nat.le_of_lt hsb2) _
                        · rw [if_neg hgt] at hpq
                          have HPQ := Lib.hid (hps.out.trans hpq)
                          clear hpq hst hy
                          go_wp2
                          go_quiet (fail)
                          go_wp2
                          exact ⟨⟨k + 1, by omega, by go_num, (FIN.out (s + 1) _ HPQ.out ho.out (hch2.out.trans (Chg.ext ((Ext.refl wr).drewN _))) (Below.trans hbe2.out (Below.mono ((Ext.refl wr).drewN _) (by have := hch2.out.1; omega))))⟩, by simp [intOf]; omega⟩
        · have hke : k = n := by omega
          subst hke
          obtain ⟨va, vc, rfl, hci, _⟩ := hP.out.own.reads
          have HCI := Lib.hid hci
          clear hci
          have hlt' : ¬ (k : Int) < (k : Int) := by omega
          go_wp2
          go_ret2
          refine ⟨va, vc, ?_, ?_, ?_⟩
          · rw [← partsL_is H0.out, ← HNN.out, H0.out]; rfl
          · rw [← partsL_is H0.out, ← HNN.out]; exact HCI.out
          · exact Below.trans EW (hP.out.be.mono (by omega))
  · have hb : (chk g != 0) = true := by simp [h0]
    have hb2 : (chk g == 0) = false := by simp [h0]
    have hp : partsL g = [] := by unfold partsL; rw [if_pos h0]
    have HPE := Lib.hid hp
    clear h0 hp
    go_enter Try.func23, Try.ntmps23
    go_wp2_with fail
    refine (CheckR_any g ga gc _ HG.out (HC.out.ext E0)).mono ?_
    rintro e w1 ⟨rfl, hE⟩
    go_wp2
    go_ret2
    exact ⟨none, 0, by rw [HPE.out]; rfl, by rw [HPE.out]; exact CellsI.nil _ _, E0.trans hE⟩
end Go.Proofs.Ytfigooilhnahfaa
/- Ducts. -/
namespace Go.Proofs.Ytfigooilhnahfaa
open Go.RowKit Go.Maps

def setIns {α : Type} [DecidableEq α] (S : List α) (a : α) : List α := if a ∈ S then S else a :: S
theorem wpList_setAdd {α : Type} [DecidableEq α] {P : Program} {ev : α → Value} (w : World) {ops : Array Oper} {rest : List Oper} {o : Oper} {a : Act} {Q : Exit → Act → World → Prop}
    (hg : o.guard = none) (m x v : Operand) (t : TypeId) (hop : o.op = Op.mapUpdate t m x v) (k e : TypeId) (K : Keyed P k) (ht : P.underlying t = some (.map k e)) (he : P.underlying e = some .bool) (b n : Nat) (S : List α)
    (hm : a.eval m = .map (some b)) (hs : SetAt P k e ev w b n S) (hn : n < maxLen) (hinj : ∀ x y, ev x = ev y → x = y) (y : α) (kl : Lit) (hx : a.eval x = ev y) (hv : a.eval v = .bool true) (hkey : keyOf P k (ev y) = some kl)
    (hK : ∀ w', SetAt P k e ev w' b (n + 1) (setIns S y) → w.grownBy w' (some b) → wpList P ops Q rest (a.put o.dst undef) w') :
    wpList P ops Q (o :: rest) a w := by
  refine wpList_plain hg fun K' hK' => ?_
  obtain ⟨w', hrun, r1, r2⟩ := hs.update K ht he hn hinj hkey
  unfold Oper.wp
  simp [execOp, hop, hm, hx, hv, hrun, Result.andThen]
  exact hK' _ _ (hK w' r1 r2)

theorem SetAt.len {α : Type} [DecidableEq α] {P : Program} {k e : TypeId} {ev : α → Value} {w : World} {b n : Nat} {S : List α} (h : SetAt P k e ev w b n S) {t e' : TypeId} (ht : P.underlying t = some (.map k e')) (ty : TypeId) : (Builtin.len_ #[t] ty #[.map (some b)]).run P w = .ok (.int .i64 S.length) w := by
  obtain ⟨D, h1, _, h3, _⟩ := h
  rw [← h3]
  exact h1.len ht ty
theorem wpList_setLen {α : Type} [DecidableEq α] {P : Program} {ev : α → Value} (w : World) {ops : Array Oper} {rest : List Oper} {o : Oper} {a : Act} {Q : Exit → Act → World → Prop}
    (hg : o.guard = none) (m : Operand) (t : TypeId) (hop : o.op = Op.call { callee := Callee.builtin Builtin.len, args := #[m], argTypes := #[t] }) (k e : TypeId) (ht : P.underlying t = some (.map k e)) (b n : Nat) (S : List α)
    (hm : a.eval m = .map (some b)) (hs : SetAt P k e ev w b n S) (hK : wpList P ops Q rest (a.put o.dst (.int .i64 S.length)) w) :
    wpList P ops Q (o :: rest) a w := by
  refine wpList_plain hg fun K' hK' => ?_
  unfold Oper.wp
  simp [execOp, hop, resolve, invoke, builtin, hm, hs.len ht o.type, Result.andThen]
  exact hK' _ _ hK

theorem hosesErr_step {g : Gr} {hs : List Hose} {n k : Nat} (h : hoseErr g (ph hs k) = 0) : hosesErr g hs (n + 1) k = hosesErr g hs n (k + 1) := by
  conv => lhs; unfold hosesErr
  rw [if_neg (by simp [h])]
theorem hosesErr_stop {g : Gr} {hs : List Hose} {n k : Nat} (h : hoseErr g (ph hs k) ≠ 0) : hosesErr g hs (n + 1) k = hoseErr g (ph hs k) := by
  conv => lhs; unfold hosesErr
  rw [if_pos h]
theorem opn_of_cells {g : Gr} {p q : Pt} (h : cellsErr g [p, q] = 0) : opn g p = true ∧ opn g q = true := ⟨cells_ok h p (by simp), cells_ok h q (by simp)⟩

structure DkL (g : Gr) (hs : List Hose) (W0 : World) (mb k : Nat) (v : Value) (w : World) : Prop where
  se : ∃ n, n ≤ k * 4097 ∧ SetAt Try.prog 74 4 evPr w mb n (ductK g hs k)
  be : Below mb W0 w
  own : RowsO w v (ways g hs k)
  vb : ∀ b, v.ownBlock = some b → W0.heap.size ≤ b
theorem DkL.ext {g : Gr} {hs : List Hose} {W0 : World} {mb k : Nat} {v : Value} {A B : World} (h : DkL g hs W0 mb k v A) (x : Ext A B) : DkL g hs W0 mb k v B := by
  obtain ⟨n, h1, h2⟩ := h.se
  exact ⟨⟨n, h1, h2.ext x⟩, h.be.trans (x.mono (Nat.le_of_lt h2.lt)), h.own.ext x, h.vb⟩

def DuctsPost (g : Gr) (hs : List Hose) (w : World) (e : Ending) (w' : World) : Prop :=
  ∃ a cap, e = .returned (.tuple #[.slice a (ductL g hs).length cap, .int .i64 (ductN g hs), .int .i64 (ductE g hs)]) ∧ RowsR w' a (ductL g hs) ∧ Ext w w'
theorem DuctsPost.bad {g : Gr} {hs : List Hose} {w w' : World} {e : Int} (he : ductE g hs = e) (hne : e ≠ 0) (hx : Ext w w') : DuctsPost g hs w (.returned (.tuple #[.slice none 0 0, .int .i64 0, .int .i64 e])) w' := by
  subst he
  unfold DuctsPost ductL ductN
  rw [if_pos hne, if_pos hne]
  exact ⟨none, 0, rfl, RowsR.nil _ _, hx⟩

set_option maxHeartbeats 4000000 in
set_option maxRecDepth 100000 in
theorem Ducts_any (g : Gr) (hs : List Hose) (ga : Option Addr) (gc : Nat) (ha : Option Addr) (hcap : Nat) (w : World) (hg : g.bl.length ≤ maxLen) (hc : Cells2 w ga g.bl) (hl : hs.length ≤ maxLen) (hch : Cells4 w ha hs) (_hwf : ∀ i, i < hs.length → True) :
    Calls Try.prog 17 #[.agg #[.int .i64 g.rows, .int .i64 g.cols, .slice ga g.bl.length gc], .slice ha hs.length hcap] w fun e w' => DuctsPost g hs w e w' := by
  have HC : Hid (Cells2 w ga g.bl) := hc
  have HH : Hid (Cells4 w ha hs) := hch
  have HG := Lib.hid hg
  clear hc hg hch _hwf
  have E0 : Ext w (((w).alloc (.cells #[.int .i64 g.rows, .int .i64 g.cols, .slice ga g.bl.length gc] 33))) := (Ext.refl _).alloc _
  have a1 : (((w).alloc (.cells #[.int .i64 g.rows, .int .i64 g.cols, .slice ga g.bl.length gc] 33))).cell? ⟨w.heap.size, 0, none⟩ = some (.int .i64 g.rows) := by go_simp
  have a2 : (((w).alloc (.cells #[.int .i64 g.rows, .int .i64 g.cols, .slice ga g.bl.length gc] 33))).cell? ⟨w.heap.size, 1, none⟩ = some (.int .i64 g.cols) := by go_simp
  have a3 : (((w).alloc (.cells #[.int .i64 g.rows, .int .i64 g.cols, .slice ga g.bl.length gc] 33))).cell? ⟨w.heap.size, 2, none⟩ = some (.slice ga g.bl.length gc) := by go_simp
  have hmm := @run_makeMap Try.prog
  have hl' : hs.length ≤ 9223372036854775807 := hl
  clear hl
  go_enter Try.func17, Try.ntmps17
  go_wp2_with fail
  refine (Check_any g ga gc _ HG.out (HC.out.ext E0)).mono ?_
  rintro e w1 ⟨rfl, hE⟩
  have b1 := hE.cell a1
  have b2 := hE.cell a2
  have b3 := hE.cell a3
  have E1 : Ext w w1 := E0.trans hE
  have z1 : w.heap.size < w1.heap.size := cell_lt b1
  clear hE E0 a1 a2 a3
  by_cases h0 : chk g = 0
  · have HR := Lib.hid (right_of_chk h0)
    have H0 := Lib.hid h0
    rw [h0]
    clear h0
    by_cases hlen : 256 < hs.length
    · have hE : Hid (ductE g hs = 5) := by show _ = _; unfold ductE; rw [if_neg (by simp [H0.out]), if_pos hlen]
      have hlen' : (256 : Int) < (hs.length : Int) := by omega
      go_wp2
      go_ret3
      exact DuctsPost.bad hE.out (by decide) E1
    · have hE : Hid (ductE g hs = hosesErr g hs hs.length 0) := by show _ = _; unfold ductE; rw [if_neg (by simp [H0.out]), if_neg hlen]
      have hlen' : ¬ (256 : Int) < (hs.length : Int) := by omega
      go_wp2_with fail
      have E3 : Ext w1 (w1.alloc (.map #[] 0)) := (Ext.refl _).alloc _
      obtain ⟨mb, hmb⟩ : ∃ mb, mb = w1.heap.size := ⟨_, rfl⟩
      have M1 : Hid (SetAt Try.prog 74 4 evPr (w1.alloc (.map #[] 0)) w1.heap.size 0 []) := SetAt.made _ _ _ _ _
      have zW : (w1.alloc (.map #[] 0)).heap.size = w1.heap.size + 1 := by simp
      have c1 := E3.cell b1
      have c2 := E3.cell b2
      have c3 := E3.cell b3
      have EW := E1.trans E3
      rw [← hmb] at M1 zW ⊢
      have zn : w.heap.size < mb := by omega
      have HBL : Hid (g.bl ≠ [] → ∀ b off, ga = some ⟨b, off, none⟩ → b < mb) := fun hne b off hb => by
        have h1 := HC.out.lt hne hb
        have h2 := E1.size
        omega
      have HBH : Hid (hs ≠ [] → ∀ b off, ha = some ⟨b, off, none⟩ → b < mb) := fun hne b off hb => by
        have h1 := HH.out.lt hne hb
        have h2 := E1.size
        omega
      clear hmb E3 E1 b1 b2 b3 z1 hmm
      generalize (w1.alloc (.map #[] 0)) = W0 at M1 zW c1 c2 c3 EW ⊢
      have HCW := Lib.hid (HC.out.ext EW)
      have HHW := Lib.hid (HH.out.ext EW)
      go_loopw [8, 29] (fun v i wr => ∃ (k : Nat) (av : Option Addr) (cv : Nat), k ≤ hs.length ∧ i = .int .i64 k ∧ v = .slice av k cv ∧ Hid (hosesErr g hs hs.length 0 = hosesErr g hs (hs.length - k) k) ∧ Hid (DkL g hs W0 mb k (.slice av k cv) wr)) (fun _ i _ => hs.length - (Go.RowKit.intOf i).toNat)
      case atStart => exact ⟨0, none, 0, Nat.zero_le _, rfl, rfl, rfl, ⟨⟨0, by omega, M1.out⟩, Below.refl _ _, RowsO.nil _, fun b hb => by cases hb⟩⟩
      case round =>
        obtain ⟨k, av, cv, hk, rfl, rfl, hn, hd⟩ := hrel
        have g1 : wr.cell? ⟨w.heap.size, 0, none⟩ = some (.int .i64 g.rows) := (hd.out.be.cell (p := ⟨w.heap.size, 0, none⟩) zn).trans c1
        have g2 : wr.cell? ⟨w.heap.size, 1, none⟩ = some (.int .i64 g.cols) := (hd.out.be.cell (p := ⟨w.heap.size, 1, none⟩) zn).trans c2
        have g3 : wr.cell? ⟨w.heap.size, 2, none⟩ = some (.slice ga g.bl.length gc) := (hd.out.be.cell (p := ⟨w.heap.size, 2, none⟩) zn).trans c3
        have HCr : Hid (Cells2 wr ga g.bl) := HCW.out.below hd.out.be HBL.out
        by_cases hlt : k < hs.length
        · have hlt' : (k : Int) < (hs.length : Int) := by omega
          obtain ⟨hb, hoff, rfl, e1, e2, e3, e4⟩ := (HHW.out.below hd.out.be HBH.out) k hlt
          generalize hx : ph hs k = x at e1 e2 e3 e4
          have HX := Lib.hid hx
          clear hx
          have zh := cell_lt e1
          dsimp only at zh
          have zmb : mb < wr.heap.size := by obtain ⟨_, _, h⟩ := hd.out.se; exact h.lt
          have zn2 : w.heap.size < wr.heap.size := by omega
          go_wp2_with fail
          have V0 : Ext wr (wr.alloc (.cells #[.int .i64 x.1.1, .int .i64 x.1.2, .int .i64 x.2.1, .int .i64 x.2.2] 74)) := (Ext.refl _).alloc _
          have p1 : (wr.alloc (.cells #[.int .i64 x.1.1, .int .i64 x.1.2, .int .i64 x.2.1, .int .i64 x.2.2] 74)).cell? ⟨wr.heap.size, 0, none⟩ = some (.int .i64 x.1.1) := by go_simp
          have p2 : (wr.alloc (.cells #[.int .i64 x.1.1, .int .i64 x.1.2, .int .i64 x.2.1, .int .i64 x.2.2] 74)).cell? ⟨wr.heap.size, 1, none⟩ = some (.int .i64 x.1.2) := by go_simp
          have p3 : (wr.alloc (.cells #[.int .i64 x.1.1, .int .i64 x.1.2, .int .i64 x.2.1, .int .i64 x.2.2] 74)).cell? ⟨wr.heap.size, 2, none⟩ = some (.int .i64 x.2.1) := by go_simp
          have p4 : (wr.alloc (.cells #[.int .i64 x.1.1, .int .i64 x.1.2, .int .i64 x.2.1, .int .i64 x.2.2] 74)).cell? ⟨wr.heap.size, 3, none⟩ = some (.int .i64 x.2.2) := by go_simp
          have g1 := V0.cell g1
          have g2 := V0.cell g2
          have g3 := V0.cell g3
          have HD1 := Lib.hid (hd.out.ext V0)
          have HC1 := Lib.hid (HCr.out.ext V0)
          have zp : wr.heap.size < (wr.alloc (.cells #[.int .i64 x.1.1, .int .i64 x.1.2, .int .i64 x.2.1, .int .i64 x.2.2] 74)).heap.size := by simp
          have HE1 : Hid (Ext w (wr.alloc (.cells #[.int .i64 x.1.1, .int .i64 x.1.2, .int .i64 x.2.1, .int .i64 x.2.2] 74))) := (Below.trans EW (hd.out.be.mono (by omega))).alloc (by omega) _
          clear hd HCr e1 e2 e3 e4 V0
          generalize (wr.alloc (.cells #[.int .i64 x.1.1, .int .i64 x.1.2, .int .i64 x.2.1, .int .i64 x.2.2] 74)) = W1 at p1 p2 p3 p4 g1 g2 g3 HD1 HC1 HE1 zp ⊢
          have zg := cell_lt g1
          dsimp only at zg
          go_region_held3 (fun w' => Sees W1 w') ((repeat (first | exact Sees.refl _ | assumption | apply Sees.drew | apply Sees.alloc | (refine Sees.ext ?_ (by assumption))))) (first | (go_at_call 53; refine (cells_any g [x.1, x.2] ga gc _ _ _ HR.out (HC1.out.ext (by exact (show Sees W1 _ by assumption).2.2)) (by simp [maxLen]) ((cells2_two p1 p2 p3 p4).ext (by exact (show Sees W1 _ by assumption).2.2))).mono ?_; rintro e w' ⟨rfl, hE2⟩))
          have hS := (show Sees W1 _ by assumption).2.2
          have p1 := hS.cell p1
          have p2 := hS.cell p2
          have p3 := hS.cell p3
          have p4 := hS.cell p4
          have g1 := hS.cell g1
          have g2 := hS.cell g2
          have g3 := hS.cell g3
          have HD2 := Lib.hid (HD1.out.ext hS)
          have HC2 := Lib.hid (HC1.out.ext hS)
          have HE2 := Lib.hid (HE1.out.trans hS)
          have hz2 : W1.heap.size ≤ w'.heap.size := hS.size
          clear HD1 HC1 HE1 hS
          generalize w' = W2 at p1 p2 p3 p4 g1 g2 g3 HD2 HC2 HE2 hz2 ⊢
          have zp2 : wr.heap.size < W2.heap.size := by omega
          have zn3 : w.heap.size < W2.heap.size := by omega
          by_cases hce : cellsErr g [x.1, x.2] = 0
          · obtain ⟨ho1, ho2⟩ := opn_of_cells hce
            have HO1 := Lib.hid ho1
            have HO2 := Lib.hid ho2
            have HCE := Lib.hid hce
            rw [hce]
            clear hce ho1 ho2
            go_wp2_with fail
            refine (route_any g x.1 x.2 ga gc _ HR.out HO1.out HO2.out HC2.out).mono ?_
            rintro e W3 ⟨lv, rfl, hO, hE3⟩
            by_cases hneg : dst g x.2 x.1 < 0
            · have HBAD : Hid (ductE g hs = 6) := by
                show _ = _
                have h9 : hoseErr g x = 6 := by unfold hoseErr; rw [if_neg (by simp [HCE.out]), if_pos hneg]
                rw [hE.out, hn.out, show hs.length - k = (hs.length - (k + 1)) + 1 by omega, hosesErr_stop (by rw [HX.out, h9]; decide), HX.out, h9]
              rw [if_pos hneg]
              go_wp2
              go_ret3
              exact DuctsPost.bad HBAD.out (by decide) (HE2.out.trans hE3)
            · rw [if_neg hneg]
              have HOK : Hid (hosesErr g hs hs.length 0 = hosesErr g hs (hs.length - (k + 1)) (k + 1)) := by
                show _ = _
                have h9 : hoseErr g x = 0 := by unfold hoseErr; rw [if_neg (by simp [HCE.out]), if_neg hneg]
                rw [hn.out, show hs.length - k = (hs.length - (k + 1)) + 1 by omega, hosesErr_step (by rw [HX.out, h9])]
              have HD3 := Lib.hid (HD2.out.ext hE3)
              have HE3 := Lib.hid (HE2.out.trans hE3)
              have hrl : routeL g x.1 x.2 = way g x.1 x.2 := by unfold routeL; rw [if_neg hneg]
              rw [hrl] at hO
              have hLlen : (way g x.1 x.2).length ≤ 4097 ∧ 1 ≤ (way g x.1 x.2).length := by
                rw [way_len]
                have := dst_bd HR.out (opn_inside HO2.out) x.1
                omega
              have HIN : Hid (∀ i, i < (way g x.1 x.2).length → InG (pt (way g x.1 x.2) i)) := fun i hi => inG_of HR.out (opn_inside (way_opn HR.out HO1.out HO2.out hneg _ (pt_mem hi)))
              obtain ⟨la, lc, rfl, hLc, hLb⟩ := hO.reads
              have HO3 := Lib.hid hO
              have HLC := Lib.hid hLc
              have HW := Lib.hid hrl
              obtain ⟨n0, hn0, hS0⟩ := HD3.out.se
              have HS0 := Lib.hid hS0
              have hz3 : W2.heap.size ≤ W3.heap.size := hE3.size
              obtain ⟨L, hLeq⟩ : ∃ L, L = way g x.1 x.2 := ⟨_, rfl⟩
              rw [← hLeq] at hLlen HIN HO3 HLC ⊢
              have HLEQ := Lib.hid hLeq
              clear hS0 hO hLc hLb hrl hE3 p1 p2 p3 p4 g1 g2 g3 hLeq HW
              have hmW : mb < W3.heap.size := by omega
              go_wp2
              go_loopw [15] (fun i wr => ∃ j : Nat, j < L.length ∧ i = .int .i64 ((j : Int) + 1) ∧ Hid (SetAt Try.prog 74 4 evPr wr mb (n0 + j) (pairK (ductK g hs k) L j)) ∧ Hid (Chg (fun b => b = mb) W3 wr) ∧ Hid (Below mb W3 wr)) (fun i _ => L.length + 1 - (Go.RowKit.intOf i).toNat)
              case atStart => exact ⟨0, by omega, rfl, HS0.out, Chg.refl _ _, Below.refl _ _⟩
              case round =>
                obtain ⟨j, hj, rfl, HS, HCH, HBB⟩ := hrel
                by_cases hjl : j + 1 < L.length
                · have hjl' : (j : Int) + 1 < (L.length : Int) := by omega
                  obtain ⟨la', lc', hv', HLr, _⟩ := (HO3.out.kept (X := fun k => k ≠ mb) (n := 0) (HCH.out.kept (fun k hk _ => hk)) (fun b hb e => by
                    obtain ⟨c1, f1, e1⟩ := ownsRow_at HO3.out hb
                    obtain ⟨es, cl, h8⟩ := HS0.out.at
                    rw [e, h8] at e1; cases e1)).reads
                  cases hv'
                  have HLr := Lib.hid HLr
                  obtain ⟨lb, loff, rfl, d1, d2⟩ := HLr.out j (by omega)
                  obtain ⟨lb', loff', hla, d3, d4⟩ := HLr.out (j + 1) hjl
                  cases hla
                  have i1 := Lib.hid (HIN.out j (by omega))
                  have i2 := Lib.hid (HIN.out (j + 1) hjl)
                  have q0 : IntKind.i64.wrap ((j : Int) + 1 - 1) = (j : Int) := by
                    rw [show (j : Int) + 1 - 1 = (j : Int) by omega]; exact IntWalk.i64_in _ (by omega)
                  have zb := cell_lt d1
                  dsimp only at zb
                  have zm2 : mb < wr.heap.size := HS.out.lt
                  have q1 : ((j : Int) + 1).toNat = j + 1 := by omega
                  have q2 : IntKind.i64.wrap (j : Int) = (j : Int) := IntWalk.i64_in _ (by omega)
                  have q3 : (j : Int) < (L.length : Int) := by omega
                  have hkn : n0 + j ≤ 2000000 := by omega
                  by_cases hg0 : 0 < ordP (pt L j) (pt L (j + 1))
                  · have hgt : 0 < ordP (pt L j) (pt L (j + 1)) := by assumption
                    go_wp2_with fail
                    go_region
                    · have E3 : Ext wr (((wr.alloc (.cells #[.int .i64 (pt L j).1, .int .i64 (pt L j).2] 26)).alloc (.cells #[.int .i64 (pt L (j + 1)).1, .int .i64 (pt L (j + 1)).2] 26)).drew) := (((Ext.refl _).alloc _).alloc _).drew
                      have p1 : (((wr.alloc (.cells #[.int .i64 (pt L j).1, .int .i64 (pt L j).2] 26)).alloc (.cells #[.int .i64 (pt L (j + 1)).1, .int .i64 (pt L (j + 1)).2] 26)).drew).cell? ⟨wr.heap.size, 0, none⟩ = some (.int .i64 (pt L j).1) := by go_simp
                      have p2 : (((wr.alloc (.cells #[.int .i64 (pt L j).1, .int .i64 (pt L j).2] 26)).alloc (.cells #[.int .i64 (pt L (j + 1)).1, .int .i64 (pt L (j + 1)).2] 26)).drew).cell? ⟨wr.heap.size, 1, none⟩ = some (.int .i64 (pt L j).2) := by go_simp
                      have p3 : (((wr.alloc (.cells #[.int .i64 (pt L j).1, .int .i64 (pt L j).2] 26)).alloc (.cells #[.int .i64 (pt L (j + 1)).1, .int .i64 (pt L (j + 1)).2] 26)).drew).cell? ⟨wr.heap.size + 1, 0, none⟩ = some (.int .i64 (pt L (j + 1)).1) := by go_simp
                      have p4 : (((wr.alloc (.cells #[.int .i64 (pt L j).1, .int .i64 (pt L j).2] 26)).alloc (.cells #[.int .i64 (pt L (j + 1)).1, .int .i64 (pt L (j + 1)).2] 26)).drew).cell? ⟨wr.heap.size + 1, 1, none⟩ = some (.int .i64 (pt L (j + 1)).2) := by go_simp
                      have y1 : (((wr.alloc (.cells #[.int .i64 (pt L j).1, .int .i64 (pt L j).2] 26)).alloc (.cells #[.int .i64 (pt L (j + 1)).1, .int .i64 (pt L (j + 1)).2] 26)).drew).frozen? ⟨wr.heap.size, 0, none⟩ = false := by go_simp
                      have y2 : (((wr.alloc (.cells #[.int .i64 (pt L j).1, .int .i64 (pt L j).2] 26)).alloc (.cells #[.int .i64 (pt L (j + 1)).1, .int .i64 (pt L (j + 1)).2] 26)).drew).frozen? ⟨wr.heap.size, 1, none⟩ = false := by go_simp
                      have y3 : (((wr.alloc (.cells #[.int .i64 (pt L j).1, .int .i64 (pt L j).2] 26)).alloc (.cells #[.int .i64 (pt L (j + 1)).1, .int .i64 (pt L (j + 1)).2] 26)).drew).frozen? ⟨wr.heap.size + 1, 0, none⟩ = false := by go_simp
                      have y4 : (((wr.alloc (.cells #[.int .i64 (pt L j).1, .int .i64 (pt L j).2] 26)).alloc (.cells #[.int .i64 (pt L (j + 1)).1, .int .i64 (pt L (j + 1)).2] 26)).drew).frozen? ⟨wr.heap.size + 1, 1, none⟩ = false := by go_simp
                      have zz : wr.heap.size + 1 < (((wr.alloc (.cells #[.int .i64 (pt L j).1, .int .i64 (pt L j).2] 26)).alloc (.cells #[.int .i64 (pt L (j + 1)).1, .int .i64 (pt L (j + 1)).2] 26)).drew).heap.size := by simp
                      clear d1 d2 d3 d4
                      generalize (((wr.alloc (.cells #[.int .i64 (pt L j).1, .int .i64 (pt L j).2] 26)).alloc (.cells #[.int .i64 (pt L (j + 1)).1, .int .i64 (pt L (j + 1)).2] 26)).drew) = V at E3 p1 p2 p3 p4 y1 y2 y3 y4 zz ⊢
                      have x1 : wr.heap.size < V.heap.size := by omega
                      go_wp2_with fail
                      refine (order_any (pt L j) (pt L (j + 1)) _).mono ?_
                      rintro e W5 ⟨rfl, hE5⟩
                      have q1 := hE5.cell p1
                      have q2 := hE5.cell p2
                      have q3 := hE5.cell p3
                      have q4 := hE5.cell p4
                      have t1 := (hE5.frozen (p := ⟨wr.heap.size, 0, none⟩) (by show wr.heap.size < _; omega)).trans y1
                      have t2 := (hE5.frozen (p := ⟨wr.heap.size, 1, none⟩) (by show wr.heap.size < _; omega)).trans y2
                      have t3 := (hE5.frozen (p := ⟨wr.heap.size + 1, 0, none⟩) (by show wr.heap.size + 1 < _; omega)).trans y3
                      have t4 := (hE5.frozen (p := ⟨wr.heap.size + 1, 1, none⟩) (by show wr.heap.size + 1 < _; omega)).trans y4
                      have HS5 := Lib.hid (HS.out.ext (E3.trans hE5))
                      have EE := Lib.hid (E3.trans hE5)
                      clear p1 p2 p3 p4 y1 y2 y3 y4 E3 hE5
                      have HS6 : Hid (SetAt Try.prog 74 4 evPr ((((W5.setCell ⟨wr.heap.size, 0, none⟩ (.int .i64 (pt L (j + 1)).1)).setCell ⟨wr.heap.size, 1, none⟩ (.int .i64 (pt L (j + 1)).2)).setCell ⟨wr.heap.size + 1, 0, none⟩ (.int .i64 (pt L j).1)).setCell ⟨wr.heap.size + 1, 1, none⟩ (.int .i64 (pt L j).2)) mb (n0 + j) (pairK (ductK g hs k) L j)) := HS5.out.same (by rw [Below.heap_setCell _ _ _ _ (by show mb ≠ wr.heap.size + 1; omega), Below.heap_setCell _ _ _ _ (by show mb ≠ wr.heap.size + 1; omega), Below.heap_setCell _ _ _ _ (by show mb ≠ wr.heap.size; omega), Below.heap_setCell _ _ _ _ (by show mb ≠ wr.heap.size; omega)])
                      have EE6 : Hid (Below wr.heap.size wr ((((W5.setCell ⟨wr.heap.size, 0, none⟩ (.int .i64 (pt L (j + 1)).1)).setCell ⟨wr.heap.size, 1, none⟩ (.int .i64 (pt L (j + 1)).2)).setCell ⟨wr.heap.size + 1, 0, none⟩ (.int .i64 (pt L j).1)).setCell ⟨wr.heap.size + 1, 1, none⟩ (.int .i64 (pt L j).2))) := Below.setCell (p := ⟨wr.heap.size + 1, 1, none⟩) (Below.setCell (p := ⟨wr.heap.size + 1, 0, none⟩) (Below.setCell (p := ⟨wr.heap.size, 1, none⟩) (Below.setCell (p := ⟨wr.heap.size, 0, none⟩) EE.out (by show wr.heap.size ≤ wr.heap.size; omega) _) (by show wr.heap.size ≤ wr.heap.size; omega) _) (by show wr.heap.size ≤ wr.heap.size + 1; omega) _) (by show wr.heap.size ≤ wr.heap.size + 1; omega) _
                      obtain ⟨kl, hkl⟩ := keyPr (p := (pt L (j + 1), pt L j)) (wf_inG i2.out).1 (wf_inG i2.out).2 (wf_inG i1.out).1 (wf_inG i1.out).2
                      have HKL := Lib.hid hkl
                      clear hkl
                      go_wp2_with (at_mapUpdate; refine wpList_setAdd _ rfl _ _ _ 93 rfl 74 4 lawPr Try.underlying93 Try.underlying4 mb (n0 + j) (pairK (ductK g hs k) L j) rfl HS6.out ?hn evPr_inj (pt L (j + 1), pt L j) kl rfl rfl HKL.out ?hK)
                      case hn => unfold maxLen; omega
                      case hK =>
                        intro w6 hs6 hg6
                        have HS7 := Lib.hid hs6
                        have HG6 := Lib.hid hg6
                        clear hs6 hg6
                        go_wp2
                        refine ⟨⟨j + 1, by omega, by go_num, ?_, ?_, ?_⟩, by simp [Go.RowKit.intOf]; omega⟩
                        · have h9 := HS7.out
                          have hp : pairOf (pt L j) (pt L (j + 1)) = (pt L (j + 1), pt L j) := by unfold pairOf; rw [if_pos hgt]
                          show SetAt _ _ _ _ _ _ _ (insP _ _)
                          rw [hp]
                          unfold insP
                          unfold setIns at h9
                          rw [Nat.add_assoc] at h9
                          split at h9 <;> split <;> first | exact h9 | contradiction
                        · exact HCH.out.trans ⟨Nat.le_trans EE6.out.size HG6.out.size, fun b hb hn => (HG6.out.block b (Nat.lt_of_lt_of_le hb EE6.out.size) (fun e => hn (by cases e; rfl))).trans (EE6.out.block b hb)⟩
                        · exact (HBB.out.trans (EE6.out.mono (by omega))).grown HG6.out (Nat.le_trans (by omega) EE6.out.size) (fun j hj => by cases hj; exact Nat.le_refl _)
                    · have E3 : Ext wr (((wr.alloc (.cells #[.int .i64 (pt L (j + 1)).1, .int .i64 (pt L (j + 1)).2] 26)).alloc (.cells #[.int .i64 (pt L j).1, .int .i64 (pt L j).2] 26)).drew) := (((Ext.refl _).alloc _).alloc _).drew
                      have p1 : (((wr.alloc (.cells #[.int .i64 (pt L (j + 1)).1, .int .i64 (pt L (j + 1)).2] 26)).alloc (.cells #[.int .i64 (pt L j).1, .int .i64 (pt L j).2] 26)).drew).cell? ⟨wr.heap.size + 1, 0, none⟩ = some (.int .i64 (pt L j).1) := by go_simp
                      have p2 : (((wr.alloc (.cells #[.int .i64 (pt L (j + 1)).1, .int .i64 (pt L (j + 1)).2] 26)).alloc (.cells #[.int .i64 (pt L j).1, .int .i64 (pt L j).2] 26)).drew).cell? ⟨wr.heap.size + 1, 1, none⟩ = some (.int .i64 (pt L j).2) := by go_simp
                      have p3 : (((wr.alloc (.cells #[.int .i64 (pt L (j + 1)).1, .int .i64 (pt L (j + 1)).2] 26)).alloc (.cells #[.int .i64 (pt L j).1, .int .i64 (pt L j).2] 26)).drew).cell? ⟨wr.heap.size, 0, none⟩ = some (.int .i64 (pt L (j + 1)).1) := by go_simp
                      have p4 : (((wr.alloc (.cells #[.int .i64 (pt L (j + 1)).1, .int .i64 (pt L (j + 1)).2] 26)).alloc (.cells #[.int .i64 (pt L j).1, .int .i64 (pt L j).2] 26)).drew).cell? ⟨wr.heap.size, 1, none⟩ = some (.int .i64 (pt L (j + 1)).2) := by go_simp
                      have y1 : (((wr.alloc (.cells #[.int .i64 (pt L (j + 1)).1, .int .i64 (pt L (j + 1)).2] 26)).alloc (.cells #[.int .i64 (pt L j).1, .int .i64 (pt L j).2] 26)).drew).frozen? ⟨wr.heap.size + 1, 0, none⟩ = false := by go_simp
                      have y2 : (((wr.alloc (.cells #[.int .i64 (pt L (j + 1)).1, .int .i64 (pt L (j + 1)).2] 26)).alloc (.cells #[.int .i64 (pt L j).1, .int .i64 (pt L j).2] 26)).drew).frozen? ⟨wr.heap.size + 1, 1, none⟩ = false := by go_simp
                      have y3 : (((wr.alloc (.cells #[.int .i64 (pt L (j + 1)).1, .int .i64 (pt L (j + 1)).2] 26)).alloc (.cells #[.int .i64 (pt L j).1, .int .i64 (pt L j).2] 26)).drew).frozen? ⟨wr.heap.size, 0, none⟩ = false := by go_simp
                      have y4 : (((wr.alloc (.cells #[.int .i64 (pt L (j + 1)).1, .int .i64 (pt L (j + 1)).2] 26)).alloc (.cells #[.int .i64 (pt L j).1, .int .i64 (pt L j).2] 26)).drew).frozen? ⟨wr.heap.size, 1, none⟩ = false := by go_simp
                      have zz : wr.heap.size + 1 < (((wr.alloc (.cells #[.int .i64 (pt L (j + 1)).1, .int .i64 (pt L (j + 1)).2] 26)).alloc (.cells #[.int .i64 (pt L j).1, .int .i64 (pt L j).2] 26)).drew).heap.size := by simp
                      clear d1 d2 d3 d4
                      generalize (((wr.alloc (.cells #[.int .i64 (pt L (j + 1)).1, .int .i64 (pt L (j + 1)).2] 26)).alloc (.cells #[.int .i64 (pt L j).1, .int .i64 (pt L j).2] 26)).drew) = V at E3 p1 p2 p3 p4 y1 y2 y3 y4 zz ⊢
                      have x1 : wr.heap.size < V.heap.size := by omega
                      go_wp2_with fail
                      refine (order_any (pt L j) (pt L (j + 1)) _).mono ?_
                      rintro e W5 ⟨rfl, hE5⟩
                      have q1 := hE5.cell p1
                      have q2 := hE5.cell p2
                      have q3 := hE5.cell p3
                      have q4 := hE5.cell p4
                      have t1 := (hE5.frozen (p := ⟨wr.heap.size + 1, 0, none⟩) (by show wr.heap.size + 1 < _; omega)).trans y1
                      have t2 := (hE5.frozen (p := ⟨wr.heap.size + 1, 1, none⟩) (by show wr.heap.size + 1 < _; omega)).trans y2
                      have t3 := (hE5.frozen (p := ⟨wr.heap.size, 0, none⟩) (by show wr.heap.size < _; omega)).trans y3
                      have t4 := (hE5.frozen (p := ⟨wr.heap.size, 1, none⟩) (by show wr.heap.size < _; omega)).trans y4
                      have HS5 := Lib.hid (HS.out.ext (E3.trans hE5))
                      have EE := Lib.hid (E3.trans hE5)
                      clear p1 p2 p3 p4 y1 y2 y3 y4 E3 hE5
                      have HS6 : Hid (SetAt Try.prog 74 4 evPr ((((W5.setCell ⟨wr.heap.size + 1, 0, none⟩ (.int .i64 (pt L (j + 1)).1)).setCell ⟨wr.heap.size + 1, 1, none⟩ (.int .i64 (pt L (j + 1)).2)).setCell ⟨wr.heap.size, 0, none⟩ (.int .i64 (pt L j).1)).setCell ⟨wr.heap.size, 1, none⟩ (.int .i64 (pt L j).2)) mb (n0 + j) (pairK (ductK g hs k) L j)) := HS5.out.same (by rw [Below.heap_setCell _ _ _ _ (by show mb ≠ wr.heap.size; omega), Below.heap_setCell _ _ _ _ (by show mb ≠ wr.heap.size; omega), Below.heap_setCell _ _ _ _ (by show mb ≠ wr.heap.size + 1; omega), Below.heap_setCell _ _ _ _ (by show mb ≠ wr.heap.size + 1; omega)])
                      have EE6 : Hid (Below wr.heap.size wr ((((W5.setCell ⟨wr.heap.size + 1, 0, none⟩ (.int .i64 (pt L (j + 1)).1)).setCell ⟨wr.heap.size + 1, 1, none⟩ (.int .i64 (pt L (j + 1)).2)).setCell ⟨wr.heap.size, 0, none⟩ (.int .i64 (pt L j).1)).setCell ⟨wr.heap.size, 1, none⟩ (.int .i64 (pt L j).2))) := Below.setCell (p := ⟨wr.heap.size, 1, none⟩) (Below.setCell (p := ⟨wr.heap.size, 0, none⟩) (Below.setCell (p := ⟨wr.heap.size + 1, 1, none⟩) (Below.setCell (p := ⟨wr.heap.size + 1, 0, none⟩) EE.out (by show wr.heap.size ≤ wr.heap.size + 1; omega) _) (by show wr.heap.size ≤ wr.heap.size + 1; omega) _) (by show wr.heap.size ≤ wr.heap.size; omega) _) (by show wr.heap.size ≤ wr.heap.size; omega) _
                      obtain ⟨kl, hkl⟩ := keyPr (p := (pt L (j + 1), pt L j)) (wf_inG i2.out).1 (wf_inG i2.out).2 (wf_inG i1.out).1 (wf_inG i1.out).2
                      have HKL := Lib.hid hkl
                      clear hkl
                      go_wp2_with (at_mapUpdate; refine wpList_setAdd _ rfl _ _ _ 93 rfl 74 4 lawPr Try.underlying93 Try.underlying4 mb (n0 + j) (pairK (ductK g hs k) L j) rfl HS6.out ?hn evPr_inj (pt L (j + 1), pt L j) kl rfl rfl HKL.out ?hK)
                      case hn => unfold maxLen; omega
                      case hK =>
                        intro w6 hs6 hg6
                        have HS7 := Lib.hid hs6
                        have HG6 := Lib.hid hg6
                        clear hs6 hg6
                        go_wp2
                        refine ⟨⟨j + 1, by omega, by go_num, ?_, ?_, ?_⟩, by simp [Go.RowKit.intOf]; omega⟩
                        · have h9 := HS7.out
                          have hp : pairOf (pt L j) (pt L (j + 1)) = (pt L (j + 1), pt L j) := by unfold pairOf; rw [if_pos hgt]
                          show SetAt _ _ _ _ _ _ _ (insP _ _)
                          rw [hp]
                          unfold insP
                          unfold setIns at h9
                          rw [Nat.add_assoc] at h9
                          split at h9 <;> split <;> first | exact h9 | contradiction
                        · exact HCH.out.trans ⟨Nat.le_trans EE6.out.size HG6.out.size, fun b hb hn => (HG6.out.block b (Nat.lt_of_lt_of_le hb EE6.out.size) (fun e => hn (by cases e; rfl))).trans (EE6.out.block b hb)⟩
                        · exact (HBB.out.trans (EE6.out.mono (by omega))).grown HG6.out (Nat.le_trans (by omega) EE6.out.size) (fun j hj => by cases hj; exact Nat.le_refl _)
                  · have hgt : ¬ 0 < ordP (pt L j) (pt L (j + 1)) := by assumption
                    go_wp2_with fail
                    go_region
                    · have E3 : Ext wr (((wr.alloc (.cells #[.int .i64 (pt L j).1, .int .i64 (pt L j).2] 26)).alloc (.cells #[.int .i64 (pt L (j + 1)).1, .int .i64 (pt L (j + 1)).2] 26)).drew) := (((Ext.refl _).alloc _).alloc _).drew
                      have p1 : (((wr.alloc (.cells #[.int .i64 (pt L j).1, .int .i64 (pt L j).2] 26)).alloc (.cells #[.int .i64 (pt L (j + 1)).1, .int .i64 (pt L (j + 1)).2] 26)).drew).cell? ⟨wr.heap.size, 0, none⟩ = some (.int .i64 (pt L j).1) := by go_simp
                      have p2 : (((wr.alloc (.cells #[.int .i64 (pt L j).1, .int .i64 (pt L j).2] 26)).alloc (.cells #[.int .i64 (pt L (j + 1)).1, .int .i64 (pt L (j + 1)).2] 26)).drew).cell? ⟨wr.heap.size, 1, none⟩ = some (.int .i64 (pt L j).2) := by go_simp
                      have p3 : (((wr.alloc (.cells #[.int .i64 (pt L j).1, .int .i64 (pt L j).2] 26)).alloc (.cells #[.int .i64 (pt L (j + 1)).1, .int .i64 (pt L (j + 1)).2] 26)).drew).cell? ⟨wr.heap.size + 1, 0, none⟩ = some (.int .i64 (pt L (j + 1)).1) := by go_simp
                      have p4 : (((wr.alloc (.cells #[.int .i64 (pt L j).1, .int .i64 (pt L j).2] 26)).alloc (.cells #[.int .i64 (pt L (j + 1)).1, .int .i64 (pt L (j + 1)).2] 26)).drew).cell? ⟨wr.heap.size + 1, 1, none⟩ = some (.int .i64 (pt L (j + 1)).2) := by go_simp
                      have y1 : (((wr.alloc (.cells #[.int .i64 (pt L j).1, .int .i64 (pt L j).2] 26)).alloc (.cells #[.int .i64 (pt L (j + 1)).1, .int .i64 (pt L (j + 1)).2] 26)).drew).frozen? ⟨wr.heap.size, 0, none⟩ = false := by go_simp
                      have y2 : (((wr.alloc (.cells #[.int .i64 (pt L j).1, .int .i64 (pt L j).2] 26)).alloc (.cells #[.int .i64 (pt L (j + 1)).1, .int .i64 (pt L (j + 1)).2] 26)).drew).frozen? ⟨wr.heap.size, 1, none⟩ = false := by go_simp
                      have y3 : (((wr.alloc (.cells #[.int .i64 (pt L j).1, .int .i64 (pt L j).2] 26)).alloc (.cells #[.int .i64 (pt L (j + 1)).1, .int .i64 (pt L (j + 1)).2] 26)).drew).frozen? ⟨wr.heap.size + 1, 0, none⟩ = false := by go_simp
                      have y4 : (((wr.alloc (.cells #[.int .i64 (pt L j).1, .int .i64 (pt L j).2] 26)).alloc (.cells #[.int .i64 (pt L (j + 1)).1, .int .i64 (pt L (j + 1)).2] 26)).drew).frozen? ⟨wr.heap.size + 1, 1, none⟩ = false := by go_simp
                      have zz : wr.heap.size + 1 < (((wr.alloc (.cells #[.int .i64 (pt L j).1, .int .i64 (pt L j).2] 26)).alloc (.cells #[.int .i64 (pt L (j + 1)).1, .int .i64 (pt L (j + 1)).2] 26)).drew).heap.size := by simp
                      clear d1 d2 d3 d4
                      generalize (((wr.alloc (.cells #[.int .i64 (pt L j).1, .int .i64 (pt L j).2] 26)).alloc (.cells #[.int .i64 (pt L (j + 1)).1, .int .i64 (pt L (j + 1)).2] 26)).drew) = V at E3 p1 p2 p3 p4 y1 y2 y3 y4 zz ⊢
                      have x1 : wr.heap.size < V.heap.size := by omega
                      go_wp2_with fail
                      refine (order_any (pt L j) (pt L (j + 1)) _).mono ?_
                      rintro e W5 ⟨rfl, hE5⟩
                      have q1 := hE5.cell p1
                      have q2 := hE5.cell p2
                      have q3 := hE5.cell p3
                      have q4 := hE5.cell p4
                      have t1 := (hE5.frozen (p := ⟨wr.heap.size, 0, none⟩) (by show wr.heap.size < _; omega)).trans y1
                      have t2 := (hE5.frozen (p := ⟨wr.heap.size, 1, none⟩) (by show wr.heap.size < _; omega)).trans y2
                      have t3 := (hE5.frozen (p := ⟨wr.heap.size + 1, 0, none⟩) (by show wr.heap.size + 1 < _; omega)).trans y3
                      have t4 := (hE5.frozen (p := ⟨wr.heap.size + 1, 1, none⟩) (by show wr.heap.size + 1 < _; omega)).trans y4
                      have HS5 := Lib.hid (HS.out.ext (E3.trans hE5))
                      have EE := Lib.hid (E3.trans hE5)
                      clear p1 p2 p3 p4 y1 y2 y3 y4 E3 hE5
                      have HS6 := HS5
                      have EE6 : Hid (Below wr.heap.size wr W5) := EE.out
                      obtain ⟨kl, hkl⟩ := keyPr (p := (pt L j, pt L (j + 1))) (wf_inG i1.out).1 (wf_inG i1.out).2 (wf_inG i2.out).1 (wf_inG i2.out).2
                      have HKL := Lib.hid hkl
                      clear hkl
                      go_wp2_with (at_mapUpdate; refine wpList_setAdd _ rfl _ _ _ 93 rfl 74 4 lawPr Try.underlying93 Try.underlying4 mb (n0 + j) (pairK (ductK g hs k) L j) rfl HS6.out ?hn evPr_inj (pt L j, pt L (j + 1)) kl rfl rfl HKL.out ?hK)
                      case hn => unfold maxLen; omega
                      case hK =>
                        intro w6 hs6 hg6
                        have HS7 := Lib.hid hs6
                        have HG6 := Lib.hid hg6
                        clear hs6 hg6
                        go_wp2
                        refine ⟨⟨j + 1, by omega, by go_num, ?_, ?_, ?_⟩, by simp [Go.RowKit.intOf]; omega⟩
                        · have h9 := HS7.out
                          have hp : pairOf (pt L j) (pt L (j + 1)) = (pt L j, pt L (j + 1)) := by unfold pairOf; rw [if_neg (by omega)]
                          show SetAt _ _ _ _ _ _ _ (insP _ _)
                          rw [hp]
                          unfold insP
                          unfold setIns at h9
                          rw [Nat.add_assoc] at h9
                          split at h9 <;> split <;> first | exact h9 | contradiction
                        · exact HCH.out.trans ⟨Nat.le_trans EE6.out.size HG6.out.size, fun b hb hn => (HG6.out.block b (Nat.lt_of_lt_of_le hb EE6.out.size) (fun e => hn (by cases e; rfl))).trans (EE6.out.block b hb)⟩
                        · exact (HBB.out.trans (EE6.out.mono (by omega))).grown HG6.out (Nat.le_trans (by omega) EE6.out.size) (fun j hj => by cases hj; exact Nat.le_refl _)
                    · have E3 : Ext wr (((wr.alloc (.cells #[.int .i64 (pt L (j + 1)).1, .int .i64 (pt L (j + 1)).2] 26)).alloc (.cells #[.int .i64 (pt L j).1, .int .i64 (pt L j).2] 26)).drew) := (((Ext.refl _).alloc _).alloc _).drew
                      have p1 : (((wr.alloc (.cells #[.int .i64 (pt L (j + 1)).1, .int .i64 (pt L (j + 1)).2] 26)).alloc (.cells #[.int .i64 (pt L j).1, .int .i64 (pt L j).2] 26)).drew).cell? ⟨wr.heap.size + 1, 0, none⟩ = some (.int .i64 (pt L j).1) := by go_simp
                      have p2 : (((wr.alloc (.cells #[.int .i64 (pt L (j + 1)).1, .int .i64 (pt L (j + 1)).2] 26)).alloc (.cells #[.int .i64 (pt L j).1, .int .i64 (pt L j).2] 26)).drew).cell? ⟨wr.heap.size + 1, 1, none⟩ = some (.int .i64 (pt L j).2) := by go_simp
                      have p3 : (((wr.alloc (.cells #[.int .i64 (pt L (j + 1)).1, .int .i64 (pt L (j + 1)).2] 26)).alloc (.cells #[.int .i64 (pt L j).1, .int .i64 (pt L j).2] 26)).drew).cell? ⟨wr.heap.size, 0, none⟩ = some (.int .i64 (pt L (j + 1)).1) := by go_simp
                      have p4 : (((wr.alloc (.cells #[.int .i64 (pt L (j + 1)).1, .int .i64 (pt L (j + 1)).2] 26)).alloc (.cells #[.int .i64 (pt L j).1, .int .i64 (pt L j).2] 26)).drew).cell? ⟨wr.heap.size, 1, none⟩ = some (.int .i64 (pt L (j + 1)).2) := by go_simp
                      have y1 : (((wr.alloc (.cells #[.int .i64 (pt L (j + 1)).1, .int .i64 (pt L (j + 1)).2] 26)).alloc (.cells #[.int .i64 (pt L j).1, .int .i64 (pt L j).2] 26)).drew).frozen? ⟨wr.heap.size + 1, 0, none⟩ = false := by go_simp
                      have y2 : (((wr.alloc (.cells #[.int .i64 (pt L (j + 1)).1, .int .i64 (pt L (j + 1)).2] 26)).alloc (.cells #[.int .i64 (pt L j).1, .int .i64 (pt L j).2] 26)).drew).frozen? ⟨wr.heap.size + 1, 1, none⟩ = false := by go_simp
                      have y3 : (((wr.alloc (.cells #[.int .i64 (pt L (j + 1)).1, .int .i64 (pt L (j + 1)).2] 26)).alloc (.cells #[.int .i64 (pt L j).1, .int .i64 (pt L j).2] 26)).drew).frozen? ⟨wr.heap.size, 0, none⟩ = false := by go_simp
                      have y4 : (((wr.alloc (.cells #[.int .i64 (pt L (j + 1)).1, .int .i64 (pt L (j + 1)).2] 26)).alloc (.cells #[.int .i64 (pt L j).1, .int .i64 (pt L j).2] 26)).drew).frozen? ⟨wr.heap.size, 1, none⟩ = false := by go_simp
                      have zz : wr.heap.size + 1 < (((wr.alloc (.cells #[.int .i64 (pt L (j + 1)).1, .int .i64 (pt L (j + 1)).2] 26)).alloc (.cells #[.int .i64 (pt L j).1, .int .i64 (pt L j).2] 26)).drew).heap.size := by simp
                      clear d1 d2 d3 d4
                      generalize (((wr.alloc (.cells #[.int .i64 (pt L (j + 1)).1, .int .i64 (pt L (j + 1)).2] 26)).alloc (.cells #[.int .i64 (pt L j).1, .int .i64 (pt L j).2] 26)).drew) = V at E3 p1 p2 p3 p4 y1 y2 y3 y4 zz ⊢
                      have x1 : wr.heap.size < V.heap.size := by omega
                      go_wp2_with fail
                      refine (order_any (pt L j) (pt L (j + 1)) _).mono ?_
                      rintro e W5 ⟨rfl, hE5⟩
                      have q1 := hE5.cell p1
                      have q2 := hE5.cell p2
                      have q3 := hE5.cell p3
                      have q4 := hE5.cell p4
                      have t1 := (hE5.frozen (p := ⟨wr.heap.size + 1, 0, none⟩) (by show wr.heap.size + 1 < _; omega)).trans y1
                      have t2 := (hE5.frozen (p := ⟨wr.heap.size + 1, 1, none⟩) (by show wr.heap.size + 1 < _; omega)).trans y2
                      have t3 := (hE5.frozen (p := ⟨wr.heap.size, 0, none⟩) (by show wr.heap.size < _; omega)).trans y3
                      have t4 := (hE5.frozen (p := ⟨wr.heap.size, 1, none⟩) (by show wr.heap.size < _; omega)).trans y4
                      have HS5 := Lib.hid (HS.out.ext (E3.trans hE5))
                      have EE := Lib.hid (E3.trans hE5)
                      clear p1 p2 p3 p4 y1 y2 y3 y4 E3 hE5
                      have HS6 := HS5
                      have EE6 : Hid (Below wr.heap.size wr W5) := EE.out
                      obtain ⟨kl, hkl⟩ := keyPr (p := (pt L j, pt L (j + 1))) (wf_inG i1.out).1 (wf_inG i1.out).2 (wf_inG i2.out).1 (wf_inG i2.out).2
                      have HKL := Lib.hid hkl
                      clear hkl
                      go_wp2_with (at_mapUpdate; refine wpList_setAdd _ rfl _ _ _ 93 rfl 74 4 lawPr Try.underlying93 Try.underlying4 mb (n0 + j) (pairK (ductK g hs k) L j) rfl HS6.out ?hn evPr_inj (pt L j, pt L (j + 1)) kl rfl rfl HKL.out ?hK)
                      case hn => unfold maxLen; omega
                      case hK =>
                        intro w6 hs6 hg6
                        have HS7 := Lib.hid hs6
                        have HG6 := Lib.hid hg6
                        clear hs6 hg6
                        go_wp2
                        refine ⟨⟨j + 1, by omega, by go_num, ?_, ?_, ?_⟩, by simp [Go.RowKit.intOf]; omega⟩
                        · have h9 := HS7.out
                          have hp : pairOf (pt L j) (pt L (j + 1)) = (pt L j, pt L (j + 1)) := by unfold pairOf; rw [if_neg (by omega)]
                          show SetAt _ _ _ _ _ _ _ (insP _ _)
                          rw [hp]
                          unfold insP
                          unfold setIns at h9
                          rw [Nat.add_assoc] at h9
                          split at h9 <;> split <;> first | exact h9 | contradiction
                        · exact HCH.out.trans ⟨Nat.le_trans EE6.out.size HG6.out.size, fun b hb hn => (HG6.out.block b (Nat.lt_of_lt_of_le hb EE6.out.size) (fun e => hn (by cases e; rfl))).trans (EE6.out.block b hb)⟩
                        · exact (HBB.out.trans (EE6.out.mono (by omega))).grown HG6.out (Nat.le_trans (by omega) EE6.out.size) (fun j hj => by cases hj; exact Nat.le_refl _)
                · have hjl' : ¬ (j : Int) + 1 < (L.length : Int) := by omega
                  have nmb : ∀ b cur e fr, W3.heap[b]? = some (.cells cur e fr) → b ≠ mb := fun b cur e fr h0 h1 => by
                    obtain ⟨es, cl, h8⟩ := HS0.out.at
                    rw [h1, h8] at h0; cases h0
                  have KK : Kept (fun k => k ≠ mb) 0 W3 wr := HCH.out.kept (fun k hk _ => hk)
                  have HOr : Hid (Owns wr (.slice la L.length lc) L) := HO3.out.kept KK (fun b hb => by
                    obtain ⟨c1, f1, e1⟩ := ownsRow_at HO3.out hb
                    exact nmb _ _ _ _ e1)
                  have HRr : Hid (RowsO wr (.slice av k cv) (ways g hs k)) := HD3.out.own.kept KK (fun b hb => by
                    obtain ⟨c1, f1, e1⟩ := HD3.out.own.at hb
                    exact nmb _ _ _ _ e1) (fun b cur fr h => nmb _ _ _ _ h)
                  have zm2 : mb < wr.heap.size := HS.out.lt
                  have zr3 : W3.heap.size ≤ wr.heap.size := HCH.out.1
                  clear KK nmb
                  have X1 : Ext wr (wr.alloc (.cells #[.slice la L.length lc] 22)) := (Ext.refl _).alloc _
                  obtain ⟨vs, h1, h2, h3⟩ := HRr.out.ext X1
                  rw [ways_len] at h1
                  have H1 := Lib.hid h1
                  have H2 := Lib.hid h2
                  have H3 := Lib.hid h3
                  have HX1 := Lib.hid X1
                  clear h1 h2 h3 X1
                  obtain ⟨i0, hi, hi0, hi1, hi2⟩ := info_parts infoRow
                  go_wp2_with (at_builtin; refine wpList_append1 _ rfl _ _ 39 rfl 22 i0 (.slice none 0 0) 1 24 Try.underlying39 hi hi0 hi1 hi2 rfl (by decide) (.slice av k cv) _ _ rfl H1.out ⟨wr.heap.size, 0, none⟩ 1 1 (by decide) [.slice la L.length lc] rfl rfl (cell_one_int _ _ _) ?c1 ?c2 ?c3 ?c4)
                  case c1 => first | (intro u hu; simp at hu; subst hu; rfl) | rfl | simp
                  case c2 => unfold maxLen; omega
                  case c3 => omega
                  case c4 =>
                    intro v' w5 hown5 hend5
                    have hlk : (ways g hs k).length = k := ways_len g hs k
                    have RO := rows_app (by rw [hlk]; exact H1.out) H2.out H3.out (HOr.out.ext HX1.out) hend5 (by rw [hlk]; exact hown5)
                    have hw1 : ways g hs k ++ [L] = ways g hs (k + 1) := by rw [HLEQ.out]; show _ = ways g hs k ++ [way g (ph hs k).1 (ph hs k).2]; rw [HX.out]
                    rw [hw1] at RO
                    obtain ⟨av', cv', hsh⟩ := RO.shape
                    rw [ways_len] at hsh
                    subst hsh
                    have HRO := Lib.hid RO
                    have HEND := Lib.hid hend5
                    have CA := Lib.hid (Chg.app hend5 (B := fun b => (Value.slice av k cv).ownBlock = some b) (fun b hb => hb))
                    clear hown5 hend5 hlk hw1 RO
                    go_wp2
                    refine ⟨⟨k + 1, av', cv', by omega, by go_num, rfl, HOK.out, ?_⟩, by simp [Go.RowKit.intOf]; omega⟩
                    have nvb : ∀ b, (Value.slice av k cv).ownBlock = some b → W0.heap.size ≤ b := HD3.out.vb
                    exact {
                      se := by
                        refine ⟨n0 + j, ?_, ?_⟩
                        · rw [Nat.add_mul]; omega
                        · have hdk : ductK g hs (k + 1) = pairK (ductK g hs k) L j := by
                            show pairsIn _ _ = _
                            rw [HX.out, ← HLEQ.out]
                            unfold pairsIn
                            rw [show L.length - 1 = j by omega]
                          rw [hdk]
                          exact (HS.out.ext HX1.out).same (CA.out.2 mb (Nat.lt_of_lt_of_le zm2 HX1.out.size) (fun e => by have := nvb mb e; omega))
                      be := ((HD3.out.be.trans HBB.out).trans (HX1.out.mono (by omega))).trans (HEND.out.below (by have := HX1.out.size; omega) (fun b hb => by have := nvb b hb; omega))
                      own := HRO.out
                      vb := fun b hb => by
                        rcases HEND.out with ⟨h1, _, _⟩ | ⟨h1, _⟩
                        · rw [h1] at hb; exact nvb b hb
                        · rw [h1] at hb
                          have hb' : b = (wr.alloc (.cells #[.slice la L.length lc] 22)).heap.size := by cases hb; rfl
                          simp at hb'
                          omega }
          · have HBAD : Hid (ductE g hs = cellsErr g [x.1, x.2]) := by
              show _ = _
              have h9 : hoseErr g x = cellsErr g [x.1, x.2] := by unfold hoseErr; rw [if_pos hce]
              rw [hE.out, hn.out, show hs.length - k = (hs.length - (k + 1)) + 1 by omega, hosesErr_stop (by rw [HX.out, h9]; exact hce), HX.out, h9]
            have HNE := Lib.hid hce
            have hb : (cellsErr g [x.1, x.2] != 0) = true := by simp [hce]
            have hb2 : (cellsErr g [x.1, x.2] == 0) = false := by simp [hce]
            clear hce
            go_wp2
            go_ret3
            exact DuctsPost.bad HBAD.out HNE.out HE2.out
        · have hk2 : k = hs.length := by omega
          have hlt' : ¬ (k : Int) < (hs.length : Int) := by omega
          obtain ⟨n, hn1, hS1⟩ := hd.out.se
          have HS1 := Lib.hid hS1
          clear hS1
          go_wp2_with (at_len; refine wpList_setLen _ rfl _ 93 rfl 74 4 Try.underlying93 mb _ (ductK g hs k) rfl HS1.out ?_)
          go_wp2
          go_ret3
          subst hk2
          obtain ⟨a', c', hv', hrr⟩ := hd.out.own.reads
          rw [ways_len] at hv'
          have hz : ductE g hs = 0 := by rw [hE.out, hn.out, Nat.sub_self]; rfl
          have hL1 : ductL g hs = ways g hs hs.length := by unfold ductL; rw [if_neg (by simp [hz])]
          have hN1 : ductN g hs = ((ductK g hs hs.length).length : Int) := by unfold ductN; rw [if_neg (by simp [hz])]
          refine ⟨a', c', ?_, by rw [hL1]; exact hrr, Below.trans EW (hd.out.be.mono (by omega))⟩
          show Ending.returned (.tuple #[.slice av hs.length cv, .int .i64 ((ductK g hs hs.length).length : Int), .int .i64 0]) = _
          rw [hL1, hN1, hz, ways_len, ← hv']
  · have hE : Hid (ductE g hs = chk g) := by show _ = _; unfold ductE; rw [if_pos h0]
    have hb : (chk g != 0) = true := by simp [h0]
    have hb2 : (chk g == 0) = false := by simp [h0]
    have H0 := Lib.hid h0
    clear h0
    go_wp2
    go_ret3
    exact DuctsPost.bad hE.out H0.out E1
end Go.Proofs.Ytfigooilhnahfaa
/- Bends. -/
namespace Go.Proofs.Ytfigooilhnahfaa
open Go.RowKit Go.Maps

/-- the bends among the first k cells -/
def bendN (l : List Pt) : Nat → Nat
  | 0 => 0
  | k + 1 => bendN l k + (if 2 ≤ k ∧ (pt l (k - 2)).1 ≠ (pt l k).1 ∧ (pt l (k - 2)).2 ≠ (pt l k).2 then 1 else 0)
theorem bendN_le (l : List Pt) : ∀ k, bendN l k ≤ k := by
  intro k
  induction k with
  | zero => exact Nat.le_refl _
  | succ k ih => unfold bendN; split <;> omega
theorem bendN_two (l : List Pt) : bendN l 2 = 0 := by simp [bendN]
def bendV (g : Gr) (l : List Pt) : Int := if listedErr g l ≠ 0 then 0 else if joinedB l = false then 0 else ((bendN l (max 2 l.length) : Nat) : Int)
def bendE (g : Gr) (l : List Pt) : Int := if listedErr g l ≠ 0 then listedErr g l else if joinedB l = false then 3 else 0

set_option maxHeartbeats 2000000 in
set_option maxRecDepth 100000 in
theorem Bends_any (g : Gr) (l : List Pt) (ga : Option Addr) (gc : Nat) (a : Option Addr) (cap : Nat) (w : World) (hg : g.bl.length ≤ maxLen) (hc : Cells2 w ga g.bl) (hl : l.length ≤ maxLen) (hcl : Cells2 w a l) :
    Calls Try.prog 34 #[.agg #[.int .i64 g.rows, .int .i64 g.cols, .slice ga g.bl.length gc], .slice a l.length cap] w fun e w' => e = .returned (.tuple #[.int .i64 (bendV g l), .int .i64 (bendE g l)]) ∧ Ext w w' := by
  have HC : Hid (Cells2 w ga g.bl) := hc
  have HL : Hid (Cells2 w a l) := hcl
  have HG := Lib.hid hg
  have HM := Lib.hid hl
  clear hc hcl hg hl
  have E0 : Ext w (((w).alloc (.cells #[.int .i64 g.rows, .int .i64 g.cols, .slice ga g.bl.length gc] 33))) := (Ext.refl _).alloc _
  have a1 : (((w).alloc (.cells #[.int .i64 g.rows, .int .i64 g.cols, .slice ga g.bl.length gc] 33))).cell? ⟨w.heap.size, 0, none⟩ = some (.int .i64 g.rows) := by go_simp
  have a2 : (((w).alloc (.cells #[.int .i64 g.rows, .int .i64 g.cols, .slice ga g.bl.length gc] 33))).cell? ⟨w.heap.size, 1, none⟩ = some (.int .i64 g.cols) := by go_simp
  have a3 : (((w).alloc (.cells #[.int .i64 g.rows, .int .i64 g.cols, .slice ga g.bl.length gc] 33))).cell? ⟨w.heap.size, 2, none⟩ = some (.slice ga g.bl.length gc) := by go_simp
  by_cases h0 : listedErr g l = 0
  · obtain ⟨hr, hne, hlen, ho⟩ := listed_ok h0
    have HR := Lib.hid hr
    have HIN : Hid (∀ i, i < l.length → inside g (pt l i) = true) := fun i hi => opn_inside (ho _ (pt_mem hi))
    have hv : Hid (bendV g l = (if joinedB l = false then 0 else ((bendN l (max 2 l.length) : Nat) : Int)) ∧ bendE g l = if joinedB l = false then 3 else 0) := by
      show _ ∧ _
      unfold bendV bendE
      exact ⟨by rw [if_neg (by simp [h0])], by rw [if_neg (by simp [h0])]⟩
    have H0 := Lib.hid h0
    have HLEN := Lib.hid hlen
    clear hr ho h0 hne
    go_enter Try.func34, Try.ntmps34
    go_wp2_with fail
    refine (listed_any g l ga gc a cap _ HG.out (HC.out.ext E0) HM.out (HL.out.ext E0)).mono ?_
    rintro e w1 ⟨rfl, hE⟩
    rw [H0.out]
    have E1 : Ext w w1 := E0.trans hE
    clear hE E0 a1 a2 a3
    go_wp2_with fail
    refine (joined_any l a cap _ HLEN.out (fun i hi => inG_of HR.out (HIN.out i hi)) (HL.out.ext E1)).mono ?_
    rintro e w2 ⟨rfl, hE⟩
    have E2 : Ext w w2 := E1.trans hE
    clear hE E1
    cases hj : joinedB l
    · have HJ := Lib.hid hj
      clear hj
      go_wp2
      go_ret2
      refine ⟨?_, E2⟩
      rw [hv.out.1, hv.out.2, HJ.out]
      rfl
    · have HJ := Lib.hid hj
      clear hj
      go_wp2
      go_loopw [7, 8] (fun n i wr => ∃ k : Nat, 2 ≤ k ∧ k ≤ max 2 l.length ∧ i = .int .i64 k ∧ n = .int .i64 (bendN l k) ∧ Ext w2 wr) (fun _ i _ => l.length - (intOf i).toNat)
      case atStart => exact ⟨2, Nat.le_refl _, by omega, rfl, by rw [bendN_two]; rfl, Ext.refl _⟩
      case round =>
        obtain ⟨k, hk2, hkm, rfl, rfl, he⟩ := hrel
        have hnb := bendN_le l k
        by_cases hlt : k < l.length
        · obtain ⟨b, off, ha, e1, e2⟩ := HL.out.ext (E2.trans he) k hlt
          obtain ⟨b', off', ha', f1, f2⟩ := HL.out.ext (E2.trans he) (k - 2) (by omega)
          subst ha
          cases ha'
          have q0 : IntKind.i64.wrap ((k : Int) - 2) = (k : Int) - 2 := IntWalk.i64_in _ (by omega)
          have q1 : ((k : Int) - 2).toNat = k - 2 := by omega
          have q2 : 0 ≤ (k : Int) - 2 := by omega
          have q3 : (2 : Int) ≤ (k : Int) := by omega
          have q4 : (k : Int) - 2 < (l.length : Int) := by omega
          have q5 : IntKind.i64.wrap ((bendN l k : Int) + 1) = (bendN l k : Int) + 1 := IntWalk.i64_in _ (by omega)
          have zb := cell_lt f1
          dsimp only at zb
          have HK := Lib.hid (show bendN l (k + 1) = bendN l k + (if 2 ≤ k ∧ (pt l (k - 2)).1 ≠ (pt l k).1 ∧ (pt l (k - 2)).2 ≠ (pt l k).2 then 1 else 0) from rfl)
          cases hx : ((pt l (k - 2)).1 != (pt l k).1)
          · go_wp2_with fail
            go_region
            · have E3 : Ext wr (((wr.alloc (.cells #[.int .i64 (pt l (k - 2)).1, .int .i64 (pt l (k - 2)).2] 26)).alloc (.cells #[.int .i64 (pt l k).1, .int .i64 (pt l k).2] 26)).drew) := (((Ext.refl _).alloc _).alloc _).drew
              have p1 : (((wr.alloc (.cells #[.int .i64 (pt l (k - 2)).1, .int .i64 (pt l (k - 2)).2] 26)).alloc (.cells #[.int .i64 (pt l k).1, .int .i64 (pt l k).2] 26)).drew).cell? ⟨wr.heap.size, 0, none⟩ = some (.int .i64 (pt l (k - 2)).1) := by go_simp
              have p2 : (((wr.alloc (.cells #[.int .i64 (pt l (k - 2)).1, .int .i64 (pt l (k - 2)).2] 26)).alloc (.cells #[.int .i64 (pt l k).1, .int .i64 (pt l k).2] 26)).drew).cell? ⟨wr.heap.size, 1, none⟩ = some (.int .i64 (pt l (k - 2)).2) := by go_simp
              have p3 : (((wr.alloc (.cells #[.int .i64 (pt l (k - 2)).1, .int .i64 (pt l (k - 2)).2] 26)).alloc (.cells #[.int .i64 (pt l k).1, .int .i64 (pt l k).2] 26)).drew).cell? ⟨wr.heap.size + 1, 0, none⟩ = some (.int .i64 (pt l k).1) := by go_simp
              have p4 : (((wr.alloc (.cells #[.int .i64 (pt l (k - 2)).1, .int .i64 (pt l (k - 2)).2] 26)).alloc (.cells #[.int .i64 (pt l k).1, .int .i64 (pt l k).2] 26)).drew).cell? ⟨wr.heap.size + 1, 1, none⟩ = some (.int .i64 (pt l k).2) := by go_simp
              clear e1 e2 f1 f2
              generalize (((wr.alloc (.cells #[.int .i64 (pt l (k - 2)).1, .int .i64 (pt l (k - 2)).2] 26)).alloc (.cells #[.int .i64 (pt l k).1, .int .i64 (pt l k).2] 26)).drew) = W at p1 p2 p3 p4 E3 ⊢
              go_wp2
              refine ⟨⟨k + 1, by omega, by omega, by go_num, ?_, he.trans E3⟩, by simp [intOf]; omega⟩
              rw [HK.out, if_neg (fun h => by first | exact absurd h.2.1 (by simpa using hx) | exact absurd h.2.2 (by simpa using hy))]
              rfl
            · have E3 : Ext wr (((wr.alloc (.cells #[.int .i64 (pt l k).1, .int .i64 (pt l k).2] 26)).alloc (.cells #[.int .i64 (pt l (k - 2)).1, .int .i64 (pt l (k - 2)).2] 26)).drew) := (((Ext.refl _).alloc _).alloc _).drew
              have p1 : (((wr.alloc (.cells #[.int .i64 (pt l k).1, .int .i64 (pt l k).2] 26)).alloc (.cells #[.int .i64 (pt l (k - 2)).1, .int .i64 (pt l (k - 2)).2] 26)).drew).cell? ⟨wr.heap.size + 1, 0, none⟩ = some (.int .i64 (pt l (k - 2)).1) := by go_simp
              have p2 : (((wr.alloc (.cells #[.int .i64 (pt l k).1, .int .i64 (pt l k).2] 26)).alloc (.cells #[.int .i64 (pt l (k - 2)).1, .int .i64 (pt l (k - 2)).2] 26)).drew).cell? ⟨wr.heap.size + 1, 1, none⟩ = some (.int .i64 (pt l (k - 2)).2) := by go_simp
              have p3 : (((wr.alloc (.cells #[.int .i64 (pt l k).1, .int .i64 (pt l k).2] 26)).alloc (.cells #[.int .i64 (pt l (k - 2)).1, .int .i64 (pt l (k - 2)).2] 26)).drew).cell? ⟨wr.heap.size, 0, none⟩ = some (.int .i64 (pt l k).1) := by go_simp
              have p4 : (((wr.alloc (.cells #[.int .i64 (pt l k).1, .int .i64 (pt l k).2] 26)).alloc (.cells #[.int .i64 (pt l (k - 2)).1, .int .i64 (pt l (k - 2)).2] 26)).drew).cell? ⟨wr.heap.size, 1, none⟩ = some (.int .i64 (pt l k).2) := by go_simp
              clear e1 e2 f1 f2
              generalize (((wr.alloc (.cells #[.int .i64 (pt l k).1, .int .i64 (pt l k).2] 26)).alloc (.cells #[.int .i64 (pt l (k - 2)).1, .int .i64 (pt l (k - 2)).2] 26)).drew) = W at p1 p2 p3 p4 E3 ⊢
              go_wp2
              refine ⟨⟨k + 1, by omega, by omega, by go_num, ?_, he.trans E3⟩, by simp [intOf]; omega⟩
              rw [HK.out, if_neg (fun h => by first | exact absurd h.2.1 (by simpa using hx) | exact absurd h.2.2 (by simpa using hy))]
              rfl
          · cases hy : ((pt l (k - 2)).2 != (pt l k).2)
            · go_wp2_with fail
              go_region
              · have E3 : Ext wr (((wr.alloc (.cells #[.int .i64 (pt l (k - 2)).1, .int .i64 (pt l (k - 2)).2] 26)).alloc (.cells #[.int .i64 (pt l k).1, .int .i64 (pt l k).2] 26)).drew) := (((Ext.refl _).alloc _).alloc _).drew
                have p1 : (((wr.alloc (.cells #[.int .i64 (pt l (k - 2)).1, .int .i64 (pt l (k - 2)).2] 26)).alloc (.cells #[.int .i64 (pt l k).1, .int .i64 (pt l k).2] 26)).drew).cell? ⟨wr.heap.size, 0, none⟩ = some (.int .i64 (pt l (k - 2)).1) := by go_simp
                have p2 : (((wr.alloc (.cells #[.int .i64 (pt l (k - 2)).1, .int .i64 (pt l (k - 2)).2] 26)).alloc (.cells #[.int .i64 (pt l k).1, .int .i64 (pt l k).2] 26)).drew).cell? ⟨wr.heap.size, 1, none⟩ = some (.int .i64 (pt l (k - 2)).2) := by go_simp
                have p3 : (((wr.alloc (.cells #[.int .i64 (pt l (k - 2)).1, .int .i64 (pt l (k - 2)).2] 26)).alloc (.cells #[.int .i64 (pt l k).1, .int .i64 (pt l k).2] 26)).drew).cell? ⟨wr.heap.size + 1, 0, none⟩ = some (.int .i64 (pt l k).1) := by go_simp
                have p4 : (((wr.alloc (.cells #[.int .i64 (pt l (k - 2)).1, .int .i64 (pt l (k - 2)).2] 26)).alloc (.cells #[.int .i64 (pt l k).1, .int .i64 (pt l k).2] 26)).drew).cell? ⟨wr.heap.size + 1, 1, none⟩ = some (.int .i64 (pt l k).2) := by go_simp
                clear e1 e2 f1 f2
                generalize (((wr.alloc (.cells #[.int .i64 (pt l (k - 2)).1, .int .i64 (pt l (k - 2)).2] 26)).alloc (.cells #[.int .i64 (pt l k).1, .int .i64 (pt l k).2] 26)).drew) = W at p1 p2 p3 p4 E3 ⊢
                go_wp2
                refine ⟨⟨k + 1, by omega, by omega, by go_num, ?_, he.trans E3⟩, by simp [intOf]; omega⟩
                rw [HK.out, if_neg (fun h => by first | exact absurd h.2.1 (by simpa using hx) | exact absurd h.2.2 (by simpa using hy))]
                rfl
              · have E3 : Ext wr (((wr.alloc (.cells #[.int .i64 (pt l k).1, .int .i64 (pt l k).2] 26)).alloc (.cells #[.int .i64 (pt l (k - 2)).1, .int .i64 (pt l (k - 2)).2] 26)).drew) := (((Ext.refl _).alloc _).alloc _).drew
                have p1 : (((wr.alloc (.cells #[.int .i64 (pt l k).1, .int .i64 (pt l k).2] 26)).alloc (.cells #[.int .i64 (pt l (k - 2)).1, .int .i64 (pt l (k - 2)).2] 26)).drew).cell? ⟨wr.heap.size + 1, 0, none⟩ = some (.int .i64 (pt l (k - 2)).1) := by go_simp
                have p2 : (((wr.alloc (.cells #[.int .i64 (pt l k).1, .int .i64 (pt l k).2] 26)).alloc (.cells #[.int .i64 (pt l (k - 2)).1, .int .i64 (pt l (k - 2)).2] 26)).drew).cell? ⟨wr.heap.size + 1, 1, none⟩ = some (.int .i64 (pt l (k - 2)).2) := by go_simp
                have p3 : (((wr.alloc (.cells #[.int .i64 (pt l k).1, .int .i64 (pt l k).2] 26)).alloc (.cells #[.int .i64 (pt l (k - 2)).1, .int .i64 (pt l (k - 2)).2] 26)).drew).cell? ⟨wr.heap.size, 0, none⟩ = some (.int .i64 (pt l k).1) := by go_simp
                have p4 : (((wr.alloc (.cells #[.int .i64 (pt l k).1, .int .i64 (pt l k).2] 26)).alloc (.cells #[.int .i64 (pt l (k - 2)).1, .int .i64 (pt l (k - 2)).2] 26)).drew).cell? ⟨wr.heap.size, 1, none⟩ = some (.int .i64 (pt l k).2) := by go_simp
                clear e1 e2 f1 f2
                generalize (((wr.alloc (.cells #[.int .i64 (pt l k).1, .int .i64 (pt l k).2] 26)).alloc (.cells #[.int .i64 (pt l (k - 2)).1, .int .i64 (pt l (k - 2)).2] 26)).drew) = W at p1 p2 p3 p4 E3 ⊢
                go_wp2
                refine ⟨⟨k + 1, by omega, by omega, by go_num, ?_, he.trans E3⟩, by simp [intOf]; omega⟩
                rw [HK.out, if_neg (fun h => by first | exact absurd h.2.1 (by simpa using hx) | exact absurd h.2.2 (by simpa using hy))]
                rfl
            · go_wp2_with fail
              go_region
              · have E3 : Ext wr (((wr.alloc (.cells #[.int .i64 (pt l (k - 2)).1, .int .i64 (pt l (k - 2)).2] 26)).alloc (.cells #[.int .i64 (pt l k).1, .int .i64 (pt l k).2] 26)).drew) := (((Ext.refl _).alloc _).alloc _).drew
                have p1 : (((wr.alloc (.cells #[.int .i64 (pt l (k - 2)).1, .int .i64 (pt l (k - 2)).2] 26)).alloc (.cells #[.int .i64 (pt l k).1, .int .i64 (pt l k).2] 26)).drew).cell? ⟨wr.heap.size, 0, none⟩ = some (.int .i64 (pt l (k - 2)).1) := by go_simp
                have p2 : (((wr.alloc (.cells #[.int .i64 (pt l (k - 2)).1, .int .i64 (pt l (k - 2)).2] 26)).alloc (.cells #[.int .i64 (pt l k).1, .int .i64 (pt l k).2] 26)).drew).cell? ⟨wr.heap.size, 1, none⟩ = some (.int .i64 (pt l (k - 2)).2) := by go_simp
                have p3 : (((wr.alloc (.cells #[.int .i64 (pt l (k - 2)).1, .int .i64 (pt l (k - 2)).2] 26)).alloc (.cells #[.int .i64 (pt l k).1, .int .i64 (pt l k).2] 26)).drew).cell? ⟨wr.heap.size + 1, 0, none⟩ = some (.int .i64 (pt l k).1) := by go_simp
                have p4 : (((wr.alloc (.cells #[.int .i64 (pt l (k - 2)).1, .int .i64 (pt l (k - 2)).2] 26)).alloc (.cells #[.int .i64 (pt l k).1, .int .i64 (pt l k).2] 26)).drew).cell? ⟨wr.heap.size + 1, 1, none⟩ = some (.int .i64 (pt l k).2) := by go_simp
                clear e1 e2 f1 f2
                generalize (((wr.alloc (.cells #[.int .i64 (pt l (k - 2)).1, .int .i64 (pt l (k - 2)).2] 26)).alloc (.cells #[.int .i64 (pt l k).1, .int .i64 (pt l k).2] 26)).drew) = W at p1 p2 p3 p4 E3 ⊢
                go_wp2
                refine ⟨⟨k + 1, by omega, by omega, by go_num, ?_, he.trans E3⟩, by simp [intOf]; omega⟩
                rw [HK.out, if_pos ⟨hk2, by simpa using hx, by simpa using hy⟩]
                first | rfl | go_num | (simp)
              · have E3 : Ext wr (((wr.alloc (.cells #[.int .i64 (pt l k).1, .int .i64 (pt l k).2] 26)).alloc (.cells #[.int .i64 (pt l (k - 2)).1, .int .i64 (pt l (k - 2)).2] 26)).drew) := (((Ext.refl _).alloc _).alloc _).drew
                have p1 : (((wr.alloc (.cells #[.int .i64 (pt l k).1, .int .i64 (pt l k).2] 26)).alloc (.cells #[.int .i64 (pt l (k - 2)).1, .int .i64 (pt l (k - 2)).2] 26)).drew).cell? ⟨wr.heap.size + 1, 0, none⟩ = some (.int .i64 (pt l (k - 2)).1) := by go_simp
                have p2 : (((wr.alloc (.cells #[.int .i64 (pt l k).1, .int .i64 (pt l k).2] 26)).alloc (.cells #[.int .i64 (pt l (k - 2)).1, .int .i64 (pt l (k - 2)).2] 26)).drew).cell? ⟨wr.heap.size + 1, 1, none⟩ = some (.int .i64 (pt l (k - 2)).2) := by go_simp
                have p3 : (((wr.alloc (.cells #[.int .i64 (pt l k).1, .int .i64 (pt l k).2] 26)).alloc (.cells #[.int .i64 (pt l (k - 2)).1, .int .i64 (pt l (k - 2)).2] 26)).drew).cell? ⟨wr.heap.size, 0, none⟩ = some (.int .i64 (pt l k).1) := by go_simp
                have p4 : (((wr.alloc (.cells #[.int .i64 (pt l k).1, .int .i64 (pt l k).2] 26)).alloc (.cells #[.int .i64 (pt l (k - 2)).1, .int .i64 (pt l (k - 2)).2] 26)).drew).cell? ⟨wr.heap.size, 1, none⟩ = some (.int .i64 (pt l k).2) := by go_simp
                clear e1 e2 f1 f2
                generalize (((wr.alloc (.cells #[.int .i64 (pt l k).1, .int .i64 (pt l k).2] 26)).alloc (.cells #[.int .i64 (pt l (k - 2)).1, .int .i64 (pt l (k - 2)).2] 26)).drew) = W at p1 p2 p3 p4 E3 ⊢
                go_wp2
                refine ⟨⟨k + 1, by omega, by omega, by go_num, ?_, he.trans E3⟩, by simp [intOf]; omega⟩
                rw [HK.out, if_pos ⟨hk2, by simpa using hx, by simpa using hy⟩]
                first | rfl | go_num | (simp)
        · go_wp2
          go_ret2
          refine ⟨?_, E2.trans he⟩
          rw [hv.out.1, hv.out.2, HJ.out, show max 2 l.length = k by omega]
          rfl
  · have hv : Hid (bendV g l = 0 ∧ bendE g l = listedErr g l) := by
      show _ ∧ _
      unfold bendV bendE
      rw [if_pos h0, if_pos h0]
      exact ⟨rfl, rfl⟩
    have hb : (listedErr g l != 0) = true := by simp [h0]
    have hb2 : (listedErr g l == 0) = false := by simp [h0]
    clear h0
    go_enter Try.func34, Try.ntmps34
    go_wp2_with fail
    refine (listed_any g l ga gc a cap _ HG.out (HC.out.ext E0) HM.out (HL.out.ext E0)).mono ?_
    rintro e w1 ⟨rfl, hE⟩
    go_wp2
    go_ret2
    rw [hv.out.1, hv.out.2]
    exact ⟨rfl, E0.trans hE⟩
end Go.Proofs.Ytfigooilhnahfaa
/- The examples of the chapter, reckoned. -/
namespace Go.Proofs.Ytfigooilhnahfaa

theorem wall_way : way wallG (0, 1) (2, 1) = [(0, 1), (0, 0), (1, 0), (2, 0), (2, 1)] := by decide +kernel
theorem wall_chk : chk wallG = 0 := by decide +kernel
theorem wall_given : givenErr wallG [(0, 1), (2, 1)] = 0 := by decide +kernel
theorem wall_dst : dst wallG (2, 1) (0, 1) = 4 := by decide +kernel
theorem wall_bends : bendV wallG [(0, 1), (0, 0), (1, 0), (2, 0), (2, 1)] = 2 ∧ bendE wallG [(0, 1), (0, 0), (1, 0), (2, 0), (2, 1)] = 0 := by decide +kernel
theorem wall_meet : meetP wallG (0, 0) (0, 3) (2, 0) = (0, 0) ∧ meetN wallG (0, 0) (0, 3) (2, 0) = 5 ∧ meetE wallG (0, 0) (0, 3) (2, 0) = 0 := by decide +kernel
theorem wall_duct : ductN wallG [((0, 0), (0, 3)), ((0, 1), (2, 0))] = 5 ∧ ductE wallG [((0, 0), (0, 3)), ((0, 1), (2, 0))] = 0 := by decide +kernel
theorem wall_route : routeV wallG (0, 1) (2, 1) = [(0, 1), (0, 0), (1, 0), (2, 0), (2, 1)] ∧ lenE wallG (0, 1) (2, 1) = 0 := by decide +kernel
theorem wall_parts : partsL wallG = [10] := by
  have h : partsU wallG = [10] := by decide +kernel
  unfold partsL
  rw [if_neg (by rw [wall_chk]; decide), h]
  simp
end Go.Proofs.Ytfigooilhnahfaa
/- Whether two lists of places are the same. -/
namespace Go.Proofs.Ytfigooilhnahfaa
open Go.RowKit

theorem pts_ext {l m : List Pt} (hl : l.length = m.length) (h : ∀ j, j < l.length → pt l j = pt m j) : l = m := by
  refine List.ext_getElem hl fun i h1 h2 => ?_
  have := h i h1
  unfold pt at this
  rw [List.getD_eq_getElem?_getD, List.getD_eq_getElem?_getD, List.getElem?_eq_getElem h1, List.getElem?_eq_getElem h2] at this
  simpa using this

set_option maxHeartbeats 1000000 in
theorem Same_any (l m : List Pt) (a a' : Option Addr) (cap cap' : Nat) (w : World) (hl : l.length ≤ maxLen) (hc : Cells2 w a l) (hd : Cells2 w a' m) :
    Calls Try.prog 31 #[.slice a l.length cap, .slice a' m.length cap'] w fun e w' => e = .returned (.bool (decide (l = m))) ∧ Ext w w' := by
  unfold maxLen at hl
  by_cases hlen : l.length = m.length
  · have HLE := Lib.hid hlen
    have hle : ((l.length : Int) != (m.length : Int)) = false := by simp [hlen]
    have hle2 : (l.length != m.length) = false := by simp [hlen]
    clear hlen
    go_enter Try.func31, Try.ntmps31
    go_wp2
    go_loopw [5] (fun i wr => ∃ k : Nat, k ≤ l.length ∧ i = .int .i64 k ∧ Hid (∀ j, j < k → pt l j = pt m j) ∧ Ext w wr) (fun i _ => l.length - (intOf i).toNat)
    case atStart => exact ⟨0, Nat.zero_le _, rfl, fun j hj => by omega, Ext.refl _⟩
    case round =>
      obtain ⟨k, hk, rfl, hn, he⟩ := hrel
      by_cases hlt : k < l.length
      · obtain ⟨b, off, ha, e1, e2⟩ := hc.ext he k hlt
        obtain ⟨b', off', ha', d1, d2⟩ := hd.ext he k (by have := HLE.out; omega)
        have HC : Hid (Cells2 w a l) := hc
        have HD : Hid (Cells2 w a' m) := hd
        subst ha ha'
        clear hc hd
        have hkm : (k : Int) < (m.length : Int) := by have := HLE.out; omega
        by_cases heq : pt l k = pt m k
        · have HN : Hid (pt l k = pt m k) := heq
          rw [heq] at e1 e2
          clear heq
          go_wp2
          go_quiet (fail)
          go_wp2
          refine ⟨⟨k + 1, by omega, by go_num, fun j hj => ?_, he.drewN _⟩, by simp [intOf]; omega⟩
          by_cases e : j = k
          · subst e; exact HN.out
          · exact hn.out j (by omega)
        · have hne : Hid (l ≠ m) := by rintro rfl; exact heq rfl
          by_cases h1 : (pt l k).1 = (pt m k).1
          · have h2 : ((pt l k).2 == (pt m k).2) = false := by
              cases hb : ((pt l k).2 == (pt m k).2)
              · rfl
              · exact absurd (Prod.ext h1 (by simpa using hb)) heq
            rw [h1] at e1
            clear heq h1
            go_wp2
            go_quiet (fail)
            go_wp2
            go_ret
            exact ⟨ret_bool (by simp [hne.out]), he.drewN _⟩
          · have h2 : ((pt l k).1 == (pt m k).1) = false := by simpa using h1
            clear heq h1
            go_wp2
            go_quiet (fail)
            go_wp2
            go_ret
            exact ⟨ret_bool (by simp [hne.out]), he.drewN _⟩
      · go_wp2
        go_ret
        refine ⟨ret_bool ?_, he⟩
        symm
        rw [decide_eq_true_eq]
        exact pts_ext HLE.out (fun j hj => hn.out j (by omega))
  · have hne : l ≠ m := by rintro rfl; exact hlen rfl
    have hle : ((l.length : Int) != (m.length : Int)) = true := by simp; omega
    have hle2 : (l.length != m.length) = true := by simp; omega
    have hle3 : ((l.length : Int) == (m.length : Int)) = false := by simp; omega
    have hle4 : (l.length == m.length) = false := by simp; omega
    have HNE := Lib.hid hne
    clear hne hlen
    go_enter Try.func31, Try.ntmps31
    go_wp2
    go_ret
    exact ⟨ret_bool (by simp [HNE.out]), Ext.refl _⟩

set_option maxHeartbeats 1000000 in
theorem EqualP_any (l m : List Pt) (a a' : Option Addr) (cap cap' : Nat) (w : World) (hl : l.length ≤ maxLen) (hc : Cells2 w a l) (hd : Cells2 w a' m) :
    Calls Try.prog 46 #[.slice a l.length cap, .slice a' m.length cap'] w fun e w' => e = .returned (.bool (decide (l = m))) ∧ Ext w w' := by
  unfold maxLen at hl
  by_cases hlen : l.length = m.length
  · have HLE := Lib.hid hlen
    have hle : ((l.length : Int) != (m.length : Int)) = false := by simp [hlen]
    have hle2 : (l.length != m.length) = false := by simp [hlen]
    clear hlen
    go_enter Try.func46, Try.ntmps46
    go_wp2
    go_loopw [13] (fun i wr => ∃ k : Nat, k ≤ l.length ∧ i = .int .i64 k ∧ Hid (∀ j, j < k → pt l j = pt m j) ∧ Ext w wr) (fun i _ => l.length - (intOf i).toNat)
    case atStart => exact ⟨0, Nat.zero_le _, rfl, fun j hj => by omega, Ext.refl _⟩
    case round =>
      obtain ⟨k, hk, rfl, hn, he⟩ := hrel
      by_cases hlt : k < l.length
      · obtain ⟨b, off, ha, e1, e2⟩ := hc.ext he k hlt
        obtain ⟨b', off', ha', d1, d2⟩ := hd.ext he k (by have := HLE.out; omega)
        have HC : Hid (Cells2 w a l) := hc
        have HD : Hid (Cells2 w a' m) := hd
        subst ha ha'
        clear hc hd
        have hkm : (k : Int) < (m.length : Int) := by have := HLE.out; omega
        by_cases heq : pt l k = pt m k
        · have HN : Hid (pt l k = pt m k) := heq
          rw [heq] at e1 e2
          clear heq
          go_wp2
          go_quiet (fail)
          go_wp2
          refine ⟨⟨k + 1, by omega, by go_num, fun j hj => ?_, he.drewN _⟩, by simp [intOf]; omega⟩
          by_cases e : j = k
          · subst e; exact HN.out
          · exact hn.out j (by omega)
        · have hne : Hid (l ≠ m) := by rintro rfl; exact heq rfl
          by_cases h1 : (pt l k).1 = (pt m k).1
          · have h2 : ((pt l k).2 == (pt m k).2) = false := by
              cases hb : ((pt l k).2 == (pt m k).2)
              · rfl
              · exact absurd (Prod.ext h1 (by simpa using hb)) heq
            rw [h1] at e1
            clear heq h1
            go_wp2
            go_quiet (fail)
            go_wp2
            go_ret
            exact ⟨ret_bool (by simp [hne.out]), he.drewN _⟩
          · have h2 : ((pt l k).1 == (pt m k).1) = false := by simpa using h1
            clear heq h1
            go_wp2
            go_quiet (fail)
            go_wp2
            go_ret
            exact ⟨ret_bool (by simp [hne.out]), he.drewN _⟩
      · go_wp2
        go_ret
        refine ⟨ret_bool ?_, he⟩
        symm
        rw [decide_eq_true_eq]
        exact pts_ext HLE.out (fun j hj => hn.out j (by omega))
  · have hne : l ≠ m := by rintro rfl; exact hlen rfl
    have hle : ((l.length : Int) != (m.length : Int)) = true := by simp; omega
    have hle2 : (l.length != m.length) = true := by simp; omega
    have hle3 : ((l.length : Int) == (m.length : Int)) = false := by simp; omega
    have hle4 : (l.length == m.length) = false := by simp; omega
    have HNE := Lib.hid hne
    clear hne hlen
    go_enter Try.func46, Try.ntmps46
    go_wp2
    go_ret
    exact ⟨ret_bool (by simp [HNE.out]), Ext.refl _⟩
end Go.Proofs.Ytfigooilhnahfaa
/- Whether two lists of numbers are the same. -/
namespace Go.Proofs.Ytfigooilhnahfaa
open Go.RowKit

set_option maxHeartbeats 1000000 in
theorem EqualI_any (l m : List Int) (a a' : Option Addr) (cap cap' : Nat) (w : World) (hl : l.length ≤ maxLen) (hc : CellsI w a l) (hd : CellsI w a' m) :
    Calls Try.prog 47 #[.slice a l.length cap, .slice a' m.length cap'] w fun e w' => e = .returned (.bool (decide (l = m))) ∧ Ext w w' := by
  unfold maxLen at hl
  by_cases hlen : l.length = m.length
  · have HLE := Lib.hid hlen
    have hle : ((l.length : Int) != (m.length : Int)) = false := by simp [hlen]
    have hle2 : (l.length != m.length) = false := by simp [hlen]
    clear hlen
    go_enter Try.func47, Try.ntmps47
    go_wp2
    go_loopw [13] (fun i wr => ∃ k : Nat, k ≤ l.length ∧ i = .int .i64 k ∧ Hid (∀ j, j < k → l.getD j 0 = m.getD j 0) ∧ Ext w wr) (fun i _ => l.length - (intOf i).toNat)
    case atStart => exact ⟨0, Nat.zero_le _, rfl, fun j hj => by omega, Ext.refl _⟩
    case round =>
      obtain ⟨k, hk, rfl, hn, he⟩ := hrel
      by_cases hlt : k < l.length
      · obtain ⟨b, off, ha, e1⟩ := hc.ext he k hlt
        obtain ⟨b', off', ha', d1⟩ := hd.ext he k (by have := HLE.out; omega)
        have HC : Hid (CellsI w a l) := hc
        have HD : Hid (CellsI w a' m) := hd
        subst ha ha'
        clear hc hd
        have hkm : (k : Int) < (m.length : Int) := by have := HLE.out; omega
        generalize hx : l.getD k 0 = x at e1
        generalize hy : m.getD k 0 = y at d1
        have HX := Lib.hid hx
        have HY := Lib.hid hy
        clear hx hy
        by_cases heq : x = y
        · subst heq
          go_wp2
          go_quiet (fail)
          go_wp2
          refine ⟨⟨k + 1, by omega, by go_num, fun j hj => ?_, he.drewN _⟩, by simp [intOf]; omega⟩
          by_cases e : j = k
          · subst e; rw [HX.out, HY.out]
          · exact hn.out j (by omega)
        · have hne : Hid (l ≠ m) := by rintro rfl; exact heq (HX.out.symm.trans HY.out)
          have h2 : (x == y) = false := by simpa using heq
          have h3 : (x != y) = true := by simpa using heq
          clear heq
          go_wp2
          go_quiet (fail)
          go_wp2
          go_ret
          exact ⟨ret_bool (by simp [hne.out]), he.drewN _⟩
      · go_wp2
        go_ret
        refine ⟨ret_bool ?_, he⟩
        symm
        rw [decide_eq_true_eq]
        refine List.ext_getElem HLE.out fun i h1 h2 => ?_
        have := hn.out i (by omega)
        rw [List.getD_eq_getElem?_getD, List.getD_eq_getElem?_getD, List.getElem?_eq_getElem h1, List.getElem?_eq_getElem h2] at this
        simpa using this
  · have hne : l ≠ m := by rintro rfl; exact hlen rfl
    have hle : ((l.length : Int) != (m.length : Int)) = true := by simp; omega
    have hle2 : (l.length != m.length) = true := by simp; omega
    have hle3 : ((l.length : Int) == (m.length : Int)) = false := by simp; omega
    have hle4 : (l.length == m.length) = false := by simp; omega
    have HNE := Lib.hid hne
    clear hne hlen
    go_enter Try.func47, Try.ntmps47
    go_wp2
    go_ret
    exact ⟨ret_bool (by simp [HNE.out]), Ext.refl _⟩

set_option maxHeartbeats 1000000 in
theorem SameInts_any (l m : List Int) (a a' : Option Addr) (cap cap' : Nat) (w : World) (hl : l.length ≤ maxLen) (hc : CellsI w a l) (hd : CellsI w a' m) :
    Calls Try.prog 26 #[.slice a l.length cap, .slice a' m.length cap'] w fun e w' => e = .returned (.bool (decide (l = m))) ∧ Ext w w' := by
  unfold maxLen at hl
  by_cases hlen : l.length = m.length
  · have HLE := Lib.hid hlen
    have hle : ((l.length : Int) != (m.length : Int)) = false := by simp [hlen]
    have hle2 : (l.length != m.length) = false := by simp [hlen]
    clear hlen
    go_enter Try.func26, Try.ntmps26
    go_wp2
    go_loopw [5] (fun i wr => ∃ k : Nat, k ≤ l.length ∧ i = .int .i64 k ∧ Hid (∀ j, j < k → l.getD j 0 = m.getD j 0) ∧ Ext w wr) (fun i _ => l.length - (intOf i).toNat)
    case atStart => exact ⟨0, Nat.zero_le _, rfl, fun j hj => by omega, Ext.refl _⟩
    case round =>
      obtain ⟨k, hk, rfl, hn, he⟩ := hrel
      by_cases hlt : k < l.length
      · obtain ⟨b, off, ha, e1⟩ := hc.ext he k hlt
        obtain ⟨b', off', ha', d1⟩ := hd.ext he k (by have := HLE.out; omega)
        have HC : Hid (CellsI w a l) := hc
        have HD : Hid (CellsI w a' m) := hd
        subst ha ha'
        clear hc hd
        have hkm : (k : Int) < (m.length : Int) := by have := HLE.out; omega
        generalize hx : l.getD k 0 = x at e1
        generalize hy : m.getD k 0 = y at d1
        have HX := Lib.hid hx
        have HY := Lib.hid hy
        clear hx hy
        by_cases heq : x = y
        · subst heq
          go_wp2
          go_quiet (fail)
          go_wp2
          refine ⟨⟨k + 1, by omega, by go_num, fun j hj => ?_, he.drewN _⟩, by simp [intOf]; omega⟩
          by_cases e : j = k
          · subst e; rw [HX.out, HY.out]
          · exact hn.out j (by omega)
        · have hne : Hid (l ≠ m) := by rintro rfl; exact heq (HX.out.symm.trans HY.out)
          have h2 : (x == y) = false := by simpa using heq
          have h3 : (x != y) = true := by simpa using heq
          clear heq
          go_wp2
          go_quiet (fail)
          go_wp2
          go_ret
          exact ⟨ret_bool (by simp [hne.out]), he.drewN _⟩
      · go_wp2
        go_ret
        refine ⟨ret_bool ?_, he⟩
        symm
        rw [decide_eq_true_eq]
        refine List.ext_getElem HLE.out fun i h1 h2 => ?_
        have := hn.out i (by omega)
        rw [List.getD_eq_getElem?_getD, List.getD_eq_getElem?_getD, List.getElem?_eq_getElem h1, List.getElem?_eq_getElem h2] at this
        simpa using this
  · have hne : l ≠ m := by rintro rfl; exact hlen rfl
    have hle : ((l.length : Int) != (m.length : Int)) = true := by simp; omega
    have hle2 : (l.length != m.length) = true := by simp; omega
    have hle3 : ((l.length : Int) == (m.length : Int)) = false := by simp; omega
    have hle4 : (l.length == m.length) = false := by simp; omega
    have HNE := Lib.hid hne
    clear hne hlen
    go_enter Try.func26, Try.ntmps26
    go_wp2
    go_ret
    exact ⟨ret_bool (by simp [HNE.out]), Ext.refl _⟩
end Go.Proofs.Ytfigooilhnahfaa
/- The examples of the chapter. -/
namespace Go.Proofs.Ytfigooilhnahfaa
open Go.RowKit

theorem cells2_five {w : World} {b : Nat} {p q r s t : Pt} (h1 : w.cell? ⟨b, 0, none⟩ = some (.int .i64 p.1)) (h2 : w.cell? ⟨b, 1, none⟩ = some (.int .i64 p.2)) (h3 : w.cell? ⟨b, 2, none⟩ = some (.int .i64 q.1)) (h4 : w.cell? ⟨b, 3, none⟩ = some (.int .i64 q.2)) (h5 : w.cell? ⟨b, 4, none⟩ = some (.int .i64 r.1)) (h6 : w.cell? ⟨b, 5, none⟩ = some (.int .i64 r.2))
    (h7 : w.cell? ⟨b, 6, none⟩ = some (.int .i64 s.1)) (h8 : w.cell? ⟨b, 7, none⟩ = some (.int .i64 s.2)) (h9 : w.cell? ⟨b, 8, none⟩ = some (.int .i64 t.1)) (h10 : w.cell? ⟨b, 9, none⟩ = some (.int .i64 t.2)) : Cells2 w (some ⟨b, 0, none⟩) [p, q, r, s, t] := fun i hi => by
  have : i = 0 ∨ i = 1 ∨ i = 2 ∨ i = 3 ∨ i = 4 := by simp at hi; omega
  rcases this with rfl | rfl | rfl | rfl | rfl
  · exact ⟨b, 0, rfl, by simpa [pt] using h1, by simpa [pt] using h2⟩
  · exact ⟨b, 0, rfl, by simpa [pt] using h3, by simpa [pt] using h4⟩
  · exact ⟨b, 0, rfl, by simpa [pt] using h5, by simpa [pt] using h6⟩
  · exact ⟨b, 0, rfl, by simpa [pt] using h7, by simpa [pt] using h8⟩
  · exact ⟨b, 0, rfl, by simpa [pt] using h9, by simpa [pt] using h10⟩
theorem cellsI_one {w : World} {b : Nat} {x : Int} (h : w.cell? ⟨b, 0, none⟩ = some (.int .i64 x)) : CellsI w (some ⟨b, 0, none⟩) [x] := fun i hi => by
  have : i = 0 := by simp at hi; omega
  subst this
  exact ⟨b, 0, rfl, by simpa using h⟩
theorem cells4_two {w : World} {b : Nat} {p q r s : Pt} (h1 : w.cell? ⟨b, 0, none⟩ = some (.int .i64 p.1)) (h2 : w.cell? ⟨b, 1, none⟩ = some (.int .i64 p.2)) (h3 : w.cell? ⟨b, 2, none⟩ = some (.int .i64 q.1)) (h4 : w.cell? ⟨b, 3, none⟩ = some (.int .i64 q.2))
    (h5 : w.cell? ⟨b, 4, none⟩ = some (.int .i64 r.1)) (h6 : w.cell? ⟨b, 5, none⟩ = some (.int .i64 r.2)) (h7 : w.cell? ⟨b, 6, none⟩ = some (.int .i64 s.1)) (h8 : w.cell? ⟨b, 7, none⟩ = some (.int .i64 s.2)) :
    Cells4 w (some ⟨b, 0, none⟩) [(p, q), (r, s)] := fun i hi => by
  have : i = 0 ∨ i = 1 := by simp at hi; omega
  rcases this with rfl | rfl
  · exact ⟨b, 0, rfl, by simpa [ph] using h1, by simpa [ph] using h2, by simpa [ph] using h3, by simpa [ph] using h4⟩
  · exact ⟨b, 0, rfl, by simpa [ph] using h5, by simpa [ph] using h6, by simpa [ph] using h7, by simpa [ph] using h8⟩

set_option maxHeartbeats 4000000 in
set_option maxRecDepth 100000 in
theorem awake_any (w : World) : Calls Try.prog 13 #[] w fun e w' => e = .returned (.bool true) ∧ Ext w w' := by
  go_enter Try.func13, Try.ntmps13
  go_wp2_with fail
  refine (Wall_any _).mono ?_
  rintro e w1 ⟨a, rfl, hW, hE⟩
  have HB := Lib.hid hW
  clear hW
  go_wp2_with fail
  refine (sent_any wallG a 2 _).mono ?_
  rintro e w2 ⟨rfl, hE2⟩
  have E2 := hE.trans hE2
  have HB2 := Lib.hid (HB.out.ext hE2)
  clear hE hE2 HB
  go_wp2_with fail
  have E3 : Ext w2 (w2.alloc (.cells #[.int .i64 wallG.rows, .int .i64 wallG.cols, .slice a wallG.bl.length 2] 33)) := (Ext.refl _).alloc _
  have a1 : (w2.alloc (.cells #[.int .i64 wallG.rows, .int .i64 wallG.cols, .slice a wallG.bl.length 2] 33)).cell? ⟨w2.heap.size, 0, none⟩ = some (.int .i64 wallG.rows) := by go_simp
  have a2 : (w2.alloc (.cells #[.int .i64 wallG.rows, .int .i64 wallG.cols, .slice a wallG.bl.length 2] 33)).cell? ⟨w2.heap.size, 1, none⟩ = some (.int .i64 wallG.cols) := by go_simp
  have a3 : (w2.alloc (.cells #[.int .i64 wallG.rows, .int .i64 wallG.cols, .slice a wallG.bl.length 2] 33)).cell? ⟨w2.heap.size, 2, none⟩ = some (.slice a wallG.bl.length 2) := by go_simp
  have HB3 := Lib.hid (HB2.out.ext E3)
  have EV3 := E2.trans E3
  obtain ⟨gb, hgb⟩ : ∃ gb, gb = w2.heap.size := ⟨_, rfl⟩
  rw [← hgb] at a1 a2 a3 ⊢
  clear hgb E2 HB2 E3
  generalize w2.alloc (.cells #[.int .i64 wallG.rows, .int .i64 wallG.cols, .slice a wallG.bl.length 2] 33) = W3 at a1 a2 a3 HB3 EV3 ⊢
  have z3 := cell_lt a1
  dsimp only at z3
  have hml : wallG.bl.length ≤ maxLen := by decide
  have HML := Lib.hid hml
  clear hml
  -- Route
  go_region_held3 (fun w' => Sees W3 w') ((repeat (first | exact Sees.refl _ | assumption | apply Sees.drew | apply Sees.alloc | (refine Sees.ext ?_ (by assumption))))) (first | (go_at_call 45; refine (at_any _ _ _).mono ?_; rintro e w' ⟨rfl, hE2⟩) | (go_at_call 29; refine (Route_any wallG (0, 1) (2, 1) a 2 _ HML.out (HB3.out.ext (by exact (show Sees W3 _ by assumption).2.2))).mono ?_; rintro e w' ⟨v, rfl, hO, hE2⟩))
  have hS := (show Sees W3 _ by assumption).2.2
  rw [wall_route.1] at hO
  rw [wall_route.2]
  obtain ⟨la, lc, rfl, hlc, _⟩ := hO.reads
  have HL := Lib.hid hlc
  have EV4 := EV3.trans hS
  have a1 := hS.cell a1
  have a2 := hS.cell a2
  have a3 := hS.cell a3
  have HB4 := Lib.hid (HB3.out.ext hS)
  clear hS hO hlc HB3 EV3 z3
  generalize w' = W4 at a1 a2 a3 HL EV4 HB4 ⊢
  -- Bends
  go_wp2_with fail
  refine (Bends_any wallG [(0, 1), (0, 0), (1, 0), (2, 0), (2, 1)] a 2 la lc _ HML.out HB4.out (by decide) HL.out).mono ?_
  rintro e W5 ⟨rfl, hE⟩
  rw [wall_bends.1, wall_bends.2]
  have EV5 := EV4.trans hE
  have a1 := hE.cell a1
  have a2 := hE.cell a2
  have a3 := hE.cell a3
  have HB5 := Lib.hid (HB4.out.ext hE)
  have HL5 := Lib.hid (HL.out.ext hE)
  clear hE HB4 EV4 HL
  have z5 := cell_lt a1
  dsimp only at z5
  go_wp2_with fail
  go_cut [6, 7, 8] (fun p n e wx => ∃ pb, p = .pointer (some ⟨pb, 0, none⟩) ∧ n = .int .i64 5 ∧ e = .int .i64 0 ∧ wx.cell? ⟨pb, 0, none⟩ = some (.int .i64 0) ∧ wx.cell? ⟨pb, 1, none⟩ = some (.int .i64 0) ∧ Ext W5 wx)
  case first =>
    have HM := Lib.hid wall_meet
    go_region_held3 (fun w' => Sees W5 w') ((repeat (first | exact Sees.refl _ | assumption | apply Sees.store | apply Sees.drew | apply Sees.alloc | (refine Sees.ext ?_ (by assumption))))) (first | (go_at_call 45; refine (at_any _ _ _).mono ?_; rintro e w' ⟨rfl, hE2⟩; (first | (have kN := (New2.made _ _ _ _).ext hE2; obtain ⟨k1, k2, k3, k4⟩ := kN) | (have kN := (New2.made _ _ _ _).drew.ext hE2; obtain ⟨k1, k2, k3, k4⟩ := kN) | (have kN := (New2.mk (by assumption) (by assumption) (by assumption) (by assumption)).ext hE2; obtain ⟨k1, k2, k3, k4⟩ := kN) | skip)) | (go_at_call 14; refine (Meet_any wallG (0, 0) (0, 3) (2, 0) a 2 _ HML.out (HB5.out.ext (by exact (show Sees W5 _ by assumption).2.2))).mono ?_; rintro e w' ⟨rfl, hE2⟩; rw [wall_meet.1, wall_meet.2.1, wall_meet.2.2]; dsimp only; (first | (have kN := (New2.made _ _ _ _).ext hE2; obtain ⟨k1, k2, k3, k4⟩ := kN) | (have kN := (New2.made _ _ _ _).drew.ext hE2; obtain ⟨k1, k2, k3, k4⟩ := kN) | (have kN := (New2.mk (by assumption) (by assumption) (by assumption) (by assumption)).ext hE2; obtain ⟨k1, k2, k3, k4⟩ := kN) | skip)))
    all_goals (go_wp2_with fail; go_meet)
    all_goals exact ⟨_, rfl, rfl, rfl, by go_simp, by go_simp, (show Sees W5 _ by assumption).2.2⟩
  case rest =>
    obtain ⟨pb, rfl, rfl, rfl, k1, k2, EX⟩ := hcut
    have EV6 := EV5.trans EX
    have a1 := EX.cell a1
    have a2 := EX.cell a2
    have a3 := EX.cell a3
    have HB6 := Lib.hid (HB5.out.ext EX)
    have HL6 := Lib.hid (HL5.out.ext EX)
    clear EX EV5 HB5 HL5 z5
    generalize wc = W6 at a1 a2 a3 HB6 HL6 EV6 k1 k2 ⊢
    have z6 := cell_lt a1
    have z7 := cell_lt k1
    dsimp only at z6 z7
    go_wp2_with fail
    go_region_held3 (fun w' => Sees W6 w') ((repeat (first | exact Sees.refl _ | assumption | apply Sees.store | apply Sees.drew | apply Sees.alloc | (refine Sees.ext ?_ (by assumption))))) (first | (go_at_call 45; refine (at_any _ _ _).mono ?_; rintro e w' ⟨rfl, hE2⟩) | (go_at_call 17; refine (Ducts_any wallG [((0, 0), (0, 3)), ((0, 1), (2, 0))] a 2 _ _ _ HML.out (HB6.out.ext (by exact (show Sees W6 _ by assumption).2.2)) (by decide) (cells4_two (by go_simp) (by go_simp) (by go_simp) (by go_simp) (by go_simp) (by go_simp) (by go_simp) (by go_simp)) (fun _ _ => trivial)).mono ?_; rintro e w' ⟨da, dc, rfl, hD, hE2⟩))
    have hS := (show Sees W6 _ by assumption).2.2
    rw [wall_duct.1, wall_duct.2]
    have EV7 := EV6.trans hS
    have a1 := hS.cell a1
    have a2 := hS.cell a2
    have a3 := hS.cell a3
    have k1 := hS.cell k1
    have k2 := hS.cell k2
    have HB7 := Lib.hid (HB6.out.ext hS)
    have HL7 := Lib.hid (HL6.out.ext hS)
    clear hS hD hE2 HB6 HL6 EV6 z6 z7
    generalize w' = W7 at a1 a2 a3 HB7 HL7 EV7 k1 k2 ⊢
    go_wp2_with fail
    refine (Parts_any wallG a 2 _ HML.out HB7.out).mono ?_
    rintro e W8 ⟨pa, pc, rfl, hP, hE⟩
    have EV8 := EV7.trans hE
    have a1 := hE.cell a1
    have k1 := hE.cell k1
    have k2 := hE.cell k2
    have HL8 := Lib.hid (HL7.out.ext hE)
    have HP8 := Lib.hid hP
    rw [wall_parts] at HP8
    rw [wall_parts, wall_chk]
    clear hE hP HB7 HL7 EV7 a2 a3
    have z8 := cell_lt k1
    dsimp only at z8
    go_wp2_with fail
    go_region_held3 (fun w' => Sees W8 w') ((repeat (first | exact Sees.refl _ | assumption | apply Sees.store | apply Sees.drew | apply Sees.alloc | (refine Sees.ext ?_ (by assumption))))) (first | (go_at_call 45; refine (at_any _ _ _).mono ?_; rintro e w' ⟨rfl, hE2⟩) | (go_at_call 46; refine (EqualP_any [(0, 1), (0, 0), (1, 0), (2, 0), (2, 1)] [(0, 1), (0, 0), (1, 0), (2, 0), (2, 1)] la _ lc _ _ (by decide) (HL8.out.ext (by exact (show Sees W8 _ by assumption).2.2)) (cells2_five (by go_simp) (by go_simp) (by go_simp) (by go_simp) (by go_simp) (by go_simp) (by go_simp) (by go_simp) (by go_simp) (by go_simp))).mono ?_; rintro e w' ⟨rfl, hE2⟩) | (go_at_call 47; refine (EqualI_any [10] [10] pa _ pc _ _ (by decide) (HP8.out.ext (by exact (show Sees W8 _ by assumption).2.2)) (cellsI_one (by go_simp))).mono ?_; rintro e w' ⟨rfl, hE2⟩))
    have hS := (show Sees W8 _ by assumption).2.2
    go_wp2
    go_ret
    exact ⟨rfl, EV8.trans hS⟩
end Go.Proofs.Ytfigooilhnahfaa
