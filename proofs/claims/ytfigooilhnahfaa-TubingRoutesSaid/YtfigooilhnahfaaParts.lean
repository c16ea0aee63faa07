/- Parts. -/
import Derived.Test.YtfigooilhnahfaaPartsR
import Derived.Test.YtfigooilhnahfaaSortI
import Derived.Test.YtfigooilhnahfaaRoute
namespace Go.Proofs.Ytfigooilhnahfaa
open Go.RowKit Go.Maps
attribute [local go_sem] Oper.semAt_some

theorem CellsI.keep {m : Nat} {A B : World} {a : Option Addr} {l : List Int} (h : CellsI A a l) (k : Keep m A B) : CellsI B a l := fun i hi => by
  obtain ⟨b, off, h1, h2⟩ := h i hi
  exact ⟨b, off, h1, k.cell h2⟩
theorem SeenM.mono {w : World} {mb m n : Nat} {S : List Pt} (h : SeenM w mb m S) (hmn : m ≤ n) : SeenM w mb n S := by
  obtain ⟨k, h1, h2⟩ := h
  exact ⟨k, by omega, h2⟩

theorem SeenM.at {w : World} {mb n : Nat} {S : List Pt} (h : SeenM w mb n S) : ∃ es clock, w.heap[mb]? = some (.map es clock) := by
  obtain ⟨k, _, h2⟩ := h
  exact h2.at
theorem Chg.mono {B C : Nat → Prop} {A D : World} (h : Chg B A D) (k : ∀ i, B i → C i) : Chg C A D := ⟨h.1, fun i hi hn => h.2 i hi (fun e => hn (k i e))⟩

structure PtL (g : Gr) (W0 : World) (mb sb k : Nat) (L : List Int) (v : Value) (ds : List Deferred) (w : World) : Prop where
  eq : L = (partK g k).2
  se : SeenM w mb (k * 4096) (partK g k).1
  cm : w.cell? ⟨sb, 0, none⟩ = some (.map (some mb))
  be : Below mb W0 w
  own : OwnsI w v L
  vb : ∀ b, v.ownBlock = some b → W0.heap.size ≤ b
  ms : Marks W0.heap.size ds w
theorem PtL.ext {g : Gr} {W0 : World} {mb sb k : Nat} {L : List Int} {v : Value} {ds : List Deferred} {A B : World} (h : PtL g W0 mb sb k L v ds A) (x : Ext A B) : PtL g W0 mb sb k L v ds B :=
  ⟨h.eq, h.se.same (Below.block x _ h.se.lt), x.cell h.cm, h.be.trans (x.mono (Nat.le_of_lt h.se.lt)), h.own.ext x, h.vb, h.ms.ext x⟩
theorem PtL.next {g : Gr} {W0 : World} {mb sb k : Nat} {L : List Int} {v : Value} {ds : List Deferred} {A : World} (h : PtL g W0 mb sb k L v ds A) (e : partK g (k + 1) = partK g k) : PtL g W0 mb sb (k + 1) L v ds A :=
  ⟨by rw [e]; exact h.eq, by rw [e]; exact h.se.mono (by omega), h.cm, h.be, h.own, h.vb, h.ms⟩
def PtOA (g : Gr) (W0 : World) (n mb sb : Nat) (x : Act) (w : World) : Prop :=
  ∃ (r : Nat) (L : List Int) (av : Option Addr) (cv : Nat) (ds : List Deferred) (u0 u2 u3 u4 u7 u8 u9 u10 u11 u12 u13 u14 u15 u16 u17 u18 u21 u22 u23 u24 u25 u26 u27 u28 u29 u30 u31 u32 u33 u34 u35 u36 u37 u38 u39 u40 u41 u42 u43 u44 u45 u46 u47 u48 u49 u50 u51 u52 u53 u54 u55 u56 : Value), r ≤ g.rows.toNat ∧ x = { tmps := #[u0, .pointer (some ⟨n, 0, none⟩), u2, u3, u4, .slice av L.length cv, .pointer (some ⟨sb, 0, none⟩), u7, u8, u9, u10, u11, u12, u13, u14, u15, u16, u17, u18, .int .i64 g.rows, .int .i64 r, u21, u22, u23, u24, u25, u26, u27, u28, u29, u30, u31, u32, u33, u34, u35, u36, u37, u38, u39, u40, u41, u42, u43, u44, u45, u46, u47, u48, u49, u50, u51, u52, u53, u54, u55, u56], defers := ds } ∧ PtL g W0 mb sb (r * g.cols.toNat) L (.slice av L.length cv) ds w
def PtIA (g : Gr) (W0 : World) (n mb sb r : Nat) (x : Act) (w : World) : Prop :=
  ∃ (c : Nat) (L : List Int) (av : Option Addr) (cv : Nat) (ds : List Deferred) (u0 u2 u3 u4 u8 u9 u10 u11 u12 u13 u14 u15 u16 u17 u18 u21 u22 u23 u26 u27 u28 u29 u30 u31 u32 u33 u34 u35 u36 u37 u38 u39 u40 u41 u42 u43 u44 u45 u46 u47 u48 u49 u50 u51 u52 u53 u54 u55 u56 : Value), c ≤ g.cols.toNat ∧ x = { tmps := #[u0, .pointer (some ⟨n, 0, none⟩), u2, u3, u4, .slice av L.length cv, .pointer (some ⟨sb, 0, none⟩), .int .i64 r, u8, u9, u10, u11, u12, u13, u14, u15, u16, u17, u18, .int .i64 g.rows, .int .i64 r, u21, u22, u23, .int .i64 g.cols, .int .i64 c, u26, u27, u28, u29, u30, u31, u32, u33, u34, u35, u36, u37, u38, u39, u40, u41, u42, u43, u44, u45, u46, u47, u48, u49, u50, u51, u52, u53, u54, u55, u56], defers := ds } ∧ PtL g W0 mb sb (r * g.cols.toNat + c) L (.slice av L.length cv) ds w

def PartsPost (g : Gr) (w : World) (e : Ending) (w' : World) : Prop :=
  ∃ a cap, e = .returned (.tuple #[.slice a (partsL g).length cap, .int .i64 (chk g)]) ∧ CellsI w' a (partsL g) ∧ Ext w w'

set_option maxHeartbeats 4000000 in
set_option maxRecDepth 100000 in
theorem Parts_any (g : Gr) (ga : Option Addr) (gc : Nat) (w : World) (hg : g.bl.length ≤ maxLen) (hc : Cells2 w ga g.bl) :
    Calls Try.prog 22 #[.agg #[.int .i64 g.rows, .int .i64 g.cols, .slice ga g.bl.length gc]] w fun e w' => PartsPost g w e w' := by
  have HC : Hid (Cells2 w ga g.bl) := hc
  have HG := Lib.hid hg
  clear hc hg
  have E0 : Ext w (((w).alloc (.cells #[.int .i64 g.rows, .int .i64 g.cols, .slice ga g.bl.length gc] 33))) := (Ext.refl _).alloc _
  have a1 : (((w).alloc (.cells #[.int .i64 g.rows, .int .i64 g.cols, .slice ga g.bl.length gc] 33))).cell? ⟨w.heap.size, 0, none⟩ = some (.int .i64 g.rows) := by go_simp
  have a2 : (((w).alloc (.cells #[.int .i64 g.rows, .int .i64 g.cols, .slice ga g.bl.length gc] 33))).cell? ⟨w.heap.size, 1, none⟩ = some (.int .i64 g.cols) := by go_simp
  have a3 : (((w).alloc (.cells #[.int .i64 g.rows, .int .i64 g.cols, .slice ga g.bl.length gc] 33))).cell? ⟨w.heap.size, 2, none⟩ = some (.slice ga g.bl.length gc) := by go_simp
  have hmm := @run_makeMap Try.prog
  refine (callsIn_wide (n := 0)).1 ?_
  refine callsIn_of_wp_marks Try.func22 rfl trivial ?_
  simp only [Try.ntmps22, List.size_toArray, List.length_cons, List.length_nil, Nat.reduceAdd, Nat.reduceSub, Array.replicate_succ, Array.replicate_zero, List.push_toArray, List.append_toArray, List.nil_append, List.cons_append]
  gi_wp2_with fail
  refine ⟨trivial, rfl, ?_⟩
  gi_at_call 24
  refine (callsIn_wide.2 (Check_any g ga gc _ HG.out (HC.out.ext E0))).mono ?_
  rintro e w1 ⟨rfl, hE⟩
  have b1 := hE.cell a1
  have b2 := hE.cell a2
  have b3 := hE.cell a3
  have E1 : Ext w w1 := E0.trans hE
  have z1 : w.heap.size < w1.heap.size := cell_lt b1
  clear hE E0 a1 a2 a3
  by_cases h0 : chk g = 0
  · have HR := Lib.hid (right_of_chk h0)
    have H0 := Lib.hid h0
    rw [h0]
    clear h0
    gi_wp2_with fail
    have M0 : Hid (SeenM (w1.alloc (.map #[] 0)) w1.heap.size 0 []) := ⟨0, Nat.le_refl _, SetAt.made _ _ _ _ _⟩
    have E2 : Ext (w1.alloc (.map #[] 0)) ((w1.alloc (.map #[] 0)).alloc (.cells #[.map (some w1.heap.size)] 98)) := (Ext.refl _).alloc _
    have E3 : Ext w1 ((w1.alloc (.map #[] 0)).alloc (.cells #[.map (some w1.heap.size)] 98)) := ((Ext.refl _).alloc _).alloc _
    have s1 : ((w1.alloc (.map #[] 0)).alloc (.cells #[.map (some w1.heap.size)] 98)).cell? ⟨w1.heap.size + 1, 0, none⟩ = some (.map (some w1.heap.size)) := by clear hmm; go_simp
    obtain ⟨mb, hmb⟩ : ∃ mb, mb = w1.heap.size := ⟨_, rfl⟩
    have M1 : Hid (SeenM ((w1.alloc (.map #[] 0)).alloc (.cells #[.map (some w1.heap.size)] 98)) w1.heap.size 0 []) := M0.out.same (Below.block E2 _ M0.out.lt)
    have zW : ((w1.alloc (.map #[] 0)).alloc (.cells #[.map (some w1.heap.size)] 98)).heap.size = w1.heap.size + 2 := by simp
    have c1 := E3.cell b1
    have c2 := E3.cell b2
    have c3 := E3.cell b3
    have EW := E1.trans E3
    rw [← hmb] at s1 M1 zW c1 c2 c3 EW ⊢
    have zn : w.heap.size < mb := by omega
    have HBL : Hid (g.bl ≠ [] → ∀ b off, ga = some ⟨b, off, none⟩ → b < mb) := fun hne b off hb => by
      have h1 := HC.out.lt hne hb
      have h2 := E1.size
      omega
    clear hmb M0 E2 E3 E1 b1 b2 b3 z1 hmm
    generalize (w1.alloc (.map #[] 0)).alloc (.cells #[.map (some mb)] 98) = W0 at s1 M1 zW c1 c2 c3 EW ⊢
    have HCW := Lib.hid (HC.out.ext EW)
    have hr1 := HR.out.r1
    have hr2 := HR.out.r2
    have hc1 := HR.out.c1
    have hc2 := HR.out.c2
    have hmx : Hid (g.rows.toNat * g.cols.toNat ≤ 4096) := Nat.mul_le_mul (show g.rows.toNat ≤ 64 by omega) (show g.cols.toNat ≤ 64 by omega)
    refine wpIn_loop (PtOA g W0 w.heap.size mb (mb + 1)) (fun a _ => fuel 20 a) ?_ ?_
    · refine ⟨0, [], none, 0, [], _, _, _, _, _, _, _, _, _, _, _, _, _, _, _, _, _, _, _, _, _, _, _, _, _, _, _, _, _, _, _, _, _, _, _, _, _, _, _, _, _, _, _, _, _, _, _, _, _, _, _, _, Nat.zero_le _, rfl, ?_⟩
      exact {
        eq := by rw [Nat.zero_mul]; rfl
        se := by rw [Nat.zero_mul]; exact M1.out
        cm := s1
        be := Below.refl _ _
        own := OwnsI.nil _
        vb := fun b hb => by cases hb
        ms := Marks.nil _ _ }
    · rintro x wr ⟨r, L, av, cv, ds, u0, u2, u3, u4, u7, u8, u9, u10, u11, u12, u13, u14, u15, u16, u17, u18, u21, u22, u23, u24, u25, u26, u27, u28, u29, u30, u31, u32, u33, u34, u35, u36, u37, u38, u39, u40, u41, u42, u43, u44, u45, u46, u47, u48, u49, u50, u51, u52, u53, u54, u55, u56, hrr, rfl, h⟩
      have H := Lib.hid h
      have g1 : wr.cell? ⟨w.heap.size, 0, none⟩ = some (.int .i64 g.rows) := (h.be.cell (p := ⟨w.heap.size, 0, none⟩) zn).trans c1
      have g2 : wr.cell? ⟨w.heap.size, 1, none⟩ = some (.int .i64 g.cols) := (h.be.cell (p := ⟨w.heap.size, 1, none⟩) zn).trans c2
      clear h
      by_cases hlt : r < g.rows.toNat
      · have hlt' : (r : Int) < g.rows := by omega
        gi_wp2_with fail
        refine wpIn_loop (PtIA g W0 w.heap.size mb (mb + 1) r) (fun a _ => fuel 25 a) ?_ ?_
        · exact ⟨0, L, av, cv, ds, _, _, _, _, _, _, _, _, _, _, _, _, _, _, _, _, _, _, _, _, _, _, _, _, _, _, _, _, _, _, _, _, _, _, _, _, _, _, _, _, _, _, _, _, _, _, _, _, _, Nat.zero_le _, rfl, H.out⟩
        · clear H g1 g2
          rintro x wr ⟨c, L, av, cv, ds, u0, u2, u3, u4, u8, u9, u10, u11, u12, u13, u14, u15, u16, u17, u18, u21, u22, u23, u26, u27, u28, u29, u30, u31, u32, u33, u34, u35, u36, u37, u38, u39, u40, u41, u42, u43, u44, u45, u46, u47, u48, u49, u50, u51, u52, u53, u54, u55, u56, hcc, rfl, h⟩
          have H := Lib.hid h
          have g1 : wr.cell? ⟨w.heap.size, 0, none⟩ = some (.int .i64 g.rows) := (h.be.cell (p := ⟨w.heap.size, 0, none⟩) zn).trans c1
          have g2 : wr.cell? ⟨w.heap.size, 1, none⟩ = some (.int .i64 g.cols) := (h.be.cell (p := ⟨w.heap.size, 1, none⟩) zn).trans c2
          have g3 : wr.cell? ⟨w.heap.size, 2, none⟩ = some (.slice ga g.bl.length gc) := (h.be.cell (p := ⟨w.heap.size, 2, none⟩) zn).trans c3
          have s2 := h.cm
          clear h
          by_cases hlc : c < g.cols.toNat
          · have hlc' : (c : Int) < g.cols := by omega
            have hkm : Hid (r * g.cols.toNat + c < g.rows.toNat * g.cols.toNat) := by
              show _ < _
              have h1 : (r + 1) * g.cols.toNat ≤ g.rows.toNat * g.cols.toNat := Nat.mul_le_mul_right _ hlt
              rw [Nat.add_mul, Nat.one_mul] at h1
              omega
            have HST : Hid (partK g (r * g.cols.toNat + c + 1) = partStep g (partK g (r * g.cols.toNat + c)) ((r : Int), (c : Int))) := by
              show _ = _
              rw [← cellAt_mk hlc]; rfl
            have HIN : Hid (inside g ((r : Int), (c : Int)) = true) := by
              show _ = _
              rw [← cellAt_mk hlc]
              exact cellAt_inside HR.out hkm.out
            have E4 : Ext wr (wr.alloc (.cells #[.int .i64 (r : Int), .int .i64 (c : Int)] 26)) := (Ext.refl _).alloc _
            have e1 : (wr.alloc (.cells #[.int .i64 (r : Int), .int .i64 (c : Int)] 26)).cell? ⟨wr.heap.size, 0, none⟩ = some (.int .i64 (r : Int)) := by go_simp
            have e2 : (wr.alloc (.cells #[.int .i64 (r : Int), .int .i64 (c : Int)] 26)).cell? ⟨wr.heap.size, 1, none⟩ = some (.int .i64 (c : Int)) := by go_simp
            obtain ⟨kn, hkn, hS⟩ := H.out.se
            obtain ⟨kl, hkl⟩ := keyPl (wf_inG (inG_of HR.out HIN.out)).1 (wf_inG (inG_of HR.out HIN.out)).2
            have hlook := (hS.ext E4).lookup lawPl Try.underlying98 Try.underlying4 (by kernel_rfl) hkl
            have g1' := E4.cell g1
            have g2' := E4.cell g2
            have g3' := E4.cell g3
            have s2' := E4.cell s2
            have HCr : Hid (Cells2 (wr.alloc (.cells #[.int .i64 (r : Int), .int .i64 (c : Int)] 26)) ga g.bl) := (Cells2.kept (Kd := fun k => k < mb) (n := 0) ⟨H.out.be.size, fun k o hk ho _ => by rw [H.out.be.block k hk]; exact ho⟩ (fun b off hb hne => HBL.out hne b off hb) HCW.out).ext E4
            have HE4 := Lib.hid E4
            have zwr : W0.heap.size ≤ wr.heap.size := H.out.be.size
            have zp : wr.heap.size < (wr.alloc (.cells #[.int .i64 (r : Int), .int .i64 (c : Int)] 26)).heap.size := by simp
            have zsb : mb + 1 < wr.heap.size := by omega
            have zn' : w.heap.size < wr.heap.size := by omega
            unfold evPl at hlook
            dsimp only at hlook
            clear hS hkl E4
            have nx : Hid (∀ (B : World), Ext wr B → partK g (r * g.cols.toNat + c + 1) = partK g (r * g.cols.toNat + c) → PtL g W0 mb (mb + 1) (r * g.cols.toNat + (c + 1)) L (.slice av L.length cv) ds B) := fun B hB e => (H.out.ext hB).next e
            by_cases hmem : ((r : Int), (c : Int)) ∈ (partK g (r * g.cols.toNat + c)).1
            · simp only [hmem, decide_true] at hlook
              have HEQ : Hid (partK g (r * g.cols.toNat + c + 1) = partK g (r * g.cols.toNat + c)) := by
                show _ = _
                rw [HST.out]; unfold partStep; rw [if_pos hmem]
              clear hmem
              gi_wp2
              refine ⟨trivial, ?_⟩
              gi_wp2
              exact ⟨⟨c + 1, L, av, cv, ds, _, _, _, _, _, _, _, _, _, _, _, _, _, _, _, _, _, _, _, _, _, _, _, _, _, _, _, _, _, _, _, _, _, _, _, _, _, _, _, _, _, _, _, _, _, _, _, _, _, by omega, by first | rfl | go_num, nx.out _ HE4.out HEQ.out⟩, by simp [fuel, Go.RowKit.intOf]; omega⟩
            · simp only [hmem, decide_false] at hlook
              cases hb : blk g ((r : Int), (c : Int))
              · have HEQ : Hid (partK g (r * g.cols.toNat + c + 1) = (insAll (partK g (r * g.cols.toNat + c)).1 ((wave g ((r : Int), (c : Int))).map (·.1)), (partK g (r * g.cols.toNat + c)).2 ++ [((wave g ((r : Int), (c : Int))).length : Int)])) := by
                  show _ = _
                  rw [HST.out]; unfold partStep; rw [if_neg hmem, if_neg (by simp [hb])]
                have HB := Lib.hid hb
                clear hmem hb
                gi_wp2_with fail
                refine ⟨trivial, rfl, ?_⟩
                gi_at_call 60
                refine (callsIn_wide.2 (blocked_any g ((r : Int), (c : Int)) ga gc _ HR.out HCr.out)).mono ?_
                rintro e w2 ⟨rfl, hE⟩
                rw [HB.out]
                have h1 := hE.cell g1'
                have h2 := hE.cell g2'
                have h3 := hE.cell g3'
                have h4 := hE.cell s2'
                have h5 := hE.cell e1
                have h6 := hE.cell e2
                have E2 := HE4.out.trans hE
                have zw2 : wr.heap.size < w2.heap.size := cell_lt h5
                have zn2 : w.heap.size < w2.heap.size := cell_lt h1
                have zs2 : mb + 1 < w2.heap.size := cell_lt h4
                have HC2 := Lib.hid (HCr.out.ext hE)
                clear g1 g2 g3 s2 g1' g2' g3' s2' e1 e2 hE hlook HCr nx zp zsb zn' HE4
                gi_wp2_with fail
                refine ⟨trivial, rfl, ?_⟩
                gi_at_call 61
                refine (callsIn_wide.2 (wave_any g ((r : Int), (c : Int)) _ _)).mono ?_
                rintro e w3 ⟨rfl, hw3⟩
                have E3 : Ext w2 (w2.alloc (.cells #[.int .i64 0] 3)) := (Ext.refl _).alloc _
                have n1 : (w2.alloc (.cells #[.int .i64 0] 3)).cell? ⟨w2.heap.size, 0, none⟩ = some (.int .i64 0) := by clear hw3; go_simp
                have n2 : (w2.alloc (.cells #[.int .i64 0] 3)).frozen? ⟨w2.heap.size, 0, none⟩ = false := by clear hw3; go_simp
                have E5 : Ext (w2.alloc (.cells #[.int .i64 0] 3)) w3 := by rw [← hw3]; exact ((Ext.refl _).alloc _).alloc _
                have hz3 : w3.heap.size = w2.heap.size + 3 := by rw [← hw3]; simp
                have G1 : w3.cell? ⟨w2.heap.size + 1, 0, none⟩ = some (.int .i64 g.rows) := by rw [← hw3]; clear hw3; go_simp
                have G2 : w3.cell? ⟨w2.heap.size + 1, 1, none⟩ = some (.int .i64 g.cols) := by rw [← hw3]; clear hw3; go_simp
                have G3 : w3.cell? ⟨w2.heap.size + 1, 2, none⟩ = some (.slice ga g.bl.length gc) := by rw [← hw3]; clear hw3; go_simp
                have P1 : w3.cell? ⟨w2.heap.size + 1 + 1, 0, none⟩ = some (.int .i64 (r : Int)) := by rw [← hw3]; clear hw3; go_simp
                have P2 : w3.cell? ⟨w2.heap.size + 1 + 1, 1, none⟩ = some (.int .i64 (c : Int)) := by rw [← hw3]; clear hw3; go_simp
                have n3 := E5.cell n1
                have n4 : w3.frozen? ⟨w2.heap.size, 0, none⟩ = false := (Below.frozen E5 (p := ⟨w2.heap.size, 0, none⟩) (by simp)).trans n2
                have E6 := (E2.trans E3).trans E5
                have HC3 := Lib.hid (HC2.out.ext (E3.trans E5))
                have h4' := (E3.trans E5).cell h4
                gi_wp2_with fail
                have hz6 := E6.size
                have HW := Lib.hid (wave_len HR.out HIN.out)
                clear hw3
                refine wpIn_wide.2 (parts_range _ _ rfl g ((r : Int), (c : Int)) ga gc w3 (w2.heap.size + 1 + 1) (w2.heap.size + 1) mb (mb + 1) w2.heap.size mb ((r * g.cols.toNat + c) * 4096) (partK g (r * g.cols.toNat + c)).1 HR.out HIN.out P1 P2 G1 G2 G3 HC3.out (by omega) (by omega)
                  (fun hne b off h => by have := HBL.out hne b off h; omega) ⟨n3, n4, h4', H.out.se.same (Below.block E6 _ H.out.se.lt), Chg.refl _ _, Below.refl _ _⟩ (by omega) (by omega) (by omega) (by omega) (by omega) (by have h8 := hkm.out; have h9 := hmx.out; omega) _ _ _ _ _ _ _ _ _ _ _ _ _ _ _ _ _ _ _ _ _ _ _ _ _ _ _ _ _ _ _ _ _ _ _ _ _ _ _ _ _ _ _ _ _ _ _ _ _ _ _ _ _ _ ds _ ?_)
                intro Db w4 k1 k2 h7 k4
                have H7 := Lib.hid h7
                have K4 := Lib.hid k4
                have d1 := h7.cn
                have hz4 : w3.heap.size ≤ w4.heap.size := h7.ch.1
                have V4 : Hid (OwnsI w4 (.slice av L.length cv) L) := (H.out.own.ext E6).kept (X := fun k => ¬ (k = w2.heap.size ∨ k = mb)) (n := 0) (h7.ch.kept (fun k hk _ => hk)) (fun b hb => by
                  have h8 := H.out.own.lt hb
                  have h9 := H.out.vb b hb
                  show ¬ _
                  omega)
                have hlen : L.length ≤ 4096 := by
                  have h8 := partK_len g (r * g.cols.toNat + c)
                  rw [← H.out.eq] at h8
                  have h9 := hkm.out
                  have h10 := hmx.out
                  omega
                obtain ⟨i0, hi, hi0, hi1, hi2⟩ := info_parts infoInt
                clear h7 k4 P1 P2 G1 G2 G3 n1 n2 n3 n4 h4' h1 h2 h3 h4 h5 h6
                gi_wp2_with (gi_at_builtin; refine wpListIn_append1 _ rfl _ _ 50 rfl 3 i0 (.int .i64 0) 1 8 Try.underlying50 hi hi0 hi1 hi2 rfl (by decide) (.slice av L.length cv) _ _ rfl (V4.out.ext ((Ext.refl _).alloc _)) ⟨w4.heap.size, 0, none⟩ 1 1 (by decide) [.int .i64 ((wave g ((r : Int), (c : Int))).length : Int)] rfl rfl (cell_one_int _ _ _) ?c1 ?c2 ?c3 ?c4)
                case c1 => intro u hu; simp at hu; subst hu; rfl
                case c2 => unfold maxLen; omega
                case c3 => omega
                case c4 =>
                  intro v' w5 hown5 hend5
                  have O5 := ownsI_succ hown5
                  obtain ⟨av', cv', rfl, _, hbk⟩ := O5.reads
                  have E4 : Ext w4 (w4.alloc (.cells #[.int .i64 ((wave g ((r : Int), (c : Int))).length : Int)] 3)) := (Ext.refl _).alloc _
                  have CA : Chg (fun k => (Value.slice av L.length cv).ownBlock = some k) (w4.alloc (.cells #[.int .i64 ((wave g ((r : Int), (c : Int))).length : Int)] 3)) w5 := Chg.app hend5 (fun b hb => hb)
                  have HCA := Lib.hid CA
                  have HE4 := Lib.hid E4
                  have HEND := Lib.hid hend5
                  have HO5 := Lib.hid O5
                  clear CA E4 hend5 hown5 O5 hbk d1
                  gi_wp2
                  have s0 : W0.heap.size ≤ wr.heap.size := H.out.be.size
                  have s2 : w4.heap.size + 1 ≤ w5.heap.size := by have := HCA.out.1; simp at this; omega
                  have C45 : Chg (fun k => (Value.slice av L.length cv).ownBlock = some k) w4 w5 := (Chg.ext HE4.out).trans HCA.out
                  have CC : Chg (fun k => (k = w2.heap.size ∨ k = mb) ∨ (Value.slice av L.length cv).ownBlock = some k) wr w5 :=
                    ((Chg.ext E6).trans (H7.out.ch.mono fun _ h => .inl h)).trans (C45.mono fun _ h => .inr h)
                  have nvb : ∀ b, (Value.slice av L.length cv).ownBlock = some b → W0.heap.size ≤ b ∧ b < wr.heap.size := fun b hb => ⟨H.out.vb b hb, H.out.own.lt hb⟩
                  have b4 : w5.heap[mb]? = w4.heap[mb]? := C45.2 mb (by omega) (fun e => by have := nvb mb e; omega)
                  have hsb : w5.cell? ⟨mb + 1, 0, none⟩ = some (.map (some mb)) :=
                    (World.cell?_of_block (w := w4) (a := ⟨mb + 1, 0, none⟩) (C45.2 (mb + 1) (by omega) (fun e => by have := nvb (mb + 1) e; omega))).trans H7.out.cm
                  refine ⟨⟨c + 1, L ++ [((wave g ((r : Int), (c : Int))).length : Int)], av', cv', mark Db :: ds, _, _, _, _, _, _, _, _, _, _, _, _, _, _, _, _, _, _, _, _, _, _, _, _, _, _, _, _, _, _, _, _, _, _, _, _, _, _, _, _, _, _, _, _, _, _, _, _, _, by omega, by first | rfl | (rw [List.length_append, List.length_singleton]; rfl), ?_⟩, by simp [fuel, Go.RowKit.intOf]; omega⟩
                  exact {
                    eq := by rw [← Nat.add_assoc, HEQ.out, H.out.eq]
                    se := by
                      rw [← Nat.add_assoc, HEQ.out]
                      refine (H7.out.se.same b4).mono ?_
                      have := HW.out
                      omega
                    cm := hsb
                    be := (((H.out.be.trans (E6.mono (by omega))).trans H7.out.be).trans (HE4.out.mono (by omega))).trans (HEND.out.below (by simp; omega) (fun b hb => by have := nvb b hb; omega))
                    own := HO5.out
                    vb := fun b hb => by
                      rcases HEND.out with ⟨h1, _, _⟩ | ⟨h1, _⟩
                      · rw [h1] at hb; exact H.out.vb b hb
                      · rw [h1] at hb
                        have hb' : b = (w4.alloc (.cells #[.int .i64 ((wave g ((r : Int), (c : Int))).length : Int)] 3)).heap.size := by cases hb; rfl
                        simp at hb'
                        omega
                    ms := Marks.cons (A := wr) H.out.ms (by omega) (by omega) (H.out.ms.keptX (X := fun k => ¬ ((k = w2.heap.size ∨ k = mb) ∨ (Value.slice av L.length cv).ownBlock = some k)) (CC.kept (fun k hk _ => hk)) (fun D _ hD => by
                        have hDl := (Array.getElem?_eq_some_iff.1 hD).1
                        rintro ((e | e) | e)
                        · omega
                        · obtain ⟨es, cl, h8⟩ := H.out.se.at
                          rw [e, h8] at hD
                          cases hD
                        · have := H.out.own.isCells e hD
                          cases this))
                      ((C45.2 Db k2 (fun e => by have := nvb Db e; omega)).trans K4.out) }
              · have HEQ : Hid (partK g (r * g.cols.toNat + c + 1) = partK g (r * g.cols.toNat + c)) := by
                  show _ = _
                  rw [HST.out]; unfold partStep; rw [if_neg hmem, if_pos hb]
                have HB := Lib.hid hb
                clear hmem hb
                gi_wp2_with fail
                refine ⟨trivial, rfl, ?_⟩
                gi_at_call 60
                refine (callsIn_wide.2 (blocked_any g ((r : Int), (c : Int)) ga gc _ HR.out HCr.out)).mono ?_
                rintro e w2 ⟨rfl, hE⟩
                rw [HB.out]
                gi_wp2
                exact ⟨⟨c + 1, L, av, cv, ds, _, _, _, _, _, _, _, _, _, _, _, _, _, _, _, _, _, _, _, _, _, _, _, _, _, _, _, _, _, _, _, _, _, _, _, _, _, _, _, _, _, _, _, _, _, _, _, _, _, by omega, by first | rfl | go_num, nx.out _ (HE4.out.trans hE) HEQ.out⟩, by simp [fuel, Go.RowKit.intOf]; omega⟩
          · have hlc' : ¬ (c : Int) < g.cols := by omega
            have HCE : Hid (r * g.cols.toNat + c = (r + 1) * g.cols.toNat) := by
              show _ = _
              rw [Nat.add_mul, Nat.one_mul, show c = g.cols.toNat by omega]
            gi_wp2
            refine ⟨⟨r + 1, L, av, cv, ds, _, _, _, _, _, _, _, _, _, _, _, _, _, _, _, _, _, _, _, _, _, _, _, _, _, _, _, _, _, _, _, _, _, _, _, _, _, _, _, _, _, _, _, _, _, _, _, _, _, _, _, _, by omega, rfl, by rw [← HCE.out]; exact H.out⟩, by simp [fuel, Go.RowKit.intOf]; omega⟩
      · have hlt' : ¬ (r : Int) < g.rows := by omega
        gi_wp2_with fail
        obtain rfl : r = g.rows.toNat := by omega
        refine ⟨trivial, rfl, ?_⟩
        gi_at_call 62
        have hL : L = partsU g := H.out.eq
        have hlen : L.length ≤ 4096 := by
          rw [hL]
          exact Nat.le_trans (partK_len g _) hmx.out
        refine (callsIn_wide.2 (SortFunc_any L (fun x hx => by
          have h1 := partK_bd HR.out _ (Nat.le_refl _) x (by rw [hL] at hx; exact hx)
          omega) _ _ H.out.own hlen)).mono ?_
        rintro e w5 ⟨rfl, ⟨av', cv', hv, hcI⟩, hbe, hch⟩
        cases hv
        have HCI := Lib.hid hcI
        have HBE := Lib.hid hbe
        have HCH := Lib.hid hch
        have HL := Lib.hid hL
        clear hcI hbe hch hL
        gi_wp2
        have hlen2 : (partsL g).length = L.length := by
          unfold partsL
          rw [if_neg (by simp [H0.out]), List.length_mergeSort, HL.out]
        have hval : partsL g = L.mergeSort fun x y => decide (y ≤ x) := by
          unfold partsL
          rw [if_neg (by simp [H0.out]), HL.out]
        refine leaves_keep (n := W0.heap.size) (v := .tuple #[.slice av L.length cv, .int .i64 0]) (fun w => (results_tmp2 (t := 2) (u := 3) rfl _ _ _).trans rfl) _ _
          (H.out.ms.kept fun D hD ho => (HCH.out.2 D (Array.getElem?_eq_some_iff.1 ho).1 (fun e => by have := H.out.own.isCells e ho; cases this)).trans ho) (fun w' hw' => ?_)
        refine ⟨av, cv, by rw [hlen2, H0.out], ?_, ?_⟩
        · rw [hval]; exact HCI.out.keep hw'
        · have z9 : w.heap.size ≤ W0.heap.size := EW.size
          have z8 : W0.heap.size ≤ wr.heap.size := H.out.be.size
          exact Below.trans (Below.trans (Below.trans EW (H.out.be.mono (by omega))) (HBE.out _ (by omega) (fun b hb => by have := H.out.vb b hb; omega))) (hw'.1.mono z9)
  · have hv : Hid (partsL g = []) := by show _ = _; unfold partsL; rw [if_pos h0]
    have hb : (chk g != 0) = true := by simp [h0]
    have hb2 : (chk g == 0) = false := by simp [h0]
    clear h0
    gi_wp2
    refine leaves_marks (n := w.heap.size) (v := .tuple #[.slice none 0 0, .int .i64 (chk g)]) (fun w => (results_tmp2 (t := 2) (u := 3) rfl _ _ _).trans rfl) _ _ (Marks.nil _ _) (fun w' hw' => ?_)
    refine ⟨none, 0, ?_, ?_, ?_⟩
    · rw [hv.out]; rfl
    · rw [hv.out]; exact CellsI.nil _ _
    · exact Below.trans E1 hw'
end Go.Proofs.Ytfigooilhnahfaa
