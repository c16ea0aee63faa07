/- Steps of the proof: Parts, DuctS, SaveS, LawH, PairR, Near, FarS, Far. No conditions. -/
import Derived.Lib.SliceRun
import Derived.Laws.ResultCell
import Derived.BigRegion
import Derived.Test.YtfigooilhnahfaaZBundles1
import Derived.Test.YtfigooilhnahfaaZBundles2
import Derived.Test.YtfigooilhnahfaaZBundles3
import Derived.Test.YtfigooilhnahfaaZBundles4
/- Parts. -/
namespace Go.Proofs.Ytfigooilhnahfaa
open Go.RowKit Go.Maps
attribute [local go_sem] Oper.semAt_some

theorem CellsI.keep {m : Nat} {A B : World} {a : Option Addr} {l : List Int} (h : CellsI A a l) (k : Keep m A B) : CellsI B a l := fun i hi => by
  obtain ⟨b, off, h1, h2⟩ := h i hi
  exact ⟨b, off, h1, k.cell h2⟩
theorem SeenM.mono {w : World} {mb m n : Nat} {S : List Pt} (h : SeenM w mb m S) (hmn : m ≤ n) : SeenM w mb n S := by
  obtain ⟨k, h1, h2⟩ := h
  exact ⟨k, by omega, h2⟩

theorem SeenM.at {w : World} {mb n : Nat} {S : List Pt} (h : SeenM w mb n S) : ∃ es clock, w.heap[mb]? = some (.map es clock) := by
  obtain ⟨k, _, h2⟩ := h
  exact h2.at
theorem Chg.mono {B C : Nat → Prop} {A D : World} (h : Chg B A D) (k : ∀ i, B i → C i) : Chg C A D := ⟨h.1, fun i hi hn => h.2 i hi (fun e => hn (k i e))⟩

structure PtL (g : Gr) (W0 : World) (mb sb k : Nat) (L : List Int) (v : Value) (ds : List Deferred) (w : World) : Prop where
  eq : L = (partK g k).2
  se : SeenM w mb (k * 4096) (partK g k).1
  cm : w.cell? ⟨sb, 0, none⟩ = some (.map (some mb))
  be : Below mb W0 w
  own : OwnsI w v L
  vb : ∀ b, v.ownBlock = some b → W0.heap.size ≤ b
  ms : Marks W0.heap.size ds w
theorem PtL.ext {g : Gr} {W0 : World} {mb sb k : Nat} {L : List Int} {v : Value} {ds : List Deferred} {A B : World} (h : PtL g W0 mb sb k L v ds A) (x : Ext A B) : PtL g W0 mb sb k L v ds B :=
  ⟨h.eq, h.se.same (Below.block x _ h.se.lt), x.cell h.cm, h.be.trans (x.mono (Nat.le_of_lt h.se.lt)), h.own.ext x, h.vb, h.ms.ext x⟩
theorem PtL.next {g : Gr} {W0 : World} {mb sb k : Nat} {L : List Int} {v : Value} {ds : List Deferred} {A : World} (h : PtL g W0 mb sb k L v ds A) (e : partK g (k + 1) = partK g k) : PtL g W0 mb sb (k + 1) L v ds A :=
  ⟨by rw [e]; exact h.eq, by rw [e]; exact h.se.mono (by omega), h.cm, h.be, h.own, h.vb, h.ms⟩
def PtOA (g : Gr) (W0 : World) (n mb sb : Nat) (x : Act) (w : World) : Prop :=
  ∃ (r : Nat) (L : List Int) (av : Option Addr) (cv : Nat) (ds : List Deferred) (u0 u2 u3 u4 u7 u8 u9 u10 u11 u12 u13 u14 u15 u16 u17 u18 u21 u22 u23 u24 u25 u26 u27 u28 u29 u30 u31 u32 u33 u34 u35 u36 u37 u38 u39 u40 u41 u42 u43 u44 u45 u46 u47 u48 u49 u50 u51 u52 u53 u54 u55 u56 : Value), r ≤ g.rows.toNat ∧ x = { tmps := #[u0, .pointer (some ⟨n, 0, none⟩), u2, u3, u4, .slice av L.length cv, .pointer (some ⟨sb, 0, none⟩), u7, u8, u9, u10, u11, u12, u13, u14, u15, u16, u17, u18, .int .i64 g.rows, .int .i64 r, u21, u22, u23, u24, u25, u26, u27, u28, u29, u30, u31, u32, u33, u34, u35, u36, u37, u38, u39, u40, u41, u42, u43, u44, u45, u46, u47, u48, u49, u50, u51, u52, u53, u54, u55, u56], defers := ds } ∧ PtL g W0 mb sb (r * g.cols.toNat) L (.slice av L.length cv) ds w
def PtIA (g : Gr) (W0 : World) (n mb sb r : Nat) (x : Act) (w : World) : Prop :=
  ∃ (c : Nat) (L : List Int) (av : Option Addr) (cv : Nat) (ds : List Deferred) (u0 u2 u3 u4 u8 u9 u10 u11 u12 u13 u14 u15 u16 u17 u18 u21 u22 u23 u26 u27 u28 u29 u30 u31 u32 u33 u34 u35 u36 u37 u38 u39 u40 u41 u42 u43 u44 u45 u46 u47 u48 u49 u50 u51 u52 u53 u54 u55 u56 : Value), c ≤ g.cols.toNat ∧ x = { tmps := #[u0, .pointer (some ⟨n, 0, none⟩), u2, u3, u4, .slice av L.length cv, .pointer (some ⟨sb, 0, none⟩), .int .i64 r, u8, u9, u10, u11, u12, u13, u14, u15, u16, u17, u18, .int .i64 g.rows, .int .i64 r, u21, u22, u23, .int .i64 g.cols, .int .i64 c, u26, u27, u28, u29, u30, u31, u32, u33, u34, u35, u36, u37, u38, u39, u40, u41, u42, u43, u44, u45, u46, u47, u48, u49, u50, u51, u52, u53, u54, u55, u56], defers := ds } ∧ PtL g W0 mb sb (r * g.cols.toNat + c) L (.slice av L.length cv) ds w

def PartsPost (g : Gr) (w : World) (e : Ending) (w' : World) : Prop :=
  ∃ a cap, e = .returned (.tuple #[.slice a (partsL g).length cap, .int .i64 (chk g)]) ∧ CellsI w' a (partsL g) ∧ Ext w w'

set_option maxHeartbeats 4000000 in
set_option maxRecDepth 100000 in
theorem Parts_any (g : Gr) (ga : Option Addr) (gc : Nat) (w : World) (hg : g.bl.length ≤ maxLen) (hc : Cells2 w ga g.bl) :
    Calls Try.prog 22 #[.agg #[.int .i64 g.rows, .int .i64 g.cols, .slice ga g.bl.length gc]] w fun e w' => PartsPost g w e w' := by
  have HC : Hid (Cells2 w ga g.bl) := hc
  have HG := Lib.hid hg
  clear hc hg
  have E0 : Ext w (((w).alloc (.cells #[.int .i64 g.rows, .int .i64 g.cols, .slice ga g.bl.length gc] 33))) := (Ext.refl _).alloc _
  have a1 : (((w).alloc (.cells #[.int .i64 g.rows, .int .i64 g.cols, .slice ga g.bl.length gc] 33))).cell? ⟨w.heap.size, 0, none⟩ = some (.int .i64 g.rows) := by go_simp
  have a2 : (((w).alloc (.cells #[.int .i64 g.rows, .int .i64 g.cols, .slice ga g.bl.length gc] 33))).cell? ⟨w.heap.size, 1, none⟩ = some (.int .i64 g.cols) := by go_simp
  have a3 : (((w).alloc (.cells #[.int .i64 g.rows, .int .i64 g.cols, .slice ga g.bl.length gc] 33))).cell? ⟨w.heap.size, 2, none⟩ = some (.slice ga g.bl.length gc) := by go_simp
  have hmm := @run_makeMap Try.prog
  refine (callsIn_wide (n := 0)).1 ?_
  refine callsIn_of_wp_marks Try.func22 rfl trivial ?_
  simp only [Try.ntmps22, List.size_toArray, List.length_cons, List.length_nil, Nat.reduceAdd, Nat.reduceSub, Array.replicate_succ, Array.replicate_zero, List.push_toArray, List.append_toArray, List.nil_append, List.cons_append]
  gi_wp2_with fail
  refine ⟨trivial, rfl, ?_⟩
  gi_at_call 24
  refine (callsIn_wide.2 (Check_any g ga gc _ HG.out (HC.out.ext E0))).mono ?_
  rintro e w1 ⟨rfl, hE⟩
  have b1 := hE.cell a1
  have b2 := hE.cell a2
  have b3 := hE.cell a3
  have E1 : Ext w w1 := E0.trans hE
  have z1 : w.heap.size < w1.heap.size := cell_lt b1
  clear hE E0 a1 a2 a3
  by_cases h0 : chk g = 0
  · have HR := Lib.hid (right_of_chk h0)
    have H0 := Lib.hid h0
    rw [h0]
    clear h0
    gi_wp2_with fail
    have M0 : Hid (SeenM (w1.alloc (.map #[] 0)) w1.heap.size 0 []) := ⟨0, Nat.le_refl _, SetAt.made _ _ _ _ _⟩
    have E2 : Ext (w1.alloc (.map #[] 0)) ((w1.alloc (.map #[] 0)).alloc (.cells #[.map (some w1.heap.size)] 98)) := (Ext.refl _).alloc _
    have E3 : Ext w1 ((w1.alloc (.map #[] 0)).alloc (.cells #[.map (some w1.heap.size)] 98)) := ((Ext.refl _).alloc _).alloc _
    have s1 : ((w1.alloc (.map #[] 0)).alloc (.cells #[.map (some w1.heap.size)] 98)).cell? ⟨w1.heap.size + 1, 0, none⟩ = some (.map (some w1.heap.size)) := by clear hmm; go_simp
    obtain ⟨mb, hmb⟩ : ∃ mb, mb = w1.heap.size := ⟨_, rfl⟩
    have M1 : Hid (SeenM ((w1.alloc (.map #[] 0)).alloc (.cells #[.map (some w1.heap.size)] 98)) w1.heap.size 0 []) := M0.out.same (Below.block E2 _ M0.out.lt)
    have zW : ((w1.alloc (.map #[] 0)).alloc (.cells #[.map (some w1.heap.size)] 98)).heap.size = w1.heap.size + 2 := by simp
    have c1 := E3.cell b1
    have c2 := E3.cell b2
    have c3 := E3.cell b3
    have EW := E1.trans E3
    rw [← hmb] at s1 M1 zW c1 c2 c3 EW ⊢
    have zn : w.heap.size < mb := by omega
    have HBL : Hid (g.bl ≠ [] → ∀ b off, ga = some ⟨b, off, none⟩ → b < mb) := fun hne b off hb => by
      have h1 := HC.out.lt hne hb
      have h2 := E1.size
      omega
    clear hmb M0 E2 E3 E1 b1 b2 b3 z1 hmm
    generalize (w1.alloc (.map #[] 0)).alloc (.cells #[.map (some mb)] 98) = W0 at s1 M1 zW c1 c2 c3 EW ⊢
    have HCW := Lib.hid (HC.out.ext EW)
    have hr1 := HR.out.r1
    have hr2 := HR.out.r2
    have hc1 := HR.out.c1
    have hc2 := HR.out.c2
    have hmx : Hid (g.rows.toNat * g.cols.toNat ≤ 4096) := Nat.mul_le_mul (show g.rows.toNat ≤ 64 by omega) (show g.cols.toNat ≤ 64 by omega)
    refine wpIn_loop (PtOA g W0 w.heap.size mb (mb + 1)) (fun a _ => fuel 20 a) ?_ ?_
    · refine ⟨0, [], none, 0, [], _, _, _, _, _, _, _, _, _, _, _, _, _, _, _, _, _, _, _, _, _, _, _, _, _, _, _, _, _, _, _, _, _, _, _, _, _, _, _, _, _, _, _, _, _, _, _, _, _, _, _, _, Nat.zero_le _, rfl, ?_⟩
      exact {
        eq := by rw [Nat.zero_mul]; rfl
        se := by rw [Nat.zero_mul]; exact M1.out
        cm := s1
        be := Below.refl _ _
        own := OwnsI.nil _
        vb := fun b hb => by cases hb
        ms := Marks.nil _ _ }
    · rintro x wr ⟨r, L, av, cv, ds, u0, u2, u3, u4, u7, u8, u9, u10, u11, u12, u13, u14, u15, u16, u17, u18, u21, u22, u23, u24, u25, u26, u27, u28, u29, u30, u31, u32, u33, u34, u35, u36, u37, u38, u39, u40, u41, u42, u43, u44, u45, u46, u47, u48, u49, u50, u51, u52, u53, u54, u55, u56, hrr, rfl, h⟩
      have H := Lib.hid h
      have g1 : wr.cell? ⟨w.heap.size, 0, none⟩ = some (.int .i64 g.rows) := (h.be.cell (p := ⟨w.heap.size, 0, none⟩) zn).trans c1
      have g2 : wr.cell? ⟨w.heap.size, 1, none⟩ = some (.int .i64 g.cols) := (h.be.cell (p := ⟨w.heap.size, 1, none⟩) zn).trans c2
      clear h
      by_cases hlt : r < g.rows.toNat
      · have hlt' : (r : Int) < g.rows := by omega
        gi_wp2_with fail
        refine wpIn_loop (PtIA g W0 w.heap.size mb (mb + 1) r) (fun a _ => fuel 25 a) ?_ ?_
        · exact ⟨0, L, av, cv, ds, _, _, _, _, _, _, _, _, _, _, _, _, _, _, _, _, _, _, _, _, _, _, _, _, _, _, _, _, _, _, _, _, _, _, _, _, _, _, _, _, _, _, _, _, _, _, _, _, _, Nat.zero_le _, rfl, H.out⟩
        · clear H g1 g2
          rintro x wr ⟨c, L, av, cv, ds, u0, u2, u3, u4, u8, u9, u10, u11, u12, u13, u14, u15, u16, u17, u18, u21, u22, u23, u26, u27, u28, u29, u30, u31, u32, u33, u34, u35, u36, u37, u38, u39, u40, u41, u42, u43, u44, u45, u46, u47, u48, u49, u50, u51, u52, u53, u54, u55, u56, hcc, rfl, h⟩
          have H := Lib.hid h
          have g1 : wr.cell? ⟨w.heap.size, 0, none⟩ = some (.int .i64 g.rows) := (h.be.cell (p := ⟨w.heap.size, 0, none⟩) zn).trans c1
          have g2 : wr.cell? ⟨w.heap.size, 1, none⟩ = some (.int .i64 g.cols) := (h.be.cell (p := ⟨w.heap.size, 1, none⟩) zn).trans c2
          have g3 : wr.cell? ⟨w.heap.size, 2, none⟩ = some (.slice ga g.bl.length gc) := (h.be.cell (p := ⟨w.heap.size, 2, none⟩) zn).trans c3
          have s2 := h.cm
          clear h
          by_cases hlc : c < g.cols.toNat
          · have hlc' : (c : Int) < g.cols := by omega
            have hkm : Hid (r * g.cols.toNat + c < g.rows.toNat * g.cols.toNat) := by
              show _ < _
              have h1 : (r + 1) * g.cols.toNat ≤ g.rows.toNat * g.cols.toNat := Nat.mul_le_mul_right _ hlt
              rw [Nat.add_mul, Nat.one_mul] at h1
              omega
            have HST : Hid (partK g (r * g.cols.toNat + c + 1) = partStep g (partK g (r * g.cols.toNat + c)) ((r : Int), (c : Int))) := by
              show _ = _
              rw [← cellAt_mk hlc]; rfl
            have HIN : Hid (inside g ((r : Int), (c : Int)) = true) := by
              show _ = _
              rw [← cellAt_mk hlc]
              exact cellAt_inside HR.out hkm.out
            have E4 : Ext wr (wr.alloc (.cells #[.int .i64 (r : Int), .int .i64 (c : Int)] 26)) := (Ext.refl _).alloc _
            have e1 : (wr.alloc (.cells #[.int .i64 (r : Int), .int .i64 (c : Int)] 26)).cell? ⟨wr.heap.size, 0, none⟩ = some (.int .i64 (r : Int)) := by go_simp
            have e2 : (wr.alloc (.cells #[.int .i64 (r : Int), .int .i64 (c : Int)] 26)).cell? ⟨wr.heap.size, 1, none⟩ = some (.int .i64 (c : Int)) := by go_simp
            obtain ⟨kn, hkn, hS⟩ := H.out.se
            obtain ⟨kl, hkl⟩ := keyPl (wf_inG (inG_of HR.out HIN.out)).1 (wf_inG (inG_of HR.out HIN.out)).2
            have hlook := (hS.ext E4).lookup lawPl Try.underlying98 Try.underlying4 (by kernel_rfl) hkl
            have g1' := E4.cell g1
            have g2' := E4.cell g2
            have g3' := E4.cell g3
            have s2' := E4.cell s2
            have HCr : Hid (Cells2 (wr.alloc (.cells #[.int .i64 (r : Int), .int .i64 (c : Int)] 26)) ga g.bl) := (Cells2.kept (Kd := fun k => k < mb) (n := 0) ⟨H.out.be.size, fun k o hk ho _ => by rw [H.out.be.block k hk]; exact ho⟩ (fun b off hb hne => HBL.out hne b off hb) HCW.out).ext E4
            have HE4 := Lib.hid E4
            have zwr : W0.heap.size ≤ wr.heap.size := H.out.be.size
            have zp : wr.heap.size < (wr.alloc (.cells #[.int .i64 (r : Int), .int .i64 (c : Int)] 26)).heap.size := by simp
            have zsb : mb + 1 < wr.heap.size := by omega
            have zn' : w.heap.size < wr.heap.size := by omega
            unfold evPl at hlook
            dsimp only at hlook
            clear hS hkl E4
            have nx : Hid (∀ (B : World), Ext wr B → partK g (r * g.cols.toNat + c + 1) = partK g (r * g.cols.toNat + c) → PtL g W0 mb (mb + 1) (r * g.cols.toNat + (c + 1)) L (.slice av L.length cv) ds B) := fun B hB e => (H.out.ext hB).next e
            by_cases hmem : ((r : Int), (c : Int)) ∈ (partK g (r * g.cols.toNat + c)).1
            · simp only [hmem, decide_true] at hlook
              have HEQ : Hid (partK g (r * g.cols.toNat + c + 1) = partK g (r * g.cols.toNat + c)) := by
                show _ = _
                rw [HST.out]; unfold partStep; rw [if_pos hmem]
              clear hmem
              gi_wp2
              refine ⟨trivial, ?_⟩
              gi_wp2
              exact ⟨⟨c + 1, L, av, cv, ds, _, _, _, _, _, _, _, _, _, _, _, _, _, _, _, _, _, _, _, _, _, _, _, _, _, _, _, _, _, _, _, _, _, _, _, _, _, _, _, _, _, _, _, _, _, _, _, _, _, by omega, by first | rfl | go_num, nx.out _ HE4.out HEQ.out⟩, by simp [fuel, Go.RowKit.intOf]; omega⟩
            · simp only [hmem, decide_false] at hlook
              cases hb : blk g ((r : Int), (c : Int))
              · have HEQ : Hid (partK g (r * g.cols.toNat + c + 1) = (insAll (partK g (r * g.cols.toNat + c)).1 ((wave g ((r : Int), (c : Int))).map (·.1)), (partK g (r * g.cols.toNat + c)).2 ++ [((wave g ((r : Int), (c : Int))).length : Int)])) := by
                  show _ = _
                  rw [HST.out]; unfold partStep; rw [if_neg hmem, if_neg (by simp [hb])]
                have HB := Lib.hid hb
                clear hmem hb
                gi_wp2_with fail
                refine ⟨trivial, rfl, ?_⟩
                gi_at_call 60
                refine (callsIn_wide.2 (blocked_any g ((r : Int), (c : Int)) ga gc _ HR.out HCr.out)).mono ?_
                rintro e w2 ⟨rfl, hE⟩
                rw [HB.out]
                have h1 := hE.cell g1'
                have h2 := hE.cell g2'
                have h3 := hE.cell g3'
                have h4 := hE.cell s2'
                have h5 := hE.cell e1
                have h6 := hE.cell e2
                have E2 := HE4.out.trans hE
                have zw2 : wr.heap.size < w2.heap.size := cell_lt h5
                have zn2 : w.heap.size < w2.heap.size := cell_lt h1
                have zs2 : mb + 1 < w2.heap.size := cell_lt h4
                have HC2 := Lib.hid (HCr.out.ext hE)
                clear g1 g2 g3 s2 g1' g2' g3' s2' e1 e2 hE hlook HCr nx zp zsb zn' HE4
                gi_wp2_with fail
                refine ⟨trivial, rfl, ?_⟩
                gi_at_call 61
                refine (callsIn_wide.2 (wave_any g ((r : Int), (c : Int)) _ _)).mono ?_
                rintro e w3 ⟨rfl, hw3⟩
                have E3 : Ext w2 (w2.alloc (.cells #[.int .i64 0] 3)) := (Ext.refl _).alloc _
                have n1 : (w2.alloc (.cells #[.int .i64 0] 3)).cell? ⟨w2.heap.size, 0, none⟩ = some (.int .i64 0) := by clear hw3; go_simp
                have n2 : (w2.alloc (.cells #[.int .i64 0] 3)).frozen? ⟨w2.heap.size, 0, none⟩ = false := by clear hw3; go_simp
                have E5 : Ext (w2.alloc (.cells #[.int .i64 0] 3)) w3 := by rw [← hw3]; exact ((Ext.refl _).alloc _).alloc _
                have hz3 : w3.heap.size = w2.heap.size + 3 := by rw [← hw3]; simp
                have G1 : w3.cell? ⟨w2.heap.size + 1, 0, none⟩ = some (.int .i64 g.rows) := by rw [← hw3]; clear hw3; go_simp
                have G2 : w3.cell? ⟨w2.heap.size + 1, 1, none⟩ = some (.int .i64 g.cols) := by rw [← hw3]; clear hw3; go_simp
                have G3 : w3.cell? ⟨w2.heap.size + 1, 2, none⟩ = some (.slice ga g.bl.length gc) := by rw [← hw3]; clear hw3; go_simp
                have P1 : w3.cell? ⟨w2.heap.size + 1 + 1, 0, none⟩ = some (.int .i64 (r : Int)) := by rw [← hw3]; clear hw3; go_simp
                have P2 : w3.cell? ⟨w2.heap.size + 1 + 1, 1, none⟩ = some (.int .i64 (c : Int)) := by rw [← hw3]; clear hw3; go_simp
                have n3 := E5.cell n1
                have n4 : w3.frozen? ⟨w2.heap.size, 0, none⟩ = false := (Below.frozen E5 (p := ⟨w2.heap.size, 0, none⟩) (by simp)).trans n2
                have E6 := (E2.trans E3).trans E5
                have HC3 := Lib.hid (HC2.out.ext (E3.trans E5))
                have h4' := (E3.trans E5).cell h4
                gi_wp2_with fail
                have hz6 := E6.size
                have HW := Lib.hid (wave_len HR.out HIN.out)
                clear hw3
                refine wpIn_wide.2 (parts_range _ _ rfl g ((r : Int), (c : Int)) ga gc w3 (w2.heap.size + 1 + 1) (w2.heap.size + 1) mb (mb + 1) w2.heap.size mb ((r * g.cols.toNat + c) * 4096) (partK g (r * g.cols.toNat + c)).1 HR.out HIN.out P1 P2 G1 G2 G3 HC3.out (by omega) (by omega)
                  (fun hne b off h => by have := HBL.out hne b off h; omega) ⟨n3, n4, h4', H.out.se.same (Below.block E6 _ H.out.se.lt), Chg.refl _ _, Below.refl _ _⟩ (by omega) (by omega) (by omega) (by omega) (by omega) (by have h8 := hkm.out; have h9 := hmx.out; omega) _ _ _ _ _ _ _ _ _ _ _ _ _ _ _ _ _ _ _ _ _ _ _ _ _ _ _ _ _ _ _ _ _ _ _ _ _ _ _ _ _ _ _ _ _ _ _ _ _ _ _ _ _ _ ds _ ?_)
                intro Db w4 k1 k2 h7 k4
                have H7 := Lib.hid h7
                have K4 := Lib.hid k4
                have d1 := h7.cn
                have hz4 : w3.heap.size ≤ w4.heap.size := h7.ch.1
                have V4 : Hid (OwnsI w4 (.slice av L.length cv) L) := (H.out.own.ext E6).kept (X := fun k => ¬ (k = w2.heap.size ∨ k = mb)) (n := 0) (h7.ch.kept (fun k hk _ => hk)) (fun b hb => by
                  have h8 := H.out.own.lt hb
                  have h9 := H.out.vb b hb
                  show ¬ _
                  omega)
                have hlen : L.length ≤ 4096 := by
                  have h8 := partK_len g (r * g.cols.toNat + c)
                  rw [← H.out.eq] at h8
                  have h9 := hkm.out
                  have h10 := hmx.out
                  omega
                obtain ⟨i0, hi, hi0, hi1, hi2⟩ := info_parts infoInt
                clear h7 k4 P1 P2 G1 G2 G3 n1 n2 n3 n4 h4' h1 h2 h3 h4 h5 h6
                gi_wp2_with (gi_at_builtin; refine wpListIn_append1 _ rfl _ _ 50 rfl 3 i0 (.int .i64 0) 1 8 Try.underlying50 hi hi0 hi1 hi2 rfl (by decide) (.slice av L.length cv) _ _ rfl (V4.out.ext ((Ext.refl _).alloc _)) ⟨w4.heap.size, 0, none⟩ 1 1 (by decide) [.int .i64 ((wave g ((r : Int), (c : Int))).length : Int)] rfl rfl (cell_one_int _ _ _) ?c1 ?c2 ?c3 ?c4)
                case c1 => intro u hu; simp at hu; subst hu; rfl
                case c2 => unfold maxLen; omega
                case c3 => omega
                case c4 =>
                  intro v' w5 hown5 hend5
                  have O5 := ownsI_succ hown5
                  obtain ⟨av', cv', rfl, _, hbk⟩ := O5.reads
                  have E4 : Ext w4 (w4.alloc (.cells #[.int .i64 ((wave g ((r : Int), (c : Int))).length : Int)] 3)) := (Ext.refl _).alloc _
                  have CA : Chg (fun k => (Value.slice av L.length cv).ownBlock = some k) (w4.alloc (.cells #[.int .i64 ((wave g ((r : Int), (c : Int))).length : Int)] 3)) w5 := Chg.app hend5 (fun b hb => hb)
                  have HCA := Lib.hid CA
                  have HE4 := Lib.hid E4
                  have HEND := Lib.hid hend5
                  have HO5 := Lib.hid O5
                  clear CA E4 hend5 hown5 O5 hbk d1
                  gi_wp2
                  have s0 : W0.heap.size ≤ wr.heap.size := H.out.be.size
                  have s2 : w4.heap.size + 1 ≤ w5.heap.size := by have := HCA.out.1; simp at this; omega
                  have C45 : Chg (fun k => (Value.slice av L.length cv).ownBlock = some k) w4 w5 := (Chg.ext HE4.out).trans HCA.out
                  have CC : Chg (fun k => (k = w2.heap.size ∨ k = mb) ∨ (Value.slice av L.length cv).ownBlock = some k) wr w5 :=
                    ((Chg.ext E6).trans (H7.out.ch.mono fun _ h => .inl h)).trans (C45.mono fun _ h => .inr h)
                  have nvb : ∀ b, (Value.slice av L.length cv).ownBlock = some b → W0.heap.size ≤ b ∧ b < wr.heap.size := fun b hb => ⟨H.out.vb b hb, H.out.own.lt hb⟩
                  have b4 : w5.heap[mb]? = w4.heap[mb]? := C45.2 mb (by omega) (fun e => by have := nvb mb e; omega)
                  have hsb : w5.cell? ⟨mb + 1, 0, none⟩ = some (.map (some mb)) :=
                    (World.cell?_of_block (w := w4) (a := ⟨mb + 1, 0, none⟩) (C45.2 (mb + 1) (by omega) (fun e => by have := nvb (mb + 1) e; omega))).trans H7.out.cm
                  refine ⟨⟨c + 1, L ++ [((wave g ((r : Int), (c : Int))).length : Int)], av', cv', mark Db :: ds, _, _, _, _, _, _, _, _, _, _, _, _, _, _, _, _, _, _, _, _, _, _, _, _, _, _, _, _, _, _, _, _, _, _, _, _, _, _, _, _, _, _, _, _, _, _, _, _, _, by omega, by first | rfl | (rw [List.length_append, List.length_singleton]; rfl), ?_⟩, by simp [fuel, Go.RowKit.intOf]; omega⟩
                  exact {
                    eq := by rw [← Nat.add_assoc, HEQ.out, H.out.eq]
                    se := by
                      rw [← Nat.add_assoc, HEQ.out]
                      refine (H7.out.se.same b4).mono ?_
                      have := HW.out
                      omega
                    cm := hsb
                    be := (((H.out.be.trans (E6.mono (by omega))).trans H7.out.be).trans (HE4.out.mono (by omega))).trans (HEND.out.below (by simp; omega) (fun b hb => by have := nvb b hb; omega))
                    own := HO5.out
                    vb := fun b hb => by
                      rcases HEND.out with ⟨h1, _, _⟩ | ⟨h1, _⟩
                      · rw [h1] at hb; exact H.out.vb b hb
                      · rw [h1] at hb
                        have hb' : b = (w4.alloc (.cells #[.int .i64 ((wave g ((r : Int), (c : Int))).length : Int)] 3)).heap.size := by cases hb; rfl
                        simp at hb'
                        omega
                    ms := Marks.cons (A := wr) H.out.ms (by omega) (by omega) (H.out.ms.keptX (X := fun k => ¬ ((k = w2.heap.size ∨ k = mb) ∨ (Value.slice av L.length cv).ownBlock = some k)) (CC.kept (fun k hk _ => hk)) (fun D _ hD => by
                        have hDl := (Array.getElem?_eq_some_iff.1 hD).1
                        rintro ((e | e) | e)
                        · omega
                        · obtain ⟨es, cl, h8⟩ := H.out.se.at
                          rw [e, h8] at hD
                          cases hD
                        · have := H.out.own.isCells e hD
                          cases this))
                      ((C45.2 Db k2 (fun e => by have := nvb Db e; omega)).trans K4.out) }
              · have HEQ : Hid (partK g (r * g.cols.toNat + c + 1) = partK g (r * g.cols.toNat + c)) := by
                  show _ = _
                  rw [HST.out]; unfold partStep; rw [if_neg hmem, if_pos hb]
                have HB := Lib.hid hb
                clear hmem hb
                gi_wp2_with fail
                refine ⟨trivial, rfl, ?_⟩
                gi_at_call 60
                refine (callsIn_wide.2 (blocked_any g ((r : Int), (c : Int)) ga gc _ HR.out HCr.out)).mono ?_
                rintro e w2 ⟨rfl, hE⟩
                rw [HB.out]
                gi_wp2
                exact ⟨⟨c + 1, L, av, cv, ds, _, _, _, _, _, _, _, _, _, _, _, _, _, _, _, _, _, _, _, _, _, _, _, _, _, _, _, _, _, _, _, _, _, _, _, _, _, _, _, _, _, _, _, _, _, _, _, _, _, by omega, by first | rfl | go_num, nx.out _ (HE4.out.trans hE) HEQ.out⟩, by simp [fuel, Go.RowKit.intOf]; omega⟩
          · have hlc' : ¬ (c : Int) < g.cols := by omega
            have HCE : Hid (r * g.cols.toNat + c = (r + 1) * g.cols.toNat) := by
              show _ = _
              rw [Nat.add_mul, Nat.one_mul, show c = g.cols.toNat by omega]
            gi_wp2
            refine ⟨⟨r + 1, L, av, cv, ds, _, _, _, _, _, _, _, _, _, _, _, _, _, _, _, _, _, _, _, _, _, _, _, _, _, _, _, _, _, _, _, _, _, _, _, _, _, _, _, _, _, _, _, _, _, _, _, _, _, _, _, _, by omega, rfl, by rw [← HCE.out]; exact H.out⟩, by simp [fuel, Go.RowKit.intOf]; omega⟩
      · have hlt' : ¬ (r : Int) < g.rows := by omega
        gi_wp2_with fail
        obtain rfl : r = g.rows.toNat := by omega
        refine ⟨trivial, rfl, ?_⟩
        gi_at_call 62
        have hL : L = partsU g := H.out.eq
        have hlen : L.length ≤ 4096 := by
          rw [hL]
          exact Nat.le_trans (partK_len g _) hmx.out
        refine (callsIn_wide.2 (SortFunc_any L (fun x hx => by
          have h1 := partK_bd HR.out _ (Nat.le_refl _) x (by rw [hL] at hx; exact hx)
          omega) _ _ H.out.own hlen)).mono ?_
        rintro e w5 ⟨rfl, ⟨av', cv', hv, hcI⟩, hbe, hch⟩
        cases hv
        have HCI := Lib.hid hcI
        have HBE := Lib.hid hbe
        have HCH := Lib.hid hch
        have HL := Lib.hid hL
        clear hcI hbe hch hL
        gi_wp2
        have hlen2 : (partsL g).length = L.length := by
          unfold partsL
          rw [if_neg (by simp [H0.out]), List.length_mergeSort, HL.out]
        have hval : partsL g = L.mergeSort fun x y => decide (y ≤ x) := by
          unfold partsL
          rw [if_neg (by simp [H0.out]), HL.out]
        refine leaves_keep (n := W0.heap.size) (v := .tuple #[.slice av L.length cv, .int .i64 0]) (fun w => (results_tmp2 (t := 2) (u := 3) rfl _ _ _).trans rfl) _ _
          (H.out.ms.kept fun D hD ho => (HCH.out.2 D (Array.getElem?_eq_some_iff.1 ho).1 (fun e => by have := H.out.own.isCells e ho; cases this)).trans ho) (fun w' hw' => ?_)
        refine ⟨av, cv, by rw [hlen2, H0.out], ?_, ?_⟩
        · rw [hval]; exact HCI.out.keep hw'
        · have z9 : w.heap.size ≤ W0.heap.size := EW.size
          have z8 : W0.heap.size ≤ wr.heap.size := H.out.be.size
          exact Below.trans (Below.trans (Below.trans EW (H.out.be.mono (by omega))) (HBE.out _ (by omega) (fun b hb => by have := H.out.vb b hb; omega))) (hw'.1.mono z9)
  · have hv : Hid (partsL g = []) := by show _ = _; unfold partsL; rw [if_pos h0]
    have hb : (chk g != 0) = true := by simp [h0]
    have hb2 : (chk g == 0) = false := by simp [h0]
    clear h0
    gi_wp2
    refine leaves_marks (n := w.heap.size) (v := .tuple #[.slice none 0 0, .int .i64 (chk g)]) (fun w => (results_tmp2 (t := 2) (u := 3) rfl _ _ _).trans rfl) _ _ (Marks.nil _ _) (fun w' hw' => ?_)
    refine ⟨none, 0, ?_, ?_, ?_⟩
    · rw [hv.out]; rfl
    · rw [hv.out]; exact CellsI.nil _ _
    · exact Below.trans E1 hw'
end Go.Proofs.Ytfigooilhnahfaa
/- The bundles of hoses, in plain Lean; lists of routes in memory. -/
namespace Go.Proofs.Ytfigooilhnahfaa
open Go.RowKit Go.Maps

abbrev Hose := Pt × Pt
def ph (hs : List Hose) (i : Nat) : Hose := hs.getD i ((0, 0), (0, 0))
/-- a list of pairs of places in memory -/
def Cells4 (w : World) (a : Option Addr) (hs : List Hose) : Prop :=
  ∀ i, i < hs.length → ∃ b off, a = some ⟨b, off, none⟩ ∧ w.cell? ⟨b, off + i * 4, none⟩ = some (.int .i64 (ph hs i).1.1) ∧ w.cell? ⟨b, off + i * 4 + 1, none⟩ = some (.int .i64 (ph hs i).1.2) ∧ w.cell? ⟨b, off + i * 4 + 2, none⟩ = some (.int .i64 (ph hs i).2.1) ∧ w.cell? ⟨b, off + i * 4 + 3, none⟩ = some (.int .i64 (ph hs i).2.2)
theorem Cells4.ext {w w' : World} {a : Option Addr} {l : List Hose} (h : Cells4 w a l) (he : Ext w w') : Cells4 w' a l := fun i hi => by
  obtain ⟨b, off, h1, h2, h3, h4, h5⟩ := h i hi
  exact ⟨b, off, h1, he.cell h2, he.cell h3, he.cell h4, he.cell h5⟩
theorem Cells4.below {m : Nat} {w w' : World} {a : Option Addr} {l : List Hose} (h : Cells4 w a l) (he : Below m w w') (hm : l ≠ [] → ∀ b off, a = some ⟨b, off, none⟩ → b < m) : Cells4 w' a l := fun i hi => by
  obtain ⟨b, off, h1, h2, h3, h4, h5⟩ := h i hi
  have hb := hm (by rintro rfl; simp at hi) b off h1
  exact ⟨b, off, h1, (he.cell (p := ⟨b, _, none⟩) hb).trans h2, (he.cell (p := ⟨b, _, none⟩) hb).trans h3, (he.cell (p := ⟨b, _, none⟩) hb).trans h4, (he.cell (p := ⟨b, _, none⟩) hb).trans h5⟩
theorem Cells4.lt {w : World} {a : Option Addr} {l : List Hose} (h : Cells4 w a l) (hne : l ≠ []) {b off : Nat} (ha : a = some ⟨b, off, none⟩) : b < w.heap.size := by
  obtain ⟨b', off', h1, h2, _⟩ := h 0 (List.length_pos_iff.2 hne)
  rw [ha] at h1
  cases h1
  exact cell_lt h2
theorem Cells2.below {m : Nat} {w w' : World} {a : Option Addr} {l : List Pt} (h : Cells2 w a l) (he : Below m w w') (hm : l ≠ [] → ∀ b off, a = some ⟨b, off, none⟩ → b < m) : Cells2 w' a l := fun i hi => by
  obtain ⟨b, off, h1, h2, h3⟩ := h i hi
  have hb := hm (by rintro rfl; simp at hi) b off h1
  exact ⟨b, off, h1, (he.cell (p := ⟨b, _, none⟩) hb).trans h2, (he.cell (p := ⟨b, _, none⟩) hb).trans h3⟩

def insP (S : List Hose) (a : Hose) : List Hose := if a ∈ S then S else a :: S
theorem insP_mem (S : List Hose) (a x : Hose) : x ∈ insP S a ↔ x ∈ S ∨ x = a := by
  unfold insP
  split
  · rename_i h
    constructor
    · exact .inl
    · rintro (h1 | rfl)
      · exact h1
      · exact h
  · rw [List.mem_cons]
    constructor
    · rintro (h | h)
      · exact .inr h
      · exact .inl h
    · rintro (h | h)
      · exact .inr h
      · exact .inl h
theorem insP_nodup {S : List Hose} (h : S.Nodup) (a : Hose) : (insP S a).Nodup := by
  unfold insP
  split
  · exact h
  · rename_i hn; exact List.nodup_cons.2 ⟨hn, h⟩
theorem insP_len (S : List Hose) (a : Hose) : (insP S a).length ≤ S.length + 1 := by
  unfold insP
  split
  · omega
  · simp
def pairOf (a b : Pt) : Hose := if 0 < ordP a b then (b, a) else (a, b)
def pairK (S : List Hose) (l : List Pt) : Nat → List Hose
  | 0 => S
  | j + 1 => insP (pairK S l j) (pairOf (pt l j) (pt l (j + 1)))
def pairsIn (S : List Hose) (l : List Pt) : List Hose := pairK S l (l.length - 1)
/-- the ducts behind the first k hoses -/
def ductK (g : Gr) (hs : List Hose) : Nat → List Hose
  | 0 => []
  | k + 1 => pairsIn (ductK g hs k) (way g (ph hs k).1 (ph hs k).2)
def hoseErr (g : Gr) (x : Hose) : Int := if cellsErr g [x.1, x.2] ≠ 0 then cellsErr g [x.1, x.2] else if dst g x.2 x.1 < 0 then 6 else 0
def hosesErr (g : Gr) (hs : List Hose) : Nat → Nat → Int
  | 0, _ => 0
  | n + 1, k => if hoseErr g (ph hs k) ≠ 0 then hoseErr g (ph hs k) else hosesErr g hs n (k + 1)
def ductE (g : Gr) (hs : List Hose) : Int := if chk g ≠ 0 then chk g else if 256 < hs.length then 5 else hosesErr g hs hs.length 0
def ductN (g : Gr) (hs : List Hose) : Int := if ductE g hs ≠ 0 then 0 else ((ductK g hs hs.length).length : Int)
def ways (g : Gr) (hs : List Hose) : Nat → List (List Pt)
  | 0 => []
  | k + 1 => ways g hs k ++ [way g (ph hs k).1 (ph hs k).2]
def ductL (g : Gr) (hs : List Hose) : List (List Pt) := if ductE g hs ≠ 0 then [] else ways g hs hs.length
theorem ways_len (g : Gr) (hs : List Hose) : ∀ k, (ways g hs k).length = k := by
  intro k
  induction k with
  | zero => rfl
  | succ k ih => simp [ways, ih]
theorem way_len (g : Gr) (p q : Pt) : (way g p q).length = (dst g q p).toNat + 1 := by unfold way; simp [wayGo_len]
theorem pairK_len (S : List Hose) (l : List Pt) : ∀ j, (pairK S l j).length ≤ S.length + j := by
  intro j
  induction j with
  | zero => exact Nat.le_refl _
  | succ j ih =>
    have := insP_len (pairK S l j) (pairOf (pt l j) (pt l (j + 1)))
    show (insP _ _).length ≤ _
    omega
theorem pairK_nodup {S : List Hose} (h : S.Nodup) (l : List Pt) : ∀ j, (pairK S l j).Nodup := by
  intro j
  induction j with
  | zero => exact h
  | succ j ih => exact insP_nodup ih _
theorem ductK_nodup (g : Gr) (hs : List Hose) : ∀ k, (ductK g hs k).Nodup := by
  intro k
  induction k with
  | zero => exact List.nodup_nil
  | succ k ih => exact pairK_nodup ih _ _

/-- the slice value v owns rows that own their places -/
def RowsO (w : World) (v : Value) (LL : List (List Pt)) : Prop :=
  ∃ vs : List Value, w.ownsRow 0 22 1 v LL.length vs ∧ vs.length = LL.length ∧ ∀ i, i < LL.length → Owns w (vs.getD i undef) (LL.getD i [])
/-- what one who is given the rows sees -/
def RowsR (w : World) (a : Option Addr) (LL : List (List Pt)) : Prop :=
  ∀ i, i < LL.length → ∃ b off ai ci, a = some ⟨b, off, none⟩ ∧ w.cell? ⟨b, off + i, none⟩ = some (.slice ai (LL.getD i []).length ci) ∧ Cells2 w ai (LL.getD i [])
theorem RowsR.ext {w w' : World} {a : Option Addr} {LL : List (List Pt)} (h : RowsR w a LL) (he : Ext w w') : RowsR w' a LL := fun i hi => by
  obtain ⟨b, off, ai, ci, h1, h2, h3⟩ := h i hi
  exact ⟨b, off, ai, ci, h1, he.cell h2, h3.ext he⟩
theorem RowsR.nil (w : World) (a : Option Addr) : RowsR w a [] := fun i hi => by simp at hi
theorem RowsO.nil (w : World) : RowsO w (.slice none 0 0) [] := ⟨[], World.ownsRow_nil w 0 _ _, rfl, fun i hi => by simp at hi⟩
theorem ownsRow_kept {X : Nat → Prop} {m : Nat} {A B : World} {e : TypeId} {s n : Nat} {v : Value} {xs : List Value} (ho : A.ownsRow 0 e s v n xs) (h : Kept X m A B) (hk : ∀ b, v.ownBlock = some b → X b) : B.ownsRow 0 e s v n xs := by
  obtain ⟨h1, h2⟩ := ho
  refine ⟨h1, ?_⟩
  rcases h2 with h2 | ⟨g, cap, cur, hv, hg, hh, r⟩
  · exact .inl h2
  · exact .inr ⟨g, cap, cur, hv, hg, h.2 g _ (hk g (by rw [hv]; rfl)) hh (.inl rfl), r⟩
theorem ownsRow_at {A : World} {e : TypeId} {s n : Nat} {v : Value} {xs : List Value} (ho : A.ownsRow 0 e s v n xs) {b : Nat} (hb : v.ownBlock = some b) : ∃ cur fr, A.heap[b]? = some (.cells cur e fr) := by
  rcases ho.2 with ⟨hv, _⟩ | ⟨g, cap, cur, hv, hg, hh, r⟩
  · rw [hv] at hb; cases hb
  · rw [hv] at hb; cases hb; exact ⟨_, _, hh⟩
theorem RowsO.kept {X : Nat → Prop} {m : Nat} {A B : World} {v : Value} {LL : List (List Pt)} (ho : RowsO A v LL) (h : Kept X m A B) (hk : ∀ b, v.ownBlock = some b → X b) (hX : ∀ b cur fr, A.heap[b]? = some (.cells cur 26 fr) → X b) : RowsO B v LL := by
  obtain ⟨vs, h1, h2, h3⟩ := ho
  refine ⟨vs, ownsRow_kept h1 h hk, h2, fun i hi => (h3 i hi).kept h (fun b hb => ?_)⟩
  obtain ⟨cur, fr, h4⟩ := ownsRow_at (h3 i hi) hb
  exact hX b cur fr h4
theorem RowsO.ext {A B : World} {v : Value} {LL : List (List Pt)} (ho : RowsO A v LL) (h : Ext A B) : RowsO B v LL := ho.kept (Kept.ext h (fun _ => True) 0) (fun _ _ => trivial) (fun _ _ _ _ => trivial)
theorem RowsO.shape {A : World} {v : Value} {LL : List (List Pt)} (ho : RowsO A v LL) : ∃ a cap, v = .slice a LL.length cap := by
  obtain ⟨vs, h1, _⟩ := ho
  rcases h1.2 with ⟨hv, hn⟩ | ⟨g, cap, cur, hv, _⟩
  · exact ⟨none, 0, by rw [hv, hn]⟩
  · exact ⟨_, cap, hv⟩
theorem RowsO.lt {A : World} {v : Value} {LL : List (List Pt)} (ho : RowsO A v LL) {b : Nat} (hb : v.ownBlock = some b) : b < A.heap.size := by
  obtain ⟨vs, h1, _⟩ := ho
  exact (World.ownsRow.lt h1 b hb).2
theorem RowsO.at {A : World} {v : Value} {LL : List (List Pt)} (ho : RowsO A v LL) {b : Nat} (hb : v.ownBlock = some b) : ∃ cur fr, A.heap[b]? = some (.cells cur 22 fr) := by
  obtain ⟨vs, h1, _⟩ := ho
  exact ownsRow_at h1 hb
theorem RowsO.reads {A : World} {v : Value} {LL : List (List Pt)} (ho : RowsO A v LL) : ∃ a cap, v = .slice a LL.length cap ∧ RowsR A a LL := by
  obtain ⟨vs, h1, h2, h3⟩ := ho
  rcases h1.2 with ⟨hv, hn⟩ | ⟨g, cap, cur, hv, hg, hh, hr⟩
  · have : LL = [] := List.eq_nil_of_length_eq_zero hn
    subst this
    exact ⟨none, 0, hv, RowsR.nil _ _⟩
  · refine ⟨some ⟨g, 0, none⟩, cap, hv, fun i hi => ?_⟩
    have hc := World.ownsRow.cells h1 (g := g) (by rw [hv]; rfl)
    have hi2 : i < vs.length := by omega
    obtain ⟨ai, ci, e1, e2, _⟩ := (h3 i hi).reads
    have := hc i (vs.getD i undef) (by simp [List.getD, hi2])
    rw [Addr.add_lit] at this
    rw [e1] at this
    exact ⟨g, 0, ai, ci, rfl, this, e2⟩
theorem rows_app {A B : World} {v v' u : Value} {vs : List Value} {LL : List (List Pt)} {L : List Pt} (h1 : A.ownsRow 0 22 1 v LL.length vs) (h2 : vs.length = LL.length) (h3 : ∀ i, i < LL.length → Owns A (vs.getD i undef) (LL.getD i [])) (hu : Owns A u L)
    (he : AppEnd A B v v') (h4 : B.ownsRow 0 22 1 v' (LL.length + 1) (vs ++ [u])) : RowsO B v' (LL ++ [L]) := by
  have K : Kept (fun k => v.ownBlock ≠ some k) 0 A B := Kept.grown he (fun b hb hn => hn hb)
  have keep : ∀ (x : Value) (N : List Pt), Owns A x N → Owns B x N := fun x N hx => hx.kept K (fun b hb hvb => by
    obtain ⟨c1, f1, e1⟩ := ownsRow_at hx hb
    obtain ⟨c2, f2, e2⟩ := ownsRow_at h1 hvb
    rw [e1] at e2
    injection e2 with e2
    injection e2 with _ e3 _
    exact absurd e3 (by decide))
  refine ⟨vs ++ [u], by rw [List.length_append, List.length_singleton]; exact h4, by simp [h2], fun i hi => ?_⟩
  by_cases e : i < LL.length
  · have e1 : (vs ++ [u]).getD i undef = vs.getD i undef := by simp [List.getD, List.getElem?_append_left (show i < vs.length by omega)]
    have e2 : (LL ++ [L]).getD i [] = LL.getD i [] := by simp [List.getD, List.getElem?_append_left e]
    rw [e1, e2]; exact keep _ _ (h3 i e)
  · have ei : i = LL.length := by simp at hi; omega
    have e1 : (vs ++ [u]).getD i undef = u := by rw [ei, ← h2]; simp [List.getD]
    have e2 : (LL ++ [L]).getD i [] = L := by rw [ei]; simp [List.getD]
    rw [e1, e2]; exact keep _ _ hu
theorem wayGo_opn {g : Gr} (hr : Right g) {q : Pt} (hq : opn g q = true) : ∀ (n : Nat) (a : Pt), opn g a = true → IsD g q a n → ∀ x ∈ wayGo g (dst g q) n a, opn g x = true := by
  intro n
  induction n with
  | zero => intro a _ _ x hx; cases hx
  | succ n ih =>
    intro a ha hd x hx
    have hda : dst g q a = (n : Int) + 1 := by have := dst_of hr (opn_inside hq) hd; rw [this]; omega
    obtain ⟨y, hy1, hy2⟩ := stepTo_ex hr hq ha hd
    have hs := stepTo_spec (g := g) (D := dst g q) (a := a) ⟨y, hy1, by rw [hy2, hda]; omega⟩
    rcases List.mem_cons.1 hx with rfl | hx
    · exact near_opn hs.1
    · exact ih _ (near_opn hs.1) (stepTo_isD hr hq hd hs.1 (by rw [hs.2, hda]; omega)) x hx
theorem way_isD {g : Gr} (hr : Right g) {p q : Pt} (hq : opn g q = true) (hneg : ¬ dst g q p < 0) : IsD g q p (dst g q p).toNat := by
  rcases dst_cases hr (opn_inside hq) p with ⟨k, h1, h2⟩ | ⟨_, h2⟩
  · rw [h2]; exact h1
  · omega
theorem way_opn {g : Gr} (hr : Right g) {p q : Pt} (hp : opn g p = true) (hq : opn g q = true) (hneg : ¬ dst g q p < 0) : ∀ x ∈ way g p q, opn g x = true := by
  intro x hx
  rcases List.mem_cons.1 hx with rfl | hx
  · exact hp
  · exact wayGo_opn hr hq _ _ hp (way_isD hr hq hneg) x hx
theorem infoRow : (Try.prog.info? 22).map (fun i => (i.zero, i.size, i.bytes)) = some (some (.slice none 0 0), 1, 24) := by kernel_rfl
end Go.Proofs.Ytfigooilhnahfaa
/- What the law TubingSaves asks of bundles of hoses, in plain Lean. -/
namespace Go.Proofs.Ytfigooilhnahfaa

theorem nodup_sub {α : Type} [DecidableEq α] : ∀ {l m : List α}, l.Nodup → (∀ x ∈ l, x ∈ m) → l.length ≤ m.length := by
  intro l
  induction l with
  | nil => intro m _ _; exact Nat.zero_le _
  | cons a l ih =>
    intro m hn hs
    obtain ⟨h1, h2⟩ := List.nodup_cons.1 hn
    have ha := hs a (List.mem_cons_self ..)
    have := ih (m := m.erase a) h2 (fun x hx => by
      have hne : x ≠ a := fun e => h1 (e ▸ hx)
      exact (List.mem_erase_of_ne hne).2 (hs x (List.mem_cons_of_mem _ hx)))
    rw [List.length_erase_of_mem ha] at this
    have hp := List.length_pos_of_mem ha
    simp only [List.length_cons]
    omega
theorem pairK_mem (S : List Hose) (l : List Pt) (x : Hose) : ∀ j, x ∈ pairK S l j ↔ x ∈ S ∨ ∃ i, i < j ∧ x = pairOf (pt l i) (pt l (i + 1)) := by
  intro j
  induction j with
  | zero => show x ∈ S ↔ _; simp
  | succ j ih =>
    show x ∈ insP (pairK S l j) (pairOf (pt l j) (pt l (j + 1))) ↔ _
    rw [insP_mem, ih]
    constructor
    · rintro ((h | ⟨i, h1, h2⟩) | h)
      · exact .inl h
      · exact .inr ⟨i, by omega, h2⟩
      · exact .inr ⟨j, by omega, h⟩
    · rintro (h | ⟨i, h1, h2⟩)
      · exact .inl (.inl h)
      · by_cases e : i = j
        · subst e; exact .inr h2
        · exact .inl (.inr ⟨i, by omega, h2⟩)
def wayOf (g : Gr) (x : Hose) : List Pt := way g x.1 x.2
theorem ductK_mem (g : Gr) (hs : List Hose) (x : Hose) : ∀ k, x ∈ ductK g hs k ↔ ∃ i, i < k ∧ ∃ j, j < (wayOf g (ph hs i)).length - 1 ∧ x = pairOf (pt (wayOf g (ph hs i)) j) (pt (wayOf g (ph hs i)) (j + 1)) := by
  intro k
  induction k with
  | zero => show x ∈ [] ↔ _; simp
  | succ k ih =>
    show x ∈ pairK (ductK g hs k) (wayOf g (ph hs k)) ((wayOf g (ph hs k)).length - 1) ↔ _
    rw [pairK_mem, ih]
    constructor
    · rintro (⟨i, h1, h2⟩ | h)
      · exact ⟨i, by omega, h2⟩
      · exact ⟨k, by omega, h⟩
    · rintro ⟨i, h1, h2⟩
      by_cases e : i = k
      · subst e; exact .inr h2
      · exact .inl ⟨i, by omega, h2⟩
theorem hosesErr_iff (g : Gr) (hs : List Hose) : ∀ n k, hosesErr g hs n k = 0 ↔ ∀ i, k ≤ i → i < k + n → hoseErr g (ph hs i) = 0 := by
  intro n
  induction n with
  | zero => intro k; simp only [hosesErr, true_iff]; intro i h1 h2; omega
  | succ n ih =>
    intro k
    unfold hosesErr
    by_cases h : hoseErr g (ph hs k) = 0
    · rw [if_neg (by simp [h]), ih]
      constructor
      · intro hh i h1 h2
        by_cases e : i = k
        · subst e; exact h
        · exact hh i (by omega) (by omega)
      · intro hh i h1 h2; exact hh i (by omega) (by omega)
    · rw [if_pos h]
      constructor
      · intro hh; exact absurd hh h
      · intro hh; exact absurd (hh k (Nat.le_refl _) (by omega)) h
theorem ductE_iff {g : Gr} {hs : List Hose} (hk : chk g = 0) (hl : hs.length ≤ 256) : ductE g hs = 0 ↔ ∀ i, i < hs.length → hoseErr g (ph hs i) = 0 := by
  unfold ductE
  rw [if_neg (by simp [hk]), if_neg (by omega), hosesErr_iff]
  constructor
  · intro h i hi; exact h i (Nat.zero_le _) (by omega)
  · intro h i _ hi; exact h i (by omega)
theorem hose_len {g : Gr} {x : Hose} (hk : chk g = 0) (h : hoseErr g x = 0) : lenE g x.1 x.2 = 0 := by
  unfold hoseErr at h
  unfold lenE givenErr
  have e0 : ¬ chk g ≠ 0 := by simp [hk]
  rw [if_neg e0]
  by_cases h1 : cellsErr g [x.1, x.2] = 0
  · rw [if_neg (by simp [h1])] at h ⊢; exact h
  · rw [if_pos h1] at h; exact absurd h h1
theorem ph_app1 {hs ks : List Hose} {i : Nat} (h : i < hs.length) : ph (hs ++ ks) i = ph hs i := by
  unfold ph; rw [List.getD_eq_getElem?_getD, List.getD_eq_getElem?_getD, List.getElem?_append_left h]
theorem ph_app2 {hs ks : List Hose} {i : Nat} (h : hs.length ≤ i) : ph (hs ++ ks) i = ph ks (i - hs.length) := by
  unfold ph; rw [List.getD_eq_getElem?_getD, List.getD_eq_getElem?_getD, List.getElem?_append_right h]
/-- the lengths of the first k hoses together, and the greatest -/
def sumK (g : Gr) (hs : List Hose) : Nat → Int
  | 0 => 0
  | k + 1 => sumK g hs k + lenN g (ph hs k).1 (ph hs k).2
def mostK (g : Gr) (hs : List Hose) : Nat → Int
  | 0 => 0
  | k + 1 => max (mostK g hs k) (lenN g (ph hs k).1 (ph hs k).2)
theorem sumK_bd (g : Gr) (hs : List Hose) : ∀ k, 0 ≤ sumK g hs k ∧ sumK g hs k ≤ 4096 * k := by
  intro k
  induction k with
  | zero => simp [sumK]
  | succ k ih =>
    have := len_bd (g := g) (p := (ph hs k).1) (q := (ph hs k).2)
    unfold sumK
    omega
theorem mostK_bd (g : Gr) (hs : List Hose) : ∀ k, 0 ≤ mostK g hs k ∧ mostK g hs k ≤ 4096 := by
  intro k
  induction k with
  | zero => simp [mostK]
  | succ k ih =>
    have := len_bd (g := g) (p := (ph hs k).1) (q := (ph hs k).2)
    unfold mostK
    omega
theorem wayOf_len {g : Gr} {x : Hose} (h : lenE g x.1 x.2 = 0) : ((wayOf g x).length : Int) = lenN g x.1 x.2 + 1 := by
  obtain ⟨_, _, _, hd, hn⟩ := len_is h
  unfold wayOf
  rw [way_len, hn]
  omega
theorem way_dst {g : Gr} {x : Hose} (h : lenE g x.1 x.2 = 0) {i : Nat} (hi : i < (wayOf g x).length) : dst g x.2 (pt (wayOf g x) i) = lenN g x.1 x.2 - i := by
  obtain ⟨hk, hp, hq, hd, hn⟩ := len_is h
  have hr := right_of_chk hk
  have hD : IsD g x.2 x.1 (dst g x.2 x.1).toNat := by
    rcases dst_cases hr (opn_inside hq) x.1 with ⟨k, h1, h2⟩ | ⟨_, h2⟩
    · rw [h2]; exact h1
    · omega
  have hl := wayOf_len h
  have := (wayGo_spec hr hq _ x.1 hp hD).1 i (by omega)
  rw [hn]
  show dst g x.2 (pt (way g x.1 x.2) i) = _
  unfold way
  rw [this]
  omega
theorem pairOf_cases (a b : Pt) : pairOf a b = (a, b) ∨ pairOf a b = (b, a) := by
  unfold pairOf
  split
  · exact .inr rfl
  · exact .inl rfl
theorem ducts_least {g : Gr} {hs : List Hose} {k : Nat} {x : Hose} (hx : ∃ i, i < k ∧ x = ph hs i) (h : lenE g x.1 x.2 = 0) : lenN g x.1 x.2 ≤ ((ductK g hs k).length : Int) := by
  obtain ⟨i, hi, rfl⟩ := hx
  have hl := wayOf_len h
  have hb := len_bd (g := g) (p := (ph hs i).1) (q := (ph hs i).2)
  have hd := fun j (hj : j < (wayOf g (ph hs i)).length) => way_dst h hj
  obtain ⟨L, hL⟩ : ∃ L, L = (List.range ((wayOf g (ph hs i)).length - 1)).map fun j => pairOf (pt (wayOf g (ph hs i)) j) (pt (wayOf g (ph hs i)) (j + 1)) := ⟨_, rfl⟩
  have hlen : L.length = (wayOf g (ph hs i)).length - 1 := by rw [hL]; simp
  have hn : L.Nodup := by
    rw [hL]
    unfold List.Nodup
    rw [List.pairwise_map]
    refine List.Pairwise.imp_of_mem ?_ (List.nodup_range (n := (wayOf g (ph hs i)).length - 1))
    intro a b ha hb2 hab e
    rw [List.mem_range] at ha hb2
    have a1 := hd a (by omega)
    have a2 := hd (a + 1) (by omega)
    have b1 := hd b (by omega)
    have b2 := hd (b + 1) (by omega)
    generalize pt (wayOf g (ph hs i)) a = A at a1 e
    generalize pt (wayOf g (ph hs i)) (a + 1) = A' at a2 e
    generalize pt (wayOf g (ph hs i)) b = B at b1 e
    generalize pt (wayOf g (ph hs i)) (b + 1) = B' at b2 e
    rcases pairOf_cases A A' with h1 | h1 <;> rcases pairOf_cases B B' with h2 | h2 <;> rw [h1, h2] at e <;> injection e with e1 e2 <;> subst e1 <;> subst e2 <;> omega
  have := nodup_sub hn (m := ductK g hs k) (fun y hy => by
    rw [hL] at hy
    obtain ⟨j, hj, rfl⟩ := List.mem_map.1 hy
    rw [List.mem_range] at hj
    exact (ductK_mem g hs _ k).2 ⟨i, hi, j, hj, rfl⟩)
  omega
/-- what the law TubingSaves asks -/
structure SaveFacts (g : Gr) (hs : List Hose) : Prop where
  len : ∀ i, i < hs.length → lenE g (ph hs i).1 (ph hs i).2 = 0
  row : ∀ i, i < hs.length → ((wayOf g (ph hs i)).length : Int) = lenN g (ph hs i).1 (ph hs i).2 + 1
  le : ductN g hs ≤ sumK g hs hs.length
  ge : mostK g hs hs.length ≤ ductN g hs
  err2 : ductE g (hs ++ hs) = 0
  n2 : ductN g (hs ++ hs) = ductN g hs
theorem save_facts {g : Gr} {hs : List Hose} (hk : chk g = 0) (hl : hs.length ≤ 5) (h : ductE g hs = 0) : SaveFacts g hs := by
  have h1 := (ductE_iff hk (by omega)).1 h
  have hlen : ∀ i, i < hs.length → lenE g (ph hs i).1 (ph hs i).2 = 0 := fun i hi => hose_len hk (h1 i hi)
  have hN : ductN g hs = ((ductK g hs hs.length).length : Int) := by unfold ductN; rw [if_neg (by simp [h])]
  have h2 : ductE g (hs ++ hs) = 0 := by
    rw [ductE_iff hk (by simp; omega)]
    intro i hi
    by_cases e : i < hs.length
    · rw [ph_app1 e]; exact h1 i e
    · rw [ph_app2 (by omega)]
      rw [List.length_append] at hi
      exact h1 _ (by omega)
  have hN2 : ductN g (hs ++ hs) = ((ductK g (hs ++ hs) (hs ++ hs).length).length : Int) := by unfold ductN; rw [if_neg (by simp [h2])]
  refine ⟨hlen, fun i hi => wayOf_len (hlen i hi), ?_, ?_, h2, ?_⟩
  · rw [hN]
    have key : ∀ k, k ≤ hs.length → ((ductK g hs k).length : Int) ≤ sumK g hs k := by
      intro k
      induction k with
      | zero => intro _; simp [ductK, sumK]
      | succ k ih =>
        intro hk2
        have a := ih (by omega)
        have b := pairK_len (ductK g hs k) (wayOf g (ph hs k)) ((wayOf g (ph hs k)).length - 1)
        have c := wayOf_len (hlen k (by omega))
        have d := len_bd (g := g) (p := (ph hs k).1) (q := (ph hs k).2)
        show ((pairK (ductK g hs k) (wayOf g (ph hs k)) ((wayOf g (ph hs k)).length - 1)).length : Int) ≤ sumK g hs k + _
        omega
    exact key _ (Nat.le_refl _)
  · rw [hN]
    have key : ∀ k, k ≤ hs.length → mostK g hs k ≤ ((ductK g hs hs.length).length : Int) := by
      intro k
      induction k with
      | zero => intro _; simp [mostK]
      | succ k ih =>
        intro hk2
        have a := ih (by omega)
        have b := ducts_least (g := g) (hs := hs) (k := hs.length) (x := ph hs k) ⟨k, by omega, rfl⟩ (hlen k (by omega))
        show max _ _ ≤ _
        omega
    exact key _ (Nat.le_refl _)
  · rw [hN, hN2]
    congr 1
    refine List.Perm.length_eq ((List.perm_ext_iff_of_nodup (ductK_nodup g _ _) (ductK_nodup g _ _)).2 fun x => ?_)
    rw [ductK_mem, ductK_mem]
    constructor
    · rintro ⟨i, hi, hx⟩
      rw [List.length_append] at hi
      by_cases e : i < hs.length
      · rw [ph_app1 e] at hx; exact ⟨i, e, hx⟩
      · rw [ph_app2 (by omega)] at hx; exact ⟨i - hs.length, by omega, hx⟩
    · rintro ⟨i, hi, hx⟩
      exact ⟨i, by rw [List.length_append]; omega, by rw [ph_app1 hi]; exact hx⟩
end Go.Proofs.Ytfigooilhnahfaa
/- Lists of hoses in memory; slices.Clone of them. -/
namespace Go.Proofs.Ytfigooilhnahfaa
open Go.RowKit

theorem infoHs : (Try.prog.info? 74).map (fun i => (i.zero, i.size, i.bytes)) = some (some (.agg #[.int .i64 0, .int .i64 0, .int .i64 0, .int .i64 0]), 4, 32) := by kernel_rfl
def flat4 (l : List Hose) : List Value := l.flatMap fun x => [.int .i64 x.1.1, .int .i64 x.1.2, .int .i64 x.2.1, .int .i64 x.2.2]
theorem flat4_append (l m : List Hose) : flat4 (l ++ m) = flat4 l ++ flat4 m := by simp [flat4]
theorem flat4_length (l : List Hose) : (flat4 l).length = l.length * 4 := by
  induction l with
  | nil => rfl
  | cons a l ih => simp only [flat4, List.flatMap_cons, List.length_append, List.length_cons, List.length_nil] at *; omega
theorem flat4_get (l : List Hose) (i : Nat) (h : i < l.length) : (flat4 l)[i * 4]? = some (.int .i64 (ph l i).1.1) ∧ (flat4 l)[i * 4 + 1]? = some (.int .i64 (ph l i).1.2) ∧ (flat4 l)[i * 4 + 2]? = some (.int .i64 (ph l i).2.1) ∧ (flat4 l)[i * 4 + 3]? = some (.int .i64 (ph l i).2.2) := by
  induction l generalizing i with
  | nil => simp at h
  | cons a l ih =>
    cases i with
    | zero => simp [flat4, ph]
    | succ i =>
      have := ih i (by simpa using h)
      rw [show (i + 1) * 4 = i * 4 + 4 from by omega]
      simpa [flat4, ph] using this
theorem flat4_four (l : List Hose) (j : Nat) (hj : j < l.length * 4) : ∃ i, i < l.length ∧ (j = i * 4 ∧ (flat4 l)[j]? = some (.int .i64 (ph l i).1.1) ∨ j = i * 4 + 1 ∧ (flat4 l)[j]? = some (.int .i64 (ph l i).1.2) ∨ j = i * 4 + 2 ∧ (flat4 l)[j]? = some (.int .i64 (ph l i).2.1) ∨ j = i * 4 + 3 ∧ (flat4 l)[j]? = some (.int .i64 (ph l i).2.2)) := by
  refine ⟨j / 4, by omega, ?_⟩
  obtain ⟨h0, h1, h2, h3⟩ := flat4_get l (j / 4) (by omega)
  have : j % 4 = 0 ∨ j % 4 = 1 ∨ j % 4 = 2 ∨ j % 4 = 3 := by omega
  rcases this with h | h | h | h
  · have e : j = j / 4 * 4 := by omega
    rw [← e] at h0; exact .inl ⟨e, h0⟩
  · have e : j = j / 4 * 4 + 1 := by omega
    rw [← e] at h1; exact .inr (.inl ⟨e, h1⟩)
  · have e : j = j / 4 * 4 + 2 := by omega
    rw [← e] at h2; exact .inr (.inr (.inl ⟨e, h2⟩))
  · have e : j = j / 4 * 4 + 3 := by omega
    rw [← e] at h3; exact .inr (.inr (.inr ⟨e, h3⟩))
theorem flat4_lt {l : List Hose} {j : Nat} {u : Value} (h : (flat4 l)[j]? = some u) : j < l.length * 4 := by
  have := (List.getElem?_eq_some_iff.1 h).1
  rwa [flat4_length] at this
theorem flat4_one (l : List Hose) : ∀ u ∈ flat4 l, u.oneCell' = true := by
  intro u hu
  obtain ⟨j, hj, e⟩ := List.mem_iff_getElem.1 hu
  obtain ⟨i, _, h⟩ := flat4_four l j (by rwa [flat4_length] at hj)
  rw [List.getElem?_eq_getElem hj, e] at h
  rcases h with ⟨_, h⟩ | ⟨_, h⟩ | ⟨_, h⟩ | ⟨_, h⟩ <;> (injection h with h; subst h; rfl)
theorem Cells4.flat {w : World} {a : Addr} {l : List Hose} (h : Cells4 w (some a) l) (j : Nat) (u : Value) (hu : (flat4 l)[j]? = some u) : w.cell? (a.add j) = some u := by
  obtain ⟨i, hi, e⟩ := flat4_four l j (flat4_lt hu)
  obtain ⟨b', off', h1, h2, h3, h4, h5⟩ := h i hi
  cases h1
  rw [Addr.add_lit]
  rcases e with ⟨rfl, e⟩ | ⟨rfl, e⟩ | ⟨rfl, e⟩ | ⟨rfl, e⟩ <;> rw [hu] at e <;> rw [e]
  · exact h2
  · rw [← Nat.add_assoc]; exact h3
  · rw [← Nat.add_assoc]; exact h4
  · rw [← Nat.add_assoc]; exact h5
/-- the slice value v owns the hoses l -/
def Owns4 (w : World) (v : Value) (l : List Hose) : Prop := w.ownsRow 0 74 4 v l.length (flat4 l)
theorem Owns4.kept {X : Nat → Prop} {n : Nat} {A B : World} {v : Value} {N : List Hose} (ho : Owns4 A v N) (h : Kept X n A B) (hk : ∀ b, v.ownBlock = some b → X b) : Owns4 B v N := by
  obtain ⟨h1, h2⟩ := ho
  refine ⟨h1, ?_⟩
  rcases h2 with h2 | ⟨g, cap, cur, hv, hg, hh, r⟩
  · exact .inl h2
  · exact .inr ⟨g, cap, cur, hv, hg, h.2 g _ (hk g (by rw [hv]; rfl)) hh (.inl rfl), r⟩
theorem Owns4.ext {A B : World} {v : Value} {N : List Hose} (ho : Owns4 A v N) (h : Ext A B) : Owns4 B v N := ho.kept (Kept.ext h (fun _ => True) 0) (fun _ _ => trivial)
theorem Owns4.reads {A : World} {v : Value} {N : List Hose} (ho : Owns4 A v N) : ∃ a cap, v = .slice a N.length cap ∧ Cells4 A a N := by
  rcases ho.2 with ⟨hv, hn⟩ | ⟨g, cap, cur, hv, hg, hh, hnc, hm, hcs, ht⟩
  · have : N = [] := List.eq_nil_of_length_eq_zero hn
    subst this
    exact ⟨none, 0, hv, fun i hi => by simp at hi⟩
  · refine ⟨some ⟨g, 0, none⟩, cap, hv, fun i hi => ?_⟩
    have hc := World.ownsRow.cells ho (g := g) (by rw [hv]; rfl)
    obtain ⟨h0, h1, h2, h3⟩ := flat4_get N i hi
    have a0 := hc _ _ h0
    have a1 := hc _ _ h1
    have a2 := hc _ _ h2
    have a3 := hc _ _ h3
    rw [Addr.add_lit] at a0 a1 a2 a3
    exact ⟨g, 0, rfl, a0, by rw [Nat.add_assoc]; exact a1, by rw [Nat.add_assoc]; exact a2, by rw [Nat.add_assoc]; exact a3⟩
theorem owns4_of {w : World} {base n : Nat} {v : Value} {l : List Hose} (h : w.ownsRow base 74 4 v n (flat4 l)) : Owns4 w v l ∧ ∀ b, v.ownBlock = some b → base ≤ b := by
  have hn : n = l.length := by have := h.1; rw [flat4_length] at this; omega
  subst hn
  refine ⟨⟨h.1, ?_⟩, fun b hb => (World.ownsRow.lt h b hb).1⟩
  rcases h.2 with h2 | ⟨g, cap, cur, hv, hg, r⟩
  · exact .inl h2
  · exact .inr ⟨g, cap, cur, hv, Nat.zero_le _, r⟩

set_option maxHeartbeats 1000000 in
theorem CloneH_any (l : List Hose) (a : Option Addr) (cap : Nat) (w : World) (hl : l.length ≤ 100000) (hc : Cells4 w a l) :
    Calls Try.prog 37 #[.slice a l.length cap] w fun e w' => ∃ v, e = .returned v ∧ (a = none → v = .slice none 0 0) ∧ (a ≠ none → Owns4 w' v l ∧ ∀ b, v.ownBlock = some b → w.heap.size ≤ b) ∧ Ext w w' := by
  have HC : Hid (Cells4 w a l) := hc
  clear hc
  have q22 : ∀ (w : World) (a : Option Addr) (n c n' c' : Nat), (binOp .eql 38 (.slice a n c) (.slice none n' c')).run Try.prog w = .ok (.bool a.isNone) w := fun w a n c n' c' => Lib.run_eql_slice_nil w _ _ a n c n' c' Try.underlying38
  cases a with
  | none =>
    go_enter Try.func37, Try.ntmps37
    go_wp2
    go_ret
    exact ⟨_, rfl, fun _ => rfl, fun h => absurd rfl h, Ext.refl _⟩
  | some a =>
    obtain ⟨i0, hi, hi0, hi1, hi2⟩ := info_parts infoHs
    go_enter Try.func37, Try.ntmps37
    go_wp2_with (at_builtin; refine wpList_append_own _ rfl _ _ 38 rfl w.heap.size 74 i0 (.agg #[.int .i64 0, .int .i64 0, .int .i64 0, .int .i64 0]) 4 32 Try.underlying38 hi hi0 hi1 hi2 rfl (by decide) _ _ _ rfl (World.ownsRow_made w #[] 0 (Nat.le_refl _) (Nat.zero_le _) rfl) a l.length cap (flat4 l) rfl ?c1 ?c2 ?c3 ?c4 ?c5 ?c6 ?_)
    case c1 => exact flat4_length l
    case c2 =>
      intro j u hj
      exact Lib.cell?_alloc_some _ (Cells4.flat HC.out j u hj)
    case c3 => exact flat4_one l
    case c4 => unfold maxLen; omega
    case c5 => omega
    case c6 => simp
    intro v' w1 hown hgrow _
    have HO : Hid (Owns4 w1 v' l ∧ ∀ b, v'.ownBlock = some b → w.heap.size ≤ b) := owns4_of (by simpa using hown)
    have HE : Hid (Ext w w1) := ((Below.refl _ w).alloc (Nat.le_refl _) _).grown hgrow (by simp) (by intro k hk; simp [Value.ownBlock] at hk; omega)
    clear hown hgrow
    go_wp2
    go_ret
    exact ⟨v', rfl, (fun h => by cases h), fun _ => HO.out, HE.out⟩
end Go.Proofs.Ytfigooilhnahfaa
/- The reference's pair and hasPair. -/
namespace Go.Proofs.Ytfigooilhnahfaa
open Go.RowKit

theorem eqPl (w : World) (d : Nat) (a b : Pt) : (Op.equalIn (d + 2) 26 (.agg #[.int .i64 a.1, .int .i64 a.2]) (.agg #[.int .i64 b.1, .int .i64 b.2])).run Try.prog w = .ok (decide (a = b)) w := by
  by_cases h1 : a.1 = b.1
  · by_cases h2 : a.2 = b.2
    · have : a = b := Prod.ext h1 h2
      subst this
      rw [decide_eq_true rfl]
      go_simp
    · have h3 : (a.2 == b.2) = false := by simpa using h2
      rw [decide_eq_false (fun h => h2 (by rw [h])), h1]
      go_simp
  · have h3 : (a.1 == b.1) = false := by simpa using h1
    rw [decide_eq_false (fun h => h1 (by rw [h]))]
    go_simp
theorem eqArr (w : World) (d : Nat) (x y : Hose) : (Op.equalIn (d + 3) 74 (.agg #[.int .i64 x.1.1, .int .i64 x.1.2, .int .i64 x.2.1, .int .i64 x.2.2]) (.agg #[.int .i64 y.1.1, .int .i64 y.1.2, .int .i64 y.2.1, .int .i64 y.2.2])).run Try.prog w = .ok (decide (x = y)) w := by
  have s1 : ∀ w, (sizeOf 26).run Try.prog w = .ok 2 w := fun _ => by kernel_rfl
  have p0 : ∀ (a b c d : Value) w, (part 26 #[a, b, c, d] (0 * 2)).run Try.prog w = .ok (.agg #[a, b]) w := fun _ _ _ _ _ => by go_simp
  have p1 : ∀ (a b c d : Value) w, (part 26 #[a, b, c, d] ((0 + 1) * 2)).run Try.prog w = .ok (.agg #[c, d]) w := fun _ _ _ _ _ => by go_simp
  have e1 := eqPl w d x.1 y.1
  have e2 := eqPl w d x.2 y.2
  rw [Op.equalIn]
  by_cases h1 : x.1 = y.1
  · rw [decide_eq_true h1] at e1
    by_cases h2 : x.2 = y.2
    · rw [decide_eq_true h2] at e2
      rw [decide_eq_true (Prod.ext h1 h2)]
      simp [Sem.run_bind, run_underlying Try.underlying74, Result.andThen_ok, s1, Std.Legacy.Range.forIn_eq_forIn_range', Std.Legacy.Range.size, List.range', List.forIn_cons, List.forIn_nil, p0, p1, e1, e2]
    · rw [decide_eq_false h2] at e2
      rw [decide_eq_false (fun h => h2 (by rw [h]))]
      simp [Sem.run_bind, run_underlying Try.underlying74, Result.andThen_ok, s1, Std.Legacy.Range.forIn_eq_forIn_range', Std.Legacy.Range.size, List.range', List.forIn_cons, List.forIn_nil, p0, p1, e1, e2]
  · rw [decide_eq_false h1] at e1
    rw [decide_eq_false (fun h => h1 (by rw [h]))]
    simp [Sem.run_bind, run_underlying Try.underlying74, Result.andThen_ok, s1, Std.Legacy.Range.forIn_eq_forIn_range', Std.Legacy.Range.size, List.range', List.forIn_cons, List.forIn_nil, p0, e1]
theorem eqHs (w : World) (x y : Hose) : (binOp .eql 74 (.agg #[.int .i64 x.1.1, .int .i64 x.1.2, .int .i64 x.2.1, .int .i64 x.2.2]) (.agg #[.int .i64 y.1.1, .int .i64 y.1.2, .int .i64 y.2.1, .int .i64 y.2.2])).run Try.prog w = .ok (.bool (decide (x = y))) w := by
  rw [run_eql_struct]
  have h := eqArr w 9997 x y
  rw [h]
  rfl
theorem pairOf_bef (a b : Pt) : pairOf a b = if bef b a = true then (b, a) else (a, b) := by
  have h : 0 < ordP a b ↔ bef b a = true := by
    unfold ordP or2 cmpI bef
    simp only [Bool.or_eq_true, Bool.and_eq_true, decide_eq_true_eq]
    repeat' split <;> first | omega | (simp; omega)
  unfold pairOf
  by_cases h1 : 0 < ordP a b
  · rw [if_pos h1, if_pos (h.1 h1)]
  · rw [if_neg h1, if_neg (fun h2 => h1 (h.2 h2))]

set_option maxHeartbeats 1000000 in
theorem pairR_any (a b : Pt) (w : World) :
    Calls Try.prog 56 #[.agg #[.int .i64 a.1, .int .i64 a.2], .agg #[.int .i64 b.1, .int .i64 b.2]] w fun e w' => e = .returned (.agg #[.int .i64 (pairOf a b).1.1, .int .i64 (pairOf a b).1.2, .int .i64 (pairOf a b).2.1, .int .i64 (pairOf a b).2.2]) ∧ Ext w w' := by
  obtain ⟨W0, hW0⟩ : ∃ W0, ((( (( w).alloc (.cells #[.int .i64 a.1, .int .i64 a.2] 26))).alloc (.cells #[.int .i64 b.1, .int .i64 b.2] 26))).alloc (.cells #[.int .i64 0, .int .i64 0, .int .i64 0, .int .i64 0] 74) = W0 := ⟨_, rfl⟩
  have E0 : Ext w W0 := by rw [← hW0]; exact (((Ext.refl _).alloc _).alloc _).alloc _
  have a1 : W0.cell? ⟨w.heap.size, 0, none⟩ = some (.int .i64 a.1) := by rw [← hW0]; clear hW0; go_simp
  have a2 : W0.cell? ⟨w.heap.size, 1, none⟩ = some (.int .i64 a.2) := by rw [← hW0]; clear hW0; go_simp
  have b1 : W0.cell? ⟨w.heap.size + 1, 0, none⟩ = some (.int .i64 b.1) := by rw [← hW0]; clear hW0; go_simp
  have b2 : W0.cell? ⟨w.heap.size + 1, 1, none⟩ = some (.int .i64 b.2) := by rw [← hW0]; clear hW0; go_simp
  have c1 : W0.cell? ⟨w.heap.size + 1 + 1, 0, none⟩ = some (.int .i64 0) := by rw [← hW0]; clear hW0; go_simp
  have c2 : W0.cell? ⟨w.heap.size + 1 + 1, 1, none⟩ = some (.int .i64 0) := by rw [← hW0]; clear hW0; go_simp
  have c3 : W0.cell? ⟨w.heap.size + 1 + 1, 2, none⟩ = some (.int .i64 0) := by rw [← hW0]; clear hW0; go_simp
  have c4 : W0.cell? ⟨w.heap.size + 1 + 1, 3, none⟩ = some (.int .i64 0) := by rw [← hW0]; clear hW0; go_simp
  have f1 : W0.frozen? ⟨w.heap.size + 1 + 1, 0, none⟩ = false := by rw [← hW0]; clear hW0; go_simp
  have f2 : W0.frozen? ⟨w.heap.size + 1 + 1, 1, none⟩ = false := by rw [← hW0]; clear hW0; go_simp
  have f3 : W0.frozen? ⟨w.heap.size + 1 + 1, 2, none⟩ = false := by rw [← hW0]; clear hW0; go_simp
  have f4 : W0.frozen? ⟨w.heap.size + 1 + 1, 3, none⟩ = false := by rw [← hW0]; clear hW0; go_simp
  rw [pairOf_bef]
  have HB := Before_any b a W0
  generalize bef b a = bb at HB ⊢
  go_enter Try.func56, Try.ntmps56
  go_wp2_with fail
  clear hW0
  refine HB.mono ?_
  rintro e W1 ⟨rfl, hE⟩
  have E1 := E0.trans hE
  have f1 := (hE.frozen (p := ⟨w.heap.size + 1 + 1, 0, none⟩) (cell_lt c1)).trans f1
  have f2 := (hE.frozen (p := ⟨w.heap.size + 1 + 1, 1, none⟩) (cell_lt c2)).trans f2
  have f3 := (hE.frozen (p := ⟨w.heap.size + 1 + 1, 2, none⟩) (cell_lt c3)).trans f3
  have f4 := (hE.frozen (p := ⟨w.heap.size + 1 + 1, 3, none⟩) (cell_lt c4)).trans f4
  have a1 := hE.cell a1
  have a2 := hE.cell a2
  have b1 := hE.cell b1
  have b2 := hE.cell b2
  have c1 := hE.cell c1
  have c2 := hE.cell c2
  have c3 := hE.cell c3
  have c4 := hE.cell c4
  clear hE E0
  have hz : w.heap.size ≤ w.heap.size + 1 + 1 := by omega
  clear HB
  cases bb
  · go_wp2
    try simp only [Exit.inBlock, Exit.then]
    refine bodyPost_ret (v := .agg #[.int .i64 a.1, .int .i64 a.2, .int .i64 b.1, .int .i64 b.2]) (by rw [results_cell1 rfl]; go_simp) rfl ⟨rfl, ?_⟩
    exact Below.setCell (p := ⟨_, 3, none⟩) (Below.setCell (p := ⟨_, 2, none⟩) (Below.setCell (p := ⟨_, 1, none⟩) (Below.setCell (p := ⟨_, 0, none⟩) E1 hz _) hz _) hz _) hz _
  · go_wp2
    try simp only [Exit.inBlock, Exit.then]
    refine bodyPost_ret (v := .agg #[.int .i64 b.1, .int .i64 b.2, .int .i64 a.1, .int .i64 a.2]) (by rw [results_cell1 rfl]; go_simp) rfl ⟨rfl, ?_⟩
    exact Below.setCell (p := ⟨_, 3, none⟩) (Below.setCell (p := ⟨_, 2, none⟩) (Below.setCell (p := ⟨_, 1, none⟩) (Below.setCell (p := ⟨_, 0, none⟩) E1 hz _) hz _) hz _) hz _

theorem ph_mem {l : List Hose} {i : Nat} (h : i < l.length) : ph l i ∈ l := by
  unfold ph; rw [List.getD_eq_getElem?_getD, List.getElem?_eq_getElem h]; simp
set_option maxHeartbeats 2000000 in
theorem hasPair_any (l : List Hose) (p : Hose) (a : Option Addr) (cap n : Nat) (w : World) (hn : n = l.length) (hl : n ≤ maxLen) (hc : Cells4 w a l) :
    Calls Try.prog 57 #[.slice a n cap, .agg #[.int .i64 p.1.1, .int .i64 p.1.2, .int .i64 p.2.1, .int .i64 p.2.2]] w fun e w' => e = .returned (.bool (decide (p ∈ l))) ∧ Ext w w' := by
  unfold maxLen at hl
  go_enter Try.func57, Try.ntmps57
  go_wp2
  have H : Ext w (w.alloc (.cells #[.int .i64 p.1.1, .int .i64 p.1.2, .int .i64 p.2.1, .int .i64 p.2.2] 74)) := (Ext.refl _).alloc _
  have c1 : (w.alloc (.cells #[.int .i64 p.1.1, .int .i64 p.1.2, .int .i64 p.2.1, .int .i64 p.2.2] 74)).cell? ⟨w.heap.size, 0, none⟩ = some (.int .i64 p.1.1) := by go_simp
  have c2 : (w.alloc (.cells #[.int .i64 p.1.1, .int .i64 p.1.2, .int .i64 p.2.1, .int .i64 p.2.2] 74)).cell? ⟨w.heap.size, 1, none⟩ = some (.int .i64 p.1.2) := by go_simp
  have c3 : (w.alloc (.cells #[.int .i64 p.1.1, .int .i64 p.1.2, .int .i64 p.2.1, .int .i64 p.2.2] 74)).cell? ⟨w.heap.size, 2, none⟩ = some (.int .i64 p.2.1) := by go_simp
  have c4 : (w.alloc (.cells #[.int .i64 p.1.1, .int .i64 p.1.2, .int .i64 p.2.1, .int .i64 p.2.2] 74)).cell? ⟨w.heap.size, 3, none⟩ = some (.int .i64 p.2.2) := by go_simp
  generalize w.alloc (.cells #[.int .i64 p.1.1, .int .i64 p.1.2, .int .i64 p.2.1, .int .i64 p.2.2] 74) = W at H c1 c2 c3 c4 ⊢
  have HCC := Lib.hid (hc.ext H)
  clear hc
  go_loopw [5] (fun i wr => ∃ k : Nat, k ≤ n ∧ i = .int .i64 k ∧ Hid (∀ j, j < k → ph l j ≠ p) ∧ Ext W wr) (fun i _ => n - (intOf i).toNat)
  case atStart => exact ⟨0, Nat.zero_le _, rfl, fun j hj => by omega, Ext.refl _⟩
  case round =>
    obtain ⟨k, hk, rfl, hnn, he⟩ := hrel
    have d1 := he.cell c1
    have d2 := he.cell c2
    have d3 := he.cell c3
    have d4 := he.cell c4
    by_cases hlt : k < n
    · have hlt' : (k : Int) < (n : Int) := by omega
      have HKL : Hid (k < l.length) := by show _ < _; omega
      obtain ⟨b, off, ha, e1, e2, e3, e4⟩ := HCC.out.ext he k HKL.out
      subst ha
      clear c1 c2 c3 c4
      have zb := cell_lt e1
      have zd := cell_lt d1
      dsimp only at zb zd
      have next : ∀ wr', Ext wr wr' → ph l k ≠ p → (∃ k_1 : Nat, k_1 ≤ n ∧ Value.int .i64 ((k : Int) + 1) = .int .i64 k_1 ∧ Hid (∀ j, j < k_1 → ph l j ≠ p) ∧ Ext W wr') := fun wr' hw hne => by
        refine ⟨k + 1, by omega, by go_num, fun j hj => ?_, he.trans hw⟩
        rcases Nat.lt_or_eq_of_le (Nat.le_of_lt_succ hj) with h | rfl
        · exact hnn.out j h
        · exact hne
      have NEXT := Lib.hid next
      clear next
      by_cases heq : ph l k = p
      · have hm : Hid (decide (p ∈ l) = true) := by
          have := ph_mem HKL.out
          rw [heq] at this; simpa [Hid] using this
        have q : ∀ w, (binOp .eql 74 (.agg #[.int .i64 (ph l k).1.1, .int .i64 (ph l k).1.2, .int .i64 (ph l k).2.1, .int .i64 (ph l k).2.2]) (.agg #[.int .i64 p.1.1, .int .i64 p.1.2, .int .i64 p.2.1, .int .i64 p.2.2])).run Try.prog w = .ok (.bool true) w := fun w => by rw [eqHs, decide_eq_true heq]
        clear heq
        go_wp2
        go_quiet (fail)
        go_wp2
        all_goals go_ret
        all_goals exact ⟨ret_bool hm.out.symm, (H.trans he).drewN _⟩
      · have HNE := Lib.hid heq
        have q : ∀ w, (binOp .eql 74 (.agg #[.int .i64 (ph l k).1.1, .int .i64 (ph l k).1.2, .int .i64 (ph l k).2.1, .int .i64 (ph l k).2.2]) (.agg #[.int .i64 p.1.1, .int .i64 p.1.2, .int .i64 p.2.1, .int .i64 p.2.2])).run Try.prog w = .ok (.bool false) w := fun w => by rw [eqHs, decide_eq_false heq]
        clear heq
        go_wp2
        go_quiet (fail)
        go_wp2
        exact ⟨NEXT.out _ ((Ext.refl _).drewN _) HNE.out, by simp [intOf]; omega⟩
    · have hke : k = n := by omega
      have hm : Hid (decide (p ∈ l) = false) := by
        show _ = _
        simp only [decide_eq_false_iff_not]
        intro hmem
        obtain ⟨i, hi, e⟩ := List.mem_iff_getElem.1 hmem
        refine hnn.out i (by omega) ?_
        unfold ph; rw [List.getD_eq_getElem?_getD, List.getElem?_eq_getElem hi]; simpa using e
      have hlt' : ¬ (k : Int) < (n : Int) := by omega
      go_wp2
      go_ret
      exact ⟨ret_bool hm.out.symm, H.trans he⟩
end Go.Proofs.Ytfigooilhnahfaa
/- The reference's neighbours. -/
namespace Go.Proofs.Ytfigooilhnahfaa
open Go.RowKit

theorem near_step {g : Gr} {p : Pt} {k : Nat} (hk : k < 4) : ((nbs p).take (k + 1)).filter (opn g) = ((nbs p).take k).filter (opn g) ++ (if opn g (pt (nbs p) k) = true then [pt (nbs p) k] else []) := by
  have hl : k < (nbs p).length := hk
  rw [List.take_succ_eq_append_getElem hl, List.filter_append]
  congr 1
  have e : (nbs p)[k] = pt (nbs p) k := by unfold pt; rw [List.getD_eq_getElem?_getD, List.getElem?_eq_getElem hl]; simp
  rw [e]
  by_cases h : opn g (pt (nbs p) k) = true <;> simp [h]

set_option maxHeartbeats 2000000 in
set_option maxRecDepth 100000 in
theorem Near_any (g : Gr) (p : Pt) (ga : Option Addr) (gc : Nat) (w : World) (hg : g.bl.length ≤ maxLen) (hp : InG p) (hc : Cells2 w ga g.bl) :
    Calls Try.prog 73 #[.agg #[.int .i64 g.rows, .int .i64 g.cols, .slice ga g.bl.length gc], .agg #[.int .i64 p.1, .int .i64 p.2]] w fun e w' => ∃ v, e = .returned v ∧ Owns w' v (near g p) ∧ (∀ b, v.ownBlock = some b → w.heap.size ≤ b) ∧ Ext w w' := by
  have HC : Hid (Cells2 w ga g.bl) := hc
  have HG := Lib.hid hg
  have HP := Lib.hid hp
  obtain ⟨p1, p2, p3, p4⟩ := hp
  have x1 : IntKind.i64.wrap (p.1 - 1) = p.1 - 1 := IntWalk.i64_in _ (by omega)
  have x2 : IntKind.i64.wrap (p.2 - 1) = p.2 - 1 := IntWalk.i64_in _ (by omega)
  have x3 : IntKind.i64.wrap (p.1 + 1) = p.1 + 1 := IntWalk.i64_in _ (by omega)
  have x4 : IntKind.i64.wrap (p.2 + 1) = p.2 + 1 := IntWalk.i64_in _ (by omega)
  clear hc hg
  go_enter Try.func73, Try.ntmps73
  go_wp2
  obtain ⟨n, hn⟩ : ∃ n, n = w.heap.size := ⟨_, rfl⟩
  have E0 : Ext w (((( ((w).alloc (.cells #[.int .i64 g.rows, .int .i64 g.cols, .slice ga g.bl.length gc] 24))).alloc (.cells #[.int .i64 p.1, .int .i64 p.2] 26))).alloc (.cells #[.int .i64 (p.1 - 1), .int .i64 p.2, .int .i64 p.1, .int .i64 (p.2 - 1), .int .i64 p.1, .int .i64 (p.2 + 1), .int .i64 (p.1 + 1), .int .i64 p.2] 26)) := (((Ext.refl _).alloc _).alloc _).alloc _
  have g1 : (((( ((w).alloc (.cells #[.int .i64 g.rows, .int .i64 g.cols, .slice ga g.bl.length gc] 24))).alloc (.cells #[.int .i64 p.1, .int .i64 p.2] 26))).alloc (.cells #[.int .i64 (p.1 - 1), .int .i64 p.2, .int .i64 p.1, .int .i64 (p.2 - 1), .int .i64 p.1, .int .i64 (p.2 + 1), .int .i64 (p.1 + 1), .int .i64 p.2] 26)).cell? ⟨w.heap.size, 0, none⟩ = some (.int .i64 g.rows) := by clear hn; go_simp
  have g2 : (((( ((w).alloc (.cells #[.int .i64 g.rows, .int .i64 g.cols, .slice ga g.bl.length gc] 24))).alloc (.cells #[.int .i64 p.1, .int .i64 p.2] 26))).alloc (.cells #[.int .i64 (p.1 - 1), .int .i64 p.2, .int .i64 p.1, .int .i64 (p.2 - 1), .int .i64 p.1, .int .i64 (p.2 + 1), .int .i64 (p.1 + 1), .int .i64 p.2] 26)).cell? ⟨w.heap.size, 1, none⟩ = some (.int .i64 g.cols) := by clear hn; go_simp
  have g3 : (((( ((w).alloc (.cells #[.int .i64 g.rows, .int .i64 g.cols, .slice ga g.bl.length gc] 24))).alloc (.cells #[.int .i64 p.1, .int .i64 p.2] 26))).alloc (.cells #[.int .i64 (p.1 - 1), .int .i64 p.2, .int .i64 p.1, .int .i64 (p.2 - 1), .int .i64 p.1, .int .i64 (p.2 + 1), .int .i64 (p.1 + 1), .int .i64 p.2] 26)).cell? ⟨w.heap.size, 2, none⟩ = some (.slice ga g.bl.length gc) := by clear hn; go_simp
  have zW : (((( ((w).alloc (.cells #[.int .i64 g.rows, .int .i64 g.cols, .slice ga g.bl.length gc] 24))).alloc (.cells #[.int .i64 p.1, .int .i64 p.2] 26))).alloc (.cells #[.int .i64 (p.1 - 1), .int .i64 p.2, .int .i64 p.1, .int .i64 (p.2 - 1), .int .i64 p.1, .int .i64 (p.2 + 1), .int .i64 (p.1 + 1), .int .i64 p.2] 26)).heap.size = n + 3 := by rw [hn]; simp
  have HN : Hid (Cells2 (((( ((w).alloc (.cells #[.int .i64 g.rows, .int .i64 g.cols, .slice ga g.bl.length gc] 24))).alloc (.cells #[.int .i64 p.1, .int .i64 p.2] 26))).alloc (.cells #[.int .i64 (p.1 - 1), .int .i64 p.2, .int .i64 p.1, .int .i64 (p.2 - 1), .int .i64 p.1, .int .i64 (p.2 + 1), .int .i64 (p.1 + 1), .int .i64 p.2] 26)) (some ⟨w.heap.size + 1 + 1, 0, none⟩) (nbs p)) := fun i hi => by
    have : i = 0 ∨ i = 1 ∨ i = 2 ∨ i = 3 := by simp [nbs] at hi; omega
    clear hn zW
    rcases this with rfl | rfl | rfl | rfl <;> exact ⟨_, 0, rfl, by simp only [nbs, pt]; go_simp, by simp only [nbs, pt]; go_simp⟩
  rw [← hn] at g1 g2 g3 HN ⊢
  have z0 : w.heap.size ≤ n := by omega
  clear hn
  generalize (((( ((w).alloc (.cells #[.int .i64 g.rows, .int .i64 g.cols, .slice ga g.bl.length gc] 24))).alloc (.cells #[.int .i64 p.1, .int .i64 p.2] 26))).alloc (.cells #[.int .i64 (p.1 - 1), .int .i64 p.2, .int .i64 p.1, .int .i64 (p.2 - 1), .int .i64 p.1, .int .i64 (p.2 + 1), .int .i64 (p.1 + 1), .int .i64 p.2] 26)) = W at E0 g1 g2 g3 zW HN ⊢
  have HCW := Lib.hid (HC.out.ext E0)
  have HBL : Hid (g.bl ≠ [] → ∀ b off, ga = some ⟨b, off, none⟩ → b < W.heap.size) := fun hne b off hb => HCW.out.lt hne hb
  clear HC x1 x2 x3 x4
  go_loopw [5, 34] (fun v i wr => ∃ (k : Nat) (N : List Pt) (av : Option Addr) (cv : Nat), k ≤ 4 ∧ i = .int .i64 k ∧ v = .slice av N.length cv ∧ Hid (N = ((nbs p).take k).filter (opn g)) ∧ Hid (Owns wr (.slice av N.length cv) N) ∧ Hid (∀ b, (Value.slice av N.length cv).ownBlock = some b → W.heap.size ≤ b) ∧ Hid (Below W.heap.size W wr)) (fun _ i _ => 4 - (intOf i).toNat)
  case atStart => exact ⟨0, [], none, 0, by omega, rfl, rfl, rfl, Owns.nil _, fun b hb => (by cases hb), Below.refl _ _⟩
  case round =>
    obtain ⟨k, N, av, cv, hk, rfl, rfl, hN, hO, hV, hB⟩ := hrel
    have zwr : W.heap.size ≤ wr.heap.size := hB.out.size
    by_cases hlt : k < 4
    · have hlt' : (k : Int) < 4 := by omega
      have d1 : wr.cell? ⟨n, 0, none⟩ = some (.int .i64 g.rows) := (hB.out.cell (p := ⟨n, 0, none⟩) (by show n < _; omega)).trans g1
      have d2 : wr.cell? ⟨n, 1, none⟩ = some (.int .i64 g.cols) := (hB.out.cell (p := ⟨n, 1, none⟩) (by show n < _; omega)).trans g2
      have d3 : wr.cell? ⟨n, 2, none⟩ = some (.slice ga g.bl.length gc) := (hB.out.cell (p := ⟨n, 2, none⟩) (by show n < _; omega)).trans g3
      obtain ⟨nb, no, hnb, e1, e2⟩ := HN.out k hlt
      cases hnb
      simp only [Nat.zero_add] at e1 e2
      have e1 : wr.cell? ⟨n + 1 + 1, k * 2, none⟩ = some (.int .i64 (pt (nbs p) k).1) := (hB.out.cell (p := ⟨n + 1 + 1, k * 2, none⟩) (by show n + 1 + 1 < _; omega)).trans e1
      have e2 : wr.cell? ⟨n + 1 + 1, k * 2 + 1, none⟩ = some (.int .i64 (pt (nbs p) k).2) := (hB.out.cell (p := ⟨n + 1 + 1, k * 2 + 1, none⟩) (by show n + 1 + 1 < _; omega)).trans e2
      have HCr : Hid (Cells2 wr ga g.bl) := Cells2.kept (Kd := fun k => k < W.heap.size) (n := 0) ⟨hB.out.size, fun k o hk ho _ => by rw [hB.out.block k hk]; exact ho⟩ (fun b off hb hne => HBL.out hne b off hb) HCW.out
      have hst := near_step (g := g) (p := p) hlt
      generalize pt (nbs p) k = q at e1 e2 hst
      have HST := Lib.hid hst
      clear hst
      have zn : n < wr.heap.size := by omega
      go_wp2_with fail
      refine (Cell_any g q _ _).mono ?_
      rintro e w1 ⟨rfl, hE⟩
      have EE : Ext wr w1 := ((Ext.refl _).alloc _).trans hE
      have q1 : w1.cell? ⟨wr.heap.size, 0, none⟩ = some (.int .i64 q.1) := hE.cell (by go_simp)
      have q2 : w1.cell? ⟨wr.heap.size, 1, none⟩ = some (.int .i64 q.2) := hE.cell (by go_simp)
      have d1 := EE.cell d1
      have d2 := EE.cell d2
      have d3 := EE.cell d3
      have HC1 := Lib.hid (HCr.out.ext EE)
      have HO1 := Lib.hid (hO.out.ext EE)
      have HB1 := Lib.hid (hB.out.trans (EE.mono zwr))
      have z1 : wr.heap.size < w1.heap.size := cell_lt q1
      have zn1 : n < w1.heap.size := by omega
      clear hE EE hO hB HCr e1 e2
      have hlenN : N.length ≤ 4 := by
        rw [hN.out]
        refine Nat.le_trans (List.length_filter_le _ _) ?_
        simp; omega
      cases hin : inside g q
      · have HST2 : Hid (((nbs p).take (k + 1)).filter (opn g) = ((nbs p).take k).filter (opn g)) := by
          show _ = _
          rw [HST.out, if_neg (by unfold opn; rw [hin]; simp), List.append_nil]
        have HIN := Lib.hid hin
        clear hin
        go_wp2
        exact ⟨⟨k + 1, N, av, cv, by omega, by go_num, rfl, by show _ = _; rw [HST2.out]; exact hN.out, HO1.out, hV.out, HB1.out⟩, by simp [intOf]; omega⟩
      · have HIN := Lib.hid hin
        clear hin
        go_wp2_with fail
        refine (Has_any g.bl q ga gc _ HG.out HC1.out).mono ?_
        rintro e w2 ⟨rfl, hE⟩
        have q1 := hE.cell q1
        have q2 := hE.cell q2
        have HO2 := Lib.hid (HO1.out.ext hE)
        have zh2 : w1.heap.size ≤ w2.heap.size := hE.size
        have HB2 := Lib.hid (HB1.out.trans (hE.mono (by omega)))
        clear hE HO1 HB1 d1 d2 d3
        by_cases hm : q ∈ g.bl
        · have HST2 : Hid (((nbs p).take (k + 1)).filter (opn g) = ((nbs p).take k).filter (opn g)) := by
            show _ = _
            rw [HST.out, if_neg (by unfold opn blk; simp [hm]), List.append_nil]
          have hd : decide (q ∈ g.bl) = true := by simp [hm]
          rw [hd]
          clear hm hd
          go_wp2
          exact ⟨⟨k + 1, N, av, cv, by omega, by go_num, rfl, by show _ = _; rw [HST2.out]; exact hN.out, HO2.out, hV.out, HB2.out⟩, by simp [intOf]; omega⟩
        · have HST2 : Hid (((nbs p).take (k + 1)).filter (opn g) = ((nbs p).take k).filter (opn g) ++ [q]) := by
            show _ = _
            rw [HST.out, if_pos (by unfold opn blk; simp [hm, HIN.out])]
          have hd : decide (q ∈ g.bl) = false := by simp [hm]
          rw [hd]
          clear hm hd
          obtain ⟨i0, hi, hi0, hi1, hi2⟩ := info_parts infoPl
          go_wp2_with (at_builtin; refine wpList_append1 _ rfl _ _ 22 rfl 26 i0 (.agg #[.int .i64 0, .int .i64 0]) 2 16 Try.underlying22 hi hi0 hi1 hi2 rfl (by decide) (.slice av N.length cv) _ _ rfl (HO2.out.ext ((Ext.refl _).alloc _)) ⟨w2.heap.size, 0, none⟩ 1 1 (by decide) [.int .i64 q.1, .int .i64 q.2] rfl rfl (cell_two_new _ _ _ _) ?c1 ?c2 ?c3 ?c4)
          case c1 => intro u hu; simp at hu; rcases hu with rfl | rfl <;> rfl
          case c2 => unfold maxLen; omega
          case c3 => omega
          case c4 =>
            intro v' w5 hown5 hend5
            have O5 := owns_succ hown5
            obtain ⟨av', cv', rfl, _, hbk⟩ := O5.reads
            have HO5 := Lib.hid O5
            have HEND := Lib.hid hend5
            clear hown5 hend5 O5 hbk
            go_wp2
            refine ⟨⟨k + 1, N ++ [q], av', cv', by omega, by go_num, by first | rfl | (rw [List.length_append, List.length_singleton]), by show _ = _; rw [HST2.out, hN.out], HO5.out, fun b hb => ?_, (HB2.out.alloc (by omega) _).trans (HEND.out.below (by simp; omega) (fun b hb => hV.out b hb))⟩, by simp [intOf]; omega⟩
            rcases HEND.out with ⟨h1, _, _⟩ | ⟨h1, _⟩
            · rw [h1] at hb; exact hV.out b hb
            · rw [h1] at hb
              have hb' : b = (w2.alloc (.cells #[.int .i64 q.1, .int .i64 q.2] 26)).heap.size := by cases hb; rfl
              simp at hb'
              omega
    · have hk4 : k = 4 := by omega
      subst hk4
      go_wp2
      go_ret
      have hNN : N = near g p := hN.out
      refine ⟨_, rfl, by rw [← hNN]; exact hO.out, fun b hb => Nat.le_trans E0.size (hV.out b hb), Below.trans E0 (hB.out.mono (by omega))⟩
end Go.Proofs.Ytfigooilhnahfaa
/- The queue of the reference, in plain Lean: it visits the cells as the waves do. -/
namespace Go.Proofs.Ytfigooilhnahfaa

theorem addN_fst_next (qs : List Pt) : ∀ (seen a b : List Pt), (addN seen a qs).1 = (addN seen b qs).1 := by
  induction qs with
  | nil => intro seen a b; rfl
  | cons q qs ih =>
    intro seen a b
    unfold addN
    split
    · exact ih _ _ _
    · exact ih _ _ _
theorem addN_snd_next (qs : List Pt) : ∀ (seen a : List Pt), (addN seen a qs).2 = a ++ (addN seen [] qs).2 := by
  induction qs with
  | nil => intro seen a; simp [addN]
  | cons q qs ih =>
    intro seen a
    unfold addN
    split
    · exact ih _ _
    · rw [ih _ (a ++ [q]), ih _ ([] ++ [q]), List.append_assoc]; simp

/-- the state of the queue ahead of its i-th cell: the cells visited sn -/
structure QI (g : Gr) (p : Pt) (n : Nat) (pre A B seen0 nx : List Pt) (i : Nat) (Wv sn : List Pt) : Prop where
  wv : WV g p seen0 (A ++ B) n
  wi : WI g seen0 (A ++ B)
  e1 : (expand g seen0 [] A).1 = sn
  e2 : (expand g seen0 [] A).2 = nx
  eq : Wv = pre ++ (A ++ B) ++ nx
  ln : i = pre.length + A.length
  sz : pre.length + (A ++ B).length = seen0.length
  sb : ∀ q ∈ pre, q ∈ seen0
def QInv (g : Gr) (p : Pt) (i : Nat) (Wv sn : List Pt) : Prop := ∃ n pre A B seen0 nx, QI g p n pre A B seen0 nx i Wv sn
theorem QInv.start {g : Gr} {p : Pt} (hp : inside g p = true) : QInv g p 0 [p] [p] :=
  ⟨0, [], [], [p], [p], [], wv0 g p, ⟨by simp, fun q hq => by simp at hq; subst hq; exact hp, fun q hq => hq⟩, rfl, rfl, rfl, rfl, rfl, fun q hq => by cases hq⟩
theorem QI.wi2 {g : Gr} {p : Pt} {n : Nat} {pre A B seen0 nx : List Pt} {i : Nat} {Wv sn : List Pt} (h : QI g p n pre A B seen0 nx i Wv sn) : WI g sn nx ∧ sn.length = seen0.length + nx.length := by
  have h1 := expand_inv A seen0 [] ⟨h.wi.nd, h.wi.ins, fun q hq => by cases hq⟩
  rw [h.e1, h.e2] at h1
  exact ⟨h1.1, by have := h1.2; simp at this; exact this⟩
/-- where cells are left, one may suppose that the wave at hand is not through -/
theorem QInv.norm {g : Gr} {p : Pt} {i : Nat} {Wv sn : List Pt} (h : QInv g p i Wv sn) (hi : i < Wv.length) : ∃ n pre A c B seen0 nx, QI g p n pre A (c :: B) seen0 nx i Wv sn := by
  obtain ⟨n, pre, A, B, seen0, nx, hq⟩ := h
  cases B with
  | cons c B => exact ⟨n, pre, A, c, B, seen0, nx, hq⟩
  | nil =>
    cases nx with
    | nil =>
      exfalso
      have h1 := hq.eq
      have h2 := hq.ln
      rw [h1] at hi
      simp at hi
      omega
    | cons c nx =>
      have h1 := hq.wv.step
      rw [List.append_nil, hq.e1, hq.e2] at h1
      refine ⟨n + 1, pre ++ A, [], c, nx, sn, [], h1, hq.wi2.1, rfl, rfl, ?_, ?_, ?_, ?_⟩
      · rw [hq.eq]; simp
      · rw [hq.ln]; simp
      · have h2 := hq.sz
        have h3 := hq.wi2.2
        simp at h2 h3 ⊢
        omega
      · intro q hq2
        rw [← hq.e1, (expand_mem g A seen0 [] q).1]
        rcases List.mem_append.1 hq2 with h4 | h4
        · exact .inl (hq.sb q h4)
        · exact .inl (hq.wi.sub q (List.mem_append_left _ h4))
theorem QI.at {g : Gr} {p : Pt} {n : Nat} {pre A B seen0 nx : List Pt} {c : Pt} {i : Nat} {Wv sn : List Pt} (h : QI g p n pre A (c :: B) seen0 nx i Wv sn) : pt Wv i = c := by
  rw [h.eq, h.ln]
  unfold pt
  rw [List.getD_eq_getElem?_getD]
  simp [List.append_assoc]
theorem QI.cur {g : Gr} {p : Pt} {n : Nat} {pre A B seen0 nx : List Pt} {c : Pt} {i : Nat} {Wv sn : List Pt} (h : QI g p n pre A (c :: B) seen0 nx i Wv sn) : IsD g p c n := (h.wv.n c).1 (by simp)
theorem QI.seen {g : Gr} {p : Pt} {n : Nat} {pre A B seen0 nx : List Pt} {i : Nat} {Wv sn : List Pt} (h : QI g p n pre A B seen0 nx i Wv sn) {x : Pt} (hx : x ∈ sn) : ∃ m, IsD g p x m := by
  rw [← h.e1, (expand_mem g A seen0 [] x).1, h.wv.s] at hx
  rcases hx with ⟨m, _, h2⟩ | ⟨r, h1, h2⟩
  · obtain ⟨k, _, h3⟩ := h2.isD
    exact ⟨k, h3⟩
  · have hr := (h.wv.n r).1 (List.mem_append_left _ h1)
    obtain ⟨k, _, h3⟩ := (Walk.cons hr.w h2).isD
    exact ⟨k, h3⟩
theorem QI.fresh {g : Gr} {p : Pt} {n : Nat} {pre A B seen0 nx : List Pt} {c : Pt} {i : Nat} {Wv sn : List Pt} (h : QI g p n pre A (c :: B) seen0 nx i Wv sn) {x : Pt} (hx : x ∈ near g c) (hn : x ∉ sn) : IsD g p x (n + 1) := by
  refine ⟨.cons h.cur.w hx, fun m hm hw => hn ?_⟩
  rw [← h.e1, (expand_mem g A seen0 [] x).1, h.wv.s]
  exact .inl ⟨m, by omega, hw⟩
theorem QI.next {g : Gr} {p : Pt} {n : Nat} {pre A B seen0 nx : List Pt} {c : Pt} {i : Nat} {Wv sn : List Pt} (h : QI g p n pre A (c :: B) seen0 nx i Wv sn) :
    QI g p n pre (A ++ [c]) B seen0 (addN sn nx (near g c)).2 (i + 1) (Wv ++ (addN sn [] (near g c)).2) (addN sn [] (near g c)).1 := by
  have hw := h.wv
  have hi := h.wi
  rw [show A ++ c :: B = A ++ [c] ++ B by simp] at hw hi
  refine ⟨hw, hi, ?_, ?_, ?_, ?_, ?_, h.sb⟩
  · rw [expand_snoc, h.e1, h.e2]; exact addN_fst_next _ _ _ _
  · rw [expand_snoc, h.e1, h.e2]
  · rw [h.eq, addN_snd_next (near g c) sn nx]; simp
  · rw [h.ln]; simp; omega
  · have := h.sz; simp at this ⊢; omega

section
variable {g : Gr} {p : Pt} {i : Nat} {Wv sn : List Pt}
theorem QInv.step (h : QInv g p i Wv sn) (hi : i < Wv.length) : QInv g p (i + 1) (Wv ++ (addN sn [] (near g (pt Wv i))).2) (addN sn [] (near g (pt Wv i))).1 := by
  obtain ⟨n, pre, A, c, B, seen0, nx, hq⟩ := h.norm hi
  rw [hq.at]
  exact ⟨_, _, _, _, _, _, hq.next⟩
theorem QInv.wi (h : QInv g p i Wv sn) : sn.Nodup ∧ (∀ q ∈ sn, inside g q = true) ∧ Wv.length = sn.length ∧ ∀ q ∈ Wv, q ∈ sn := by
  obtain ⟨n, pre, A, B, seen0, nx, hq⟩ := h
  refine ⟨hq.wi2.1.nd, hq.wi2.1.ins, ?_, ?_⟩
  · have h1 := hq.wi2.2
    have h2 := hq.sz
    rw [hq.eq]
    simp at h2 ⊢
    omega
  · intro q hq2
    rw [hq.eq] at hq2
    rcases List.mem_append.1 hq2 with h4 | h4
    · rw [← hq.e1, (expand_mem g A seen0 [] q).1]
      rcases List.mem_append.1 h4 with h4 | h4
      · exact .inl (hq.sb q h4)
      · exact .inl (hq.wi.sub q h4)
    · exact hq.wi2.1.sub q h4
theorem QInv.val (h : QInv g p i Wv sn) (hr : Right g) (hp : inside g p = true) (hi : i < Wv.length) : 0 ≤ dst g p (pt Wv i) ∧ ∀ x ∈ near g (pt Wv i), x ∉ sn → dst g p x = dst g p (pt Wv i) + 1 := by
  obtain ⟨n, pre, A, c, B, seen0, nx, hq⟩ := h.norm hi
  rw [hq.at]
  have h1 := dst_of hr hp hq.cur
  refine ⟨by omega, fun x hx hn => ?_⟩
  rw [dst_of hr hp (hq.fresh hx hn), h1]
  omega
theorem QInv.pos (h : QInv g p i Wv sn) (hr : Right g) (hp : inside g p = true) {x : Pt} (hx : x ∈ sn) : 0 ≤ dst g p x := by
  obtain ⟨n, pre, A, B, seen0, nx, hq⟩ := h
  obtain ⟨m, hm⟩ := hq.seen hx
  rw [dst_of hr hp hm]
  omega
theorem QInv.done (h : QInv g p i Wv sn) (hi : i = Wv.length) {x : Pt} (hx : x ∉ sn) : dst g p x = -1 := by
  obtain ⟨n, pre, A, B, seen0, nx, hq⟩ := h
  have h1 := hq.eq
  have h2 := hq.ln
  have h3 : B = [] ∧ nx = [] := by
    rw [h1] at hi
    simp at hi
    exact ⟨List.eq_nil_of_length_eq_zero (by omega), List.eq_nil_of_length_eq_zero (by omega)⟩
  obtain ⟨rfl, rfl⟩ := h3
  have hs := hq.wv.step
  rw [List.append_nil, hq.e1, hq.e2] at hs
  refine dst_none fun k hk => ?_
  by_cases hkn : k ≤ n + 1
  · exact hx ((hs.s x).2 ⟨k, hkn, hk.w⟩)
  · obtain ⟨r, hr⟩ := IsD.down (m := n + 1) (n := k - (n + 1)) (by rw [show n + 1 + (k - (n + 1)) = k by omega]; exact hk)
    have := (hs.n r).2 hr
    cases this
end
end Go.Proofs.Ytfigooilhnahfaa
/- The reference's lengths from a cell. -/
namespace Go.Proofs.Ytfigooilhnahfaa
open Go.RowKit

def kx (g : Gr) (q : Pt) : Nat := q.1.toNat * g.cols.toNat + q.2.toNat
theorem kx_lt {g : Gr} {q : Pt} (h : inside g q = true) : kx g q < g.rows.toNat * g.cols.toNat := by
  unfold inside at h
  simp only [Bool.and_eq_true, decide_eq_true_eq] at h
  have h1 : (q.1.toNat + 1) * g.cols.toNat ≤ g.rows.toNat * g.cols.toNat := Nat.mul_le_mul_right _ (by omega)
  rw [Nat.add_mul, Nat.one_mul] at h1
  unfold kx
  omega
theorem kx_cellAt {g : Gr} (k : Nat) : kx g (cellAt g k) = k := by
  unfold kx cellAt
  simp only [Int.toNat_natCast]
  rw [Nat.mul_comm]
  exact Nat.div_add_mod k _
theorem cellAt_kx {g : Gr} {q : Pt} (h : inside g q = true) : cellAt g (kx g q) = q := by
  unfold inside at h
  simp only [Bool.and_eq_true, decide_eq_true_eq] at h
  unfold kx
  rw [cellAt_mk (by omega)]
  exact Prod.ext (by show ((q.1.toNat : Nat) : Int) = q.1; omega) (by show ((q.2.toNat : Nat) : Int) = q.2; omega)
theorem kxF {g : Gr} (hr : Right g) {q : Pt} (h : inside g q = true) : ∃ a : Nat, IntKind.i64.wrap (q.1 * g.cols) = (a : Int) ∧ IntKind.i64.wrap ((a : Int) + q.2) = (kx g q : Int) ∧ kx g q < g.rows.toNat * g.cols.toNat := by
  have h0 := h
  unfold inside at h
  simp only [Bool.and_eq_true, decide_eq_true_eq] at h
  have c1 := hr.c1; have c2 := hr.c2; have r2 := hr.r2
  have e : q.1 * g.cols = ((q.1.toNat * g.cols.toNat : Nat) : Int) := by
    rw [Int.natCast_mul, Int.toNat_of_nonneg (by omega), Int.toNat_of_nonneg (by omega)]
  have b : q.1.toNat * g.cols.toNat ≤ 64 * 64 := Nat.mul_le_mul (by omega) (by omega)
  refine ⟨q.1.toNat * g.cols.toNat, ?_, ?_, kx_lt h0⟩
  · rw [e]; exact IntWalk.i64_in _ (by omega)
  · unfold kx
    generalize q.1.toNat * g.cols.toNat = a at b ⊢
    rw [IntWalk.i64_in _ (by omega)]
    omega
def tabL (g : Gr) (D : Pt → Int) : List Int := (List.range (g.rows.toNat * g.cols.toNat)).map fun k => D (cellAt g k)
theorem tabL_len (g : Gr) (D : Pt → Int) : (tabL g D).length = g.rows.toNat * g.cols.toNat := by simp [tabL]
theorem tabL_get {g : Gr} {D : Pt → Int} {k : Nat} (h : k < g.rows.toNat * g.cols.toNat) : (tabL g D).getD k 0 = D (cellAt g k) := by simp [tabL, List.getD, h]

/-- the numbers of the array ob -/
def OutN (w : World) (ob n : Nat) (L : Nat → Int) : Prop := ∀ k, k < n → w.cell? ⟨ob, k, none⟩ = some (.int .i64 (L k)) ∧ w.frozen? ⟨ob, k, none⟩ = false
theorem OutN.set {w : World} {ob n : Nat} {L : Nat → Int} (h : OutN w ob n L) {i : Nat} (hi : i < n) (x : Int) : OutN (w.setCell ⟨ob, i, none⟩ (.int .i64 x)) ob n (fun k => if k = i then x else L k) := fun k hk => by
  refine ⟨?_, by rw [World.frozen?_setCell]; exact (h k hk).2⟩
  by_cases e : k = i
  · subst e
    rw [World.cell?_setCell_same _ _ _ (h k hk).1]; simp
  · rw [World.cell?_setCell_other _ _ _ _ (fun h => by simp only [Addr.mk.injEq] at h; omega), (h k hk).1]; simp [e]
theorem OutN.congr {w : World} {ob n : Nat} {L M : Nat → Int} (h : OutN w ob n L) (e : ∀ k, k < n → L k = M k) : OutN w ob n M := fun k hk => by rw [← e k hk]; exact h k hk
theorem OutN.kept {X : Nat → Prop} {m ob n : Nat} {L : Nat → Int} {A B : World} (h : OutN A ob n L) (k : Kept X m A B) (hx : X ob) : OutN B ob n L := fun i hi =>
  ⟨k.cell (p := ⟨ob, i, none⟩) hx (h i hi).1, (k.frozen (p := ⟨ob, i, none⟩) hx (h i hi).1).trans (h i hi).2⟩
theorem OutN.ext {ob n : Nat} {L : Nat → Int} {A B : World} (h : OutN A ob n L) (x : Ext A B) : OutN B ob n L := h.kept (Kept.ext x (fun _ => True) 0) trivial

/-- the array says of each cell seen how far it is -/
def OutD (g : Gr) (p : Pt) (w : World) (ob : Nat) (sn : List Pt) : Prop := OutN w ob (g.rows.toNat * g.cols.toNat) (fun k => if cellAt g k ∈ sn then dst g p (cellAt g k) else -1)

structure FrL (g : Gr) (p : Pt) (W : World) (ob : Nat) (i : Nat) (Wv sn : List Pt) (v : Value) (w : World) : Prop where
  q : QInv g p i Wv sn
  o : OutD g p w ob sn
  own : Owns w v Wv
  vb : ∀ b, v.ownBlock = some b → W.heap.size ≤ b
  be : Below ob W w

structure FiL (g : Gr) (p c : Pt) (w1 : World) (ob bb : Nat) (Wv sn : List Pt) (nv : Value) (j : Nat) (sj Nv : List Pt) (v : Value) (w : World) : Prop where
  e : addN sn [] ((near g c).take j) = (sj, Nv)
  o : OutD g p w ob sj
  own : Owns w v (Wv ++ Nv)
  vb : ∀ b, v.ownBlock = some b → w1.heap.size ≤ b ∧ nv.ownBlock ≠ some b ∧ b ≠ bb
  be : Below ob w1 w
  nn : Owns w nv (near g c)
  b1 : w.cell? ⟨bb, 0, none⟩ = some (.int .i64 c.1)
  b2 : w.cell? ⟨bb, 1, none⟩ = some (.int .i64 c.2)
theorem FiL.ext {g : Gr} {p c : Pt} {w1 : World} {ob bb : Nat} {Wv sn : List Pt} {nv : Value} {j : Nat} {sj Nv : List Pt} {v : Value} {A B : World} (h : FiL g p c w1 ob bb Wv sn nv j sj Nv v A) (x : Ext A B) (hob : ob < A.heap.size) : FiL g p c w1 ob bb Wv sn nv j sj Nv v B :=
  ⟨h.e, h.o.ext x, h.own.ext x, h.vb, h.be.trans (x.mono (Nat.le_of_lt hob)), h.nn.ext x, x.cell h.b1, x.cell h.b2⟩
theorem two_cells {w : World} {b : Nat} {x y : Value} (h0 : w.cell? ⟨b, 0, none⟩ = some x) (h1 : w.cell? ⟨b, 1, none⟩ = some y) : ∀ j u, ([x, y] : List Value)[j]? = some u → w.cell? ((⟨b, 0, none⟩ : Addr).add j) = some u := by
  intro j u h
  match j, h with
  | 0, h => simp at h; subst h; rw [Addr.add_lit]; exact h0
  | 1, h => simp at h; subst h; rw [Addr.add_lit]; exact h1
theorem take_near {g : Gr} {c : Pt} {j : Nat} (h : j < (near g c).length) : (near g c).take (j + 1) = (near g c).take j ++ [pt (near g c) j] := by
  rw [List.take_succ_eq_append_getElem h]
  congr 2
  unfold pt
  rw [List.getD_eq_getElem?_getD, List.getElem?_eq_getElem h]; simp
theorem addN_len (qs : List Pt) : ∀ (s n : List Pt), (addN s n qs).2.length ≤ n.length + qs.length := by
  induction qs with
  | nil => intro s n; simp [addN]
  | cons q qs ih =>
    intro s n
    unfold addN
    split
    · have := ih s n; simp; omega
    · have := ih (q :: s) (n ++ [q]); simp at this ⊢; omega
theorem near_len (g : Gr) (c : Pt) : (near g c).length ≤ 4 := Nat.le_trans (List.length_filter_le _ _) (by simp [nbs])

set_option maxHeartbeats 4000000 in
set_option maxRecDepth 100000 in
theorem Far_any (g : Gr) (p : Pt) (ga : Option Addr) (gc : Nat) (w : World) (hr : Right g) (hp : inside g p = true) (hc : Cells2 w ga g.bl) :
    Calls Try.prog 51 #[.agg #[.int .i64 g.rows, .int .i64 g.cols, .slice ga g.bl.length gc], .agg #[.int .i64 p.1, .int .i64 p.2]] w fun e w' => ∃ a cap, e = .returned (.slice a (tabL g (dst g p)).length cap) ∧ CellsI w' a (tabL g (dst g p)) ∧ Ext w w' := by
  have HC : Hid (Cells2 w ga g.bl) := hc
  have HR := Lib.hid hr
  have HP := Lib.hid hp
  have hgl : g.bl.length ≤ maxLen := by have := hr.few; unfold maxLen; omega
  have HG := Lib.hid hgl
  obtain ⟨n, hn⟩ : ∃ n, n = g.rows.toNat * g.cols.toNat := ⟨_, rfl⟩
  have hn1 : n ≤ 4096 := by rw [hn]; exact Nat.mul_le_mul (show g.rows.toNat ≤ 64 by have := hr.r2; omega) (show g.cols.toNat ≤ 64 by have := hr.c2; omega)
  have hmul : IntKind.i64.wrap (g.rows * g.cols) = (n : Int) := by
    have h1 := hr.r1; have h2 := hr.c1
    have e : g.rows * g.cols = (n : Int) := by
      rw [hn, Int.natCast_mul, Int.toNat_of_nonneg (by omega), Int.toNat_of_nonneg (by omega)]
    rw [e]; exact IntWalk.i64_in _ (by omega)
  have HNN := Lib.hid hn
  obtain ⟨i0, hi, hi0, hi1, hi2⟩ := info_parts infoInt
  clear hc hr hp hgl hn
  go_enter Try.func51, Try.ntmps51
  go_wp2_with (at_make; refine wpList_make_full _ rfl _ _ 50 rfl 0 3 i0 (.int .i64 0) 1 Try.underlying50 hi hi0 hi1 _ _ _ _ n rfl rfl rfl rfl ?b2 ?b3 ?b4 ?hK)
  case b2 => rw [hi2]; omega
  case b3 => unfold maxLen; omega
  case b4 => exact Nat.zero_le _
  case hK =>
    intro w1 hown hgr
    obtain ⟨ob, hob⟩ : ∃ ob, ob = w.heap.size + 1 + 1 := ⟨_, rfl⟩
    have hz1 : ob < w1.heap.size := by rw [hob]; exact (World.ownsRow.lt hown _ rfl).2
    have E1 : Ext ((( ((w).alloc (.cells #[.int .i64 g.rows, .int .i64 g.cols, .slice ga g.bl.length gc] 24))).alloc (.cells #[.int .i64 p.1, .int .i64 p.2] 26))) w1 := ⟨hgr.os, hgr.tape, hgr.output, hgr.size, fun k hk => hgr.block k hk (by simp)⟩
    have g1 := E1.cell (show ((( ((w).alloc (.cells #[.int .i64 g.rows, .int .i64 g.cols, .slice ga g.bl.length gc] 24))).alloc (.cells #[.int .i64 p.1, .int .i64 p.2] 26))).cell? ⟨w.heap.size, 0, none⟩ = some (.int .i64 g.rows) by clear hob hmul; go_simp)
    have g2 := E1.cell (show ((( ((w).alloc (.cells #[.int .i64 g.rows, .int .i64 g.cols, .slice ga g.bl.length gc] 24))).alloc (.cells #[.int .i64 p.1, .int .i64 p.2] 26))).cell? ⟨w.heap.size, 1, none⟩ = some (.int .i64 g.cols) by clear hob hmul; go_simp)
    have g3 := E1.cell (show ((( ((w).alloc (.cells #[.int .i64 g.rows, .int .i64 g.cols, .slice ga g.bl.length gc] 24))).alloc (.cells #[.int .i64 p.1, .int .i64 p.2] 26))).cell? ⟨w.heap.size, 2, none⟩ = some (.slice ga g.bl.length gc) by clear hob hmul; go_simp)
    have q1 := E1.cell (show ((( ((w).alloc (.cells #[.int .i64 g.rows, .int .i64 g.cols, .slice ga g.bl.length gc] 24))).alloc (.cells #[.int .i64 p.1, .int .i64 p.2] 26))).cell? ⟨w.heap.size + 1, 0, none⟩ = some (.int .i64 p.1) by clear hob hmul; go_simp)
    have q2 := E1.cell (show ((( ((w).alloc (.cells #[.int .i64 g.rows, .int .i64 g.cols, .slice ga g.bl.length gc] 24))).alloc (.cells #[.int .i64 p.1, .int .i64 p.2] 26))).cell? ⟨w.heap.size + 1, 1, none⟩ = some (.int .i64 p.2) by clear hob hmul; go_simp)
    have zw : w.heap.size + 1 < ob := by omega
    have EW : Ext w w1 := (((Ext.refl _).alloc _).alloc _).trans E1
    have HO0 : Hid (OutN w1 ob n (fun j => if j < 0 then -1 else 0)) := fun j hj => by
      rw [hob]
      refine ⟨?_, hown.frozenAt j⟩
      rw [hown.cellAt j (by omega)]
      simp [madeCells, hj, Nat.mod_one]
    have HCW := Lib.hid (HC.out.ext EW)
    have HBL : Hid (g.bl ≠ [] → ∀ b off, ga = some ⟨b, off, none⟩ → b < ob) := fun hne b off hb => by
      have := HC.out.lt hne hb
      omega
    rw [← hob]
    clear hob hown hgr E1 HC hmul hi hi0 hi1 hi2
    go_wp2
    go_loopw [6] (fun i wr => ∃ k : Nat, k ≤ n ∧ i = .int .i64 k ∧ Hid (OutN wr ob n (fun j => if j < k then -1 else 0)) ∧ Hid (Below ob w1 wr)) (fun i _ => n - (intOf i).toNat)
    case atStart => exact ⟨0, Nat.zero_le _, rfl, HO0.out, Below.refl _ _⟩
    case round =>
      obtain ⟨k, hk, rfl, hO, hB⟩ := hrel
      have zwr : w1.heap.size ≤ wr.heap.size := hB.out.size
      by_cases hlt : k < n
      · have hlt' : (k : Int) < (n : Int) := by omega
        have c1 : wr.cell? ⟨ob, k, none⟩ = some (.int .i64 (if k < k then -1 else 0)) := (hO.out k hlt).1
        have c2 := (hO.out k hlt).2
        rw [if_neg (Nat.lt_irrefl k)] at c1
        go_wp2
        refine ⟨⟨k + 1, by omega, by go_num, (hO.out.set hlt (-1)).congr fun j hj => ?_, hB.out.setCell (p := ⟨ob, k, none⟩) (Nat.le_refl _) _⟩, by simp [intOf]; omega⟩
        try dsimp only
        by_cases e : j = k
        · rw [if_pos e, if_pos (by omega)]
        · rw [if_neg e]
          by_cases e2 : j < k
          · rw [if_pos e2, if_pos (by omega)]
          · rw [if_neg e2, if_neg (by omega)]
      · have hkn : k = n := by omega
        have HKN := Lib.hid hkn
        have hlt' : ¬ (k : Int) < (n : Int) := by omega
        have g1 : wr.cell? ⟨w.heap.size, 0, none⟩ = some (.int .i64 g.rows) := (hB.out.cell (p := ⟨w.heap.size, 0, none⟩) (by show w.heap.size < ob; omega)).trans g1
        have g2 : wr.cell? ⟨w.heap.size, 1, none⟩ = some (.int .i64 g.cols) := (hB.out.cell (p := ⟨w.heap.size, 1, none⟩) (by show w.heap.size < ob; omega)).trans g2
        have g3 : wr.cell? ⟨w.heap.size, 2, none⟩ = some (.slice ga g.bl.length gc) := (hB.out.cell (p := ⟨w.heap.size, 2, none⟩) (by show w.heap.size < ob; omega)).trans g3
        have q1 : wr.cell? ⟨w.heap.size + 1, 0, none⟩ = some (.int .i64 p.1) := (hB.out.cell (p := ⟨w.heap.size + 1, 0, none⟩) zw).trans q1
        have q2 : wr.cell? ⟨w.heap.size + 1, 1, none⟩ = some (.int .i64 p.2) := (hB.out.cell (p := ⟨w.heap.size + 1, 1, none⟩) zw).trans q2
        obtain ⟨a, ka1, ka2, ka3⟩ := kxF HR.out HP.out
        have hkp : Hid (kx g p < n) := by rw [HNN.out]; exact ka3
        obtain ⟨kp, hkpe⟩ : ∃ kp, kp = kx g p := ⟨_, rfl⟩
        rw [← hkpe] at ka2 hkp
        have kp1 : (kp : Int) < (n : Int) := by have := hkp.out; omega
        have HKP := Lib.hid hkpe
        have c1 : wr.cell? ⟨ob, kp, none⟩ = some (.int .i64 (if kp < k then -1 else 0)) := (hO.out kp hkp.out).1
        have c2 := (hO.out kp hkp.out).2
        rw [if_pos (by have := hkp.out; have := HKN.out; omega)] at c1
        have EWr : Hid (Below w.heap.size w wr) := Below.trans EW (hB.out.mono (by omega))
        have zobr : ob < wr.heap.size := by omega
        have zn1 : w.heap.size < wr.heap.size := by omega
        have zn2 : w.heap.size + 1 < wr.heap.size := by omega
        clear hkn ka3 hkpe hlt
        have HNK : Hid (∀ j, j < n → (if j < k then (-1 : Int) else 0) = -1) := fun j hj => if_pos (by have := HKN.out; omega)
        go_wp2
        have EA : Ext (wr.setCell ⟨ob, kp, none⟩ (.int .i64 0)) ((wr.setCell ⟨ob, kp, none⟩ (.int .i64 0)).alloc (.cells #[.int .i64 p.1, .int .i64 p.2] 26)) := (Ext.refl _).alloc _
        have hss : (wr.setCell ⟨ob, kp, none⟩ (.int .i64 0)).heap.size = wr.heap.size := by simp
        have F0 : Hid (FrL g p w1 ob 0 [p] [p] (.slice (some ⟨wr.heap.size, 0, none⟩) 1 1) ((wr.setCell ⟨ob, kp, none⟩ (.int .i64 0)).alloc (.cells #[.int .i64 p.1, .int .i64 p.2] 26))) := {
          q := QInv.start HP.out
          o := by
            unfold OutD
            rw [← HNN.out]
            refine ((hO.out.set hkp.out 0).congr fun j hj => ?_).ext EA
            by_cases e : j = kp
            · rw [if_pos e, if_pos (by rw [e, HKP.out, cellAt_kx HP.out]; simp), e, HKP.out, cellAt_kx HP.out, dst_of HR.out HP.out (IsD.self g p)]
              rfl
            · rw [if_neg e, HNK.out j hj, if_neg (fun hm => e (by
                rw [List.mem_singleton] at hm
                rw [HKP.out, ← hm, kx_cellAt]))]
          own := by
            have := owns_new (wr.setCell ⟨ob, kp, none⟩ (.int .i64 0)) p
            rw [hss] at this
            exact this
          vb := fun b hb => by cases hb; exact zwr
          be := ((hB.out.setCell (p := ⟨ob, kp, none⟩) (Nat.le_refl _) _)).trans (EA.mono (by rw [hss]; omega)) }
        clear EA hss c1 c2 hO
        generalize ((wr.setCell ⟨ob, kp, none⟩ (.int .i64 0)).alloc (.cells #[.int .i64 p.1, .int .i64 p.2] 26)) = W2 at F0 ⊢
        clear g1 g2 g3 q1 q2 ka1 ka2 zn1 zn2
        go_loopw [7, 8] (fun v i wr => ∃ (k : Nat) (Wv sn : List Pt) (av : Option Addr) (cv : Nat), k ≤ Wv.length ∧ i = .int .i64 k ∧ v = .slice av Wv.length cv ∧ Hid (FrL g p w1 ob k Wv sn (.slice av Wv.length cv) wr)) (fun _ i _ => 4097 - (intOf i).toNat)
        case atStart => exact ⟨0, [p], [p], _, 1, by simp, rfl, rfl, F0.out⟩
        case round =>
          obtain ⟨k, Wv, sn, av, cv, hk, rfl, rfl, hF⟩ := hrel
          obtain ⟨wi1, wi2, wi3, wi4⟩ := hF.out.q.wi
          have hlW : Wv.length ≤ 4096 := by rw [wi3]; exact nodup_pts wi1 (fun q hq => inG_of HR.out (wi2 q hq))
          have zwr2 : w1.heap.size ≤ wr.heap.size := hF.out.be.size
          have WIS := Lib.hid wi2
          have WIW := Lib.hid wi4
          clear wi1 wi2 wi3 wi4
          by_cases hlt : k < Wv.length
          · have hlt' : (k : Int) < (Wv.length : Int) := by omega
            obtain ⟨a', c', hv', hcl, hab⟩ := hF.out.own.reads
            cases hv'
            obtain ⟨vb0, vo0, rfl, d1, d2⟩ := hcl k hlt
            have HQ := Lib.hid hF.out.q
            generalize hcc : pt Wv k = c at d1 d2
            have HCC := Lib.hid hcc
            have hcs : Hid (c ∈ sn) := by rw [← hcc]; exact WIW.out _ (pt_mem hlt)
            have hci : Hid (inside g c = true) := WIS.out _ hcs.out
            have g1 : wr.cell? ⟨w.heap.size, 0, none⟩ = some (.int .i64 g.rows) := (hF.out.be.cell (p := ⟨w.heap.size, 0, none⟩) (by show w.heap.size < ob; omega)).trans g1
            have g2 : wr.cell? ⟨w.heap.size, 1, none⟩ = some (.int .i64 g.cols) := (hF.out.be.cell (p := ⟨w.heap.size, 1, none⟩) (by show w.heap.size < ob; omega)).trans g2
            have g3 : wr.cell? ⟨w.heap.size, 2, none⟩ = some (.slice ga g.bl.length gc) := (hF.out.be.cell (p := ⟨w.heap.size, 2, none⟩) (by show w.heap.size < ob; omega)).trans g3
            have HCr : Hid (Cells2 wr ga g.bl) := HCW.out.kept (Kd := fun k => k < ob) (n := 0) ⟨hF.out.be.size, fun k o hk ho _ => by rw [hF.out.be.block k hk]; exact ho⟩ (fun b off hb hne => HBL.out hne b off hb)
            have zvb := cell_lt d1
            dsimp only at zvb
            have zob2 : ob < wr.heap.size := by omega
            have zn3 : w.heap.size < wr.heap.size := by omega
            clear hcl hab hcc
            go_wp2_with fail
            refine (Near_any g c ga gc _ HG.out (inG_of HR.out hci.out) (HCr.out.ext ((Ext.refl _).alloc _))).mono ?_
            rintro e w4 ⟨nv, rfl, hnO, hnb, hE⟩
            have EE : Ext wr w4 := ((Ext.refl _).alloc _).trans hE
            obtain ⟨na, nc, rfl, _, _⟩ := hnO.reads
            have y1 : w4.cell? ⟨wr.heap.size, 0, none⟩ = some (.int .i64 c.1) := hE.cell (by go_simp)
            have y2 : w4.cell? ⟨wr.heap.size, 1, none⟩ = some (.int .i64 c.2) := hE.cell (by go_simp)
            have F1 : Hid (FiL g p c w1 ob wr.heap.size Wv sn (.slice na (near g c).length nc) 0 sn [] (.slice (some ⟨vb0, vo0, none⟩) Wv.length cv) w4) := {
              e := rfl
              o := hF.out.o.ext EE
              own := by rw [List.append_nil]; exact hF.out.own.ext EE
              vb := fun b hb => by
                have h1 := hF.out.vb b hb
                have h2 := hF.out.own.lt hb
                refine ⟨h1, fun h3 => ?_, by omega⟩
                have h4 := hnb b h3
                simp at h4
                omega
              be := hF.out.be.trans (EE.mono (by omega))
              nn := hnO
              b1 := y1
              b2 := y2 }
            have zE : wr.heap.size < w4.heap.size := cell_lt y1
            have HNB : Hid (∀ b, (Value.slice na (near g c).length nc).ownBlock = some b → ob < b) := fun b hb => by
              have h4 := hnb b hb
              simp at h4
              omega
            obtain ⟨bb, hbb⟩ : ∃ bb, bb = wr.heap.size := ⟨_, rfl⟩
            have hlN := near_len g c
            rw [← hbb] at F1 zE ⊢
            have zob4 : ob < bb := by omega
            clear hnO hnb hE EE y1 y2 d1 d2 g1 g2 g3 HCr hbb zvb
            go_wp2
            go_loopw [7, 53] (fun v i wr => ∃ (j : Nat) (sj Nv : List Pt) (av : Option Addr) (cv m : Nat), j ≤ (near g c).length ∧ i = .int .i64 j ∧ v = .slice av m cv ∧ Hid (m = (Wv ++ Nv).length) ∧ Hid (FiL g p c w1 ob bb Wv sn (.slice na (near g c).length nc) j sj Nv (.slice av m cv) wr)) (fun _ i _ => (near g c).length - (intOf i).toNat)
            case atStart => exact ⟨0, sn, [], _, cv, Wv.length, Nat.zero_le _, rfl, rfl, by show _ = _; rw [List.append_nil], F1.out⟩
            case round =>
              clear F1
              obtain ⟨j, sj, Nv, av, cv, m, hj, rfl, rfl, hm, hG⟩ := hrel
              by_cases hjl : j < (near g c).length
              · have hjl' : (j : Int) < ((near g c).length : Int) := by omega
                obtain ⟨a', c', hv', hcl, _⟩ := hG.out.nn.reads
                cases hv'
                obtain ⟨nb, no, hna, d1, d2⟩ := hcl j hjl
                subst hna
                have htk := take_near hjl
                have hqn : Hid (pt (near g c) j ∈ near g c) := pt_mem hjl
                generalize pt (near g c) j = q at d1 d2 htk hqn
                have HTK := Lib.hid htk
                have hqi : Hid (inside g q = true) := near_inside hqn.out
                have hsj : Hid (∀ x, x ∈ sj ↔ x ∈ sn ∨ x ∈ (near g c).take j) := fun x => by
                  have := (addN_mem ((near g c).take j) sn [] x).1
                  rwa [hG.out.e] at this
                have hval := HQ.out.val HR.out HP.out hlt
                rw [HCC.out] at hval
                have HVAL := Lib.hid hval
                have hpos : Hid (∀ x ∈ sj, 0 ≤ dst g p x) := fun x hx => by
                  by_cases hxs : x ∈ sn
                  · exact HQ.out.pos HR.out HP.out hxs
                  · rcases (hsj.out x).1 hx with h1 | h1
                    · exact absurd h1 hxs
                    · have := HVAL.out.2 x (List.mem_of_mem_take h1) hxs
                      have := HVAL.out.1
                      omega
                have hsnoc := addN_snoc sn [] ((near g c).take j) q
                rw [hG.out.e, ← htk] at hsnoc
                have g1 : wr.cell? ⟨w.heap.size, 0, none⟩ = some (.int .i64 g.rows) := (hG.out.be.cell (p := ⟨w.heap.size, 0, none⟩) (by show w.heap.size < ob; omega)).trans g1
                have g2 : wr.cell? ⟨w.heap.size, 1, none⟩ = some (.int .i64 g.cols) := (hG.out.be.cell (p := ⟨w.heap.size, 1, none⟩) (by show w.heap.size < ob; omega)).trans g2
                have b1 := hG.out.b1
                have b2 := hG.out.b2
                have zb := cell_lt d1
                have zbb := cell_lt b1
                dsimp only at zb zbb
                have zobr2 : ob < wr.heap.size := by omega
                have znr : w.heap.size < wr.heap.size := by omega
                obtain ⟨aq, kq1, kq2, kq3⟩ := kxF HR.out hqi.out
                obtain ⟨kq, hkq⟩ : ∃ kq, kq = kx g q := ⟨_, rfl⟩
                rw [← HNN.out, ← hkq] at kq3
                rw [← hkq] at kq2
                have HKQ := Lib.hid hkq
                have kq4 : (kq : Int) < (n : Int) := by omega
                have o1 : wr.cell? ⟨ob, kq, none⟩ = some (.int .i64 (if q ∈ sj then dst g p q else -1)) := by
                  have := (hG.out.o kq (by rw [← HNN.out]; exact kq3)).1
                  dsimp only at this
                  rw [HKQ.out, cellAt_kx hqi.out] at this
                  rw [HKQ.out]; exact this
                have o2 : wr.frozen? ⟨ob, kq, none⟩ = false := (hG.out.o kq (by rw [← HNN.out]; exact kq3)).2
                clear hcl htk hval hkq
                by_cases hqs : q ∈ sj
                · rw [if_pos hqs] at hsnoc o1
                  have hnn : ¬ dst g p q < 0 := by have := hpos.out q hqs; omega
                  have HSN := Lib.hid hsnoc
                  clear hsnoc hqs
                  go_wp2
                  have X := hG.out.ext ((Ext.refl _).alloc (.cells #[.int .i64 q.1, .int .i64 q.2] 26)) zobr2
                  exact ⟨⟨j + 1, sj, Nv, av, cv, m, by omega, by go_num, rfl, hm.out, { X with e := HSN.out }⟩, by simp [intOf]; omega⟩
                · rw [if_neg hqs] at hsnoc o1
                  have hqsn : q ∉ sn := fun h => hqs ((hsj.out q).2 (.inl h))
                  have hdq : Hid (dst g p q = dst g p c + 1) := HVAL.out.2 q hqn.out hqsn
                  have HSN := Lib.hid hsnoc
                  have HQS := Lib.hid hqs
                  clear hsnoc hqs hqsn
                  obtain ⟨ac, kc1, kc2, kc3⟩ := kxF HR.out hci.out
                  obtain ⟨kc, hkc⟩ : ∃ kc, kc = kx g c := ⟨_, rfl⟩
                  rw [← HNN.out, ← hkc] at kc3
                  rw [← hkc] at kc2
                  have HKC := Lib.hid hkc
                  have kc4 : (kc : Int) < (n : Int) := by omega
                  have o3 : wr.cell? ⟨ob, kc, none⟩ = some (.int .i64 (dst g p c)) := by
                    have := (hG.out.o kc (by rw [← HNN.out]; exact kc3)).1
                    dsimp only at this
                    rw [HKC.out, cellAt_kx hci.out, if_pos ((hsj.out c).2 (.inl hcs.out))] at this
                    rw [HKC.out]; exact this
                  obtain ⟨db1, db2⟩ := dst_bd HR.out HP.out c
                  have q9 : IntKind.i64.wrap (dst g p c + 1) = dst g p c + 1 := IntWalk.i64_in _ (by omega)
                  clear hkc
                  go_wp2_with fail
                  have E5 : Ext wr (wr.alloc (.cells #[.int .i64 q.1, .int .i64 q.2] 26)) := (Ext.refl _).alloc _
                  have X := Lib.hid (hG.out.ext E5 zobr2)
                  have g1 := E5.cell g1
                  have g2 := E5.cell g2
                  have b1 := E5.cell b1
                  have b2 := E5.cell b2
                  have o1 := E5.cell o1
                  have o3 := E5.cell o3
                  have o2 : (wr.alloc (.cells #[.int .i64 q.1, .int .i64 q.2] 26)).frozen? ⟨ob, kq, none⟩ = false := (E5.frozen (p := ⟨ob, kq, none⟩) zobr2).trans o2
                  have y1 : (wr.alloc (.cells #[.int .i64 q.1, .int .i64 q.2] 26)).cell? ⟨wr.heap.size, 0, none⟩ = some (.int .i64 q.1) := by go_simp
                  have y2 : (wr.alloc (.cells #[.int .i64 q.1, .int .i64 q.2] 26)).cell? ⟨wr.heap.size, 1, none⟩ = some (.int .i64 q.2) := by go_simp
                  obtain ⟨qb, hqb⟩ : ∃ qb, qb = wr.heap.size := ⟨_, rfl⟩
                  have zq : qb < (wr.alloc (.cells #[.int .i64 q.1, .int .i64 q.2] 26)).heap.size := by rw [hqb]; simp
                  have zqo : ob < qb := by omega
                  rw [← hqb] at y1 y2 ⊢
                  have hG2 := Lib.hid hG.out.e
                  clear hqb E5 d1 d2 hG zobr2 znr zb zbb
                  generalize (wr.alloc (.cells #[.int .i64 q.1, .int .i64 q.2] 26)) = W6 at X g1 g2 b1 b2 o1 o2 o3 y1 y2 zq ⊢
                  go_still_tail 22, (by kernel_rfl)
                  obtain ⟨i0, hi, hi0, hi1, hi2⟩ := info_parts infoPl
                  have CS : Hid (Chg (fun k => k = ob) W6 (W6.setCell ⟨ob, kq, none⟩ (.int .i64 (dst g p c + 1)))) := Chg.setCell (B := fun k => k = ob) ⟨ob, _, none⟩ _ rfl
                  have KS : Hid (Kept (fun k => k ≠ ob) 0 W6 (W6.setCell ⟨ob, kq, none⟩ (.int .i64 (dst g p c + 1)))) := CS.out.kept (fun k hk _ => hk)
                  have nown : Hid (∀ b, (Value.slice av m cv).ownBlock = some b → b ≠ ob) := fun b hb e => by have := (X.out.vb b hb).1; omega
                  have nnear : Hid (∀ b, (Value.slice (some ⟨nb, no, none⟩) (near g c).length nc).ownBlock = some b → b ≠ ob) := fun b hb e => by have := HNB.out b hb; omega
                  have OW : Hid (Owns (W6.setCell ⟨ob, kq, none⟩ (.int .i64 (dst g p c + 1))) (.slice av m cv) (Wv ++ Nv)) := X.out.own.kept KS.out nown.out
                  have hwl : (Wv ++ Nv).length ≤ 4100 := by
                    have h2 : Nv.length ≤ 4 := by
                      have h3 := addN_len ((near g c).take j) sn []
                      rw [hG2.out] at h3
                      simp at h3
                      omega
                    simp; omega
                  have hmm : m ≤ 4100 := by rw [hm.out]; exact hwl
                  go_wp2_with (at_builtin; refine wpList_append1 _ rfl _ _ 22 rfl 26 i0 (.agg #[.int .i64 0, .int .i64 0]) 2 16 Try.underlying22 hi hi0 hi1 hi2 rfl (by decide) (.slice av m cv) (Wv ++ Nv).length (flat (Wv ++ Nv)) rfl ?ho ⟨W6.heap.size, 0, none⟩ 1 1 (by decide) [.int .i64 q.1, .int .i64 q.2] rfl rfl ?hn ?c1 ?c2 ?c3 ?c4)
                  case ho => exact OW.out.ext (((Ext.refl _).alloc _).drew)
                  case hn =>
                    have := cell_two_new (W6.setCell ⟨ob, kq, none⟩ (.int .i64 (dst g p c + 1))) (.int .i64 q.1) (.int .i64 q.2) 26
                    simpa using this
                  case c1 => intro u hu; simp at hu; rcases hu with rfl | rfl <;> rfl
                  case c2 => unfold maxLen; omega
                  case c3 => omega
                  case c4 =>
                    intro v' w5 hown5 hend5
                    have O5 : Owns w5 v' ((Wv ++ Nv) ++ [q]) := owns_succ (by rw [List.length_append]; exact hown5)
                    rw [List.append_assoc] at O5
                    obtain ⟨av', cv', rfl, _, _⟩ := O5.reads
                    have HO5 := Lib.hid O5
                    have HEND := Lib.hid hend5
                    have EA : Hid (Ext (W6.setCell ⟨ob, kq, none⟩ (.int .i64 (dst g p c + 1))) ((W6.setCell ⟨ob, kq, none⟩ (.int .i64 (dst g p c + 1))).alloc (.cells #[.int .i64 q.1, .int .i64 q.2] 26)).drew) := ((Ext.refl _).alloc _).drew
                    have hss : (W6.setCell ⟨ob, kq, none⟩ (.int .i64 (dst g p c + 1))).heap.size = W6.heap.size := by simp
                    have K5 : Hid (Kept (fun k => (Value.slice av m cv).ownBlock ≠ some k) 0 ((W6.setCell ⟨ob, kq, none⟩ (.int .i64 (dst g p c + 1))).alloc (.cells #[.int .i64 q.1, .int .i64 q.2] 26)).drew w5) := Kept.grown hend5 (fun b hb hn => hn hb)
                    have S7 : ((W6.setCell ⟨ob, kq, none⟩ (.int .i64 (dst g p c + 1))).alloc (.cells #[.int .i64 q.1, .int .i64 q.2] 26)).drew.heap.size = W6.heap.size + 1 := by simp
                    clear hown5 hend5 O5
                    go_wp2
                    have vbb := X.out.vb
                    refine ⟨⟨j + 1, q :: sj, Nv ++ [q], av', cv', _, by omega, by go_num, rfl, by show _ = _; rfl, ?_⟩, by simp [intOf]; omega⟩
                    exact {
                      e := HSN.out
                      o := by
                        have h1 := (X.out.o.set (i := kq) (by rw [← HNN.out]; exact kq3) (dst g p c + 1)).congr (M := fun k => if cellAt g k ∈ q :: sj then dst g p (cellAt g k) else -1) (fun k hk => by
                          try dsimp only
                          by_cases ek : k = kq
                          · rw [if_pos ek, ek, HKQ.out, cellAt_kx hqi.out, if_pos (List.mem_cons_self ..), hdq.out]
                          · have hne : cellAt g k ≠ q := fun h => ek (by rw [HKQ.out, ← h, kx_cellAt])
                            rw [if_neg ek]
                            by_cases hm2 : cellAt g k ∈ sj
                            · rw [if_pos hm2, if_pos (List.mem_cons_of_mem _ hm2)]
                            · rw [if_neg hm2, if_neg (fun h => by
                                rcases List.mem_cons.1 h with h | h
                                · exact hne h
                                · exact hm2 h)])
                        exact (h1.ext EA.out).kept K5.out (fun e => nown.out ob e rfl)
                      own := HO5.out
                      vb := fun b hb => by
                        rcases HEND.out with ⟨h1, _, _⟩ | ⟨h1, _⟩
                        · rw [h1] at hb; exact vbb b hb
                        · rw [h1] at hb
                          have hb' : b = W6.heap.size + 1 := by rw [S7] at hb; cases hb; rfl
                          have h5 := X.out.be.size
                          have h7 : bb < W6.heap.size := cell_lt X.out.b1
                          refine ⟨by omega, fun h => ?_, by omega⟩
                          have h6 := X.out.nn.lt h
                          omega
                      be := ((X.out.be.setCell (p := ⟨ob, kq, none⟩) (Nat.le_refl _) _).trans (EA.out.mono (by rw [hss]; omega))).trans (HEND.out.below (by rw [S7]; omega) (fun b hb => by have := (vbb b hb).1; omega))
                      nn := ((X.out.nn.kept KS.out nnear.out).ext EA.out).kept K5.out (fun b hb h => (vbb b h).2.1 hb)
                      b1 := K5.out.cell (p := ⟨bb, 0, none⟩) (fun h => (vbb bb h).2.2 rfl) (EA.out.cell (KS.out.cell (p := ⟨bb, 0, none⟩) (by show bb ≠ ob; omega) X.out.b1))
                      b2 := K5.out.cell (p := ⟨bb, 1, none⟩) (fun h => (vbb bb h).2.2 rfl) (EA.out.cell (KS.out.cell (p := ⟨bb, 1, none⟩) (by show bb ≠ ob; omega) X.out.b2)) }
              · have hje : j = (near g c).length := by omega
                have HJE := Lib.hid hje
                have hjl' : ¬ (j : Int) < ((near g c).length : Int) := by omega
                clear hje
                go_wp2
                have hee := hG.out.e
                rw [HJE.out, List.take_length] at hee
                have hQ2 := HQ.out.step hlt
                rw [HCC.out, hee] at hQ2
                have hlen2 : k + 1 ≤ (Wv ++ Nv).length := by simp; omega
                refine ⟨⟨k + 1, Wv ++ Nv, sj, av, cv, hlen2, by go_num, by rw [← hm.out], by rw [← hm.out]; exact ⟨hQ2, hG.out.o, hG.out.own, fun b hb => (hG.out.vb b hb).1, hG.out.be⟩⟩, by simp [intOf]; omega⟩
          · have hke : k = Wv.length := by omega
            have HKE := Lib.hid hke
            have hlt' : ¬ (k : Int) < (Wv.length : Int) := by omega
            clear hke
            go_wp2
            go_ret
            refine ⟨some ⟨ob, 0, none⟩, ⟨n, by rw [tabL_len, ← HNN.out]; rfl⟩, fun j hj => ?_, Below.trans EW (hF.out.be.mono (by omega))⟩
            rw [tabL_len] at hj
            refine ⟨ob, 0, rfl, ?_⟩
            rw [Nat.zero_add, tabL_get hj, (hF.out.o j hj).1]
            by_cases hm : cellAt g j ∈ sn
            · simp [hm]
            · simp only [hm, if_false]
              rw [hF.out.q.done HKE.out hm]
end Go.Proofs.Ytfigooilhnahfaa
