/- Steps of the proof: Parts, DuctS, Ducts, Bends, WallE, Same, SameI. No conditions. -/
import Derived.Test.YtfigooilhnahfaaZOpens1
import Derived.Test.YtfigooilhnahfaaZOpens2
import Derived.Test.YtfigooilhnahfaaZOpens3
import Derived.Test.YtfigooilhnahfaaZOpens4
import Derived.Test.YtfigooilhnahfaaZOpens5
/- Parts. -/
namespace Go.Proofs.Ytfigooilhnahfaa
open Go.RowKit Go.Maps
attribute [local go_sem] Oper.semAt_some

theorem CellsI.keep {m : Nat} {A B : World} {a : Option Addr} {l : List Int} (h : CellsI A a l) (k : Keep m A B) : CellsI B a l := fun i hi => by
  obtain ⟨b, off, h1, h2⟩ := h i hi
  exact ⟨b, off, h1, k.cell h2⟩
theorem SeenM.mono {w : World} {mb m n : Nat} {S : List Pt} (h : SeenM w mb m S) (hmn : m ≤ n) : SeenM w mb n S := by
  obtain ⟨k, h1, h2⟩ := h
  exact ⟨k, by omega, h2⟩

theorem SeenM.at {w : World} {mb n : Nat} {S : List Pt} (h : SeenM w mb n S) : ∃ es clock, w.heap[mb]? = some (.map es clock) := by
  obtain ⟨k, _, h2⟩ := h
  exact h2.at
theorem Chg.mono {B C : Nat → Prop} {A D : World} (h : Chg B A D) (k : ∀ i, B i → C i) : Chg C A D := ⟨h.1, fun i hi hn => h.2 i hi (fun e => hn (k i e))⟩

structure PtL (g : Gr) (W0 : World) (mb sb k : Nat) (L : List Int) (v : Value) (ds : List Deferred) (w : World) : Prop where
  eq : L = (partK g k).2
  se : SeenM w mb (k * 4096) (partK g k).1
  cm : w.cell? ⟨sb, 0, none⟩ = some (.map (some mb))
  be : Below mb W0 w
  own : OwnsI w v L
  vb : ∀ b, v.ownBlock = some b → W0.heap.size ≤ b
  ms : Marks W0.heap.size ds w
theorem PtL.ext {g : Gr} {W0 : World} {mb sb k : Nat} {L : List Int} {v : Value} {ds : List Deferred} {A B : World} (h : PtL g W0 mb sb k L v ds A) (x : Ext A B) : PtL g W0 mb sb k L v ds B :=
  ⟨h.eq, h.se.same (Below.block x _ h.se.lt), x.cell h.cm, h.be.trans (x.mono (Nat.le_of_lt h.se.lt)), h.own.ext x, h.vb, h.ms.ext x⟩
theorem PtL.next {g : Gr} {W0 : World} {mb sb k : Nat} {L : List Int} {v : Value} {ds : List Deferred} {A : World} (h : PtL g W0 mb sb k L v ds A) (e : partK g (k + 1) = partK g k) : PtL g W0 mb sb (k + 1) L v ds A :=
  ⟨by rw [e]; exact h.eq, by rw [e]; exact h.se.mono (by omega), h.cm, h.be, h.own, h.vb, h.ms⟩
def PtOA (g : Gr) (W0 : World) (n mb sb : Nat) (x : Act) (w : World) : Prop :=
  ∃ (r : Nat) (L : List Int) (av : Option Addr) (cv : Nat) (ds : List Deferred) (u0 u2 u3 u4 u7 u8 u9 u10 u11 u12 u13 u14 u15 u16 u17 u18 u21 u22 u23 u24 u25 u26 u27 u28 u29 u30 u31 u32 u33 u34 u35 u36 u37 u38 u39 u40 u41 u42 u43 u44 u45 u46 u47 u48 u49 u50 u51 u52 u53 u54 u55 u56 : Value), r ≤ g.rows.toNat ∧ x = { tmps := #[u0, .pointer (some ⟨n, 0, none⟩), u2, u3, u4, .slice av L.length cv, .pointer (some ⟨sb, 0, none⟩), u7, u8, u9, u10, u11, u12, u13, u14, u15, u16, u17, u18, .int .i64 g.rows, .int .i64 r, u21, u22, u23, u24, u25, u26, u27, u28, u29, u30, u31, u32, u33, u34, u35, u36, u37, u38, u39, u40, u41, u42, u43, u44, u45, u46, u47, u48, u49, u50, u51, u52, u53, u54, u55, u56], defers := ds } ∧ PtL g W0 mb sb (r * g.cols.toNat) L (.slice av L.length cv) ds w
def PtIA (g : Gr) (W0 : World) (n mb sb r : Nat) (x : Act) (w : World) : Prop :=
  ∃ (c : Nat) (L : List Int) (av : Option Addr) (cv : Nat) (ds : List Deferred) (u0 u2 u3 u4 u8 u9 u10 u11 u12 u13 u14 u15 u16 u17 u18 u21 u22 u23 u26 u27 u28 u29 u30 u31 u32 u33 u34 u35 u36 u37 u38 u39 u40 u41 u42 u43 u44 u45 u46 u47 u48 u49 u50 u51 u52 u53 u54 u55 u56 : Value), c ≤ g.cols.toNat ∧ x = { tmps := #[u0, .pointer (some ⟨n, 0, none⟩), u2, u3, u4, .slice av L.length cv, .pointer (some ⟨sb, 0, none⟩), .int .i64 r, u8, u9, u10, u11, u12, u13, u14, u15, u16, u17, u18, .int .i64 g.rows, .int .i64 r, u21, u22, u23, .int .i64 g.cols, .int .i64 c, u26, u27, u28, u29, u30, u31, u32, u33, u34, u35, u36, u37, u38, u39, u40, u41, u42, u43, u44, u45, u46, u47, u48, u49, u50, u51, u52, u53, u54, u55, u56], defers := ds } ∧ PtL g W0 mb sb (r * g.cols.toNat + c) L (.slice av L.length cv) ds w

def PartsPost (g : Gr) (w : World) (e : Ending) (w' : World) : Prop :=
  ∃ a cap, e = .returned (.tuple #[.slice a (partsL g).length cap, .int .i64 (chk g)]) ∧ CellsI w' a (partsL g) ∧ Ext w w'

set_option maxHeartbeats 4000000 in
set_option maxRecDepth 100000 in
theorem Parts_any (g : Gr) (ga : Option Addr) (gc : Nat) (w : World) (hg : g.bl.length ≤ maxLen) (hc : Cells2 w ga g.bl) :
    Calls Try.prog 22 #[.agg #[.int .i64 g.rows, .int .i64 g.cols, .slice ga g.bl.length gc]] w fun e w' => PartsPost g w e w' := by
  have HC : Hid (Cells2 w ga g.bl) := hc
  have HG := Lib.hid hg
  clear hc hg
  have E0 : Ext w (((w).alloc (.cells #[.int .i64 g.rows, .int .i64 g.cols, .slice ga g.bl.length gc] 33))) := (Ext.refl _).alloc _
  have a1 : (((w).alloc (.cells #[.int .i64 g.rows, .int .i64 g.cols, .slice ga g.bl.length gc] 33))).cell? ⟨w.heap.size, 0, none⟩ = some (.int .i64 g.rows) := by go_simp
  have a2 : (((w).alloc (.cells #[.int .i64 g.rows, .int .i64 g.cols, .slice ga g.bl.length gc] 33))).cell? ⟨w.heap.size, 1, none⟩ = some (.int .i64 g.cols) := by go_simp
  have a3 : (((w).alloc (.cells #[.int .i64 g.rows, .int .i64 g.cols, .slice ga g.bl.length gc] 33))).cell? ⟨w.heap.size, 2, none⟩ = some (.slice ga g.bl.length gc) := by go_simp
  have hmm := @run_makeMap Try.prog
  refine (callsIn_wide (n := 0)).1 ?_
  refine callsIn_of_wp_marks Try.func22 rfl trivial ?_
  simp only [Try.ntmps22, List.size_toArray, List.length_cons, List.length_nil, Nat.reduceAdd, Nat.reduceSub, Array.replicate_succ, Array.replicate_zero, List.push_toArray, List.append_toArray, List.nil_append, List.cons_append]
  gi_wp2_with fail
  refine ⟨trivial, rfl, ?_⟩
  gi_at_call 24
  refine (callsIn_wide.2 (Check_any g ga gc _ HG.out (HC.out.ext E0))).mono ?_
  rintro e w1 ⟨rfl, hE⟩
  have b1 := hE.cell a1
  have b2 := hE.cell a2
  have b3 := hE.cell a3
  have E1 : Ext w w1 := E0.trans hE
  have z1 : w.heap.size < w1.heap.size := cell_lt b1
  clear hE E0 a1 a2 a3
  by_cases h0 : chk g = 0
  · have HR := Lib.hid (right_of_chk h0)
    have H0 := Lib.hid h0
    rw [h0]
    clear h0
    gi_wp2_with fail
    have M0 : Hid (SeenM (w1.alloc (.map #[] 0)) w1.heap.size 0 []) := ⟨0, Nat.le_refl _, SetAt.made _ _ _ _ _⟩
    have E2 : Ext (w1.alloc (.map #[] 0)) ((w1.alloc (.map #[] 0)).alloc (.cells #[.map (some w1.heap.size)] 98)) := (Ext.refl _).alloc _
    have E3 : Ext w1 ((w1.alloc (.map #[] 0)).alloc (.cells #[.map (some w1.heap.size)] 98)) := ((Ext.refl _).alloc _).alloc _
    have s1 : ((w1.alloc (.map #[] 0)).alloc (.cells #[.map (some w1.heap.size)] 98)).cell? ⟨w1.heap.size + 1, 0, none⟩ = some (.map (some w1.heap.size)) := by clear hmm; go_simp
    obtain ⟨mb, hmb⟩ : ∃ mb, mb = w1.heap.size := ⟨_, rfl⟩
    have M1 : Hid (SeenM ((w1.alloc (.map #[] 0)).alloc (.cells #[.map (some w1.heap.size)] 98)) w1.heap.size 0 []) := M0.out.same (Below.block E2 _ M0.out.lt)
    have zW : ((w1.alloc (.map #[] 0)).alloc (.cells #[.map (some w1.heap.size)] 98)).heap.size = w1.heap.size + 2 := by simp
    have c1 := E3.cell b1
    have c2 := E3.cell b2
    have c3 := E3.cell b3
    have EW := E1.trans E3
    rw [← hmb] at s1 M1 zW c1 c2 c3 EW ⊢
    have zn : w.heap.size < mb := by omega
    have HBL : Hid (g.bl ≠ [] → ∀ b off, ga = some ⟨b, off, none⟩ → b < mb) := fun hne b off hb => by
      have h1 := HC.out.lt hne hb
      have h2 := E1.size
      omega
    clear hmb M0 E2 E3 E1 b1 b2 b3 z1 hmm
    generalize (w1.alloc (.map #[] 0)).alloc (.cells #[.map (some mb)] 98) = W0 at s1 M1 zW c1 c2 c3 EW ⊢
    have HCW := Lib.hid (HC.out.ext EW)
    have hr1 := HR.out.r1
    have hr2 := HR.out.r2
    have hc1 := HR.out.c1
    have hc2 := HR.out.c2
    have hmx : Hid (g.rows.toNat * g.cols.toNat ≤ 4096) := Nat.mul_le_mul (show g.rows.toNat ≤ 64 by omega) (show g.cols.toNat ≤ 64 by omega)
    refine wpIn_loop (PtOA g W0 w.heap.size mb (mb + 1)) (fun a _ => fuel 20 a) ?_ ?_
    · refine ⟨0, [], none, 0, [], _, _, _, _, _, _, _, _, _, _, _, _, _, _, _, _, _, _, _, _, _, _, _, _, _, _, _, _, _, _, _, _, _, _, _, _, _, _, _, _, _, _, _, _, _, _, _, _, _, _, _, _, Nat.zero_le _, rfl, ?_⟩
      exact {
        eq := by rw [Nat.zero_mul]; rfl
        se := by rw [Nat.zero_mul]; exact M1.out
        cm := s1
        be := Below.refl _ _
        own := OwnsI.nil _
        vb := fun b hb => by cases hb
        ms := Marks.nil _ _ }
    · rintro x wr ⟨r, L, av, cv, ds, u0, u2, u3, u4, u7, u8, u9, u10, u11, u12, u13, u14, u15, u16, u17, u18, u21, u22, u23, u24, u25, u26, u27, u28, u29, u30, u31, u32, u33, u34, u35, u36, u37, u38, u39, u40, u41, u42, u43, u44, u45, u46, u47, u48, u49, u50, u51, u52, u53, u54, u55, u56, hrr, rfl, h⟩
      have H := Lib.hid h
      have g1 : wr.cell? ⟨w.heap.size, 0, none⟩ = some (.int .i64 g.rows) := (h.be.cell (p := ⟨w.heap.size, 0, none⟩) zn).trans c1
      have g2 : wr.cell? ⟨w.heap.size, 1, none⟩ = some (.int .i64 g.cols) := (h.be.cell (p := ⟨w.heap.size, 1, none⟩) zn).trans c2
      clear h
      by_cases hlt : r < g.rows.toNat
      · have hlt' : (r : Int) < g.rows := by omega
        gi_wp2_with fail
        refine wpIn_loop (PtIA g W0 w.heap.size mb (mb + 1) r) (fun a _ => fuel 25 a) ?_ ?_
        · exact ⟨0, L, av, cv, ds, _, _, _, _, _, _, _, _, _, _, _, _, _, _, _, _, _, _, _, _, _, _, _, _, _, _, _, _, _, _, _, _, _, _, _, _, _, _, _, _, _, _, _, _, _, _, _, _, _, Nat.zero_le _, rfl, H.out⟩
        · clear H g1 g2
          rintro x wr ⟨c, L, av, cv, ds, u0, u2, u3, u4, u8, u9, u10, u11, u12, u13, u14, u15, u16, u17, u18, u21, u22, u23, u26, u27, u28, u29, u30, u31, u32, u33, u34, u35, u36, u37, u38, u39, u40, u41, u42, u43, u44, u45, u46, u47, u48, u49, u50, u51, u52, u53, u54, u55, u56, hcc, rfl, h⟩
          have H := Lib.hid h
          have g1 : wr.cell? ⟨w.heap.size, 0, none⟩ = some (.int .i64 g.rows) := (h.be.cell (p := ⟨w.heap.size, 0, none⟩) zn).trans c1
          have g2 : wr.cell? ⟨w.heap.size, 1, none⟩ = some (.int .i64 g.cols) := (h.be.cell (p := ⟨w.heap.size, 1, none⟩) zn).trans c2
          have g3 : wr.cell? ⟨w.heap.size, 2, none⟩ = some (.slice ga g.bl.length gc) := (h.be.cell (p := ⟨w.heap.size, 2, none⟩) zn).trans c3
          have s2 := h.cm
          clear h
          by_cases hlc : c < g.cols.toNat
          · have hlc' : (c : Int) < g.cols := by omega
            have hkm : Hid (r * g.cols.toNat + c < g.rows.toNat * g.cols.toNat) := by
              show _ < _
              have h1 : (r + 1) * g.cols.toNat ≤ g.rows.toNat * g.cols.toNat := Nat.mul_le_mul_right _ hlt
              rw [Nat.add_mul, Nat.one_mul] at h1
              omega
            have HST : Hid (partK g (r * g.cols.toNat + c + 1) = partStep g (partK g (r * g.cols.toNat + c)) ((r : Int), (c : Int))) := by
              show _ = _
              rw [← cellAt_mk hlc]; rfl
            have HIN : Hid (inside g ((r : Int), (c : Int)) = true) := by
              show _ = _
              rw [← cellAt_mk hlc]
              exact cellAt_inside HR.out hkm.out
            have E4 : Ext wr (wr.alloc (.cells #[.int .i64 (r : Int), .int .i64 (c : Int)] 26)) := (Ext.refl _).alloc _
            have e1 : (wr.alloc (.cells #[.int .i64 (r : Int), .int .i64 (c : Int)] 26)).cell? ⟨wr.heap.size, 0, none⟩ = some (.int .i64 (r : Int)) := by go_simp
            have e2 : (wr.alloc (.cells #[.int .i64 (r : Int), .int .i64 (c : Int)] 26)).cell? ⟨wr.heap.size, 1, none⟩ = some (.int .i64 (c : Int)) := by go_simp
            obtain ⟨kn, hkn, hS⟩ := H.out.se
            obtain ⟨kl, hkl⟩ := keyPl (wf_inG (inG_of HR.out HIN.out)).1 (wf_inG (inG_of HR.out HIN.out)).2
            have hlook := (hS.ext E4).lookup lawPl Try.underlying98 Try.underlying4 (by kernel_rfl) hkl
            have g1' := E4.cell g1
            have g2' := E4.cell g2
            have g3' := E4.cell g3
            have s2' := E4.cell s2
            have HCr : Hid (Cells2 (wr.alloc (.cells #[.int .i64 (r : Int), .int .i64 (c : Int)] 26)) ga g.bl) := (Cells2.kept (Kd := fun k => k < mb) (n := 0) ⟨H.out.be.size, fun k o hk ho _ => by rw [H.out.be.block k hk]; exact ho⟩ (fun b off hb hne => HBL.out hne b off hb) HCW.out).ext E4
            have HE4 := Lib.hid E4
            have zwr : W0.heap.size ≤ wr.heap.size := H.out.be.size
            have zp : wr.heap.size < (wr.alloc (.cells #[.int .i64 (r : Int), .int .i64 (c : Int)] 26)).heap.size := by simp
            have zsb : mb + 1 < wr.heap.size := by omega
            have zn' : w.heap.size < wr.heap.size := by omega
            unfold evPl at hlook
            dsimp only at hlook
            clear hS hkl E4
            have nx : Hid (∀ (B : World), Ext wr B → partK g (r * g.cols.toNat + c + 1) = partK g (r * g.cols.toNat + c) → PtL g W0 mb (mb + 1) (r * g.cols.toNat + (c + 1)) L (.slice av L.length cv) ds B) := fun B hB e => (H.out.ext hB).next e
            by_cases hmem : ((r : Int), (c : Int)) ∈ (partK g (r * g.cols.toNat + c)).1
            · simp only [hmem, decide_true] at hlook
              have HEQ : Hid (partK g (r * g.cols.toNat + c + 1) = partK g (r * g.cols.toNat + c)) := by
                show _ = _
                rw [HST.out]; unfold partStep; rw [if_pos hmem]
              clear hmem
              gi_wp2
              refine ⟨trivial, ?_⟩
              gi_wp2
              exact ⟨⟨c + 1, L, av, cv, ds, _, _, _, _, _, _, _, _, _, _, _, _, _, _, _, _, _, _, _, _, _, _, _, _, _, _, _, _, _, _, _, _, _, _, _, _, _, _, _, _, _, _, _, _, _, _, _, _, _, by omega, by first | rfl | go_num, nx.out _ HE4.out HEQ.out⟩, by simp [fuel, Go.RowKit.intOf]; omega⟩
            · simp only [hmem, decide_false] at hlook
              cases hb : blk g ((r : Int), (c : Int))
              · have HEQ : Hid (partK g (r * g.cols.toNat + c + 1) = (insAll (partK g (r * g.cols.toNat + c)).1 ((wave g ((r : Int), (c : Int))).map (·.1)), (partK g (r * g.cols.toNat + c)).2 ++ [((wave g ((r : Int), (c : Int))).length : Int)])) := by
                  show _ = _
                  rw [HST.out]; unfold partStep; rw [if_neg hmem, if_neg (by simp [hb])]
                have HB := Lib.hid hb
                clear hmem hb
                gi_wp2_with fail
                refine ⟨trivial, rfl, ?_⟩
                gi_at_call 60
                refine (callsIn_wide.2 (blocked_any g ((r : Int), (c : Int)) ga gc _ HR.out HCr.out)).mono ?_
                rintro e w2 ⟨rfl, hE⟩
                rw [HB.out]
                have h1 := hE.cell g1'
                have h2 := hE.cell g2'
                have h3 := hE.cell g3'
                have h4 := hE.cell s2'
                have h5 := hE.cell e1
                have h6 := hE.cell e2
                have E2 := HE4.out.trans hE
                have zw2 : wr.heap.size < w2.heap.size := cell_lt h5
                have zn2 : w.heap.size < w2.heap.size := cell_lt h1
                have zs2 : mb + 1 < w2.heap.size := cell_lt h4
                have HC2 := Lib.hid (HCr.out.ext hE)
                clear g1 g2 g3 s2 g1' g2' g3' s2' e1 e2 hE hlook HCr nx zp zsb zn' HE4
                gi_wp2_with fail
                refine ⟨trivial, rfl, ?_⟩
                gi_at_call 61
                refine (callsIn_wide.2 (wave_any g ((r : Int), (c : Int)) _ _)).mono ?_
                rintro e w3 ⟨rfl, hw3⟩
                have E3 : Ext w2 (w2.alloc (.cells #[.int .i64 0] 3)) := (Ext.refl _).alloc _
                have n1 : (w2.alloc (.cells #[.int .i64 0] 3)).cell? ⟨w2.heap.size, 0, none⟩ = some (.int .i64 0) := by clear hw3; go_simp
                have n2 : (w2.alloc (.cells #[.int .i64 0] 3)).frozen? ⟨w2.heap.size, 0, none⟩ = false := by clear hw3; go_simp
                have E5 : Ext (w2.alloc (.cells #[.int .i64 0] 3)) w3 := by rw [← hw3]; exact ((Ext.refl _).alloc _).alloc _
                have hz3 : w3.heap.size = w2.heap.size + 3 := by rw [← hw3]; simp
                have G1 : w3.cell? ⟨w2.heap.size + 1, 0, none⟩ = some (.int .i64 g.rows) := by rw [← hw3]; clear hw3; go_simp
                have G2 : w3.cell? ⟨w2.heap.size + 1, 1, none⟩ = some (.int .i64 g.cols) := by rw [← hw3]; clear hw3; go_simp
                have G3 : w3.cell? ⟨w2.heap.size + 1, 2, none⟩ = some (.slice ga g.bl.length gc) := by rw [← hw3]; clear hw3; go_simp
                have P1 : w3.cell? ⟨w2.heap.size + 1 + 1, 0, none⟩ = some (.int .i64 (r : Int)) := by rw [← hw3]; clear hw3; go_simp
                have P2 : w3.cell? ⟨w2.heap.size + 1 + 1, 1, none⟩ = some (.int .i64 (c : Int)) := by rw [← hw3]; clear hw3; go_simp
                have n3 := E5.cell n1
                have n4 : w3.frozen? ⟨w2.heap.size, 0, none⟩ = false := (Below.frozen E5 (p := ⟨w2.heap.size, 0, none⟩) (by simp)).trans n2
                have E6 := (E2.trans E3).trans E5
                have HC3 := Lib.hid (HC2.out.ext (E3.trans E5))
                have h4' := (E3.trans E5).cell h4
                gi_wp2_with fail
                have hz6 := E6.size
                have HW := Lib.hid (wave_len HR.out HIN.out)
                clear hw3
                refine wpIn_wide.2 (parts_range _ _ rfl g ((r : Int), (c : Int)) ga gc w3 (w2.heap.size + 1 + 1) (w2.heap.size + 1) mb (mb + 1) w2.heap.size mb ((r * g.cols.toNat + c) * 4096) (partK g (r * g.cols.toNat + c)).1 HR.out HIN.out P1 P2 G1 G2 G3 HC3.out (by omega) (by omega)
                  (fun hne b off h => by have := HBL.out hne b off h; omega) ⟨n3, n4, h4', H.out.se.same (Below.block E6 _ H.out.se.lt), Chg.refl _ _, Below.refl _ _⟩ (by omega) (by omega) (by omega) (by omega) (by omega) (by have h8 := hkm.out; have h9 := hmx.out; omega) _ _ _ _ _ _ _ _ _ _ _ _ _ _ _ _ _ _ _ _ _ _ _ _ _ _ _ _ _ _ _ _ _ _ _ _ _ _ _ _ _ _ _ _ _ _ _ _ _ _ _ _ _ _ ds _ ?_)
                intro Db w4 k1 k2 h7 k4
                have H7 := Lib.hid h7
                have K4 := Lib.hid k4
                have d1 := h7.cn
                have hz4 : w3.heap.size ≤ w4.heap.size := h7.ch.1
                have V4 : Hid (OwnsI w4 (.slice av L.length cv) L) := (H.out.own.ext E6).kept (X := fun k => ¬ (k = w2.heap.size ∨ k = mb)) (n := 0) (h7.ch.kept (fun k hk _ => hk)) (fun b hb => by
                  have h8 := H.out.own.lt hb
                  have h9 := H.out.vb b hb
                  show ¬ _
                  omega)
                have hlen : L.length ≤ 4096 := by
                  have h8 := partK_len g (r * g.cols.toNat + c)
                  rw [← H.out.eq] at h8
                  have h9 := hkm.out
                  have h10 := hmx.out
                  omega
                obtain ⟨i0, hi, hi0, hi1, hi2⟩ := info_parts infoInt
                clear h7 k4 P1 P2 G1 G2 G3 n1 n2 n3 n4 h4' h1 h2 h3 h4 h5 h6
                gi_wp2_with (gi_at_builtin; refine wpListIn_append1 _ rfl _ _ 50 rfl 3 i0 (.int .i64 0) 1 8 Try.underlying50 hi hi0 hi1 hi2 rfl (by decide) (.slice av L.length cv) _ _ rfl (V4.out.ext ((Ext.refl _).alloc _)) ⟨w4.heap.size, 0, none⟩ 1 1 (by decide) [.int .i64 ((wave g ((r : Int), (c : Int))).length : Int)] rfl rfl (cell_one_int _ _ _) ?c1 ?c2 ?c3 ?c4)
                case c1 => intro u hu; simp at hu; subst hu; rfl
                case c2 => unfold maxLen; omega
                case c3 => omega
                case c4 =>
                  intro v' w5 hown5 hend5
                  have O5 := ownsI_succ hown5
                  obtain ⟨av', cv', rfl, _, hbk⟩ := O5.reads
                  have E4 : Ext w4 (w4.alloc (.cells #[.int .i64 ((wave g ((r : Int), (c : Int))).length : Int)] 3)) := (Ext.refl _).alloc _
                  have CA : Chg (fun k => (Value.slice av L.length cv).ownBlock = some k) (w4.alloc (.cells #[.int .i64 ((wave g ((r : Int), (c : Int))).length : Int)] 3)) w5 := Chg.app hend5 (fun b hb => hb)
                  have HCA := Lib.hid CA
                  have HE4 := Lib.hid E4
                  have HEND := Lib.hid hend5
                  have HO5 := Lib.hid O5
                  clear CA E4 hend5 hown5 O5 hbk d1
                  gi_wp2
                  have s0 : W0.heap.size ≤ wr.heap.size := H.out.be.size
                  have s2 : w4.heap.size + 1 ≤ w5.heap.size := by have := HCA.out.1; simp at this; omega
                  have C45 : Chg (fun k => (Value.slice av L.length cv).ownBlock = some k) w4 w5 := (Chg.ext HE4.out).trans HCA.out
                  have CC : Chg (fun k => (k = w2.heap.size ∨ k = mb) ∨ (Value.slice av L.length cv).ownBlock = some k) wr w5 :=
                    ((Chg.ext E6).trans (H7.out.ch.mono fun _ h => .inl h)).trans (C45.mono fun _ h => .inr h)
                  have nvb : ∀ b, (Value.slice av L.length cv).ownBlock = some b → W0.heap.size ≤ b ∧ b < wr.heap.size := fun b hb => ⟨H.out.vb b hb, H.out.own.lt hb⟩
                  have b4 : w5.heap[mb]? = w4.heap[mb]? := C45.2 mb (by omega) (fun e => by have := nvb mb e; omega)
                  have hsb : w5.cell? ⟨mb + 1, 0, none⟩ = some (.map (some mb)) :=
                    (World.cell?_of_block (w := w4) (a := ⟨mb + 1, 0, none⟩) (C45.2 (mb + 1) (by omega) (fun e => by have := nvb (mb + 1) e; omega))).trans H7.out.cm
                  refine ⟨⟨c + 1, L ++ [((wave g ((r : Int), (c : Int))).length : Int)], av', cv', mark Db :: ds, _, _, _, _, _, _, _, _, _, _, _, _, _, _, _, _, _, _, _, _, _, _, _, _, _, _, _, _, _, _, _, _, _, _, _, _, _, _, _, _, _, _, _, _, _, _, _, _, _, by omega, by first | rfl | (rw [List.length_append, List.length_singleton]; rfl), ?_⟩, by simp [fuel, Go.RowKit.intOf]; omega⟩
                  exact {
                    eq := by rw [← Nat.add_assoc, HEQ.out, H.out.eq]
                    se := by
                      rw [← Nat.add_assoc, HEQ.out]
                      refine (H7.out.se.same b4).mono ?_
                      have := HW.out
                      omega
                    cm := hsb
                    be := (((H.out.be.trans (E6.mono (by omega))).trans H7.out.be).trans (HE4.out.mono (by omega))).trans (HEND.out.below (by simp; omega) (fun b hb => by have := nvb b hb; omega))
                    own := HO5.out
                    vb := fun b hb => by
                      rcases HEND.out with ⟨h1, _, _⟩ | ⟨h1, _⟩
                      · rw [h1] at hb; exact H.out.vb b hb
                      · rw [h1] at hb
                        have hb' : b = (w4.alloc (.cells #[.int .i64 ((wave g ((r : Int), (c : Int))).length : Int)] 3)).heap.size := by cases hb; rfl
                        simp at hb'
                        omega
                    ms := Marks.cons (A := wr) H.out.ms (by omega) (by omega) (H.out.ms.keptX (X := fun k => ¬ ((k = w2.heap.size ∨ k = mb) ∨ (Value.slice av L.length cv).ownBlock = some k)) (CC.kept (fun k hk _ => hk)) (fun D _ hD => by
                        have hDl := (Array.getElem?_eq_some_iff.1 hD).1
                        rintro ((e | e) | e)
                        · omega
                        · obtain ⟨es, cl, h8⟩ := H.out.se.at
                          rw [e, h8] at hD
                          cases hD
                        · have := H.out.own.isCells e hD
                          cases this))
                      ((C45.2 Db k2 (fun e => by have := nvb Db e; omega)).trans K4.out) }
              · have HEQ : Hid (partK g (r * g.cols.toNat + c + 1) = partK g (r * g.cols.toNat + c)) := by
                  show _ = _
                  rw [HST.out]; unfold partStep; rw [if_neg hmem, if_pos hb]
                have HB := Lib.hid hb
                clear hmem hb
                gi_wp2_with fail
                refine ⟨trivial, rfl, ?_⟩
                gi_at_call 60
                refine (callsIn_wide.2 (blocked_any g ((r : Int), (c : Int)) ga gc _ HR.out HCr.out)).mono ?_
                rintro e w2 ⟨rfl, hE⟩
                rw [HB.out]
                gi_wp2
                exact ⟨⟨c + 1, L, av, cv, ds, _, _, _, _, _, _, _, _, _, _, _, _, _, _, _, _, _, _, _, _, _, _, _, _, _, _, _, _, _, _, _, _, _, _, _, _, _, _, _, _, _, _, _, _, _, _, _, _, _, by omega, by first | rfl | go_num, nx.out _ (HE4.out.trans hE) HEQ.out⟩, by simp [fuel, Go.RowKit.intOf]; omega⟩
          · have hlc' : ¬ (c : Int) < g.cols := by omega
            have HCE : Hid (r * g.cols.toNat + c = (r + 1) * g.cols.toNat) := by
              show _ = _
              rw [Nat.add_mul, Nat.one_mul, show c = g.cols.toNat by omega]
            gi_wp2
            refine ⟨⟨r + 1, L, av, cv, ds, _, _, _, _, _, _, _, _, _, _, _, _, _, _, _, _, _, _, _, _, _, _, _, _, _, _, _, _, _, _, _, _, _, _, _, _, _, _, _, _, _, _, _, _, _, _, _, _, _, _, _, _, by omega, rfl, by rw [← HCE.out]; exact H.out⟩, by simp [fuel, Go.RowKit.intOf]; omega⟩
      · have hlt' : ¬ (r : Int) < g.rows := by omega
        gi_wp2_with fail
        obtain rfl : r = g.rows.toNat := by omega
        refine ⟨trivial, rfl, ?_⟩
        gi_at_call 62
        have hL : L = partsU g := H.out.eq
        have hlen : L.length ≤ 4096 := by
          rw [hL]
          exact Nat.le_trans (partK_len g _) hmx.out
        refine (callsIn_wide.2 (SortFunc_any L (fun x hx => by
          have h1 := partK_bd HR.out _ (Nat.le_refl _) x (by rw [hL] at hx; exact hx)
          omega) _ _ H.out.own hlen)).mono ?_
        rintro e w5 ⟨rfl, ⟨av', cv', hv, hcI⟩, hbe, hch⟩
        cases hv
        have HCI := Lib.hid hcI
        have HBE := Lib.hid hbe
        have HCH := Lib.hid hch
        have HL := Lib.hid hL
        clear hcI hbe hch hL
        gi_wp2
        have hlen2 : (partsL g).length = L.length := by
          unfold partsL
          rw [if_neg (by simp [H0.out]), List.length_mergeSort, HL.out]
        have hval : partsL g = L.mergeSort fun x y => decide (y ≤ x) := by
          unfold partsL
          rw [if_neg (by simp [H0.out]), HL.out]
        refine leaves_keep (n := W0.heap.size) (v := .tuple #[.slice av L.length cv, .int .i64 0]) (fun w => (results_tmp2 (t := 2) (u := 3) rfl _ _ _).trans rfl) _ _
          (H.out.ms.kept fun D hD ho => (HCH.out.2 D (Array.getElem?_eq_some_iff.1 ho).1 (fun e => by have := H.out.own.isCells e ho; cases this)).trans ho) (fun w' hw' => ?_)
        refine ⟨av, cv, by rw [hlen2, H0.out], ?_, ?_⟩
        · rw [hval]; exact HCI.out.keep hw'
        · have z9 : w.heap.size ≤ W0.heap.size := EW.size
          have z8 : W0.heap.size ≤ wr.heap.size := H.out.be.size
          exact Below.trans (Below.trans (Below.trans EW (H.out.be.mono (by omega))) (HBE.out _ (by omega) (fun b hb => by have := H.out.vb b hb; omega))) (hw'.1.mono z9)
  · have hv : Hid (partsL g = []) := by show _ = _; unfold partsL; rw [if_pos h0]
    have hb : (chk g != 0) = true := by simp [h0]
    have hb2 : (chk g == 0) = false := by simp [h0]
    clear h0
    gi_wp2
    refine leaves_marks (n := w.heap.size) (v := .tuple #[.slice none 0 0, .int .i64 (chk g)]) (fun w => (results_tmp2 (t := 2) (u := 3) rfl _ _ _).trans rfl) _ _ (Marks.nil _ _) (fun w' hw' => ?_)
    refine ⟨none, 0, ?_, ?_, ?_⟩
    · rw [hv.out]; rfl
    · rw [hv.out]; exact CellsI.nil _ _
    · exact Below.trans E1 hw'
end Go.Proofs.Ytfigooilhnahfaa
/- The bundles of hoses, in plain Lean; lists of routes in memory. -/
namespace Go.Proofs.Ytfigooilhnahfaa
open Go.RowKit Go.Maps

abbrev Hose := Pt × Pt
def ph (hs : List Hose) (i : Nat) : Hose := hs.getD i ((0, 0), (0, 0))
/-- a list of pairs of places in memory -/
def Cells4 (w : World) (a : Option Addr) (hs : List Hose) : Prop :=
  ∀ i, i < hs.length → ∃ b off, a = some ⟨b, off, none⟩ ∧ w.cell? ⟨b, off + i * 4, none⟩ = some (.int .i64 (ph hs i).1.1) ∧ w.cell? ⟨b, off + i * 4 + 1, none⟩ = some (.int .i64 (ph hs i).1.2) ∧ w.cell? ⟨b, off + i * 4 + 2, none⟩ = some (.int .i64 (ph hs i).2.1) ∧ w.cell? ⟨b, off + i * 4 + 3, none⟩ = some (.int .i64 (ph hs i).2.2)
theorem Cells4.ext {w w' : World} {a : Option Addr} {l : List Hose} (h : Cells4 w a l) (he : Ext w w') : Cells4 w' a l := fun i hi => by
  obtain ⟨b, off, h1, h2, h3, h4, h5⟩ := h i hi
  exact ⟨b, off, h1, he.cell h2, he.cell h3, he.cell h4, he.cell h5⟩
theorem Cells4.below {m : Nat} {w w' : World} {a : Option Addr} {l : List Hose} (h : Cells4 w a l) (he : Below m w w') (hm : l ≠ [] → ∀ b off, a = some ⟨b, off, none⟩ → b < m) : Cells4 w' a l := fun i hi => by
  obtain ⟨b, off, h1, h2, h3, h4, h5⟩ := h i hi
  have hb := hm (by rintro rfl; simp at hi) b off h1
  exact ⟨b, off, h1, (he.cell (p := ⟨b, _, none⟩) hb).trans h2, (he.cell (p := ⟨b, _, none⟩) hb).trans h3, (he.cell (p := ⟨b, _, none⟩) hb).trans h4, (he.cell (p := ⟨b, _, none⟩) hb).trans h5⟩
theorem Cells4.lt {w : World} {a : Option Addr} {l : List Hose} (h : Cells4 w a l) (hne : l ≠ []) {b off : Nat} (ha : a = some ⟨b, off, none⟩) : b < w.heap.size := by
  obtain ⟨b', off', h1, h2, _⟩ := h 0 (List.length_pos_iff.2 hne)
  rw [ha] at h1
  cases h1
  exact cell_lt h2
theorem Cells2.below {m : Nat} {w w' : World} {a : Option Addr} {l : List Pt} (h : Cells2 w a l) (he : Below m w w') (hm : l ≠ [] → ∀ b off, a = some ⟨b, off, none⟩ → b < m) : Cells2 w' a l := fun i hi => by
  obtain ⟨b, off, h1, h2, h3⟩ := h i hi
  have hb := hm (by rintro rfl; simp at hi) b off h1
  exact ⟨b, off, h1, (he.cell (p := ⟨b, _, none⟩) hb).trans h2, (he.cell (p := ⟨b, _, none⟩) hb).trans h3⟩

def insP (S : List Hose) (a : Hose) : List Hose := if a ∈ S then S else a :: S
theorem insP_mem (S : List Hose) (a x : Hose) : x ∈ insP S a ↔ x ∈ S ∨ x = a := by
  unfold insP
  split
  · rename_i h
    constructor
    · exact .inl
    · rintro (h1 | rfl)
      · exact h1
      · exact h
  · rw [List.mem_cons]
    constructor
    · rintro (h | h)
      · exact .inr h
      · exact .inl h
    · rintro (h | h)
      · exact .inr h
      · exact .inl h
theorem insP_nodup {S : List Hose} (h : S.Nodup) (a : Hose) : (insP S a).Nodup := by
  unfold insP
  split
  · exact h
  · rename_i hn; exact List.nodup_cons.2 ⟨hn, h⟩
theorem insP_len (S : List Hose) (a : Hose) : (insP S a).length ≤ S.length + 1 := by
  unfold insP
  split
  · omega
  · simp
def pairOf (a b : Pt) : Hose := if 0 < ordP a b then (b, a) else (a, b)
def pairK (S : List Hose) (l : List Pt) : Nat → List Hose
  | 0 => S
  | j + 1 => insP (pairK S l j) (pairOf (pt l j) (pt l (j + 1)))
def pairsIn (S : List Hose) (l : List Pt) : List Hose := pairK S l (l.length - 1)
/-- the ducts behind the first k hoses -/
def ductK (g : Gr) (hs : List Hose) : Nat → List Hose
  | 0 => []
  | k + 1 => pairsIn (ductK g hs k) (way g (ph hs k).1 (ph hs k).2)
def hoseErr (g : Gr) (x : Hose) : Int := if cellsErr g [x.1, x.2] ≠ 0 then cellsErr g [x.1, x.2] else if dst g x.2 x.1 < 0 then 6 else 0
def hosesErr (g : Gr) (hs : List Hose) : Nat → Nat → Int
  | 0, _ => 0
  | n + 1, k => if hoseErr g (ph hs k) ≠ 0 then hoseErr g (ph hs k) else hosesErr g hs n (k + 1)
def ductE (g : Gr) (hs : List Hose) : Int := if chk g ≠ 0 then chk g else if 256 < hs.length then 5 else hosesErr g hs hs.length 0
def ductN (g : Gr) (hs : List Hose) : Int := if ductE g hs ≠ 0 then 0 else ((ductK g hs hs.length).length : Int)
def ways (g : Gr) (hs : List Hose) : Nat → List (List Pt)
  | 0 => []
  | k + 1 => ways g hs k ++ [way g (ph hs k).1 (ph hs k).2]
def ductL (g : Gr) (hs : List Hose) : List (List Pt) := if ductE g hs ≠ 0 then [] else ways g hs hs.length
theorem ways_len (g : Gr) (hs : List Hose) : ∀ k, (ways g hs k).length = k := by
  intro k
  induction k with
  | zero => rfl
  | succ k ih => simp [ways, ih]
theorem way_len (g : Gr) (p q : Pt) : (way g p q).length = (dst g q p).toNat + 1 := by unfold way; simp [wayGo_len]
theorem pairK_len (S : List Hose) (l : List Pt) : ∀ j, (pairK S l j).length ≤ S.length + j := by
  intro j
  induction j with
  | zero => exact Nat.le_refl _
  | succ j ih =>
    have := insP_len (pairK S l j) (pairOf (pt l j) (pt l (j + 1)))
    show (insP _ _).length ≤ _
    omega
theorem pairK_nodup {S : List Hose} (h : S.Nodup) (l : List Pt) : ∀ j, (pairK S l j).Nodup := by
  intro j
  induction j with
  | zero => exact h
  | succ j ih => exact insP_nodup ih _
theorem ductK_nodup (g : Gr) (hs : List Hose) : ∀ k, (ductK g hs k).Nodup := by
  intro k
  induction k with
  | zero => exact List.nodup_nil
  | succ k ih => exact pairK_nodup ih _ _

/-- the slice value v owns rows that own their places -/
def RowsO (w : World) (v : Value) (LL : List (List Pt)) : Prop :=
  ∃ vs : List Value, w.ownsRow 0 22 1 v LL.length vs ∧ vs.length = LL.length ∧ ∀ i, i < LL.length → Owns w (vs.getD i undef) (LL.getD i [])
/-- what one who is given the rows sees -/
def RowsR (w : World) (a : Option Addr) (LL : List (List Pt)) : Prop :=
  ∀ i, i < LL.length → ∃ b off ai ci, a = some ⟨b, off, none⟩ ∧ w.cell? ⟨b, off + i, none⟩ = some (.slice ai (LL.getD i []).length ci) ∧ Cells2 w ai (LL.getD i [])
theorem RowsR.ext {w w' : World} {a : Option Addr} {LL : List (List Pt)} (h : RowsR w a LL) (he : Ext w w') : RowsR w' a LL := fun i hi => by
  obtain ⟨b, off, ai, ci, h1, h2, h3⟩ := h i hi
  exact ⟨b, off, ai, ci, h1, he.cell h2, h3.ext he⟩
theorem RowsR.nil (w : World) (a : Option Addr) : RowsR w a [] := fun i hi => by simp at hi
theorem RowsO.nil (w : World) : RowsO w (.slice none 0 0) [] := ⟨[], World.ownsRow_nil w 0 _ _, rfl, fun i hi => by simp at hi⟩
theorem ownsRow_kept {X : Nat → Prop} {m : Nat} {A B : World} {e : TypeId} {s n : Nat} {v : Value} {xs : List Value} (ho : A.ownsRow 0 e s v n xs) (h : Kept X m A B) (hk : ∀ b, v.ownBlock = some b → X b) : B.ownsRow 0 e s v n xs := by
  obtain ⟨h1, h2⟩ := ho
  refine ⟨h1, ?_⟩
  rcases h2 with h2 | ⟨g, cap, cur, hv, hg, hh, r⟩
  · exact .inl h2
  · exact .inr ⟨g, cap, cur, hv, hg, h.2 g _ (hk g (by rw [hv]; rfl)) hh (.inl rfl), r⟩
theorem ownsRow_at {A : World} {e : TypeId} {s n : Nat} {v : Value} {xs : List Value} (ho : A.ownsRow 0 e s v n xs) {b : Nat} (hb : v.ownBlock = some b) : ∃ cur fr, A.heap[b]? = some (.cells cur e fr) := by
  rcases ho.2 with ⟨hv, _⟩ | ⟨g, cap, cur, hv, hg, hh, r⟩
  · rw [hv] at hb; cases hb
  · rw [hv] at hb; cases hb; exact ⟨_, _, hh⟩
theorem RowsO.kept {X : Nat → Prop} {m : Nat} {A B : World} {v : Value} {LL : List (List Pt)} (ho : RowsO A v LL) (h : Kept X m A B) (hk : ∀ b, v.ownBlock = some b → X b) (hX : ∀ b cur fr, A.heap[b]? = some (.cells cur 26 fr) → X b) : RowsO B v LL := by
  obtain ⟨vs, h1, h2, h3⟩ := ho
  refine ⟨vs, ownsRow_kept h1 h hk, h2, fun i hi => (h3 i hi).kept h (fun b hb => ?_)⟩
  obtain ⟨cur, fr, h4⟩ := ownsRow_at (h3 i hi) hb
  exact hX b cur fr h4
theorem RowsO.ext {A B : World} {v : Value} {LL : List (List Pt)} (ho : RowsO A v LL) (h : Ext A B) : RowsO B v LL := ho.kept (Kept.ext h (fun _ => True) 0) (fun _ _ => trivial) (fun _ _ _ _ => trivial)
theorem RowsO.shape {A : World} {v : Value} {LL : List (List Pt)} (ho : RowsO A v LL) : ∃ a cap, v = .slice a LL.length cap := by
  obtain ⟨vs, h1, _⟩ := ho
  rcases h1.2 with ⟨hv, hn⟩ | ⟨g, cap, cur, hv, _⟩
  · exact ⟨none, 0, by rw [hv, hn]⟩
  · exact ⟨_, cap, hv⟩
theorem RowsO.lt {A : World} {v : Value} {LL : List (List Pt)} (ho : RowsO A v LL) {b : Nat} (hb : v.ownBlock = some b) : b < A.heap.size := by
  obtain ⟨vs, h1, _⟩ := ho
  exact (World.ownsRow.lt h1 b hb).2
theorem RowsO.at {A : World} {v : Value} {LL : List (List Pt)} (ho : RowsO A v LL) {b : Nat} (hb : v.ownBlock = some b) : ∃ cur fr, A.heap[b]? = some (.cells cur 22 fr) := by
  obtain ⟨vs, h1, _⟩ := ho
  exact ownsRow_at h1 hb
theorem RowsO.reads {A : World} {v : Value} {LL : List (List Pt)} (ho : RowsO A v LL) : ∃ a cap, v = .slice a LL.length cap ∧ RowsR A a LL := by
  obtain ⟨vs, h1, h2, h3⟩ := ho
  rcases h1.2 with ⟨hv, hn⟩ | ⟨g, cap, cur, hv, hg, hh, hr⟩
  · have : LL = [] := List.eq_nil_of_length_eq_zero hn
    subst this
    exact ⟨none, 0, hv, RowsR.nil _ _⟩
  · refine ⟨some ⟨g, 0, none⟩, cap, hv, fun i hi => ?_⟩
    have hc := World.ownsRow.cells h1 (g := g) (by rw [hv]; rfl)
    have hi2 : i < vs.length := by omega
    obtain ⟨ai, ci, e1, e2, _⟩ := (h3 i hi).reads
    have := hc i (vs.getD i undef) (by simp [List.getD, hi2])
    rw [Addr.add_lit] at this
    rw [e1] at this
    exact ⟨g, 0, ai, ci, rfl, this, e2⟩
theorem rows_app {A B : World} {v v' u : Value} {vs : List Value} {LL : List (List Pt)} {L : List Pt} (h1 : A.ownsRow 0 22 1 v LL.length vs) (h2 : vs.length = LL.length) (h3 : ∀ i, i < LL.length → Owns A (vs.getD i undef) (LL.getD i [])) (hu : Owns A u L)
    (he : AppEnd A B v v') (h4 : B.ownsRow 0 22 1 v' (LL.length + 1) (vs ++ [u])) : RowsO B v' (LL ++ [L]) := by
  have K : Kept (fun k => v.ownBlock ≠ some k) 0 A B := Kept.grown he (fun b hb hn => hn hb)
  have keep : ∀ (x : Value) (N : List Pt), Owns A x N → Owns B x N := fun x N hx => hx.kept K (fun b hb hvb => by
    obtain ⟨c1, f1, e1⟩ := ownsRow_at hx hb
    obtain ⟨c2, f2, e2⟩ := ownsRow_at h1 hvb
    rw [e1] at e2
    injection e2 with e2
    injection e2 with _ e3 _
    exact absurd e3 (by decide))
  refine ⟨vs ++ [u], by rw [List.length_append, List.length_singleton]; exact h4, by simp [h2], fun i hi => ?_⟩
  by_cases e : i < LL.length
  · have e1 : (vs ++ [u]).getD i undef = vs.getD i undef := by simp [List.getD, List.getElem?_append_left (show i < vs.length by omega)]
    have e2 : (LL ++ [L]).getD i [] = LL.getD i [] := by simp [List.getD, List.getElem?_append_left e]
    rw [e1, e2]; exact keep _ _ (h3 i e)
  · have ei : i = LL.length := by simp at hi; omega
    have e1 : (vs ++ [u]).getD i undef = u := by rw [ei, ← h2]; simp [List.getD]
    have e2 : (LL ++ [L]).getD i [] = L := by rw [ei]; simp [List.getD]
    rw [e1, e2]; exact keep _ _ hu
theorem wayGo_opn {g : Gr} (hr : Right g) {q : Pt} (hq : opn g q = true) : ∀ (n : Nat) (a : Pt), opn g a = true → IsD g q a n → ∀ x ∈ wayGo g (dst g q) n a, opn g x = true := by
  intro n
  induction n with
  | zero => intro a _ _ x hx; cases hx
  | succ n ih =>
    intro a ha hd x hx
    have hda : dst g q a = (n : Int) + 1 := by have := dst_of hr (opn_inside hq) hd; rw [this]; omega
    obtain ⟨y, hy1, hy2⟩ := stepTo_ex hr hq ha hd
    have hs := stepTo_spec (g := g) (D := dst g q) (a := a) ⟨y, hy1, by rw [hy2, hda]; omega⟩
    rcases List.mem_cons.1 hx with rfl | hx
    · exact near_opn hs.1
    · exact ih _ (near_opn hs.1) (stepTo_isD hr hq hd hs.1 (by rw [hs.2, hda]; omega)) x hx
theorem way_isD {g : Gr} (hr : Right g) {p q : Pt} (hq : opn g q = true) (hneg : ¬ dst g q p < 0) : IsD g q p (dst g q p).toNat := by
  rcases dst_cases hr (opn_inside hq) p with ⟨k, h1, h2⟩ | ⟨_, h2⟩
  · rw [h2]; exact h1
  · omega
theorem way_opn {g : Gr} (hr : Right g) {p q : Pt} (hp : opn g p = true) (hq : opn g q = true) (hneg : ¬ dst g q p < 0) : ∀ x ∈ way g p q, opn g x = true := by
  intro x hx
  rcases List.mem_cons.1 hx with rfl | hx
  · exact hp
  · exact wayGo_opn hr hq _ _ hp (way_isD hr hq hneg) x hx
theorem infoRow : (Try.prog.info? 22).map (fun i => (i.zero, i.size, i.bytes)) = some (some (.slice none 0 0), 1, 24) := by kernel_rfl
end Go.Proofs.Ytfigooilhnahfaa
/- Ducts. -/
namespace Go.Proofs.Ytfigooilhnahfaa
open Go.RowKit Go.Maps

def setIns {α : Type} [DecidableEq α] (S : List α) (a : α) : List α := if a ∈ S then S else a :: S
theorem wpList_setAdd {α : Type} [DecidableEq α] {P : Program} {ev : α → Value} (w : World) {ops : Array Oper} {rest : List Oper} {o : Oper} {a : Act} {Q : Exit → Act → World → Prop}
    (hg : o.guard = none) (m x v : Operand) (t : TypeId) (hop : o.op = Op.mapUpdate t m x v) (k e : TypeId) (K : Keyed P k) (ht : P.underlying t = some (.map k e)) (he : P.underlying e = some .bool) (b n : Nat) (S : List α)
    (hm : a.eval m = .map (some b)) (hs : SetAt P k e ev w b n S) (hn : n < maxLen) (hinj : ∀ x y, ev x = ev y → x = y) (y : α) (kl : Lit) (hx : a.eval x = ev y) (hv : a.eval v = .bool true) (hkey : keyOf P k (ev y) = some kl)
    (hK : ∀ w', SetAt P k e ev w' b (n + 1) (setIns S y) → w.grownBy w' (some b) → wpList P ops Q rest (a.put o.dst undef) w') :
    wpList P ops Q (o :: rest) a w := by
  refine wpList_plain hg fun K' hK' => ?_
  obtain ⟨w', hrun, r1, r2⟩ := hs.update K ht he hn hinj hkey
  unfold Oper.wp
  simp [execOp, hop, hm, hx, hv, hrun, Result.andThen]
  exact hK' _ _ (hK w' r1 r2)

theorem SetAt.len {α : Type} [DecidableEq α] {P : Program} {k e : TypeId} {ev : α → Value} {w : World} {b n : Nat} {S : List α} (h : SetAt P k e ev w b n S) {t e' : TypeId} (ht : P.underlying t = some (.map k e')) (ty : TypeId) : (Builtin.len_ #[t] ty #[.map (some b)]).run P w = .ok (.int .i64 S.length) w := by
  obtain ⟨D, h1, _, h3, _⟩ := h
  rw [← h3]
  exact h1.len ht ty
theorem wpList_setLen {α : Type} [DecidableEq α] {P : Program} {ev : α → Value} (w : World) {ops : Array Oper} {rest : List Oper} {o : Oper} {a : Act} {Q : Exit → Act → World → Prop}
    (hg : o.guard = none) (m : Operand) (t : TypeId) (hop : o.op = Op.call { callee := Callee.builtin Builtin.len, args := #[m], argTypes := #[t] }) (k e : TypeId) (ht : P.underlying t = some (.map k e)) (b n : Nat) (S : List α)
    (hm : a.eval m = .map (some b)) (hs : SetAt P k e ev w b n S) (hK : wpList P ops Q rest (a.put o.dst (.int .i64 S.length)) w) :
    wpList P ops Q (o :: rest) a w := by
  refine wpList_plain hg fun K' hK' => ?_
  unfold Oper.wp
  simp [execOp, hop, resolve, invoke, builtin, hm, hs.len ht o.type, Result.andThen]
  exact hK' _ _ hK

theorem hosesErr_step {g : Gr} {hs : List Hose} {n k : Nat} (h : hoseErr g (ph hs k) = 0) : hosesErr g hs (n + 1) k = hosesErr g hs n (k + 1) := by
  conv => lhs; unfold hosesErr
  rw [if_neg (by simp [h])]
theorem hosesErr_stop {g : Gr} {hs : List Hose} {n k : Nat} (h : hoseErr g (ph hs k) ≠ 0) : hosesErr g hs (n + 1) k = hoseErr g (ph hs k) := by
  conv => lhs; unfold hosesErr
  rw [if_pos h]
theorem opn_of_cells {g : Gr} {p q : Pt} (h : cellsErr g [p, q] = 0) : opn g p = true ∧ opn g q = true := ⟨cells_ok h p (by simp), cells_ok h q (by simp)⟩

structure DkL (g : Gr) (hs : List Hose) (W0 : World) (mb k : Nat) (v : Value) (w : World) : Prop where
  se : ∃ n, n ≤ k * 4097 ∧ SetAt Try.prog 74 4 evPr w mb n (ductK g hs k)
  be : Below mb W0 w
  own : RowsO w v (ways g hs k)
  vb : ∀ b, v.ownBlock = some b → W0.heap.size ≤ b
theorem DkL.ext {g : Gr} {hs : List Hose} {W0 : World} {mb k : Nat} {v : Value} {A B : World} (h : DkL g hs W0 mb k v A) (x : Ext A B) : DkL g hs W0 mb k v B := by
  obtain ⟨n, h1, h2⟩ := h.se
  exact ⟨⟨n, h1, h2.ext x⟩, h.be.trans (x.mono (Nat.le_of_lt h2.lt)), h.own.ext x, h.vb⟩

def DuctsPost (g : Gr) (hs : List Hose) (w : World) (e : Ending) (w' : World) : Prop :=
  ∃ a cap, e = .returned (.tuple #[.slice a (ductL g hs).length cap, .int .i64 (ductN g hs), .int .i64 (ductE g hs)]) ∧ RowsR w' a (ductL g hs) ∧ Ext w w'
theorem DuctsPost.bad {g : Gr} {hs : List Hose} {w w' : World} {e : Int} (he : ductE g hs = e) (hne : e ≠ 0) (hx : Ext w w') : DuctsPost g hs w (.returned (.tuple #[.slice none 0 0, .int .i64 0, .int .i64 e])) w' := by
  subst he
  unfold DuctsPost ductL ductN
  rw [if_pos hne, if_pos hne]
  exact ⟨none, 0, rfl, RowsR.nil _ _, hx⟩

set_option maxHeartbeats 4000000 in
set_option maxRecDepth 100000 in
theorem Ducts_any (g : Gr) (hs : List Hose) (ga : Option Addr) (gc : Nat) (ha : Option Addr) (hcap : Nat) (w : World) (hg : g.bl.length ≤ maxLen) (hc : Cells2 w ga g.bl) (hl : hs.length ≤ maxLen) (hch : Cells4 w ha hs) (_hwf : ∀ i, i < hs.length → True) :
    Calls Try.prog 17 #[.agg #[.int .i64 g.rows, .int .i64 g.cols, .slice ga g.bl.length gc], .slice ha hs.length hcap] w fun e w' => DuctsPost g hs w e w' := by
  have HC : Hid (Cells2 w ga g.bl) := hc
  have HH : Hid (Cells4 w ha hs) := hch
  have HG := Lib.hid hg
  clear hc hg hch _hwf
  have E0 : Ext w (((w).alloc (.cells #[.int .i64 g.rows, .int .i64 g.cols, .slice ga g.bl.length gc] 33))) := (Ext.refl _).alloc _
  have a1 : (((w).alloc (.cells #[.int .i64 g.rows, .int .i64 g.cols, .slice ga g.bl.length gc] 33))).cell? ⟨w.heap.size, 0, none⟩ = some (.int .i64 g.rows) := by go_simp
  have a2 : (((w).alloc (.cells #[.int .i64 g.rows, .int .i64 g.cols, .slice ga g.bl.length gc] 33))).cell? ⟨w.heap.size, 1, none⟩ = some (.int .i64 g.cols) := by go_simp
  have a3 : (((w).alloc (.cells #[.int .i64 g.rows, .int .i64 g.cols, .slice ga g.bl.length gc] 33))).cell? ⟨w.heap.size, 2, none⟩ = some (.slice ga g.bl.length gc) := by go_simp
  have hmm := @run_makeMap Try.prog
  have hl' : hs.length ≤ 9223372036854775807 := hl
  clear hl
  go_enter Try.func17, Try.ntmps17
  go_wp2_with fail
  refine (Check_any g ga gc _ HG.out (HC.out.ext E0)).mono ?_
  rintro e w1 ⟨rfl, hE⟩
  have b1 := hE.cell a1
  have b2 := hE.cell a2
  have b3 := hE.cell a3
  have E1 : Ext w w1 := E0.trans hE
  have z1 : w.heap.size < w1.heap.size := cell_lt b1
  clear hE E0 a1 a2 a3
  by_cases h0 : chk g = 0
  · have HR := Lib.hid (right_of_chk h0)
    have H0 := Lib.hid h0
    rw [h0]
    clear h0
    by_cases hlen : 256 < hs.length
    · have hE : Hid (ductE g hs = 5) := by show _ = _; unfold ductE; rw [if_neg (by simp [H0.out]), if_pos hlen]
      have hlen' : (256 : Int) < (hs.length : Int) := by omega
      go_wp2
      go_ret3
      exact DuctsPost.bad hE.out (by decide) E1
    · have hE : Hid (ductE g hs = hosesErr g hs hs.length 0) := by show _ = _; unfold ductE; rw [if_neg (by simp [H0.out]), if_neg hlen]
      have hlen' : ¬ (256 : Int) < (hs.length : Int) := by omega
      go_wp2_with fail
      have E3 : Ext w1 (w1.alloc (.map #[] 0)) := (Ext.refl _).alloc _
      obtain ⟨mb, hmb⟩ : ∃ mb, mb = w1.heap.size := ⟨_, rfl⟩
      have M1 : Hid (SetAt Try.prog 74 4 evPr (w1.alloc (.map #[] 0)) w1.heap.size 0 []) := SetAt.made _ _ _ _ _
      have zW : (w1.alloc (.map #[] 0)).heap.size = w1.heap.size + 1 := by simp
      have c1 := E3.cell b1
      have c2 := E3.cell b2
      have c3 := E3.cell b3
      have EW := E1.trans E3
      rw [← hmb] at M1 zW ⊢
      have zn : w.heap.size < mb := by omega
      have HBL : Hid (g.bl ≠ [] → ∀ b off, ga = some ⟨b, off, none⟩ → b < mb) := fun hne b off hb => by
        have h1 := HC.out.lt hne hb
        have h2 := E1.size
        omega
      have HBH : Hid (hs ≠ [] → ∀ b off, ha = some ⟨b, off, none⟩ → b < mb) := fun hne b off hb => by
        have h1 := HH.out.lt hne hb
        have h2 := E1.size
        omega
      clear hmb E3 E1 b1 b2 b3 z1 hmm
      generalize (w1.alloc (.map #[] 0)) = W0 at M1 zW c1 c2 c3 EW ⊢
      have HCW := Lib.hid (HC.out.ext EW)
      have HHW := Lib.hid (HH.out.ext EW)
      go_loopw [8, 29] (fun v i wr => ∃ (k : Nat) (av : Option Addr) (cv : Nat), k ≤ hs.length ∧ i = .int .i64 k ∧ v = .slice av k cv ∧ Hid (hosesErr g hs hs.length 0 = hosesErr g hs (hs.length - k) k) ∧ Hid (DkL g hs W0 mb k (.slice av k cv) wr)) (fun _ i _ => hs.length - (Go.RowKit.intOf i).toNat)
      case atStart => exact ⟨0, none, 0, Nat.zero_le _, rfl, rfl, rfl, ⟨⟨0, by omega, M1.out⟩, Below.refl _ _, RowsO.nil _, fun b hb => by cases hb⟩⟩
      case round =>
        obtain ⟨k, av, cv, hk, rfl, rfl, hn, hd⟩ := hrel
        have g1 : wr.cell? ⟨w.heap.size, 0, none⟩ = some (.int .i64 g.rows) := (hd.out.be.cell (p := ⟨w.heap.size, 0, none⟩) zn).trans c1
        have g2 : wr.cell? ⟨w.heap.size, 1, none⟩ = some (.int .i64 g.cols) := (hd.out.be.cell (p := ⟨w.heap.size, 1, none⟩) zn).trans c2
        have g3 : wr.cell? ⟨w.heap.size, 2, none⟩ = some (.slice ga g.bl.length gc) := (hd.out.be.cell (p := ⟨w.heap.size, 2, none⟩) zn).trans c3
        have HCr : Hid (Cells2 wr ga g.bl) := HCW.out.below hd.out.be HBL.out
        by_cases hlt : k < hs.length
        · have hlt' : (k : Int) < (hs.length : Int) := by omega
          obtain ⟨hb, hoff, rfl, e1, e2, e3, e4⟩ := (HHW.out.below hd.out.be HBH.out) k hlt
          generalize hx : ph hs k = x at e1 e2 e3 e4
          have HX := Lib.hid hx
          clear hx
          have zh := cell_lt e1
          dsimp only at zh
          have zmb : mb < wr.heap.size := by obtain ⟨_, _, h⟩ := hd.out.se; exact h.lt
          have zn2 : w.heap.size < wr.heap.size := by omega
          go_wp2_with fail
          have V0 : Ext wr (wr.alloc (.cells #[.int .i64 x.1.1, .int .i64 x.1.2, .int .i64 x.2.1, .int .i64 x.2.2] 74)) := (Ext.refl _).alloc _
          have p1 : (wr.alloc (.cells #[.int .i64 x.1.1, .int .i64 x.1.2, .int .i64 x.2.1, .int .i64 x.2.2] 74)).cell? ⟨wr.heap.size, 0, none⟩ = some (.int .i64 x.1.1) := by go_simp
          have p2 : (wr.alloc (.cells #[.int .i64 x.1.1, .int .i64 x.1.2, .int .i64 x.2.1, .int .i64 x.2.2] 74)).cell? ⟨wr.heap.size, 1, none⟩ = some (.int .i64 x.1.2) := by go_simp
          have p3 : (wr.alloc (.cells #[.int .i64 x.1.1, .int .i64 x.1.2, .int .i64 x.2.1, .int .i64 x.2.2] 74)).cell? ⟨wr.heap.size, 2, none⟩ = some (.int .i64 x.2.1) := by go_simp
          have p4 : (wr.alloc (.cells #[.int .i64 x.1.1, .int .i64 x.1.2, .int .i64 x.2.1, .int .i64 x.2.2] 74)).cell? ⟨wr.heap.size, 3, none⟩ = some (.int .i64 x.2.2) := by go_simp
          have g1 := V0.cell g1
          have g2 := V0.cell g2
          have g3 := V0.cell g3
          have HD1 := Lib.hid (hd.out.ext V0)
          have HC1 := Lib.hid (HCr.out.ext V0)
          have zp : wr.heap.size < (wr.alloc (.cells #[.int .i64 x.1.1, .int .i64 x.1.2, .int .i64 x.2.1, .int .i64 x.2.2] 74)).heap.size := by simp
          have HE1 : Hid (Ext w (wr.alloc (.cells #[.int .i64 x.1.1, .int .i64 x.1.2, .int .i64 x.2.1, .int .i64 x.2.2] 74))) := (Below.trans EW (hd.out.be.mono (by omega))).alloc (by omega) _
          clear hd HCr e1 e2 e3 e4 V0
          generalize (wr.alloc (.cells #[.int .i64 x.1.1, .int .i64 x.1.2, .int .i64 x.2.1, .int .i64 x.2.2] 74)) = W1 at p1 p2 p3 p4 g1 g2 g3 HD1 HC1 HE1 zp ⊢
          have zg := cell_lt g1
          dsimp only at zg
          go_region_held3 (fun w' => Sees W1 w') ((repeat (first | exact Sees.refl _ | assumption | apply Sees.drew | apply Sees.alloc | (refine Sees.ext ?_ (by assumption))))) (first | (go_at_call 53; refine (cells_any g [x.1, x.2] ga gc _ _ _ HR.out (HC1.out.ext (by exact (show Sees W1 _ by assumption).2.2)) (by simp [maxLen]) ((cells2_two p1 p2 p3 p4).ext (by exact (show Sees W1 _ by assumption).2.2))).mono ?_; rintro e w' ⟨rfl, hE2⟩))
          have hS := (show Sees W1 _ by assumption).2.2
          have p1 := hS.cell p1
          have p2 := hS.cell p2
          have p3 := hS.cell p3
          have p4 := hS.cell p4
          have g1 := hS.cell g1
          have g2 := hS.cell g2
          have g3 := hS.cell g3
          have HD2 := Lib.hid (HD1.out.ext hS)
          have HC2 := Lib.hid (HC1.out.ext hS)
          have HE2 := Lib.hid (HE1.out.trans hS)
          have hz2 : W1.heap.size ≤ w'.heap.size := hS.size
          clear HD1 HC1 HE1 hS
          generalize w' = W2 at p1 p2 p3 p4 g1 g2 g3 HD2 HC2 HE2 hz2 ⊢
          have zp2 : wr.heap.size < W2.heap.size := by omega
          have zn3 : w.heap.size < W2.heap.size := by omega
          by_cases hce : cellsErr g [x.1, x.2] = 0
          · obtain ⟨ho1, ho2⟩ := opn_of_cells hce
            have HO1 := Lib.hid ho1
            have HO2 := Lib.hid ho2
            have HCE := Lib.hid hce
            rw [hce]
            clear hce ho1 ho2
            go_wp2_with fail
            refine (route_any g x.1 x.2 ga gc _ HR.out HO1.out HO2.out HC2.out).mono ?_
            rintro e W3 ⟨lv, rfl, hO, hE3⟩
            by_cases hneg : dst g x.2 x.1 < 0
            · have HBAD : Hid (ductE g hs = 6) := by
                show _ = _
                have h9 : hoseErr g x = 6 := by unfold hoseErr; rw [if_neg (by simp [HCE.out]), if_pos hneg]
                rw [hE.out, hn.out, show hs.length - k = (hs.length - (k + 1)) + 1 by omega, hosesErr_stop (by rw [HX.out, h9]; decide), HX.out, h9]
              rw [if_pos hneg]
              go_wp2
              go_ret3
              exact DuctsPost.bad HBAD.out (by decide) (HE2.out.trans hE3)
            · rw [if_neg hneg]
              have HOK : Hid (hosesErr g hs hs.length 0 = hosesErr g hs (hs.length - (k + 1)) (k + 1)) := by
                show _ = _
                have h9 : hoseErr g x = 0 := by unfold hoseErr; rw [if_neg (by simp [HCE.out]), if_neg hneg]
                rw [hn.out, show hs.length - k = (hs.length - (k + 1)) + 1 by omega, hosesErr_step (by rw [HX.out, h9])]
              have HD3 := Lib.hid (HD2.out.ext hE3)
              have HE3 := Lib.hid (HE2.out.trans hE3)
              have hrl : routeL g x.1 x.2 = way g x.1 x.2 := by unfold routeL; rw [if_neg hneg]
              rw [hrl] at hO
              have hLlen : (way g x.1 x.2).length ≤ 4097 ∧ 1 ≤ (way g x.1 x.2).length := by
                rw [way_len]
                have := dst_bd HR.out (opn_inside HO2.out) x.1
                omega
              have HIN : Hid (∀ i, i < (way g x.1 x.2).length → InG (pt (way g x.1 x.2) i)) := fun i hi => inG_of HR.out (opn_inside (way_opn HR.out HO1.out HO2.out hneg _ (pt_mem hi)))
              obtain ⟨la, lc, rfl, hLc, hLb⟩ := hO.reads
              have HO3 := Lib.hid hO
              have HLC := Lib.hid hLc
              have HW := Lib.hid hrl
              obtain ⟨n0, hn0, hS0⟩ := HD3.out.se
              have HS0 := Lib.hid hS0
              have hz3 : W2.heap.size ≤ W3.heap.size := hE3.size
              obtain ⟨L, hLeq⟩ : ∃ L, L = way g x.1 x.2 := ⟨_, rfl⟩
              rw [← hLeq] at hLlen HIN HO3 HLC ⊢
              have HLEQ := Lib.hid hLeq
              clear hS0 hO hLc hLb hrl hE3 p1 p2 p3 p4 g1 g2 g3 hLeq HW
              have hmW : mb < W3.heap.size := by omega
              go_wp2
              go_loopw [15] (fun i wr => ∃ j : Nat, j < L.length ∧ i = .int .i64 ((j : Int) + 1) ∧ Hid (SetAt Try.prog 74 4 evPr wr mb (n0 + j) (pairK (ductK g hs k) L j)) ∧ Hid (Chg (fun b => b = mb) W3 wr) ∧ Hid (Below mb W3 wr)) (fun i _ => L.length + 1 - (Go.RowKit.intOf i).toNat)
              case atStart => exact ⟨0, by omega, rfl, HS0.out, Chg.refl _ _, Below.refl _ _⟩
              case round =>
                obtain ⟨j, hj, rfl, HS, HCH, HBB⟩ := hrel
                by_cases hjl : j + 1 < L.length
                · have hjl' : (j : Int) + 1 < (L.length : Int) := by omega
                  obtain ⟨la', lc', hv', HLr, _⟩ := (HO3.out.kept (X := fun k => k ≠ mb) (n := 0) (HCH.out.kept (fun k hk _ => hk)) (fun b hb e => by
                    obtain ⟨c1, f1, e1⟩ := ownsRow_at HO3.out hb
                    obtain ⟨es, cl, h8⟩ := HS0.out.at
                    rw [e, h8] at e1; cases e1)).reads
                  cases hv'
                  have HLr := Lib.hid HLr
                  obtain ⟨lb, loff, rfl, d1, d2⟩ := HLr.out j (by omega)
                  obtain ⟨lb', loff', hla, d3, d4⟩ := HLr.out (j + 1) hjl
                  cases hla
                  have i1 := Lib.hid (HIN.out j (by omega))
                  have i2 := Lib.hid (HIN.out (j + 1) hjl)
                  have q0 : IntKind.i64.wrap ((j : Int) + 1 - 1) = (j : Int) := by
                    rw [show (j : Int) + 1 - 1 = (j : Int) by omega]; exact IntWalk.i64_in _ (by omega)
                  have zb := cell_lt d1
                  dsimp only at zb
                  have zm2 : mb < wr.heap.size := HS.out.lt
                  have q1 : ((j : Int) + 1).toNat = j + 1 := by omega
                  have q2 : IntKind.i64.wrap (j : Int) = (j : Int) := IntWalk.i64_in _ (by omega)
                  have q3 : (j : Int) < (L.length : Int) := by omega
                  have hkn : n0 + j ≤ 2000000 := by omega
                  by_cases hg0 : 0 < ordP (pt L j) (pt L (j + 1))
                  · have hgt : 0 < ordP (pt L j) (pt L (j + 1)) := by assumption
                    go_wp2_with fail
                    go_region
                    · have E3 : Ext wr (((wr.alloc (.cells #[.int .i64 (pt L j).1, .int .i64 (pt L j).2] 26)).alloc (.cells #[.int .i64 (pt L (j + 1)).1, .int .i64 (pt L (j + 1)).2] 26)).drew) := (((Ext.refl _).alloc _).alloc _).drew
                      have p1 : (((wr.alloc (.cells #[.int .i64 (pt L j).1, .int .i64 (pt L j).2] 26)).alloc (.cells #[.int .i64 (pt L (j + 1)).1, .int .i64 (pt L (j + 1)).2] 26)).drew).cell? ⟨wr.heap.size, 0, none⟩ = some (.int .i64 (pt L j).1) := by go_simp
                      have p2 : (((wr.alloc (.cells #[.int .i64 (pt L j).1, .int .i64 (pt L j).2] 26)).alloc (.cells #[.int .i64 (pt L (j + 1)).1, .int .i64 (pt L (j + 1)).2] 26)).drew).cell? ⟨wr.heap.size, 1, none⟩ = some (.int .i64 (pt L j).2) := by go_simp
                      have p3 : (((wr.alloc (.cells #[.int .i64 (pt L j).1, .int .i64 (pt L j).2] 26)).alloc (.cells #[.int .i64 (pt L (j + 1)).1, .int .i64 (pt L (j + 1)).2] 26)).drew).cell? ⟨wr.heap.size + 1, 0, none⟩ = some (.int .i64 (pt L (j + 1)).1) := by go_simp
                      have p4 : (((wr.alloc (.cells #[.int .i64 (pt L j).1, .int .i64 (pt L j).2] 26)).alloc (.cells #[.int .i64 (pt L (j + 1)).1, .int .i64 (pt L (j + 1)).2] 26)).drew).cell? ⟨wr.heap.size + 1, 1, none⟩ = some (.int .i64 (pt L (j + 1)).2) := by go_simp
                      have y1 : (((wr.alloc (.cells #[.int .i64 (pt L j).1, .int .i64 (pt L j).2] 26)).alloc (.cells #[.int .i64 (pt L (j + 1)).1, .int .i64 (pt L (j + 1)).2] 26)).drew).frozen? ⟨wr.heap.size, 0, none⟩ = false := by go_simp
                      have y2 : (((wr.alloc (.cells #[.int .i64 (pt L j).1, .int .i64 (pt L j).2] 26)).alloc (.cells #[.int .i64 (pt L (j + 1)).1, .int .i64 (pt L (j + 1)).2] 26)).drew).frozen? ⟨wr.heap.size, 1, none⟩ = false := by go_simp
                      have y3 : (((wr.alloc (.cells #[.int .i64 (pt L j).1, .int .i64 (pt L j).2] 26)).alloc (.cells #[.int .i64 (pt L (j + 1)).1, .int .i64 (pt L (j + 1)).2] 26)).drew).frozen? ⟨wr.heap.size + 1, 0, none⟩ = false := by go_simp
                      have y4 : (((wr.alloc (.cells #[.int .i64 (pt L j).1, .int .i64 (pt L j).2] 26)).alloc (.cells #[.int .i64 (pt L (j + 1)).1, .int .i64 (pt L (j + 1)).2] 26)).drew).frozen? ⟨wr.heap.size + 1, 1, none⟩ = false := by go_simp
                      have zz : wr.heap.size + 1 < (((wr.alloc (.cells #[.int .i64 (pt L j).1, .int .i64 (pt L j).2] 26)).alloc (.cells #[.int .i64 (pt L (j + 1)).1, .int .i64 (pt L (j + 1)).2] 26)).drew).heap.size := by simp
                      clear d1 d2 d3 d4
                      generalize (((wr.alloc (.cells #[.int .i64 (pt L j).1, .int .i64 (pt L j).2] 26)).alloc (.cells #[.int .i64 (pt L (j + 1)).1, .int .i64 (pt L (j + 1)).2] 26)).drew) = V at E3 p1 p2 p3 p4 y1 y2 y3 y4 zz ⊢
                      have x1 : wr.heap.size < V.heap.size := by omega
                      go_wp2_with fail
                      refine (order_any (pt L j) (pt L (j + 1)) _).mono ?_
                      rintro e W5 ⟨rfl, hE5⟩
                      have q1 := hE5.cell p1
                      have q2 := hE5.cell p2
                      have q3 := hE5.cell p3
                      have q4 := hE5.cell p4
                      have t1 := (hE5.frozen (p := ⟨wr.heap.size, 0, none⟩) (by show wr.heap.size < _; omega)).trans y1
                      have t2 := (hE5.frozen (p := ⟨wr.heap.size, 1, none⟩) (by show wr.heap.size < _; omega)).trans y2
                      have t3 := (hE5.frozen (p := ⟨wr.heap.size + 1, 0, none⟩) (by show wr.heap.size + 1 < _; omega)).trans y3
                      have t4 := (hE5.frozen (p := ⟨wr.heap.size + 1, 1, none⟩) (by show wr.heap.size + 1 < _; omega)).trans y4
                      have HS5 := Lib.hid (HS.out.ext (E3.trans hE5))
                      have EE := Lib.hid (E3.trans hE5)
                      clear p1 p2 p3 p4 y1 y2 y3 y4 E3 hE5
                      have HS6 : Hid (SetAt Try.prog 74 4 evPr ((((W5.setCell ⟨wr.heap.size, 0, none⟩ (.int .i64 (pt L (j + 1)).1)).setCell ⟨wr.heap.size, 1, none⟩ (.int .i64 (pt L (j + 1)).2)).setCell ⟨wr.heap.size + 1, 0, none⟩ (.int .i64 (pt L j).1)).setCell ⟨wr.heap.size + 1, 1, none⟩ (.int .i64 (pt L j).2)) mb (n0 + j) (pairK (ductK g hs k) L j)) := HS5.out.same (by rw [Below.heap_setCell _ _ _ _ (by show mb ≠ wr.heap.size + 1; omega), Below.heap_setCell _ _ _ _ (by show mb ≠ wr.heap.size + 1; omega), Below.heap_setCell _ _ _ _ (by show mb ≠ wr.heap.size; omega), Below.heap_setCell _ _ _ _ (by show mb ≠ wr.heap.size; omega)])
                      have EE6 : Hid (Below wr.heap.size wr ((((W5.setCell ⟨wr.heap.size, 0, none⟩ (.int .i64 (pt L (j + 1)).1)).setCell ⟨wr.heap.size, 1, none⟩ (.int .i64 (pt L (j + 1)).2)).setCell ⟨wr.heap.size + 1, 0, none⟩ (.int .i64 (pt L j).1)).setCell ⟨wr.heap.size + 1, 1, none⟩ (.int .i64 (pt L j).2))) := Below.setCell (p := ⟨wr.heap.size + 1, 1, none⟩) (Below.setCell (p := ⟨wr.heap.size + 1, 0, none⟩) (Below.setCell (p := ⟨wr.heap.size, 1, none⟩) (Below.setCell (p := ⟨wr.heap.size, 0, none⟩) EE.out (by show wr.heap.size ≤ wr.heap.size; omega) _) (by show wr.heap.size ≤ wr.heap.size; omega) _) (by show wr.heap.size ≤ wr.heap.size + 1; omega) _) (by show wr.heap.size ≤ wr.heap.size + 1; omega) _
                      obtain ⟨kl, hkl⟩ := keyPr (p := (pt L (j + 1), pt L j)) (wf_inG i2.out).1 (wf_inG i2.out).2 (wf_inG i1.out).1 (wf_inG i1.out).2
                      have HKL := Lib.hid hkl
                      clear hkl
                      go_wp2_with (at_mapUpdate; refine wpList_setAdd _ rfl _ _ _ 93 rfl 74 4 lawPr Try.underlying93 Try.underlying4 mb (n0 + j) (pairK (ductK g hs k) L j) rfl HS6.out ?hn evPr_inj (pt L (j + 1), pt L j) kl rfl rfl HKL.out ?hK)
                      case hn => unfold maxLen; omega
                      case hK =>
                        intro w6 hs6 hg6
                        have HS7 := Lib.hid hs6
                        have HG6 := Lib.hid hg6
                        clear hs6 hg6
                        go_wp2
                        refine ⟨⟨j + 1, by omega, by go_num, ?_, ?_, ?_⟩, by simp [Go.RowKit.intOf]; omega⟩
                        · have h9 := HS7.out
                          have hp : pairOf (pt L j) (pt L (j + 1)) = (pt L (j + 1), pt L j) := by unfold pairOf; rw [if_pos hgt]
                          show SetAt _ _ _ _ _ _ _ (insP _ _)
                          rw [hp]
                          unfold insP
                          unfold setIns at h9
                          rw [Nat.add_assoc] at h9
                          split at h9 <;> split <;> first | exact h9 | contradiction
                        · exact HCH.out.trans ⟨Nat.le_trans EE6.out.size HG6.out.size, fun b hb hn => (HG6.out.block b (Nat.lt_of_lt_of_le hb EE6.out.size) (fun e => hn (by cases e; rfl))).trans (EE6.out.block b hb)⟩
                        · exact (HBB.out.trans (EE6.out.mono (by omega))).grown HG6.out (Nat.le_trans (by omega) EE6.out.size) (fun j hj => by cases hj; exact Nat.le_refl _)
                    · have E3 : Ext wr (((wr.alloc (.cells #[.int .i64 (pt L (j + 1)).1, .int .i64 (pt L (j + 1)).2] 26)).alloc (.cells #[.int .i64 (pt L j).1, .int .i64 (pt L j).2] 26)).drew) := (((Ext.refl _).alloc _).alloc _).drew
                      have p1 : (((wr.alloc (.cells #[.int .i64 (pt L (j + 1)).1, .int .i64 (pt L (j + 1)).2] 26)).alloc (.cells #[.int .i64 (pt L j).1, .int .i64 (pt L j).2] 26)).drew).cell? ⟨wr.heap.size + 1, 0, none⟩ = some (.int .i64 (pt L j).1) := by go_simp
                      have p2 : (((wr.alloc (.cells #[.int .i64 (pt L (j + 1)).1, .int .i64 (pt L (j + 1)).2] 26)).alloc (.cells #[.int .i64 (pt L j).1, .int .i64 (pt L j).2] 26)).drew).cell? ⟨wr.heap.size + 1, 1, none⟩ = some (.int .i64 (pt L j).2) := by go_simp
                      have p3 : (((wr.alloc (.cells #[.int .i64 (pt L (j + 1)).1, .int .i64 (pt L (j + 1)).2] 26)).alloc (.cells #[.int .i64 (pt L j).1, .int .i64 (pt L j).2] 26)).drew).cell? ⟨wr.heap.size, 0, none⟩ = some (.int .i64 (pt L (j + 1)).1) := by go_simp
                      have p4 : (((wr.alloc (.cells #[.int .i64 (pt L (j + 1)).1, .int .i64 (pt L (j + 1)).2] 26)).alloc (.cells #[.int .i64 (pt L j).1, .int .i64 (pt L j).2] 26)).drew).cell? ⟨wr.heap.size, 1, none⟩ = some (.int .i64 (pt L (j + 1)).2) := by go_simp
                      have y1 : (((wr.alloc (.cells #[.int .i64 (pt L (j + 1)).1, .int .i64 (pt L (j + 1)).2] 26)).alloc (.cells #[.int .i64 (pt L j).1, .int .i64 (pt L j).2] 26)).drew).frozen? ⟨wr.heap.size + 1, 0, none⟩ = false := by go_simp
                      have y2 : (((wr.alloc (.cells #[.int .i64 (pt L (j + 1)).1, .int .i64 (pt L (j + 1)).2] 26)).alloc (.cells #[.int .i64 (pt L j).1, .int .i64 (pt L j).2] 26)).drew).frozen? ⟨wr.heap.size + 1, 1, none⟩ = false := by go_simp
                      have y3 : (((wr.alloc (.cells #[.int .i64 (pt L (j + 1)).1, .int .i64 (pt L (j + 1)).2] 26)).alloc (.cells #[.int .i64 (pt L j).1, .int .i64 (pt L j).2] 26)).drew).frozen? ⟨wr.heap.size, 0, none⟩ = false := by go_simp
                      have y4 : (((wr.alloc (.cells #[.int .i64 (pt L (j + 1)).1, .int .i64 (pt L (j + 1)).2] 26)).alloc (.cells #[.int .i64 (pt L j).1, .int .i64 (pt L j).2] 26)).drew).frozen? ⟨wr.heap.size, 1, none⟩ = false := by go_simp
                      have zz : wr.heap.size + 1 < (((wr.alloc (.cells #[.int .i64 (pt L (j + 1)).1, .int .i64 (pt L (j + 1)).2] 26)).alloc (.cells #[.int .i64 (pt L j).1, .int .i64 (pt L j).2] 26)).drew).heap.size := by simp
                      clear d1 d2 d3 d4
                      generalize (((wr.alloc (.cells #[.int .i64 (pt L (j + 1)).1, .int .i64 (pt L (j + 1)).2] 26)).alloc (.cells #[.int .i64 (pt L j).1, .int .i64 (pt L j).2] 26)).drew) = V at E3 p1 p2 p3 p4 y1 y2 y3 y4 zz ⊢
                      have x1 : wr.heap.size < V.heap.size := by omega
                      go_wp2_with fail
                      refine (order_any (pt L j) (pt L (j + 1)) _).mono ?_
                      rintro e W5 ⟨rfl, hE5⟩
                      have q1 := hE5.cell p1
                      have q2 := hE5.cell p2
                      have q3 := hE5.cell p3
                      have q4 := hE5.cell p4
                      have t1 := (hE5.frozen (p := ⟨wr.heap.size + 1, 0, none⟩) (by show wr.heap.size + 1 < _; omega)).trans y1
                      have t2 := (hE5.frozen (p := ⟨wr.heap.size + 1, 1, none⟩) (by show wr.heap.size + 1 < _; omega)).trans y2
                      have t3 := (hE5.frozen (p := ⟨wr.heap.size, 0, none⟩) (by show wr.heap.size < _; omega)).trans y3
                      have t4 := (hE5.frozen (p := ⟨wr.heap.size, 1, none⟩) (by show wr.heap.size < _; omega)).trans y4
                      have HS5 := Lib.hid (HS.out.ext (E3.trans hE5))
                      have EE := Lib.hid (E3.trans hE5)
                      clear p1 p2 p3 p4 y1 y2 y3 y4 E3 hE5
                      have HS6 : Hid (SetAt Try.prog 74 4 evPr ((((W5.setCell ⟨wr.heap.size + 1, 0, none⟩ (.int .i64 (pt L (j + 1)).1)).setCell ⟨wr.heap.size + 1, 1, none⟩ (.int .i64 (pt L (j + 1)).2)).setCell ⟨wr.heap.size, 0, none⟩ (.int .i64 (pt L j).1)).setCell ⟨wr.heap.size, 1, none⟩ (.int .i64 (pt L j).2)) mb (n0 + j) (pairK (ductK g hs k) L j)) := HS5.out.same (by rw [Below.heap_setCell _ _ _ _ (by show mb ≠ wr.heap.size; omega), Below.heap_setCell _ _ _ _ (by show mb ≠ wr.heap.size; omega), Below.heap_setCell _ _ _ _ (by show mb ≠ wr.heap.size + 1; omega), Below.heap_setCell _ _ _ _ (by show mb ≠ wr.heap.size + 1; omega)])
                      have EE6 : Hid (Below wr.heap.size wr ((((W5.setCell ⟨wr.heap.size + 1, 0, none⟩ (.int .i64 (pt L (j + 1)).1)).setCell ⟨wr.heap.size + 1, 1, none⟩ (.int .i64 (pt L (j + 1)).2)).setCell ⟨wr.heap.size, 0, none⟩ (.int .i64 (pt L j).1)).setCell ⟨wr.heap.size, 1, none⟩ (.int .i64 (pt L j).2))) := Below.setCell (p := ⟨wr.heap.size, 1, none⟩) (Below.setCell (p := ⟨wr.heap.size, 0, none⟩) (Below.setCell (p := ⟨wr.heap.size + 1, 1, none⟩) (Below.setCell (p := ⟨wr.heap.size + 1, 0, none⟩) EE.out (by show wr.heap.size ≤ wr.heap.size + 1; omega) _) (by show wr.heap.size ≤ wr.heap.size + 1; omega) _) (by show wr.heap.size ≤ wr.heap.size; omega) _) (by show wr.heap.size ≤ wr.heap.size; omega) _
                      obtain ⟨kl, hkl⟩ := keyPr (p := (pt L (j + 1), pt L j)) (wf_inG i2.out).1 (wf_inG i2.out).2 (wf_inG i1.out).1 (wf_inG i1.out).2
                      have HKL := Lib.hid hkl
                      clear hkl
                      go_wp2_with (at_mapUpdate; refine wpList_setAdd _ rfl _ _ _ 93 rfl 74 4 lawPr Try.underlying93 Try.underlying4 mb (n0 + j) (pairK (ductK g hs k) L j) rfl HS6.out ?hn evPr_inj (pt L (j + 1), pt L j) kl rfl rfl HKL.out ?hK)
                      case hn => unfold maxLen; omega
                      case hK =>
                        intro w6 hs6 hg6
                        have HS7 := Lib.hid hs6
                        have HG6 := Lib.hid hg6
                        clear hs6 hg6
                        go_wp2
                        refine ⟨⟨j + 1, by omega, by go_num, ?_, ?_, ?_⟩, by simp [Go.RowKit.intOf]; omega⟩
                        · have h9 := HS7.out
                          have hp : pairOf (pt L j) (pt L (j + 1)) = (pt L (j + 1), pt L j) := by unfold pairOf; rw [if_pos hgt]
                          show SetAt _ _ _ _ _ _ _ (insP _ _)
                          rw [hp]
                          unfold insP
                          unfold setIns at h9
                          rw [Nat.add_assoc] at h9
                          split at h9 <;> split <;> first | exact h9 | contradiction
                        · exact HCH.out.trans ⟨Nat.le_trans EE6.out.size HG6.out.size, fun b hb hn => (HG6.out.block b (Nat.lt_of_lt_of_le hb EE6.out.size) (fun e => hn (by cases e; rfl))).trans (EE6.out.block b hb)⟩
                        · exact (HBB.out.trans (EE6.out.mono (by omega))).grown HG6.out (Nat.le_trans (by omega) EE6.out.size) (fun j hj => by cases hj; exact Nat.le_refl _)
                  · have hgt : ¬ 0 < ordP (pt L j) (pt L (j + 1)) := by assumption
                    go_wp2_with fail
                    go_region
                    · have E3 : Ext wr (((wr.alloc (.cells #[.int .i64 (pt L j).1, .int .i64 (pt L j).2] 26)).alloc (.cells #[.int .i64 (pt L (j + 1)).1, .int .i64 (pt L (j + 1)).2] 26)).drew) := (((Ext.refl _).alloc _).alloc _).drew
                      have p1 : (((wr.alloc (.cells #[.int .i64 (pt L j).1, .int .i64 (pt L j).2] 26)).alloc (.cells #[.int .i64 (pt L (j + 1)).1, .int .i64 (pt L (j + 1)).2] 26)).drew).cell? ⟨wr.heap.size, 0, none⟩ = some (.int .i64 (pt L j).1) := by go_simp
                      have p2 : (((wr.alloc (.cells #[.int .i64 (pt L j).1, .int .i64 (pt L j).2] 26)).alloc (.cells #[.int .i64 (pt L (j + 1)).1, .int .i64 (pt L (j + 1)).2] 26)).drew).cell? ⟨wr.heap.size, 1, none⟩ = some (.int .i64 (pt L j).2) := by go_simp
                      have p3 : (((wr.alloc (.cells #[.int .i64 (pt L j).1, .int .i64 (pt L j).2] 26)).alloc (.cells #[.int .i64 (pt L (j + 1)).1, .int .i64 (pt L (j + 1)).2] 26)).drew).cell? ⟨wr.heap.size + 1, 0, none⟩ = some (.int .i64 (pt L (j + 1)).1) := by go_simp
                      have p4 : (((wr.alloc (.cells #[.int .i64 (pt L j).1, .int .i64 (pt L j).2] 26)).alloc (.cells #[.int .i64 (pt L (j + 1)).1, .int .i64 (pt L (j + 1)).2] 26)).drew).cell? ⟨wr.heap.size + 1, 1, none⟩ = some (.int .i64 (pt L (j + 1)).2) := by go_simp
                      have y1 : (((wr.alloc (.cells #[.int .i64 (pt L j).1, .int .i64 (pt L j).2] 26)).alloc (.cells #[.int .i64 (pt L (j + 1)).1, .int .i64 (pt L (j + 1)).2] 26)).drew).frozen? ⟨wr.heap.size, 0, none⟩ = false := by go_simp
                      have y2 : (((wr.alloc (.cells #[.int .i64 (pt L j).1, .int .i64 (pt L j).2] 26)).alloc (.cells #[.int .i64 (pt L (j + 1)).1, .int .i64 (pt L (j + 1)).2] 26)).drew).frozen? ⟨wr.heap.size, 1, none⟩ = false := by go_simp
                      have y3 : (((wr.alloc (.cells #[.int .i64 (pt L j).1, .int .i64 (pt L j).2] 26)).alloc (.cells #[.int .i64 (pt L (j + 1)).1, .int .i64 (pt L (j + 1)).2] 26)).drew).frozen? ⟨wr.heap.size + 1, 0, none⟩ = false := by go_simp
                      have y4 : (((wr.alloc (.cells #[.int .i64 (pt L j).1, .int .i64 (pt L j).2] 26)).alloc (.cells #[.int .i64 (pt L (j + 1)).1, .int .i64 (pt L (j + 1)).2] 26)).drew).frozen? ⟨wr.heap.size + 1, 1, none⟩ = false := by go_simp
                      have zz : wr.heap.size + 1 < (((wr.alloc (.cells #[.int .i64 (pt L j).1, .int .i64 (pt L j).2] 26)).alloc (.cells #[.int .i64 (pt L (j + 1)).1, .int .i64 (pt L (j + 1)).2] 26)).drew).heap.size := by simp
                      clear d1 d2 d3 d4
                      generalize (((wr.alloc (.cells #[.int .i64 (pt L j).1, .int .i64 (pt L j).2] 26)).alloc (.cells #[.int .i64 (pt L (j + 1)).1, .int .i64 (pt L (j + 1)).2] 26)).drew) = V at E3 p1 p2 p3 p4 y1 y2 y3 y4 zz ⊢
                      have x1 : wr.heap.size < V.heap.size := by omega
                      go_wp2_with fail
                      refine (order_any (pt L j) (pt L (j + 1)) _).mono ?_
                      rintro e W5 ⟨rfl, hE5⟩
                      have q1 := hE5.cell p1
                      have q2 := hE5.cell p2
                      have q3 := hE5.cell p3
                      have q4 := hE5.cell p4
                      have t1 := (hE5.frozen (p := ⟨wr.heap.size, 0, none⟩) (by show wr.heap.size < _; omega)).trans y1
                      have t2 := (hE5.frozen (p := ⟨wr.heap.size, 1, none⟩) (by show wr.heap.size < _; omega)).trans y2
                      have t3 := (hE5.frozen (p := ⟨wr.heap.size + 1, 0, none⟩) (by show wr.heap.size + 1 < _; omega)).trans y3
                      have t4 := (hE5.frozen (p := ⟨wr.heap.size + 1, 1, none⟩) (by show wr.heap.size + 1 < _; omega)).trans y4
                      have HS5 := Lib.hid (HS.out.ext (E3.trans hE5))
                      have EE := Lib.hid (E3.trans hE5)
                      clear p1 p2 p3 p4 y1 y2 y3 y4 E3 hE5
                      have HS6 := HS5
                      have EE6 : Hid (Below wr.heap.size wr W5) := EE.out
                      obtain ⟨kl, hkl⟩ := keyPr (p := (pt L j, pt L (j + 1))) (wf_inG i1.out).1 (wf_inG i1.out).2 (wf_inG i2.out).1 (wf_inG i2.out).2
                      have HKL := Lib.hid hkl
                      clear hkl
                      go_wp2_with (at_mapUpdate; refine wpList_setAdd _ rfl _ _ _ 93 rfl 74 4 lawPr Try.underlying93 Try.underlying4 mb (n0 + j) (pairK (ductK g hs k) L j) rfl HS6.out ?hn evPr_inj (pt L j, pt L (j + 1)) kl rfl rfl HKL.out ?hK)
                      case hn => unfold maxLen; omega
                      case hK =>
                        intro w6 hs6 hg6
                        have HS7 := Lib.hid hs6
                        have HG6 := Lib.hid hg6
                        clear hs6 hg6
                        go_wp2
                        refine ⟨⟨j + 1, by omega, by go_num, ?_, ?_, ?_⟩, by simp [Go.RowKit.intOf]; omega⟩
                        · have h9 := HS7.out
                          have hp : pairOf (pt L j) (pt L (j + 1)) = (pt L j, pt L (j + 1)) := by unfold pairOf; rw [if_neg (by omega)]
                          show SetAt _ _ _ _ _ _ _ (insP _ _)
                          rw [hp]
                          unfold insP
                          unfold setIns at h9
                          rw [Nat.add_assoc] at h9
                          split at h9 <;> split <;> first | exact h9 | contradiction
                        · exact HCH.out.trans ⟨Nat.le_trans EE6.out.size HG6.out.size, fun b hb hn => (HG6.out.block b (Nat.lt_of_lt_of_le hb EE6.out.size) (fun e => hn (by cases e; rfl))).trans (EE6.out.block b hb)⟩
                        · exact (HBB.out.trans (EE6.out.mono (by omega))).grown HG6.out (Nat.le_trans (by omega) EE6.out.size) (fun j hj => by cases hj; exact Nat.le_refl _)
                    · have E3 : Ext wr (((wr.alloc (.cells #[.int .i64 (pt L (j + 1)).1, .int .i64 (pt L (j + 1)).2] 26)).alloc (.cells #[.int .i64 (pt L j).1, .int .i64 (pt L j).2] 26)).drew) := (((Ext.refl _).alloc _).alloc _).drew
                      have p1 : (((wr.alloc (.cells #[.int .i64 (pt L (j + 1)).1, .int .i64 (pt L (j + 1)).2] 26)).alloc (.cells #[.int .i64 (pt L j).1, .int .i64 (pt L j).2] 26)).drew).cell? ⟨wr.heap.size + 1, 0, none⟩ = some (.int .i64 (pt L j).1) := by go_simp
                      have p2 : (((wr.alloc (.cells #[.int .i64 (pt L (j + 1)).1, .int .i64 (pt L (j + 1)).2] 26)).alloc (.cells #[.int .i64 (pt L j).1, .int .i64 (pt L j).2] 26)).drew).cell? ⟨wr.heap.size + 1, 1, none⟩ = some (.int .i64 (pt L j).2) := by go_simp
                      have p3 : (((wr.alloc (.cells #[.int .i64 (pt L (j + 1)).1, .int .i64 (pt L (j + 1)).2] 26)).alloc (.cells #[.int .i64 (pt L j).1, .int .i64 (pt L j).2] 26)).drew).cell? ⟨wr.heap.size, 0, none⟩ = some (.int .i64 (pt L (j + 1)).1) := by go_simp
                      have p4 : (((wr.alloc (.cells #[.int .i64 (pt L (j + 1)).1, .int .i64 (pt L (j + 1)).2] 26)).alloc (.cells #[.int .i64 (pt L j).1, .int .i64 (pt L j).2] 26)).drew).cell? ⟨wr.heap.size, 1, none⟩ = some (.int .i64 (pt L (j + 1)).2) := by go_simp
                      have y1 : (((wr.alloc (.cells #[.int .i64 (pt L (j + 1)).1, .int .i64 (pt L (j + 1)).2] 26)).alloc (.cells #[.int .i64 (pt L j).1, .int .i64 (pt L j).2] 26)).drew).frozen? ⟨wr.heap.size + 1, 0, none⟩ = false := by go_simp
                      have y2 : (((wr.alloc (.cells #[.int .i64 (pt L (j + 1)).1, .int .i64 (pt L (j + 1)).2] 26)).alloc (.cells #[.int .i64 (pt L j).1, .int .i64 (pt L j).2] 26)).drew).frozen? ⟨wr.heap.size + 1, 1, none⟩ = false := by go_simp
                      have y3 : (((wr.alloc (.cells #[.int .i64 (pt L (j + 1)).1, .int .i64 (pt L (j + 1)).2] 26)).alloc (.cells #[.int .i64 (pt L j).1, .int .i64 (pt L j).2] 26)).drew).frozen? ⟨wr.heap.size, 0, none⟩ = false := by go_simp
                      have y4 : (((wr.alloc (.cells #[.int .i64 (pt L (j + 1)).1, .int .i64 (pt L (j + 1)).2] 26)).alloc (.cells #[.int .i64 (pt L j).1, .int .i64 (pt L j).2] 26)).drew).frozen? ⟨wr.heap.size, 1, none⟩ = false := by go_simp
                      have zz : wr.heap.size + 1 < (((wr.alloc (.cells #[.int .i64 (pt L (j + 1)).1, .int .i64 (pt L (j + 1)).2] 26)).alloc (.cells #[.int .i64 (pt L j).1, .int .i64 (pt L j).2] 26)).drew).heap.size := by simp
                      clear d1 d2 d3 d4
                      generalize (((wr.alloc (.cells #[.int .i64 (pt L (j + 1)).1, .int .i64 (pt L (j + 1)).2] 26)).alloc (.cells #[.int .i64 (pt L j).1, .int .i64 (pt L j).2] 26)).drew) = V at E3 p1 p2 p3 p4 y1 y2 y3 y4 zz ⊢
                      have x1 : wr.heap.size < V.heap.size := by omega
                      go_wp2_with fail
                      refine (order_any (pt L j) (pt L (j + 1)) _).mono ?_
                      rintro e W5 ⟨rfl, hE5⟩
                      have q1 := hE5.cell p1
                      have q2 := hE5.cell p2
                      have q3 := hE5.cell p3
                      have q4 := hE5.cell p4
                      have t1 := (hE5.frozen (p := ⟨wr.heap.size + 1, 0, none⟩) (by show wr.heap.size + 1 < _; omega)).trans y1
                      have t2 := (hE5.frozen (p := ⟨wr.heap.size + 1, 1, none⟩) (by show wr.heap.size + 1 < _; omega)).trans y2
                      have t3 := (hE5.frozen (p := ⟨wr.heap.size, 0, none⟩) (by show wr.heap.size < _; omega)).trans y3
                      have t4 := (hE5.frozen (p := ⟨wr.heap.size, 1, none⟩) (by show wr.heap.size < _; omega)).trans y4
                      have HS5 := Lib.hid (HS.out.ext (E3.trans hE5))
                      have EE := Lib.hid (E3.trans hE5)
                      clear p1 p2 p3 p4 y1 y2 y3 y4 E3 hE5
                      have HS6 := HS5
                      have EE6 : Hid (Below wr.heap.size wr W5) := EE.out
                      obtain ⟨kl, hkl⟩ := keyPr (p := (pt L j, pt L (j + 1))) (wf_inG i1.out).1 (wf_inG i1.out).2 (wf_inG i2.out).1 (wf_inG i2.out).2
                      have HKL := Lib.hid hkl
                      clear hkl
                      go_wp2_with (at_mapUpdate; refine wpList_setAdd _ rfl _ _ _ 93 rfl 74 4 lawPr Try.underlying93 Try.underlying4 mb (n0 + j) (pairK (ductK g hs k) L j) rfl HS6.out ?hn evPr_inj (pt L j, pt L (j + 1)) kl rfl rfl HKL.out ?hK)
                      case hn => unfold maxLen; omega
                      case hK =>
                        intro w6 hs6 hg6
                        have HS7 := Lib.hid hs6
                        have HG6 := Lib.hid hg6
                        clear hs6 hg6
                        go_wp2
                        refine ⟨⟨j + 1, by omega, by go_num, ?_, ?_, ?_⟩, by simp [Go.RowKit.intOf]; omega⟩
                        · have h9 := HS7.out
                          have hp : pairOf (pt L j) (pt L (j + 1)) = (pt L j, pt L (j + 1)) := by unfold pairOf; rw [if_neg (by omega)]
                          show SetAt _ _ _ _ _ _ _ (insP _ _)
                          rw [hp]
                          unfold insP
                          unfold setIns at h9
                          rw [Nat.add_assoc] at h9
                          split at h9 <;> split <;> first | exact h9 | contradiction
                        · exact HCH.out.trans ⟨Nat.le_trans EE6.out.size HG6.out.size, fun b hb hn => (HG6.out.block b (Nat.lt_of_lt_of_le hb EE6.out.size) (fun e => hn (by cases e; rfl))).trans (EE6.out.block b hb)⟩
                        · exact (HBB.out.trans (EE6.out.mono (by omega))).grown HG6.out (Nat.le_trans (by omega) EE6.out.size) (fun j hj => by cases hj; exact Nat.le_refl _)
                · have hjl' : ¬ (j : Int) + 1 < (L.length : Int) := by omega
                  have nmb : ∀ b cur e fr, W3.heap[b]? = some (.cells cur e fr) → b ≠ mb := fun b cur e fr h0 h1 => by
                    obtain ⟨es, cl, h8⟩ := HS0.out.at
                    rw [h1, h8] at h0; cases h0
                  have KK : Kept (fun k => k ≠ mb) 0 W3 wr := HCH.out.kept (fun k hk _ => hk)
                  have HOr : Hid (Owns wr (.slice la L.length lc) L) := HO3.out.kept KK (fun b hb => by
                    obtain ⟨c1, f1, e1⟩ := ownsRow_at HO3.out hb
                    exact nmb _ _ _ _ e1)
                  have HRr : Hid (RowsO wr (.slice av k cv) (ways g hs k)) := HD3.out.own.kept KK (fun b hb => by
                    obtain ⟨c1, f1, e1⟩ := HD3.out.own.at hb
                    exact nmb _ _ _ _ e1) (fun b cur fr h => nmb _ _ _ _ h)
                  have zm2 : mb < wr.heap.size := HS.out.lt
                  have zr3 : W3.heap.size ≤ wr.heap.size := HCH.out.1
                  clear KK nmb
                  have X1 : Ext wr (wr.alloc (.cells #[.slice la L.length lc] 22)) := (Ext.refl _).alloc _
                  obtain ⟨vs, h1, h2, h3⟩ := HRr.out.ext X1
                  rw [ways_len] at h1
                  have H1 := Lib.hid h1
                  have H2 := Lib.hid h2
                  have H3 := Lib.hid h3
                  have HX1 := Lib.hid X1
                  clear h1 h2 h3 X1
                  obtain ⟨i0, hi, hi0, hi1, hi2⟩ := info_parts infoRow
                  go_wp2_with (at_builtin; refine wpList_append1 _ rfl _ _ 39 rfl 22 i0 (.slice none 0 0) 1 24 Try.underlying39 hi hi0 hi1 hi2 rfl (by decide) (.slice av k cv) _ _ rfl H1.out ⟨wr.heap.size, 0, none⟩ 1 1 (by decide) [.slice la L.length lc] rfl rfl (cell_one_int _ _ _) ?c1 ?c2 ?c3 ?c4)
                  case c1 => first | (intro u hu; simp at hu; subst hu; rfl) | rfl | simp
                  case c2 => unfold maxLen; omega
                  case c3 => omega
                  case c4 =>
                    intro v' w5 hown5 hend5
                    have hlk : (ways g hs k).length = k := ways_len g hs k
                    have RO := rows_app (by rw [hlk]; exact H1.out) H2.out H3.out (HOr.out.ext HX1.out) hend5 (by rw [hlk]; exact hown5)
                    have hw1 : ways g hs k ++ [L] = ways g hs (k + 1) := by rw [HLEQ.out]; show _ = ways g hs k ++ [way g (ph hs k).1 (ph hs k).2]; rw [HX.out]
                    rw [hw1] at RO
                    obtain ⟨av', cv', hsh⟩ := RO.shape
                    rw [ways_len] at hsh
                    subst hsh
                    have HRO := Lib.hid RO
                    have HEND := Lib.hid hend5
                    have CA := Lib.hid (Chg.app hend5 (B := fun b => (Value.slice av k cv).ownBlock = some b) (fun b hb => hb))
                    clear hown5 hend5 hlk hw1 RO
                    go_wp2
                    refine ⟨⟨k + 1, av', cv', by omega, by go_num, rfl, HOK.out, ?_⟩, by simp [Go.RowKit.intOf]; omega⟩
                    have nvb : ∀ b, (Value.slice av k cv).ownBlock = some b → W0.heap.size ≤ b := HD3.out.vb
                    exact {
                      se := by
                        refine ⟨n0 + j, ?_, ?_⟩
                        · rw [Nat.add_mul]; omega
                        · have hdk : ductK g hs (k + 1) = pairK (ductK g hs k) L j := by
                            show pairsIn _ _ = _
                            rw [HX.out, ← HLEQ.out]
                            unfold pairsIn
                            rw [show L.length - 1 = j by omega]
                          rw [hdk]
                          exact (HS.out.ext HX1.out).same (CA.out.2 mb (Nat.lt_of_lt_of_le zm2 HX1.out.size) (fun e => by have := nvb mb e; omega))
                      be := ((HD3.out.be.trans HBB.out).trans (HX1.out.mono (by omega))).trans (HEND.out.below (by have := HX1.out.size; omega) (fun b hb => by have := nvb b hb; omega))
                      own := HRO.out
                      vb := fun b hb => by
                        rcases HEND.out with ⟨h1, _, _⟩ | ⟨h1, _⟩
                        · rw [h1] at hb; exact nvb b hb
                        · rw [h1] at hb
                          have hb' : b = (wr.alloc (.cells #[.slice la L.length lc] 22)).heap.size := by cases hb; rfl
                          simp at hb'
                          omega }
          · have HBAD : Hid (ductE g hs = cellsErr g [x.1, x.2]) := by
              show _ = _
              have h9 : hoseErr g x = cellsErr g [x.1, x.2] := by unfold hoseErr; rw [if_pos hce]
              rw [hE.out, hn.out, show hs.length - k = (hs.length - (k + 1)) + 1 by omega, hosesErr_stop (by rw [HX.out, h9]; exact hce), HX.out, h9]
            have HNE := Lib.hid hce
            have hb : (cellsErr g [x.1, x.2] != 0) = true := by simp [hce]
            have hb2 : (cellsErr g [x.1, x.2] == 0) = false := by simp [hce]
            clear hce
            go_wp2
            go_ret3
            exact DuctsPost.bad HBAD.out HNE.out HE2.out
        · have hk2 : k = hs.length := by omega
          have hlt' : ¬ (k : Int) < (hs.length : Int) := by omega
          obtain ⟨n, hn1, hS1⟩ := hd.out.se
          have HS1 := Lib.hid hS1
          clear hS1
          go_wp2_with (at_len; refine wpList_setLen _ rfl _ 93 rfl 74 4 Try.underlying93 mb _ (ductK g hs k) rfl HS1.out ?_)
          go_wp2
          go_ret3
          subst hk2
          obtain ⟨a', c', hv', hrr⟩ := hd.out.own.reads
          rw [ways_len] at hv'
          have hz : ductE g hs = 0 := by rw [hE.out, hn.out, Nat.sub_self]; rfl
          have hL1 : ductL g hs = ways g hs hs.length := by unfold ductL; rw [if_neg (by simp [hz])]
          have hN1 : ductN g hs = ((ductK g hs hs.length).length : Int) := by unfold ductN; rw [if_neg (by simp [hz])]
          refine ⟨a', c', ?_, by rw [hL1]; exact hrr, Below.trans EW (hd.out.be.mono (by omega))⟩
          show Ending.returned (.tuple #[.slice av hs.length cv, .int .i64 ((ductK g hs hs.length).length : Int), .int .i64 0]) = _
          rw [hL1, hN1, hz, ways_len, ← hv']
  · have hE : Hid (ductE g hs = chk g) := by show _ = _; unfold ductE; rw [if_pos h0]
    have hb : (chk g != 0) = true := by simp [h0]
    have hb2 : (chk g == 0) = false := by simp [h0]
    have H0 := Lib.hid h0
    clear h0
    go_wp2
    go_ret3
    exact DuctsPost.bad hE.out H0.out E1
end Go.Proofs.Ytfigooilhnahfaa
/- Bends. -/
namespace Go.Proofs.Ytfigooilhnahfaa
open Go.RowKit Go.Maps

/-- the bends among the first k cells -/
def bendN (l : List Pt) : Nat → Nat
  | 0 => 0
  | k + 1 => bendN l k + (if 2 ≤ k ∧ (pt l (k - 2)).1 ≠ (pt l k).1 ∧ (pt l (k - 2)).2 ≠ (pt l k).2 then 1 else 0)
theorem bendN_le (l : List Pt) : ∀ k, bendN l k ≤ k := by
  intro k
  induction k with
  | zero => exact Nat.le_refl _
  | succ k ih => unfold bendN; split <;> omega
theorem bendN_two (l : List Pt) : bendN l 2 = 0 := by simp [bendN]
def bendV (g : Gr) (l : List Pt) : Int := if listedErr g l ≠ 0 then 0 else if joinedB l = false then 0 else ((bendN l (max 2 l.length) : Nat) : Int)
def bendE (g : Gr) (l : List Pt) : Int := if listedErr g l ≠ 0 then listedErr g l else if joinedB l = false then 3 else 0

set_option maxHeartbeats 2000000 in
set_option maxRecDepth 100000 in
theorem Bends_any (g : Gr) (l : List Pt) (ga : Option Addr) (gc : Nat) (a : Option Addr) (cap : Nat) (w : World) (hg : g.bl.length ≤ maxLen) (hc : Cells2 w ga g.bl) (hl : l.length ≤ maxLen) (hcl : Cells2 w a l) :
    Calls Try.prog 34 #[.agg #[.int .i64 g.rows, .int .i64 g.cols, .slice ga g.bl.length gc], .slice a l.length cap] w fun e w' => e = .returned (.tuple #[.int .i64 (bendV g l), .int .i64 (bendE g l)]) ∧ Ext w w' := by
  have HC : Hid (Cells2 w ga g.bl) := hc
  have HL : Hid (Cells2 w a l) := hcl
  have HG := Lib.hid hg
  have HM := Lib.hid hl
  clear hc hcl hg hl
  have E0 : Ext w (((w).alloc (.cells #[.int .i64 g.rows, .int .i64 g.cols, .slice ga g.bl.length gc] 33))) := (Ext.refl _).alloc _
  have a1 : (((w).alloc (.cells #[.int .i64 g.rows, .int .i64 g.cols, .slice ga g.bl.length gc] 33))).cell? ⟨w.heap.size, 0, none⟩ = some (.int .i64 g.rows) := by go_simp
  have a2 : (((w).alloc (.cells #[.int .i64 g.rows, .int .i64 g.cols, .slice ga g.bl.length gc] 33))).cell? ⟨w.heap.size, 1, none⟩ = some (.int .i64 g.cols) := by go_simp
  have a3 : (((w).alloc (.cells #[.int .i64 g.rows, .int .i64 g.cols, .slice ga g.bl.length gc] 33))).cell? ⟨w.heap.size, 2, none⟩ = some (.slice ga g.bl.length gc) := by go_simp
  by_cases h0 : listedErr g l = 0
  · obtain ⟨hr, hne, hlen, ho⟩ := listed_ok h0
    have HR := Lib.hid hr
    have HIN : Hid (∀ i, i < l.length → inside g (pt l i) = true) := fun i hi => opn_inside (ho _ (pt_mem hi))
    have hv : Hid (bendV g l = (if joinedB l = false then 0 else ((bendN l (max 2 l.length) : Nat) : Int)) ∧ bendE g l = if joinedB l = false then 3 else 0) := by
      show _ ∧ _
      unfold bendV bendE
      exact ⟨by rw [if_neg (by simp [h0])], by rw [if_neg (by simp [h0])]⟩
    have H0 := Lib.hid h0
    have HLEN := Lib.hid hlen
    clear hr ho h0 hne
    go_enter Try.func34, Try.ntmps34
    go_wp2_with fail
    refine (listed_any g l ga gc a cap _ HG.out (HC.out.ext E0) HM.out (HL.out.ext E0)).mono ?_
    rintro e w1 ⟨rfl, hE⟩
    rw [H0.out]
    have E1 : Ext w w1 := E0.trans hE
    clear hE E0 a1 a2 a3
    go_wp2_with fail
    refine (joined_any l a cap _ HLEN.out (fun i hi => inG_of HR.out (HIN.out i hi)) (HL.out.ext E1)).mono ?_
    rintro e w2 ⟨rfl, hE⟩
    have E2 : Ext w w2 := E1.trans hE
    clear hE E1
    cases hj : joinedB l
    · have HJ := Lib.hid hj
      clear hj
      go_wp2
      go_ret2
      refine ⟨?_, E2⟩
      rw [hv.out.1, hv.out.2, HJ.out]
      rfl
    · have HJ := Lib.hid hj
      clear hj
      go_wp2
      go_loopw [7, 8] (fun n i wr => ∃ k : Nat, 2 ≤ k ∧ k ≤ max 2 l.length ∧ i = .int .i64 k ∧ n = .int .i64 (bendN l k) ∧ Ext w2 wr) (fun _ i _ => l.length - (intOf i).toNat)
      case atStart => exact ⟨2, Nat.le_refl _, by omega, rfl, by rw [bendN_two]; rfl, Ext.refl _⟩
      case round =>
        obtain ⟨k, hk2, hkm, rfl, rfl, he⟩ := hrel
        have hnb := bendN_le l k
        by_cases hlt : k < l.length
        · obtain ⟨b, off, ha, e1, e2⟩ := HL.out.ext (E2.trans he) k hlt
          obtain ⟨b', off', ha', f1, f2⟩ := HL.out.ext (E2.trans he) (k - 2) (by omega)
          subst ha
          cases ha'
          have q0 : IntKind.i64.wrap ((k : Int) - 2) = (k : Int) - 2 := IntWalk.i64_in _ (by omega)
          have q1 : ((k : Int) - 2).toNat = k - 2 := by omega
          have q2 : 0 ≤ (k : Int) - 2 := by omega
          have q3 : (2 : Int) ≤ (k : Int) := by omega
          have q4 : (k : Int) - 2 < (l.length : Int) := by omega
          have q5 : IntKind.i64.wrap ((bendN l k : Int) + 1) = (bendN l k : Int) + 1 := IntWalk.i64_in _ (by omega)
          have zb := cell_lt f1
          dsimp only at zb
          have HK := Lib.hid (show bendN l (k + 1) = bendN l k + (if 2 ≤ k ∧ (pt l (k - 2)).1 ≠ (pt l k).1 ∧ (pt l (k - 2)).2 ≠ (pt l k).2 then 1 else 0) from rfl)
          cases hx : ((pt l (k - 2)).1 != (pt l k).1)
          · go_wp2_with fail
            go_region
            · have E3 : Ext wr (((wr.alloc (.cells #[.int .i64 (pt l (k - 2)).1, .int .i64 (pt l (k - 2)).2] 26)).alloc (.cells #[.int .i64 (pt l k).1, .int .i64 (pt l k).2] 26)).drew) := (((Ext.refl _).alloc _).alloc _).drew
              have p1 : (((wr.alloc (.cells #[.int .i64 (pt l (k - 2)).1, .int .i64 (pt l (k - 2)).2] 26)).alloc (.cells #[.int .i64 (pt l k).1, .int .i64 (pt l k).2] 26)).drew).cell? ⟨wr.heap.size, 0, none⟩ = some (.int .i64 (pt l (k - 2)).1) := by go_simp
              have p2 : (((wr.alloc (.cells #[.int .i64 (pt l (k - 2)).1, .int .i64 (pt l (k - 2)).2] 26)).alloc (.cells #[.int .i64 (pt l k).1, .int .i64 (pt l k).2] 26)).drew).cell? ⟨wr.heap.size, 1, none⟩ = some (.int .i64 (pt l (k - 2)).2) := by go_simp
              have p3 : (((wr.alloc (.cells #[.int .i64 (pt l (k - 2)).1, .int .i64 (pt l (k - 2)).2] 26)).alloc (.cells #[.int .i64 (pt l k).1, .int .i64 (pt l k).2] 26)).drew).cell? ⟨wr.heap.size + 1, 0, none⟩ = some (.int .i64 (pt l k).1) := by go_simp
              have p4 : (((wr.alloc (.cells #[.int .i64 (pt l (k - 2)).1, .int .i64 (pt l (k - 2)).2] 26)).alloc (.cells #[.int .i64 (pt l k).1, .int .i64 (pt l k).2] 26)).drew).cell? ⟨wr.heap.size + 1, 1, none⟩ = some (.int .i64 (pt l k).2) := by go_simp
              clear e1 e2 f1 f2
              generalize (((wr.alloc (.cells #[.int .i64 (pt l (k - 2)).1, .int .i64 (pt l (k - 2)).2] 26)).alloc (.cells #[.int .i64 (pt l k).1, .int .i64 (pt l k).2] 26)).drew) = W at p1 p2 p3 p4 E3 ⊢
              go_wp2
              refine ⟨⟨k + 1, by omega, by omega, by go_num, ?_, he.trans E3⟩, by simp [intOf]; omega⟩
              rw [HK.out, if_neg (fun h => by first | exact absurd h.2.1 (by simpa using hx) | exact absurd h.2.2 (by simpa using hy))]
              rfl
            · have E3 : Ext wr (((wr.alloc (.cells #[.int .i64 (pt l k).1, .int .i64 (pt l k).2] 26)).alloc (.cells #[.int .i64 (pt l (k - 2)).1, .int .i64 (pt l (k - 2)).2] 26)).drew) := (((Ext.refl _).alloc _).alloc _).drew
              have p1 : (((wr.alloc (.cells #[.int .i64 (pt l k).1, .int .i64 (pt l k).2] 26)).alloc (.cells #[.int .i64 (pt l (k - 2)).1, .int .i64 (pt l (k - 2)).2] 26)).drew).cell? ⟨wr.heap.size + 1, 0, none⟩ = some (.int .i64 (pt l (k - 2)).1) := by go_simp
              have p2 : (((wr.alloc (.cells #[.int .i64 (pt l k).1, .int .i64 (pt l k).2] 26)).alloc (.cells #[.int .i64 (pt l (k - 2)).1, .int .i64 (pt l (k - 2)).2] 26)).drew).cell? ⟨wr.heap.size + 1, 1, none⟩ = some (.int .i64 (pt l (k - 2)).2) := by go_simp
              have p3 : (((wr.alloc (.cells #[.int .i64 (pt l k).1, .int .i64 (pt l k).2] 26)).alloc (.cells #[.int .i64 (pt l (k - 2)).1, .int .i64 (pt l (k - 2)).2] 26)).drew).cell? ⟨wr.heap.size, 0, none⟩ = some (.int .i64 (pt l k).1) := by go_simp
              have p4 : (((wr.alloc (.cells #[.int .i64 (pt l k).1, .int .i64 (pt l k).2] 26)).alloc (.cells #[.int .i64 (pt l (k - 2)).1, .int .i64 (pt l (k - 2)).2] 26)).drew).cell? ⟨wr.heap.size, 1, none⟩ = some (.int .i64 (pt l k).2) := by go_simp
              clear e1 e2 f1 f2
              generalize (((wr.alloc (.cells #[.int .i64 (pt l k).1, .int .i64 (pt l k).2] 26)).alloc (.cells #[.int .i64 (pt l (k - 2)).1, .int .i64 (pt l (k - 2)).2] 26)).drew) = W at p1 p2 p3 p4 E3 ⊢
              go_wp2
              refine ⟨⟨k + 1, by omega, by omega, by go_num, ?_, he.trans E3⟩, by simp [intOf]; omega⟩
              rw [HK.out, if_neg (fun h => by first | exact absurd h.2.1 (by simpa using hx) | exact absurd h.2.2 (by simpa using hy))]
              rfl
          · cases hy : ((pt l (k - 2)).2 != (pt l k).2)
            · go_wp2_with fail
              go_region
              · have E3 : Ext wr (((wr.alloc (.cells #[.int .i64 (pt l (k - 2)).1, .int .i64 (pt l (k - 2)).2] 26)).alloc (.cells #[.int .i64 (pt l k).1, .int .i64 (pt l k).2] 26)).drew) := (((Ext.refl _).alloc _).alloc _).drew
                have p1 : (((wr.alloc (.cells #[.int .i64 (pt l (k - 2)).1, .int .i64 (pt l (k - 2)).2] 26)).alloc (.cells #[.int .i64 (pt l k).1, .int .i64 (pt l k).2] 26)).drew).cell? ⟨wr.heap.size, 0, none⟩ = some (.int .i64 (pt l (k - 2)).1) := by go_simp
                have p2 : (((wr.alloc (.cells #[.int .i64 (pt l (k - 2)).1, .int .i64 (pt l (k - 2)).2] 26)).alloc (.cells #[.int .i64 (pt l k).1, .int .i64 (pt l k).2] 26)).drew).cell? ⟨wr.heap.size, 1, none⟩ = some (.int .i64 (pt l (k - 2)).2) := by go_simp
                have p3 : (((wr.alloc (.cells #[.int .i64 (pt l (k - 2)).1, .int .i64 (pt l (k - 2)).2] 26)).alloc (.cells #[.int .i64 (pt l k).1, .int .i64 (pt l k).2] 26)).drew).cell? ⟨wr.heap.size + 1, 0, none⟩ = some (.int .i64 (pt l k).1) := by go_simp
                have p4 : (((wr.alloc (.cells #[.int .i64 (pt l (k - 2)).1, .int .i64 (pt l (k - 2)).2] 26)).alloc (.cells #[.int .i64 (pt l k).1, .int .i64 (pt l k).2] 26)).drew).cell? ⟨wr.heap.size + 1, 1, none⟩ = some (.int .i64 (pt l k).2) := by go_simp
                clear e1 e2 f1 f2
                generalize (((wr.alloc (.cells #[.int .i64 (pt l (k - 2)).1, .int .i64 (pt l (k - 2)).2] 26)).alloc (.cells #[.int .i64 (pt l k).1, .int .i64 (pt l k).2] 26)).drew) = W at p1 p2 p3 p4 E3 ⊢
                go_wp2
                refine ⟨⟨k + 1, by omega, by omega, by go_num, ?_, he.trans E3⟩, by simp [intOf]; omega⟩
                rw [HK.out, if_neg (fun h => by first | exact absurd h.2.1 (by simpa using hx) | exact absurd h.2.2 (by simpa using hy))]
                rfl
              · have E3 : Ext wr (((wr.alloc (.cells #[.int .i64 (pt l k).1, .int .i64 (pt l k).2] 26)).alloc (.cells #[.int .i64 (pt l (k - 2)).1, .int .i64 (pt l (k - 2)).2] 26)).drew) := (((Ext.refl _).alloc _).alloc _).drew
                have p1 : (((wr.alloc (.cells #[.int .i64 (pt l k).1, .int .i64 (pt l k).2] 26)).alloc (.cells #[.int .i64 (pt l (k - 2)).1, .int .i64 (pt l (k - 2)).2] 26)).drew).cell? ⟨wr.heap.size + 1, 0, none⟩ = some (.int .i64 (pt l (k - 2)).1) := by go_simp
                have p2 : (((wr.alloc (.cells #[.int .i64 (pt l k).1, .int .i64 (pt l k).2] 26)).alloc (.cells #[.int .i64 (pt l (k - 2)).1, .int .i64 (pt l (k - 2)).2] 26)).drew).cell? ⟨wr.heap.size + 1, 1, none⟩ = some (.int .i64 (pt l (k - 2)).2) := by go_simp
                have p3 : (((wr.alloc (.cells #[.int .i64 (pt l k).1, .int .i64 (pt l k).2] 26)).alloc (.cells #[.int .i64 (pt l (k - 2)).1, .int .i64 (pt l (k - 2)).2] 26)).drew).cell? ⟨wr.heap.size, 0, none⟩ = some (.int .i64 (pt l k).1) := by go_simp
                have p4 : (((wr.alloc (.cells #[.int .i64 (pt l k).1, .int .i64 (pt l k).2] 26)).alloc (.cells #[.int .i64 (pt l (k - 2)).1, .int .i64 (pt l (k - 2)).2] 26)).drew).cell? ⟨wr.heap.size, 1, none⟩ = some (.int .i64 (pt l k).2) := by go_simp
                clear e1 e2 f1 f2
                generalize (((wr.alloc (.cells #[.int .i64 (pt l k).1, .int .i64 (pt l k).2] 26)).alloc (.cells #[.int .i64 (pt l (k - 2)).1, .int .i64 (pt l (k - 2)).2] 26)).drew) = W at p1 p2 p3 p4 E3 ⊢
                go_wp2
                refine ⟨⟨k + 1, by omega, by omega, by go_num, ?_, he.trans E3⟩, by simp [intOf]; omega⟩
                rw [HK.out, if_neg (fun h => by first | exact absurd h.2.1 (by simpa using hx) | exact absurd h.2.2 (by simpa using hy))]
                rfl
            · go_wp2_with fail
              go_region
              · have E3 : Ext wr (((wr.alloc (.cells #[.int .i64 (pt l (k - 2)).1, .int .i64 (pt l (k - 2)).2] 26)).alloc (.cells #[.int .i64 (pt l k).1, .int .i64 (pt l k).2] 26)).drew) := (((Ext.refl _).alloc _).alloc _).drew
                have p1 : (((wr.alloc (.cells #[.int .i64 (pt l (k - 2)).1, .int .i64 (pt l (k - 2)).2] 26)).alloc (.cells #[.int .i64 (pt l k).1, .int .i64 (pt l k).2] 26)).drew).cell? ⟨wr.heap.size, 0, none⟩ = some (.int .i64 (pt l (k - 2)).1) := by go_simp
                have p2 : (((wr.alloc (.cells #[.int .i64 (pt l (k - 2)).1, .int .i64 (pt l (k - 2)).2] 26)).alloc (.cells #[.int .i64 (pt l k).1, .int .i64 (pt l k).2] 26)).drew).cell? ⟨wr.heap.size, 1, none⟩ = some (.int .i64 (pt l (k - 2)).2) := by go_simp
                have p3 : (((wr.alloc (.cells #[.int .i64 (pt l (k - 2)).1, .int .i64 (pt l (k - 2)).2] 26)).alloc (.cells #[.int .i64 (pt l k).1, .int .i64 (pt l k).2] 26)).drew).cell? ⟨wr.heap.size + 1, 0, none⟩ = some (.int .i64 (pt l k).1) := by go_simp
                have p4 : (((wr.alloc (.cells #[.int .i64 (pt l (k - 2)).1, .int .i64 (pt l (k - 2)).2] 26)).alloc (.cells #[.int .i64 (pt l k).1, .int .i64 (pt l k).2] 26)).drew).cell? ⟨wr.heap.size + 1, 1, none⟩ = some (.int .i64 (pt l k).2) := by go_simp
                clear e1 e2 f1 f2
                generalize (((wr.alloc (.cells #[.int .i64 (pt l (k - 2)).1, .int .i64 (pt l (k - 2)).2] 26)).alloc (.cells #[.int .i64 (pt l k).1, .int .i64 (pt l k).2] 26)).drew) = W at p1 p2 p3 p4 E3 ⊢
                go_wp2
                refine ⟨⟨k + 1, by omega, by omega, by go_num, ?_, he.trans E3⟩, by simp [intOf]; omega⟩
                rw [HK.out, if_pos ⟨hk2, by simpa using hx, by simpa using hy⟩]
                first | rfl | go_num | (simp)
              · have E3 : Ext wr (((wr.alloc (.cells #[.int .i64 (pt l k).1, .int .i64 (pt l k).2] 26)).alloc (.cells #[.int .i64 (pt l (k - 2)).1, .int .i64 (pt l (k - 2)).2] 26)).drew) := (((Ext.refl _).alloc _).alloc _).drew
                have p1 : (((wr.alloc (.cells #[.int .i64 (pt l k).1, .int .i64 (pt l k).2] 26)).alloc (.cells #[.int .i64 (pt l (k - 2)).1, .int .i64 (pt l (k - 2)).2] 26)).drew).cell? ⟨wr.heap.size + 1, 0, none⟩ = some (.int .i64 (pt l (k - 2)).1) := by go_simp
                have p2 : (((wr.alloc (.cells #[.int .i64 (pt l k).1, .int .i64 (pt l k).2] 26)).alloc (.cells #[.int .i64 (pt l (k - 2)).1, .int .i64 (pt l (k - 2)).2] 26)).drew).cell? ⟨wr.heap.size + 1, 1, none⟩ = some (.int .i64 (pt l (k - 2)).2) := by go_simp
                have p3 : (((wr.alloc (.cells #[.int .i64 (pt l k).1, .int .i64 (pt l k).2] 26)).alloc (.cells #[.int .i64 (pt l (k - 2)).1, .int .i64 (pt l (k - 2)).2] 26)).drew).cell? ⟨wr.heap.size, 0, none⟩ = some (.int .i64 (pt l k).1) := by go_simp
                have p4 : (((wr.alloc (.cells #[.int .i64 (pt l k).1, .int .i64 (pt l k).2] 26)).alloc (.cells #[.int .i64 (pt l (k - 2)).1, .int .i64 (pt l (k - 2)).2] 26)).drew).cell? ⟨wr.heap.size, 1, none⟩ = some (.int .i64 (pt l k).2) := by go_simp
                clear e1 e2 f1 f2
                generalize (((wr.alloc (.cells #[.int .i64 (pt l k).1, .int .i64 (pt l k).2] 26)).alloc (.cells #[.int .i64 (pt l (k - 2)).1, .int .i64 (pt l (k - 2)).2] 26)).drew) = W at p1 p2 p3 p4 E3 ⊢
                go_wp2
                refine ⟨⟨k + 1, by omega, by omega, by go_num, ?_, he.trans E3⟩, by simp [intOf]; omega⟩
                rw [HK.out, if_pos ⟨hk2, by simpa using hx, by simpa using hy⟩]
                first | rfl | go_num | (simp)
        · go_wp2
          go_ret2
          refine ⟨?_, E2.trans he⟩
          rw [hv.out.1, hv.out.2, HJ.out, show max 2 l.length = k by omega]
          rfl
  · have hv : Hid (bendV g l = 0 ∧ bendE g l = listedErr g l) := by
      show _ ∧ _
      unfold bendV bendE
      rw [if_pos h0, if_pos h0]
      exact ⟨rfl, rfl⟩
    have hb : (listedErr g l != 0) = true := by simp [h0]
    have hb2 : (listedErr g l == 0) = false := by simp [h0]
    clear h0
    go_enter Try.func34, Try.ntmps34
    go_wp2_with fail
    refine (listed_any g l ga gc a cap _ HG.out (HC.out.ext E0) HM.out (HL.out.ext E0)).mono ?_
    rintro e w1 ⟨rfl, hE⟩
    go_wp2
    go_ret2
    rw [hv.out.1, hv.out.2]
    exact ⟨rfl, E0.trans hE⟩
end Go.Proofs.Ytfigooilhnahfaa
/- The examples of the chapter, reckoned. -/
namespace Go.Proofs.Ytfigooilhnahfaa

theorem wall_way : way wallG (0, 1) (2, 1) = [(0, 1), (0, 0), (1, 0), (2, 0), (2, 1)] := by decide +kernel
theorem wall_chk : chk wallG = 0 := by decide +kernel
theorem wall_given : givenErr wallG [(0, 1), (2, 1)] = 0 := by decide +kernel
theorem wall_dst : dst wallG (2, 1) (0, 1) = 4 := by decide +kernel
theorem wall_bends : bendV wallG [(0, 1), (0, 0), (1, 0), (2, 0), (2, 1)] = 2 ∧ bendE wallG [(0, 1), (0, 0), (1, 0), (2, 0), (2, 1)] = 0 := by decide +kernel
theorem wall_meet : meetP wallG (0, 0) (0, 3) (2, 0) = (0, 0) ∧ meetN wallG (0, 0) (0, 3) (2, 0) = 5 ∧ meetE wallG (0, 0) (0, 3) (2, 0) = 0 := by decide +kernel
theorem wall_duct : ductN wallG [((0, 0), (0, 3)), ((0, 1), (2, 0))] = 5 ∧ ductE wallG [((0, 0), (0, 3)), ((0, 1), (2, 0))] = 0 := by decide +kernel
theorem wall_route : routeV wallG (0, 1) (2, 1) = [(0, 1), (0, 0), (1, 0), (2, 0), (2, 1)] ∧ lenE wallG (0, 1) (2, 1) = 0 := by decide +kernel
theorem wall_parts : partsL wallG = [10] := by
  have h : partsU wallG = [10] := by decide +kernel
  unfold partsL
  rw [if_neg (by rw [wall_chk]; decide), h]
  simp
end Go.Proofs.Ytfigooilhnahfaa
/- Whether two lists of places are the same. -/
namespace Go.Proofs.Ytfigooilhnahfaa
open Go.RowKit

theorem pts_ext {l m : List Pt} (hl : l.length = m.length) (h : ∀ j, j < l.length → pt l j = pt m j) : l = m := by
  refine List.ext_getElem hl fun i h1 h2 => ?_
  have := h i h1
  unfold pt at this
  rw [List.getD_eq_getElem?_getD, List.getD_eq_getElem?_getD, List.getElem?_eq_getElem h1, List.getElem?_eq_getElem h2] at this
  simpa using this

set_option maxHeartbeats 1000000 in
theorem Same_any (l m : List Pt) (a a' : Option Addr) (cap cap' : Nat) (w : World) (hl : l.length ≤ maxLen) (hc : Cells2 w a l) (hd : Cells2 w a' m) :
    Calls Try.prog 31 #[.slice a l.length cap, .slice a' m.length cap'] w fun e w' => e = .returned (.bool (decide (l = m))) ∧ Ext w w' := by
  unfold maxLen at hl
  by_cases hlen : l.length = m.length
  · have HLE := Lib.hid hlen
    have hle : ((l.length : Int) != (m.length : Int)) = false := by simp [hlen]
    have hle2 : (l.length != m.length) = false := by simp [hlen]
    clear hlen
    go_enter Try.func31, Try.ntmps31
    go_wp2
    go_loopw [5] (fun i wr => ∃ k : Nat, k ≤ l.length ∧ i = .int .i64 k ∧ Hid (∀ j, j < k → pt l j = pt m j) ∧ Ext w wr) (fun i _ => l.length - (intOf i).toNat)
    case atStart => exact ⟨0, Nat.zero_le _, rfl, fun j hj => by omega, Ext.refl _⟩
    case round =>
      obtain ⟨k, hk, rfl, hn, he⟩ := hrel
      by_cases hlt : k < l.length
      · obtain ⟨b, off, ha, e1, e2⟩ := hc.ext he k hlt
        obtain ⟨b', off', ha', d1, d2⟩ := hd.ext he k (by have := HLE.out; omega)
        have HC : Hid (Cells2 w a l) := hc
        have HD : Hid (Cells2 w a' m) := hd
        subst ha ha'
        clear hc hd
        have hkm : (k : Int) < (m.length : Int) := by have := HLE.out; omega
        by_cases heq : pt l k = pt m k
        · have HN : Hid (pt l k = pt m k) := heq
          rw [heq] at e1 e2
          clear heq
          go_wp2
          go_quiet (fail)
          go_wp2
          refine ⟨⟨k + 1, by omega, by go_num, fun j hj => ?_, he.drewN _⟩, by simp [intOf]; omega⟩
          by_cases e : j = k
          · subst e; exact HN.out
          · exact hn.out j (by omega)
        · have hne : Hid (l ≠ m) := by rintro rfl; exact heq rfl
          by_cases h1 : (pt l k).1 = (pt m k).1
          · have h2 : ((pt l k).2 == (pt m k).2) = false := by
              cases hb : ((pt l k).2 == (pt m k).2)
              · rfl
              · exact absurd (Prod.ext h1 (by simpa using hb)) heq
            rw [h1] at e1
            clear heq h1
            go_wp2
            go_quiet (fail)
            go_wp2
            go_ret
            exact ⟨ret_bool (by simp [hne.out]), he.drewN _⟩
          · have h2 : ((pt l k).1 == (pt m k).1) = false := by simpa using h1
            clear heq h1
            go_wp2
            go_quiet (fail)
            go_wp2
            go_ret
            exact ⟨ret_bool (by simp [hne.out]), he.drewN _⟩
      · go_wp2
        go_ret
        refine ⟨ret_bool ?_, he⟩
        symm
        rw [decide_eq_true_eq]
        exact pts_ext HLE.out (fun j hj => hn.out j (by omega))
  · have hne : l ≠ m := by rintro rfl; exact hlen rfl
    have hle : ((l.length : Int) != (m.length : Int)) = true := by simp; omega
    have hle2 : (l.length != m.length) = true := by simp; omega
    have hle3 : ((l.length : Int) == (m.length : Int)) = false := by simp; omega
    have hle4 : (l.length == m.length) = false := by simp; omega
    have HNE := Lib.hid hne
    clear hne hlen
    go_enter Try.func31, Try.ntmps31
    go_wp2
    go_ret
    exact ⟨ret_bool (by simp [HNE.out]), Ext.refl _⟩

set_option maxHeartbeats 1000000 in
theorem EqualP_any (l m : List Pt) (a a' : Option Addr) (cap cap' : Nat) (w : World) (hl : l.length ≤ maxLen) (hc : Cells2 w a l) (hd : Cells2 w a' m) :
    Calls Try.prog 46 #[.slice a l.length cap, .slice a' m.length cap'] w fun e w' => e = .returned (.bool (decide (l = m))) ∧ Ext w w' := by
  unfold maxLen at hl
  by_cases hlen : l.length = m.length
  · have HLE := Lib.hid hlen
    have hle : ((l.length : Int) != (m.length : Int)) = false := by simp [hlen]
    have hle2 : (l.length != m.length) = false := by simp [hlen]
    clear hlen
    go_enter Try.func46, Try.ntmps46
    go_wp2
    go_loopw [13] (fun i wr => ∃ k : Nat, k ≤ l.length ∧ i = .int .i64 k ∧ Hid (∀ j, j < k → pt l j = pt m j) ∧ Ext w wr) (fun i _ => l.length - (intOf i).toNat)
    case atStart => exact ⟨0, Nat.zero_le _, rfl, fun j hj => by omega, Ext.refl _⟩
    case round =>
      obtain ⟨k, hk, rfl, hn, he⟩ := hrel
      by_cases hlt : k < l.length
      · obtain ⟨b, off, ha, e1, e2⟩ := hc.ext he k hlt
        obtain ⟨b', off', ha', d1, d2⟩ := hd.ext he k (by have := HLE.out; omega)
        have HC : Hid (Cells2 w a l) := hc
        have HD : Hid (Cells2 w a' m) := hd
        subst ha ha'
        clear hc hd
        have hkm : (k : Int) < (m.length : Int) := by have := HLE.out; omega
        by_cases heq : pt l k = pt m k
        · have HN : Hid (pt l k = pt m k) := heq
          rw [heq] at e1 e2
          clear heq
          go_wp2
          go_quiet (fail)
          go_wp2
          refine ⟨⟨k + 1, by omega, by go_num, fun j hj => ?_, he.drewN _⟩, by simp [intOf]; omega⟩
          by_cases e : j = k
          · subst e; exact HN.out
          · exact hn.out j (by omega)
        · have hne : Hid (l ≠ m) := by rintro rfl; exact heq rfl
          by_cases h1 : (pt l k).1 = (pt m k).1
          · have h2 : ((pt l k).2 == (pt m k).2) = false := by
              cases hb : ((pt l k).2 == (pt m k).2)
              · rfl
              · exact absurd (Prod.ext h1 (by simpa using hb)) heq
            rw [h1] at e1
            clear heq h1
            go_wp2
            go_quiet (fail)
            go_wp2
            go_ret
            exact ⟨ret_bool (by simp [hne.out]), he.drewN _⟩
          · have h2 : ((pt l k).1 == (pt m k).1) = false := by simpa using h1
            clear heq h1
            go_wp2
            go_quiet (fail)
            go_wp2
            go_ret
            exact ⟨ret_bool (by simp [hne.out]), he.drewN _⟩
      · go_wp2
        go_ret
        refine ⟨ret_bool ?_, he⟩
        symm
        rw [decide_eq_true_eq]
        exact pts_ext HLE.out (fun j hj => hn.out j (by omega))
  · have hne : l ≠ m := by rintro rfl; exact hlen rfl
    have hle : ((l.length : Int) != (m.length : Int)) = true := by simp; omega
    have hle2 : (l.length != m.length) = true := by simp; omega
    have hle3 : ((l.length : Int) == (m.length : Int)) = false := by simp; omega
    have hle4 : (l.length == m.length) = false := by simp; omega
    have HNE := Lib.hid hne
    clear hne hlen
    go_enter Try.func46, Try.ntmps46
    go_wp2
    go_ret
    exact ⟨ret_bool (by simp [HNE.out]), Ext.refl _⟩
end Go.Proofs.Ytfigooilhnahfaa
/- Whether two lists of numbers are the same. -/
namespace Go.Proofs.Ytfigooilhnahfaa
open Go.RowKit

set_option maxHeartbeats 1000000 in
theorem EqualI_any (l m : List Int) (a a' : Option Addr) (cap cap' : Nat) (w : World) (hl : l.length ≤ maxLen) (hc : CellsI w a l) (hd : CellsI w a' m) :
    Calls Try.prog 47 #[.slice a l.length cap, .slice a' m.length cap'] w fun e w' => e = .returned (.bool (decide (l = m))) ∧ Ext w w' := by
  unfold maxLen at hl
  by_cases hlen : l.length = m.length
  · have HLE := Lib.hid hlen
    have hle : ((l.length : Int) != (m.length : Int)) = false := by simp [hlen]
    have hle2 : (l.length != m.length) = false := by simp [hlen]
    clear hlen
    go_enter Try.func47, Try.ntmps47
    go_wp2
    go_loopw [13] (fun i wr => ∃ k : Nat, k ≤ l.length ∧ i = .int .i64 k ∧ Hid (∀ j, j < k → l.getD j 0 = m.getD j 0) ∧ Ext w wr) (fun i _ => l.length - (intOf i).toNat)
    case atStart => exact ⟨0, Nat.zero_le _, rfl, fun j hj => by omega, Ext.refl _⟩
    case round =>
      obtain ⟨k, hk, rfl, hn, he⟩ := hrel
      by_cases hlt : k < l.length
      · obtain ⟨b, off, ha, e1⟩ := hc.ext he k hlt
        obtain ⟨b', off', ha', d1⟩ := hd.ext he k (by have := HLE.out; omega)
        have HC : Hid (CellsI w a l) := hc
        have HD : Hid (CellsI w a' m) := hd
        subst ha ha'
        clear hc hd
        have hkm : (k : Int) < (m.length : Int) := by have := HLE.out; omega
        generalize hx : l.getD k 0 = x at e1
        generalize hy : m.getD k 0 = y at d1
        have HX := Lib.hid hx
        have HY := Lib.hid hy
        clear hx hy
        by_cases heq : x = y
        · subst heq
          go_wp2
          go_quiet (fail)
          go_wp2
          refine ⟨⟨k + 1, by omega, by go_num, fun j hj => ?_, he.drewN _⟩, by simp [intOf]; omega⟩
          by_cases e : j = k
          · subst e; rw [HX.out, HY.out]
          · exact hn.out j (by omega)
        · have hne : Hid (l ≠ m) := by rintro rfl; exact heq (HX.out.symm.trans HY.out)
          have h2 : (x == y) = false := by simpa using heq
          have h3 : (x != y) = true := by simpa using heq
          clear heq
          go_wp2
          go_quiet (fail)
          go_wp2
          go_ret
          exact ⟨ret_bool (by simp [hne.out]), he.drewN _⟩
      · go_wp2
        go_ret
        refine ⟨ret_bool ?_, he⟩
        symm
        rw [decide_eq_true_eq]
        refine List.ext_getElem HLE.out fun i h1 h2 => ?_
        have := hn.out i (by omega)
        rw [List.getD_eq_getElem?_getD, List.getD_eq_getElem?_getD, List.getElem?_eq_getElem h1, List.getElem?_eq_getElem h2] at this
        simpa using this
  · have hne : l ≠ m := by rintro rfl; exact hlen rfl
    have hle : ((l.length : Int) != (m.length : Int)) = true := by simp; omega
    have hle2 : (l.length != m.length) = true := by simp; omega
    have hle3 : ((l.length : Int) == (m.length : Int)) = false := by simp; omega
    have hle4 : (l.length == m.length) = false := by simp; omega
    have HNE := Lib.hid hne
    clear hne hlen
    go_enter Try.func47, Try.ntmps47
    go_wp2
    go_ret
    exact ⟨ret_bool (by simp [HNE.out]), Ext.refl _⟩

set_option maxHeartbeats 1000000 in
theorem SameInts_any (l m : List Int) (a a' : Option Addr) (cap cap' : Nat) (w : World) (hl : l.length ≤ maxLen) (hc : CellsI w a l) (hd : CellsI w a' m) :
    Calls Try.prog 26 #[.slice a l.length cap, .slice a' m.length cap'] w fun e w' => e = .returned (.bool (decide (l = m))) ∧ Ext w w' := by
  unfold maxLen at hl
  by_cases hlen : l.length = m.length
  · have HLE := Lib.hid hlen
    have hle : ((l.length : Int) != (m.length : Int)) = false := by simp [hlen]
    have hle2 : (l.length != m.length) = false := by simp [hlen]
    clear hlen
    go_enter Try.func26, Try.ntmps26
    go_wp2
    go_loopw [5] (fun i wr => ∃ k : Nat, k ≤ l.length ∧ i = .int .i64 k ∧ Hid (∀ j, j < k → l.getD j 0 = m.getD j 0) ∧ Ext w wr) (fun i _ => l.length - (intOf i).toNat)
    case atStart => exact ⟨0, Nat.zero_le _, rfl, fun j hj => by omega, Ext.refl _⟩
    case round =>
      obtain ⟨k, hk, rfl, hn, he⟩ := hrel
      by_cases hlt : k < l.length
      · obtain ⟨b, off, ha, e1⟩ := hc.ext he k hlt
        obtain ⟨b', off', ha', d1⟩ := hd.ext he k (by have := HLE.out; omega)
        have HC : Hid (CellsI w a l) := hc
        have HD : Hid (CellsI w a' m) := hd
        subst ha ha'
        clear hc hd
        have hkm : (k : Int) < (m.length : Int) := by have := HLE.out; omega
        generalize hx : l.getD k 0 = x at e1
        generalize hy : m.getD k 0 = y at d1
        have HX := Lib.hid hx
        have HY := Lib.hid hy
        clear hx hy
        by_cases heq : x = y
        · subst heq
          go_wp2
          go_quiet (fail)
          go_wp2
          refine ⟨⟨k + 1, by omega, by go_num, fun j hj => ?_, he.drewN _⟩, by simp [intOf]; omega⟩
          by_cases e : j = k
          · subst e; rw [HX.out, HY.out]
          · exact hn.out j (by omega)
        · have hne : Hid (l ≠ m) := by rintro rfl; exact heq (HX.out.symm.trans HY.out)
          have h2 : (x == y) = false := by simpa using heq
          have h3 : (x != y) = true := by simpa using heq
          clear heq
          go_wp2
          go_quiet (fail)
          go_wp2
          go_ret
          exact ⟨ret_bool (by simp [hne.out]), he.drewN _⟩
      · go_wp2
        go_ret
        refine ⟨ret_bool ?_, he⟩
        symm
        rw [decide_eq_true_eq]
        refine List.ext_getElem HLE.out fun i h1 h2 => ?_
        have := hn.out i (by omega)
        rw [List.getD_eq_getElem?_getD, List.getD_eq_getElem?_getD, List.getElem?_eq_getElem h1, List.getElem?_eq_getElem h2] at this
        simpa using this
  · have hne : l ≠ m := by rintro rfl; exact hlen rfl
    have hle : ((l.length : Int) != (m.length : Int)) = true := by simp; omega
    have hle2 : (l.length != m.length) = true := by simp; omega
    have hle3 : ((l.length : Int) == (m.length : Int)) = false := by simp; omega
    have hle4 : (l.length == m.length) = false := by simp; omega
    have HNE := Lib.hid hne
    clear hne hlen
    go_enter Try.func26, Try.ntmps26
    go_wp2
    go_ret
    exact ⟨ret_bool (by simp [HNE.out]), Ext.refl _⟩
end Go.Proofs.Ytfigooilhnahfaa
