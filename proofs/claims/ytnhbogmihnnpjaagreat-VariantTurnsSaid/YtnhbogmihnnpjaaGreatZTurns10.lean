/- Steps of the proof: QLaw, QLTurns, QOpen. No conditions. -/
import Derived.ProofKit
import Derived.OpenShut
import Derived.Lib.SmallJoins
import Derived.Deep.Slices
import Derived.Test.YtnhbogmihnnpjaaGreatZTurns1
import Derived.Test.YtnhbogmihnnpjaaGreatZTurns2
import Derived.Test.YtnhbogmihnnpjaaGreatZTurns3
import Derived.Test.YtnhbogmihnnpjaaGreatZTurns4
import Derived.Test.YtnhbogmihnnpjaaGreatZTurns5
import Derived.Test.YtnhbogmihnnpjaaGreatZTurns6
import Derived.Test.YtnhbogmihnnpjaaGreatZTurns7
import Derived.Test.YtnhbogmihnnpjaaGreatZTurns8
import Derived.Test.YtnhbogmihnnpjaaGreatZTurns9
/- What the laws' walks share. -/
namespace Go.Proofs.YtnhbogmihnnpjaaGreat
open Go.RowKit

theorem cellsQ_one {w : World} {n : Int} {l : List Stp} {a : Option Addr} {c : Nat} (lp : l.length ≤ maxLen) (hp : CellsP w a l) :
    CellsQ (w.alloc (.cells #[.int .i64 n, .slice a l.length c] 24)) (some ⟨w.heap.size, 0, none⟩) [(n, l)] := by
  have E : Ext w (w.alloc (.cells #[.int .i64 n, .slice a l.length c] 24)) := (by repeat (first | with_reducible exact Ext.refl _ | with_reducible assumption | with_reducible apply Ext.drewN | with_reducible apply Ext.drew | with_reducible apply Ext.alloc | ((with_reducible refine Ext.set ?_ ?_ _); rotate_left; first | omega | (simp; omega)) | (with_reducible refine Ext.trans ?_ (by with_reducible assumption))))
  intro i hi
  have : i = 0 := by simp at hi; omega
  subst this
  exact ⟨w.heap.size, 0, .slice a l.length c, rfl, by simp [List.getD], by simp, ⟨a, c, rfl, hp.ext E, lp⟩⟩
/-- the result of a call that yields a sequence and an error, at an address -/
theorem SeqErr.at {s : Sq} {er : Int} {w : World} {e : Ending} {w' : World} (h : SeqErr s er w e w') : ∃ a cap, e = .returned (.tuple #[.agg #[.int .i64 s.1, .slice a s.2.length cap], .int .i64 er]) ∧ CellsP w' a s.2 ∧ s.2.length ≤ maxLen ∧ Ext w w' := by
  obtain ⟨v, rfl, ⟨u, rfl, a, cap, rfl, hc, hm⟩, hE⟩ := h
  exact ⟨a, cap, rfl, hc, hm, hE⟩
/-- a sequence's own two cells -/
structure Box (w : World) (b : Nat) (x : Int) (v : Value) : Prop where
  c0 : w.cell? ⟨b, 0, none⟩ = some (.int .i64 x)
  c1 : w.cell? ⟨b, 1, none⟩ = some v
  f0 : w.frozen? ⟨b, 0, none⟩ = false
  f1 : w.frozen? ⟨b, 1, none⟩ = false
  no : ∀ o, 2 ≤ o → w.cell? ⟨b, o, none⟩ = none
theorem Box.ext {w w' : World} {b : Nat} {x : Int} {v : Value} (h : Box w b x v) (k : Ext w w') : Box w' b x v :=
  ⟨k.cell h.c0, k.cell h.c1, (Below.frozen (p := ⟨b, 0, none⟩) k (cell_lt h.c0)).trans h.f0, (Below.frozen (p := ⟨b, 1, none⟩) k (cell_lt h.c1)).trans h.f1, fun o ho => (World.cell?_of_block (Below.block k b (cell_lt h.c0))).trans (h.no o ho)⟩
theorem Box.new (w : World) (x : Int) (a : Option Addr) (n c : Nat) : Box (w.alloc (.cells #[.int .i64 x, .slice a n c] 24)) w.heap.size x (.slice a n c) := by
  refine ⟨by go_simp, by go_simp, by go_simp, by go_simp, fun o ho => ?_⟩
  rw [World.cell?_alloc_new]
  exact Array.getElem?_eq_none (by simpa using ho)
theorem Box.set {w : World} {b : Nat} {x : Int} {v : Value} (h : Box w b x v) (y : Int) (u : Value) : Box ((w.setCell ⟨b, 0, none⟩ (.int .i64 y)).setCell ⟨b, 1, none⟩ u) b y u := by
  have e0 : (w.setCell ⟨b, 0, none⟩ (.int .i64 y)).cell? ⟨b, 0, none⟩ = some (.int .i64 y) := World.cell?_setCell_same _ _ _ h.c0
  have e1 : (w.setCell ⟨b, 0, none⟩ (.int .i64 y)).cell? ⟨b, 1, none⟩ = some v := by
    rw [World.cell?_setCell_other _ _ _ _ (fun h => by simp only [Addr.mk.injEq] at h; omega)]; exact h.c1
  refine ⟨?_, World.cell?_setCell_same _ _ _ e1, by rw [World.frozen?_setCell, World.frozen?_setCell]; exact h.f0, by rw [World.frozen?_setCell, World.frozen?_setCell]; exact h.f1, fun o ho => ?_⟩
  · rw [World.cell?_setCell_other _ _ _ _ (fun h => by simp only [Addr.mk.injEq] at h; omega)]; exact e0
  · rw [World.cell?_setCell_other _ _ _ _ (fun h => by simp only [Addr.mk.injEq] at h; omega), World.cell?_setCell_other _ _ _ _ (fun h => by simp only [Addr.mk.injEq] at h; omega)]; exact h.no o ho
/-- what befalls a sequence's own cells befalls no steps -/
theorem Box.keepK {w : World} {b : Nat} {x : Int} {sa : Option Addr} {sn sc : Nat} (h : Box w b x (.slice sa sn sc)) {a : Option Addr} {l : List Stk} (hc : CellsK w a l) {B : World} (hB : ∀ k, k < w.heap.size → k ≠ b → B.heap[k]? = w.heap[k]?) : CellsK B a l := fun i hi => by
  obtain ⟨b', off, ha, p1, p2⟩ := hc i hi
  have hne : b' ≠ b := by
    rintro rfl
    rcases Nat.lt_or_ge (off + i * 2) 2 with hlt | hge
    · rcases Nat.lt_or_ge (off + i * 2) 1 with h1 | h1
      · have e : off + i * 2 = 0 := by omega
        rw [e] at p2
        rw [h.c1] at p2
        cases p2
      · have e : off + i * 2 = 1 := by omega
        rw [e, h.c1] at p1
        cases p1
    · rw [h.no _ hge] at p1; cases p1
  have e := hB b' (cell_lt p1) hne
  exact ⟨b', off, ha, (World.cell?_of_block e).trans p1, (World.cell?_of_block e).trans p2⟩
theorem Box.keep {w : World} {b : Nat} {x : Int} {sa : Option Addr} {sn sc : Nat} (h : Box w b x (.slice sa sn sc)) {a : Option Addr} {l : List Stp} (hc : CellsP w a l) {B : World} (hB : ∀ k, k < w.heap.size → k ≠ b → B.heap[k]? = w.heap[k]?) : CellsP B a l := fun i hi => by
  obtain ⟨b', off, v, ha, p1, ⟨a2, c2, rfl, hk, hm⟩, p2⟩ := hc i hi
  have hne : b' ≠ b := by
    rintro rfl
    rcases Nat.lt_or_ge (off + i * 2) 2 with hlt | hge
    · rcases Nat.lt_or_ge (off + i * 2) 1 with h1 | h1
      · have e : off + i * 2 = 0 := by omega
        rw [e, h.c0] at p1
        cases p1
      · rw [h.no (off + i * 2 + 1) (by omega)] at p2; cases p2
    · rw [h.no _ hge] at p1; cases p1
  have e := hB b' (cell_lt p1) hne
  exact ⟨b', off, _, ha, (World.cell?_of_block e).trans p1, ⟨a2, c2, rfl, h.keepK hk hB, hm⟩, (World.cell?_of_block e).trans p2⟩
theorem set2_block (w : World) (b : Nat) (u v : Value) : ∀ k, k < w.heap.size → k ≠ b → ((w.setCell ⟨b, 0, none⟩ u).setCell ⟨b, 1, none⟩ v).heap[k]? = w.heap[k]? := fun k _ hk =>
  (Below.heap_setCell _ _ _ _ (fun e => hk e)).trans (Below.heap_setCell _ _ _ _ (fun e => hk e))
theorem Box.other {w : World} {b c : Nat} {x : Int} {v : Value} (h : Box w c x v) (hne : c ≠ b) (u t : Value) : Box ((w.setCell ⟨b, 0, none⟩ u).setCell ⟨b, 1, none⟩ t) c x v := by
  have e := set2_block w b u t c (cell_lt h.c0) hne
  exact ⟨(World.cell?_of_block e).trans h.c0, (World.cell?_of_block e).trans h.c1, (World.frozen?_of_block e).trans h.f0, (World.frozen?_of_block e).trans h.f1, fun o ho => (World.cell?_of_block e).trans (h.no o ho)⟩
end Go.Proofs.YtnhbogmihnnpjaaGreat
/- The law VariantTurns: its walk. -/
namespace Go.Proofs.YtnhbogmihnnpjaaGreat
open Go.RowKit

set_option maxHeartbeats 8000000 in
set_option maxRecDepth 100000 in
theorem VariantTurns_any (n : Int) (l : List Stp) (k : Int) (a : Option Addr) (cap : Nat) (w : World) (hl : l.length ≤ maxLen) (hc : CellsP w a l) (hr : Room a l.length cap) :
    Calls Tryz.prog 3 #[.agg #[.int .i64 n, .slice a l.length cap], .int .i64 k] w fun e w' => e = .returned (.bool true) ∧ Ext w w' := by
  have HC := Lib.hid hc
  have HL := Lib.hid hl
  have HR := Lib.hid hr
  clear hc hl hr
  have E0 : Ext w (w.alloc (.cells #[.int .i64 n, .slice a l.length cap] 24)) := (by repeat (first | with_reducible exact Ext.refl _ | with_reducible assumption | with_reducible apply Ext.drewN | with_reducible apply Ext.drew | with_reducible apply Ext.alloc | ((with_reducible refine Ext.set ?_ ?_ _); rotate_left; first | omega | (simp; omega)) | (with_reducible refine Ext.trans ?_ (by with_reducible assumption))))
  have c0 : (w.alloc (.cells #[.int .i64 n, .slice a l.length cap] 24)).cell? ⟨w.heap.size, 0, none⟩ = some (.int .i64 n) := by go_simp
  have c1 : (w.alloc (.cells #[.int .i64 n, .slice a l.length cap] 24)).cell? ⟨w.heap.size, 1, none⟩ = some (.slice a l.length cap) := by go_simp
  go_enter Tryz.func3, Tryz.ntmps3
  go_wp2_with fail
  have E1 : Ext w ((w.alloc (.cells #[.int .i64 n, .slice a l.length cap] 24)).alloc (.cells #[.int .i64 n, .slice a l.length cap] 24)) := (by repeat (first | with_reducible exact Ext.refl _ | with_reducible assumption | with_reducible apply Ext.drewN | with_reducible apply Ext.drew | with_reducible apply Ext.alloc | ((with_reducible refine Ext.set ?_ ?_ _); rotate_left; first | omega | (simp; omega)) | (with_reducible refine Ext.trans ?_ (by with_reducible assumption))))
  have c0 := ((Ext.refl (w.alloc (.cells #[.int .i64 n, .slice a l.length cap] 24))).alloc (.cells #[.int .i64 n, .slice a l.length cap] 24)).cell c0
  have c1 := ((Ext.refl (w.alloc (.cells #[.int .i64 n, .slice a l.length cap] 24))).alloc (.cells #[.int .i64 n, .slice a l.length cap] 24)).cell c1
  have hq := cellsQ_one (n := n) (c := cap) HL.out (HC.out.ext E0)
  have HQ := Lib.hid hq
  clear hq
  refine (few_any [(n, l)] _ 1 _ (by unfold maxLen; simp) (by simpa using HQ.out)).mono ?_
  rintro e w1 ⟨rfl, hE⟩
  have F1 := E1.trans hE
  have c0 := hE.cell c0
  have c1 := hE.cell c1
  clear hE E1 E0 HQ
  generalize hb : (!([(n, l)] : List Sq).any badQ) = fw
  clear hb
  obtain ⟨bs, hbs⟩ : ∃ bs, bs = w.heap.size := ⟨_, rfl⟩
  rw [← hbs] at c0 c1 ⊢
  clear hbs
  cases fw
  · go_wp2_with fail
    refine (awake_any _).mono ?_
    rintro e w2 ⟨rfl, hE⟩
    go_wp2
    go_ret
    exact ⟨rfl, F1.trans hE⟩
  obtain ⟨er, her⟩ : ∃ er, er = ckSeq (n, l) := ⟨_, rfl⟩
  obtain ⟨P, hP⟩ : ∃ P, P = (if ckSeq (n, l) = 0 then pauses (n, l) else []) := ⟨_, rfl⟩
  obtain ⟨fe, hfe⟩ : ∃ fe, fe = fromE (n, l) k := ⟨_, rfl⟩
  obtain ⟨fs, hfs⟩ : ∃ fs, fs = (if fromE (n, l) k = 0 then turned (n, l) k.toNat else sq0) := ⟨_, rfl⟩
  obtain ⟨me, hme⟩ : ∃ me, me = mergeE (n, l) k := ⟨_, rfl⟩
  obtain ⟨ms, hms⟩ : ∃ ms, ms = (if mergeE (n, l) k = 0 then merged (n, l) k.toNat else sq0) := ⟨_, rfl⟩
  have HP := Lib.hid (And.intro hP her)
  have HF := Lib.hid (And.intro hfs hfe)
  have HM := Lib.hid (And.intro hms hme)
  clear hP her hfe hfs hme hms
  go_wp2_with fail
  refine (Pauses_any n l a cap _ HL.out (HC.out.ext F1)).mono ?_
  rintro e w2 h
  rw [← HP.out.1, ← HP.out.2] at h
  obtain ⟨pa, pc, rfl, hp, hpl, hE⟩ := h
  have HPA := Lib.hid hp
  have HPL := Lib.hid hpl
  have F2 := F1.trans hE
  have c0 := hE.cell c0
  have c1 := hE.cell c1
  clear hp hpl hE F1
  go_wp2_with fail
  refine (PausesR_any n l a cap _ HL.out (HC.out.ext F2)).mono ?_
  rintro e w3 h
  rw [← HP.out.1, ← HP.out.2] at h
  obtain ⟨qa', qc', rfl, hp, _, hE⟩ := h
  have HPA := Lib.hid (HPA.out.ext hE)
  have HPB := Lib.hid hp
  have F3 := F2.trans hE
  have c0 := hE.cell c0
  have c1 := hE.cell c1
  clear hp hE F2
  go_wp2_with fail
  refine (From_any n l k a cap _ HL.out (HC.out.ext F3) HR.out).mono ?_
  rintro e w4 h
  rw [← HF.out.1, ← HF.out.2] at h
  obtain ⟨fa, fc, rfl, hf, hfl, hE⟩ := h.at
  have HFA := Lib.hid hf
  have HFL := Lib.hid hfl
  have HPA := Lib.hid (HPA.out.ext hE)
  have HPB := Lib.hid (HPB.out.ext hE)
  have F4 := F3.trans hE
  have c0 := hE.cell c0
  have c1 := hE.cell c1
  have z4 := cell_lt c0
  dsimp only at z4
  clear hf hfl hE F3 h
  go_wp2_with fail
  have E5 : Ext w4 (w4.alloc (.cells #[.int .i64 fs.1, .slice fa fs.2.length fc] 24)) := (by repeat (first | with_reducible exact Ext.refl _ | with_reducible assumption | with_reducible apply Ext.drewN | with_reducible apply Ext.drew | with_reducible apply Ext.alloc | ((with_reducible refine Ext.set ?_ ?_ _); rotate_left; first | omega | (simp; omega)) | (with_reducible refine Ext.trans ?_ (by with_reducible assumption))))
  have B9 := Lib.hid (Box.new w4 fs.1 fa fs.2.length fc)
  have HFA := Lib.hid (HFA.out.ext E5)
  have HPA := Lib.hid (HPA.out.ext E5)
  have HPB := Lib.hid (HPB.out.ext E5)
  have F5 := F4.trans E5
  have c0 := E5.cell c0
  have c1 := E5.cell c1
  have hzw : w.heap.size ≤ w4.heap.size := F4.size
  obtain ⟨b9, hb9⟩ : ∃ b, b = w4.heap.size := ⟨_, rfl⟩
  rw [← hb9] at B9 z4 hzw ⊢
  clear hb9 E5 F4
  generalize (w4.alloc (.cells #[.int .i64 fs.1, .slice fa fs.2.length fc] 24)) = W5 at B9 HFA HPA HPB F5 c0 c1 ⊢
  refine (FromR_any n l k a cap _ HL.out (HC.out.ext F5)).mono ?_
  rintro e w6 h
  rw [← HF.out.1, ← HF.out.2] at h
  obtain ⟨ga, gc, rfl, hf, _, hE⟩ := h.at
  have HGA := Lib.hid hf
  have HFA := Lib.hid (HFA.out.ext hE)
  have HPA := Lib.hid (HPA.out.ext hE)
  have HPB := Lib.hid (HPB.out.ext hE)
  have F6 := F5.trans hE
  have B9 := Lib.hid (B9.out.ext hE)
  have c0 := hE.cell c0
  have c1 := hE.cell c1
  have s0 := B9.out.c0
  have z6 := cell_lt s0
  have z7 := cell_lt c0
  dsimp only at z6 z7
  clear hf hE F5 h s0
  go_wp2_with fail
  have E5 : Ext w6 (w6.alloc (.cells #[.int .i64 fs.1, .slice ga fs.2.length gc] 24)) := (by repeat (first | with_reducible exact Ext.refl _ | with_reducible assumption | with_reducible apply Ext.drewN | with_reducible apply Ext.drew | with_reducible apply Ext.alloc | ((with_reducible refine Ext.set ?_ ?_ _); rotate_left; first | omega | (simp; omega)) | (with_reducible refine Ext.trans ?_ (by with_reducible assumption))))
  have B11 := Lib.hid (Box.new w6 fs.1 ga fs.2.length gc)
  have HFA := Lib.hid (HFA.out.ext E5)
  have HGA := Lib.hid (HGA.out.ext E5)
  have HPA := Lib.hid (HPA.out.ext E5)
  have HPB := Lib.hid (HPB.out.ext E5)
  have F7 := F6.trans E5
  have B9 := Lib.hid (B9.out.ext E5)
  have c0 := E5.cell c0
  have c1 := E5.cell c1
  obtain ⟨b11, hb11⟩ : ∃ b, b = w6.heap.size := ⟨_, rfl⟩
  rw [← hb11] at B11 z6 z7 ⊢
  clear hb11 E5 F6
  generalize (w6.alloc (.cells #[.int .i64 fs.1, .slice ga fs.2.length gc] 24)) = W7 at B9 B11 HFA HGA HPA HPB F7 c0 c1 ⊢
  refine (EqualInt_any P P pa qa' pc qc' _ HPL.out HPA.out HPL.out HPB.out).mono ?_
  rintro e w8 ⟨rfl, hE⟩
  rw [show decide (P = P) = true from by simp]
  have HFA := Lib.hid (HFA.out.ext hE)
  have HGA := Lib.hid (HGA.out.ext hE)
  have F8 := F7.trans hE
  have B9 := Lib.hid (B9.out.ext hE)
  have B11 := Lib.hid (B11.out.ext hE)
  have c0 := hE.cell c0
  have c1 := hE.cell c1
  have s0 := B9.out.c0
  have s1 := B9.out.c1
  have r0 := B11.out.c0
  have r1 := B11.out.c1
  clear hE F7 HPA HPB
  go_wp2_with fail
  clear s0 s1 r0 r1
  refine (SameQ_any fs.1 fs.1 fs.2 fs.2 fa ga fc gc _ HFL.out HFA.out HFL.out HGA.out).mono ?_
  rintro e w9 ⟨rfl, hE⟩
  rw [show decide ((fs.1, fs.2) = (fs.1, fs.2)) = true from by simp]
  have F9 := F8.trans hE
  have B9 := Lib.hid (B9.out.ext hE)
  have B11 := Lib.hid (B11.out.ext hE)
  have c0 := hE.cell c0
  have c1 := hE.cell c1
  clear hE F8 HFA HGA
  go_wp2_with fail
  refine (Merge_any n l k a cap _ HL.out (HC.out.ext F9)).mono ?_
  rintro e w10 h
  rw [← HM.out.1, ← HM.out.2] at h
  obtain ⟨ma, mc, rfl, hf, hfl, hE⟩ := h.at
  have HMA := Lib.hid hf
  have HML := Lib.hid hfl
  have FA := F9.trans hE
  have B9 := Lib.hid (B9.out.ext hE)
  have B11 := Lib.hid (B11.out.ext hE)
  have c0 := hE.cell c0
  have c1 := hE.cell c1
  have s0 := B9.out.c0
  have s1 := B9.out.c1
  have s2 := B9.out.f0
  have s3 := B9.out.f1
  clear hf hfl hE F9 h
  go_wp2_with fail
  clear s0 s1 s2 s3
  have HMA := Lib.hid (B9.out.keep HMA.out (set2_block _ b9 (.int .i64 ms.1) (.slice ma ms.2.length mc)))
  have FB : Ext w ((w10.setCell ⟨b9, 0, none⟩ (.int .i64 ms.1)).setCell ⟨b9, 1, none⟩ (.slice ma ms.2.length mc)) := (FA.set (by omega) _).set (by omega) _
  have B11 := Lib.hid (B11.out.other (b := b9) (by omega) (.int .i64 ms.1) (.slice ma ms.2.length mc))
  have c0 : ((w10.setCell ⟨b9, 0, none⟩ (.int .i64 ms.1)).setCell ⟨b9, 1, none⟩ (.slice ma ms.2.length mc)).cell? ⟨bs, 0, none⟩ = some (.int .i64 n) := (World.cell?_of_block (set2_block _ b9 _ _ bs (cell_lt c0) (by omega))).trans c0
  have c1 : ((w10.setCell ⟨b9, 0, none⟩ (.int .i64 ms.1)).setCell ⟨b9, 1, none⟩ (.slice ma ms.2.length mc)).cell? ⟨bs, 1, none⟩ = some (.slice a l.length cap) := (World.cell?_of_block (set2_block _ b9 _ _ bs (cell_lt c1) (by omega))).trans c1
  have B9 := Lib.hid (B9.out.set ms.1 (.slice ma ms.2.length mc))
  clear FA
  generalize ((w10.setCell ⟨b9, 0, none⟩ (.int .i64 ms.1)).setCell ⟨b9, 1, none⟩ (.slice ma ms.2.length mc)) = W11 at HMA FB B9 B11 c0 c1 ⊢
  refine (MergeR_any n l k a cap _ HL.out (HC.out.ext FB) HR.out).mono ?_
  rintro e w12 h
  rw [← HM.out.1, ← HM.out.2] at h
  obtain ⟨na, nc, rfl, hf, hfl, hE⟩ := h.at
  have HNA := Lib.hid hf
  have HMA := Lib.hid (HMA.out.ext hE)
  have FC := FB.trans hE
  have B9 := Lib.hid (B9.out.ext hE)
  have B11 := Lib.hid (B11.out.ext hE)
  have s0 := B11.out.c0
  have s1 := B11.out.c1
  have s2 := B11.out.f0
  have s3 := B11.out.f1
  have HNB := Lib.hid (B11.out.keep HNA.out (set2_block _ b11 (.int .i64 ms.1) (.slice na ms.2.length nc)))
  have HMB := Lib.hid (B11.out.keep HMA.out (set2_block _ b11 (.int .i64 ms.1) (.slice na ms.2.length nc)))
  have FD : Ext w ((w12.setCell ⟨b11, 0, none⟩ (.int .i64 ms.1)).setCell ⟨b11, 1, none⟩ (.slice na ms.2.length nc)) := (FC.set (by omega) _).set (by omega) _
  have B9N := Lib.hid (B9.out.other (b := b11) (by omega) (.int .i64 ms.1) (.slice na ms.2.length nc))
  have B11N := Lib.hid (B11.out.set ms.1 (.slice na ms.2.length nc))
  have t0 := B9.out.c0
  have t1 := B9.out.c1
  clear hf hfl hE FB h HNA HMA FC c0 c1
  go_wp2_with fail
  clear s0 s1 s2 s3 t0 t1
  refine (SameQ_any ms.1 ms.1 ms.2 ms.2 ma na mc nc _ HML.out HMB.out HML.out HNB.out).mono ?_
  rintro e w13 ⟨rfl, hE⟩
  rw [show decide ((ms.1, ms.2) = (ms.1, ms.2)) = true from by simp]
  have FE := FD.trans hE
  clear hE FD
  go_wp2_with fail
  refine (awake_any _).mono ?_
  rintro e w14 ⟨rfl, hE⟩
  go_wp2
  go_ret
  exact ⟨rfl, FE.trans hE⟩
end Go.Proofs.YtnhbogmihnnpjaaGreat
/- The arguments of the laws of sequences, opened. -/
namespace Go.Proofs.YtnhbogmihnnpjaaGreat
open Go.RowKit Go.ChangeShapes Go.WideShapes Go.Joins Go.Deep

theorem list2 {α : Type} {l : List α} (h : l.length = 2) : ∃ a b, l = [a, b] := by
  match l, h with
  | [a, b], _ => exact ⟨a, b, rfl⟩
theorem laidOut : laidOutB Tryz.prog = true := by kernel_rfl
theorem cellsOfStk : Tryz.prog.cellsOf 73 = 2 := by kernel_rfl
theorem cellsOfStp : Tryz.prog.cellsOf 87 = 2 := by kernel_rfl
theorem cellsOfInt : Tryz.prog.cellsOf 3 = 1 := by kernel_rfl
theorem cellsOfBool : Tryz.prog.cellsOf 4 = 1 := by kernel_rfl
theorem cellsOfSlk : Tryz.prog.cellsOf 66 = 1 := by kernel_rfl

section
variable {H : Type} {enc : TypeId × Value → H} {w : World} {base : Nat} {spare : Nat → Bool} {held : Bool}
theorem open_stk {fuel : Nat} {cs : List Value} {x : DataW H × List MemPlace} (h : DataW.trod enc Tryz.prog w base spare held fuel 73 cs = some x) : ∃ y : Stk, cs = [.int .i64 y.1, .bool y.2] := by
  obtain ⟨y0, y1, n, _, hl, h0, h1⟩ := trod_struct2 Tryz.underlying73 h
  rw [cellsOfStk] at hl
  obtain ⟨a, b, rfl⟩ := list2 hl
  rw [cellsOfInt] at h0
  rw [cellsOfBool] at h1
  obtain ⟨i, e0, _, w0⟩ := DataW.trod_int Tryz.underlying3 h0
  obtain ⟨j, e1, _⟩ := DataW.trod_bool Tryz.underlying4 h1
  simp at e0 e1
  subst e0; subst e1
  exact ⟨(i, j), rfl⟩
theorem open_stks {a : Addr} {len : Nat} (h : ∀ i, i < len → ∃ cs' n x, w.cells? base (a.add (i * 2)) 2 = some cs' ∧ DataW.trod enc Tryz.prog w base spare held n 73 cs' = some x) : ∃ l : List Stk, l.length = len ∧ CellsK w (some a) l := by
  have key : ∀ i, i < len → ∃ y : Stk, w.cell? (a.add (i * 2)) = some (.int .i64 y.1) ∧ w.cell? ((a.add (i * 2)).add 1) = some (.bool y.2) := fun i hi => by
    obtain ⟨cs', n, x, h1, h2⟩ := h i hi
    obtain ⟨y, rfl⟩ := open_stk h2
    obtain ⟨_, _, hc⟩ := World.cells?_some h1
    have c0 := hc 0 (by omega)
    have c1 := hc 1 (by omega)
    refine ⟨y, ?_, c1⟩
    have e : (a.add (i * 2)).add 0 = a.add (i * 2) := by simp [Addr.add]
    rw [e] at c0
    exact c0
  obtain ⟨f, hf⟩ := choose_lt (α := Stk) key
  refine ⟨(List.range len).map f, by simp, fun i hi => ?_⟩
  have hi' : i < len := by simpa using hi
  obtain ⟨h1, h2⟩ := hf i hi'
  have hp : ((List.range len).map f).getD i stk0 = f i := by simp [List.getD, hi']
  rw [hp]
  obtain ⟨b, off, spot⟩ := a
  have hs : spot = none := by
    have h0 := World.cell?_spot (hf 0 (by omega)).1
    simpa [Addr.add] using h0
  subst hs
  rw [Addr.add_lit] at h1 h2
  rw [Addr.add_lit] at h2
  exact ⟨b, off, rfl, h1, h2⟩
theorem open_slk {fuel : Nat} {v : Value} {x : DataW H × List MemPlace} (h : DataW.trod enc Tryz.prog w base spare held fuel 66 [v] = some x) : ∃ l : List Stk, SliceK w v l := by
  rcases open_slice Tryz.underlying66 h with ⟨h1, _⟩ | ⟨a, len, cap, m, n, D, Pl, h1, hb, hl, hm, hmm, _, hx⟩
  · simp at h1
    exact ⟨[], none, 0, h1, fun i hi => by simp at hi, by simp⟩
  · simp at h1
    rw [cellsOfStk] at hx
    have hlm : len ≤ m := by rw [hmm]; split <;> omega
    obtain ⟨l, hll, hc⟩ := open_stks (enc := enc) (spare := spare) (held := held) (w := w) (base := base) (a := a) (len := len) (fun i hi => by
      obtain ⟨cs', h2, h3⟩ := hx i (by omega)
      exact ⟨cs', n, _, h2, h3⟩)
    exact ⟨l, some a, cap, by rw [h1, hll], hc, by rw [hll]; omega⟩
theorem open_stp {fuel : Nat} {cs : List Value} {x : DataW H × List MemPlace} (h : DataW.trod enc Tryz.prog w base spare held fuel 87 cs = some x) : ∃ (v : Value) (y : Stp), cs = [v, .int .i64 y.2] ∧ SliceK w v y.1 := by
  obtain ⟨y0, y1, n, _, hl, h0, h1⟩ := trod_struct2 Tryz.underlying87 h
  rw [cellsOfStp] at hl
  obtain ⟨a, b, rfl⟩ := list2 hl
  rw [cellsOfInt] at h1
  rw [cellsOfSlk] at h0
  obtain ⟨i, e1, _, w0⟩ := DataW.trod_int Tryz.underlying3 h1
  obtain ⟨l, hv⟩ := open_slk (v := a) (by simpa using h0)
  simp at e1
  subst e1
  exact ⟨a, (l, i), rfl, hv⟩
theorem open_stps {a : Addr} {len : Nat} (h : ∀ i, i < len → ∃ cs' n x, w.cells? base (a.add (i * 2)) 2 = some cs' ∧ DataW.trod enc Tryz.prog w base spare held n 87 cs' = some x) : ∃ l : List Stp, l.length = len ∧ CellsP w (some a) l ∧ (0 < len → a.spot = none) := by
  have key : ∀ i, i < len → ∃ y : Value × Stp, w.cell? (a.add (i * 2)) = some y.1 ∧ w.cell? ((a.add (i * 2)).add 1) = some (.int .i64 y.2.2) ∧ SliceK w y.1 y.2.1 := fun i hi => by
    obtain ⟨cs', n, x, h1, h2⟩ := h i hi
    obtain ⟨v, y, rfl, hv⟩ := open_stp h2
    obtain ⟨_, _, hc⟩ := World.cells?_some h1
    have c0 := hc 0 (by omega)
    have c1 := hc 1 (by omega)
    refine ⟨(v, y), ?_, c1, hv⟩
    have e : (a.add (i * 2)).add 0 = a.add (i * 2) := by simp [Addr.add]
    rw [e] at c0
    exact c0
  obtain ⟨f, hf⟩ := choose_lt (α := Value × Stp) key
  have hs : 0 < len → a.spot = none := fun h0 => by
    have h0 := World.cell?_spot (hf 0 h0).1
    simpa [Addr.add] using h0
  refine ⟨(List.range len).map fun i => (f i).2, by simp, fun i hi => ?_, hs⟩
  have hi' : i < len := by simpa using hi
  obtain ⟨h1, h2, h3⟩ := hf i hi'
  have hp : ((List.range len).map fun i => (f i).2).getD i stp0 = (f i).2 := by simp [List.getD, hi']
  rw [hp]
  obtain ⟨b, off, spot⟩ := a
  have hs := hs (by omega)
  dsimp only at hs
  subst hs
  rw [Addr.add_lit] at h1 h2
  rw [Addr.add_lit] at h2
  exact ⟨b, off, _, rfl, h1, h3, h2⟩
theorem open_slp {fuel : Nat} {v : Value} {x : DataW H × List MemPlace} (h : DataW.trod enc Tryz.prog w base spare held fuel 22 [v] = some x) :
    ∃ (l : List Stp) (a : Option Addr) (cap : Nat), v = .slice a l.length cap ∧ CellsP w a l ∧ l.length ≤ maxLen ∧ Room a l.length cap := by
  rcases open_slice Tryz.underlying22 h with ⟨h1, _⟩ | ⟨a, len, cap, m, n, D, Pl, h1, hb, hl, hm, hmm, _, hx⟩
  · simp at h1
    exact ⟨[], none, 0, h1, fun i hi => by simp at hi, by simp, by simp, by simp, fun h0 => by simp at h0⟩
  · simp at h1
    rw [cellsOfStp] at hx
    have hlm : len ≤ m := by rw [hmm]; split <;> omega
    obtain ⟨l, hll, hc, hs⟩ := open_stps (enc := enc) (spare := spare) (held := held) (w := w) (base := base) (a := a) (len := len) (fun i hi => by
      obtain ⟨cs', h2, h3⟩ := hx i (by omega)
      exact ⟨cs', n, _, h2, h3⟩)
    refine ⟨l, some a, cap, by rw [h1, hll], hc, by rw [hll]; omega, by rw [hll]; exact hl, hm, fun h0 => ?_⟩
    obtain ⟨b, off, spot⟩ := a
    have := hs (by omega)
    dsimp only at this
    subst this
    exact ⟨b, off, rfl⟩
set_option maxRecDepth 100000 in
theorem open_seq {r : Reach} {b0 : Nat} {v : Value} {d : DataW H} {p : List MemPlace} (hv : Value.okWide Tryz.prog w r b0 24 v) (h : DataW.Trod enc Tryz.prog w base spare held 24 v d p) :
    ∃ (n : Int) (l : List Stp) (a : Option Addr) (cap : Nat), v = .agg #[.int .i64 n, .slice a l.length cap] ∧ CellsP w a l ∧ l.length ≤ maxLen ∧ Room a l.length cap ∧ (Lit.int .i64 n).wf = true := by
  obtain ⟨c0, c1, y0, y1, n, rfl, _, _, h0, h1⟩ := open_agg2 Tryz.underlying24 (by kernel_rfl) (by kernel_rfl) hv h
  obtain ⟨i, e0, _, w0⟩ := DataW.trod_int Tryz.underlying3 h0
  obtain ⟨l, a, cap, e1, hc, hl, hr⟩ := open_slp h1
  simp at e0
  subst e0; subst e1
  exact ⟨i, l, a, cap, rfl, hc, hl, hr, w0⟩
end
end Go.Proofs.YtnhbogmihnnpjaaGreat
