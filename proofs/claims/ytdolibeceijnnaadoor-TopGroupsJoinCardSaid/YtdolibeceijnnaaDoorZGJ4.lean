/- Steps of the proof: QJoin, QBack, QBackP, QLetters, QRen1, QRen, QStdW, QRenP, QAloneP, QAlone, QOwnQ, QBackS, QRestS, Grp6, GOnc, GLng. No conditions. -/
import Derived.Maps.OwnOps
import Derived.Maps.Views
import Derived.Maps.OwnSet
import Derived.Test.YtdolibeceijnnaaDoorZGJ1
import Derived.Test.YtdolibeceijnnaaDoorZGJ2
import Derived.Test.YtdolibeceijnnaaDoorZGJ3
namespace Go.Proofs.YtdolibeceijnnaaDoor
open Go.RowKit
theorem Full.append {l q : List Stp} (h : Full l) (k : Full q) : Full (l ++ q) := fun i hi => by
  rw [List.getD_eq_getElem?_getD]
  by_cases c : i < l.length
  · rw [List.getElem?_append_left c]
    have := h i c
    rw [List.getD_eq_getElem?_getD] at this
    exact this
  · rw [List.getElem?_append_right (by omega)]
    have := k (i - l.length) (by rw [List.length_append] at hi; omega)
    rw [List.getD_eq_getElem?_getD] at this
    exact this
set_option maxHeartbeats 8000000 in
set_option maxRecDepth 100000 in
theorem Join_ok (n m : Int) (l q : List Stp) (a b : Option Addr) (ca cb : Nat) (w : World) (hl : l.length ≤ maxLen) (hc : CellsP w a l) (hq : q.length ≤ maxLen) (hd : CellsP w b q) (h1 : ckSeq (n, l) = 0) (h2 : ckSeq (m, q) = 0) (h3 : l.length + q.length ≤ 64) :
    Calls Tryd.prog 23 #[.agg #[.int .i64 n, .slice a l.length ca], .agg #[.int .i64 m, .slice b q.length cb]] w (SeqErr (joined2 (n, l) (m, q)) 0 w) := by
  have HC := Lib.hid hc
  have HL := Lib.hid hl
  have HD := Lib.hid hd
  have HQ := Lib.hid hq
  have H1 := Lib.hid h1
  have H2 := Lib.hid h2
  have hl0 := (ckSeq_zero h1).2.2.1
  obtain ⟨s, hs⟩ : ∃ s, s = joined2 (n, l) (m, q) := ⟨_, rfl⟩
  rw [← hs]
  have HS := Lib.hid hs
  clear hs hc hd hl hq h1 h2
  go_enter Tryd.func23, Tryd.ntmps23
  go_wp2_with fail
  have E1 : Ext w ((((w.alloc (.cells #[.int .i64 n, .slice a l.length ca] 24)).alloc (.cells #[.int .i64 m, .slice b q.length cb] 24)).alloc (.cells #[.int .i64 0, .slice none 0 0] 24)).alloc (.cells #[.int .i64 n, .slice a l.length ca, .int .i64 m, .slice b q.length cb] 24)) := extA
  have a0 : ((((w.alloc (.cells #[.int .i64 n, .slice a l.length ca] 24)).alloc (.cells #[.int .i64 m, .slice b q.length cb] 24)).alloc (.cells #[.int .i64 0, .slice none 0 0] 24)).alloc (.cells #[.int .i64 n, .slice a l.length ca, .int .i64 m, .slice b q.length cb] 24)).cell? ⟨w.heap.size, 0, none⟩ = some (.int .i64 n) := by go_simp
  have a1 : ((((w.alloc (.cells #[.int .i64 n, .slice a l.length ca] 24)).alloc (.cells #[.int .i64 m, .slice b q.length cb] 24)).alloc (.cells #[.int .i64 0, .slice none 0 0] 24)).alloc (.cells #[.int .i64 n, .slice a l.length ca, .int .i64 m, .slice b q.length cb] 24)).cell? ⟨w.heap.size, 1, none⟩ = some (.slice a l.length ca) := by go_simp
  have b0 : ((((w.alloc (.cells #[.int .i64 n, .slice a l.length ca] 24)).alloc (.cells #[.int .i64 m, .slice b q.length cb] 24)).alloc (.cells #[.int .i64 0, .slice none 0 0] 24)).alloc (.cells #[.int .i64 n, .slice a l.length ca, .int .i64 m, .slice b q.length cb] 24)).cell? ⟨w.heap.size + 1, 0, none⟩ = some (.int .i64 m) := by go_simp
  have b1 : ((((w.alloc (.cells #[.int .i64 n, .slice a l.length ca] 24)).alloc (.cells #[.int .i64 m, .slice b q.length cb] 24)).alloc (.cells #[.int .i64 0, .slice none 0 0] 24)).alloc (.cells #[.int .i64 n, .slice a l.length ca, .int .i64 m, .slice b q.length cb] 24)).cell? ⟨w.heap.size + 1, 1, none⟩ = some (.slice b q.length cb) := by go_simp
  have c2 : ((((w.alloc (.cells #[.int .i64 n, .slice a l.length ca] 24)).alloc (.cells #[.int .i64 m, .slice b q.length cb] 24)).alloc (.cells #[.int .i64 0, .slice none 0 0] 24)).alloc (.cells #[.int .i64 n, .slice a l.length ca, .int .i64 m, .slice b q.length cb] 24)).cell? ⟨w.heap.size + 1 + 1, 0, none⟩ = some (.int .i64 0) := by go_simp
  have c3 : ((((w.alloc (.cells #[.int .i64 n, .slice a l.length ca] 24)).alloc (.cells #[.int .i64 m, .slice b q.length cb] 24)).alloc (.cells #[.int .i64 0, .slice none 0 0] 24)).alloc (.cells #[.int .i64 n, .slice a l.length ca, .int .i64 m, .slice b q.length cb] 24)).cell? ⟨w.heap.size + 1 + 1, 1, none⟩ = some (.slice none 0 0) := by go_simp
  have d2 : ((((w.alloc (.cells #[.int .i64 n, .slice a l.length ca] 24)).alloc (.cells #[.int .i64 m, .slice b q.length cb] 24)).alloc (.cells #[.int .i64 0, .slice none 0 0] 24)).alloc (.cells #[.int .i64 n, .slice a l.length ca, .int .i64 m, .slice b q.length cb] 24)).frozen? ⟨w.heap.size + 1 + 1, 0, none⟩ = false := by go_simp
  have d3 : ((((w.alloc (.cells #[.int .i64 n, .slice a l.length ca] 24)).alloc (.cells #[.int .i64 m, .slice b q.length cb] 24)).alloc (.cells #[.int .i64 0, .slice none 0 0] 24)).alloc (.cells #[.int .i64 n, .slice a l.length ca, .int .i64 m, .slice b q.length cb] 24)).frozen? ⟨w.heap.size + 1 + 1, 1, none⟩ = false := by go_simp
  have s0 : ((((w.alloc (.cells #[.int .i64 n, .slice a l.length ca] 24)).alloc (.cells #[.int .i64 m, .slice b q.length cb] 24)).alloc (.cells #[.int .i64 0, .slice none 0 0] 24)).alloc (.cells #[.int .i64 n, .slice a l.length ca, .int .i64 m, .slice b q.length cb] 24)).cell? ⟨w.heap.size + 1 + 1 + 1, 0, none⟩ = some (.int .i64 n) := by go_simp
  have s1 : ((((w.alloc (.cells #[.int .i64 n, .slice a l.length ca] 24)).alloc (.cells #[.int .i64 m, .slice b q.length cb] 24)).alloc (.cells #[.int .i64 0, .slice none 0 0] 24)).alloc (.cells #[.int .i64 n, .slice a l.length ca, .int .i64 m, .slice b q.length cb] 24)).cell? ⟨w.heap.size + 1 + 1 + 1, 1, none⟩ = some (.slice a l.length ca) := by go_simp
  have s2 : ((((w.alloc (.cells #[.int .i64 n, .slice a l.length ca] 24)).alloc (.cells #[.int .i64 m, .slice b q.length cb] 24)).alloc (.cells #[.int .i64 0, .slice none 0 0] 24)).alloc (.cells #[.int .i64 n, .slice a l.length ca, .int .i64 m, .slice b q.length cb] 24)).cell? ⟨w.heap.size + 1 + 1 + 1, 2, none⟩ = some (.int .i64 m) := by go_simp
  have s3 : ((((w.alloc (.cells #[.int .i64 n, .slice a l.length ca] 24)).alloc (.cells #[.int .i64 m, .slice b q.length cb] 24)).alloc (.cells #[.int .i64 0, .slice none 0 0] 24)).alloc (.cells #[.int .i64 n, .slice a l.length ca, .int .i64 m, .slice b q.length cb] 24)).cell? ⟨w.heap.size + 1 + 1 + 1, 3, none⟩ = some (.slice b q.length cb) := by go_simp
  generalize ((((w.alloc (.cells #[.int .i64 n, .slice a l.length ca] 24)).alloc (.cells #[.int .i64 m, .slice b q.length cb] 24)).alloc (.cells #[.int .i64 0, .slice none 0 0] 24)).alloc (.cells #[.int .i64 n, .slice a l.length ca, .int .i64 m, .slice b q.length cb] 24)) = W at E1 s0 s1 s2 s3 a0 a1 b0 b1 c2 c3 d2 d3 ⊢
  go_loopw [13] (fun i wr => ∃ k : Nat, k ≤ 2 ∧ i = .int .i64 k ∧ Ext W wr) (fun i _ => 2 - (intOf i).toNat)
  case atStart => exact ⟨0, by omega, rfl, Ext.refl _⟩
  case round =>
    obtain ⟨k, hk, rfl, he⟩ := hrel
    have s0 := he.cell s0
    have s1 := he.cell s1
    have s2 := he.cell s2
    have s3 := he.cell s3
    have zs := cell_lt s0
    dsimp only at zs
    have : k = 0 ∨ k = 1 ∨ k = 2 := by omega
    rcases this with rfl | rfl | rfl
    · have EB : Ext wr (wr.alloc (.cells #[.int .i64 n, .slice a l.length ca] 24)) := extA
      have HK := Lib.hid (Check_any n l a ca _ HL.out (HC.out.ext ((E1.trans he).trans EB)))
      go_wp2_with fail
      refine HK.out.mono ?_
      rintro e w1 ⟨rfl, hE⟩
      rw [H1.out]
      have E5 := (he.trans EB).trans hE
      clear HK
      go_wp2
      refine ⟨⟨1, by omega, by go_num, E5⟩, by simp [intOf]⟩
    · have EB : Ext wr (wr.alloc (.cells #[.int .i64 m, .slice b q.length cb] 24)) := extA
      have HK := Lib.hid (Check_any m q b cb _ HQ.out (HD.out.ext ((E1.trans he).trans EB)))
      go_wp2_with fail
      refine HK.out.mono ?_
      rintro e w1 ⟨rfl, hE⟩
      rw [H2.out]
      have E5 := (he.trans EB).trans hE
      clear HK
      go_wp2
      refine ⟨⟨2, by omega, by go_num, E5⟩, by simp [intOf]⟩
    · have a0 := he.cell a0
      have a1 := he.cell a1
      have b0 := he.cell b0
      have b1 := he.cell b1
      have d2 := (Below.frozen (p := ⟨w.heap.size + 1 + 1, 0, none⟩) he (cell_lt c2)).trans d2
      have d3 := (Below.frozen (p := ⟨w.heap.size + 1 + 1, 1, none⟩) he (cell_lt c3)).trans d3
      have c2 := he.cell c2
      have c3 := he.cell c3
      have E3 := E1.trans he
      have g1 : IntKind.i64.wrap ((l.length : Int) + (q.length : Int)) = (l.length : Int) + (q.length : Int) := IntWalk.i64_in _ (by omega)
      have g2 : ¬ ((64 : Int) < (l.length : Int) + (q.length : Int)) := by omega
      clear s0 s1 s2 s3 zs
      go_wp2
      refine wp_region_heldE 99 (fun w' => w'.cell? ⟨w.heap.size, 0, none⟩ = some (.int .i64 n) ∧ w'.cell? ⟨w.heap.size, 1, none⟩ = some (.slice a l.length ca) ∧ w'.cell? ⟨w.heap.size + 1, 0, none⟩ = some (.int .i64 m) ∧ w'.cell? ⟨w.heap.size + 1, 1, none⟩ = some (.slice b q.length cb)) (by kernel_rfl) ?_
      have ED : Ext wr wr.drew := extA
      have E4 := E3.trans ED
      have hS : wr.drew.cell? ⟨w.heap.size, 0, none⟩ = some (.int .i64 n) ∧ wr.drew.cell? ⟨w.heap.size, 1, none⟩ = some (.slice a l.length ca) ∧ wr.drew.cell? ⟨w.heap.size + 1, 0, none⟩ = some (.int .i64 m) ∧ wr.drew.cell? ⟨w.heap.size + 1, 1, none⟩ = some (.slice b q.length cb) := ⟨ED.cell a0, ED.cell a1, ED.cell b0, ED.cell b1⟩
      have d2 := (Below.frozen (p := ⟨w.heap.size + 1 + 1, 0, none⟩) ED (cell_lt c2)).trans d2
      have d3 := (Below.frozen (p := ⟨w.heap.size + 1 + 1, 1, none⟩) ED (cell_lt c3)).trans d3
      have c2 := ED.cell c2
      have c3 := ED.cell c3
      clear a0 a1 b0 b1
      generalize wr.drew = W3 at E4 hS c2 c3 d2 d3 ⊢
      clear ED
      have hz3 : w.heap.size + 1 + 1 < W3.heap.size := cell_lt c2
      ((refine eTk 0 ?_); (refine eTk 1 ?_); (refine eTk 2 ?_); (refine eTk 3 ?_); (refine eTk 4 ?_))
      obtain ⟨mx, hmx⟩ : ∃ mx, mx = (if n < m then m else n) := ⟨_, rfl⟩
      rw [← hmx]
      have HMX0 := Lib.hid hmx
      clear hmx
      ((refine eTk 5 ?_); (refine eTk 6 ?_); (refine eTk 7 ?_); (refine eTk 8 ?_))
      obtain ⟨p1, hp1, hq1⟩ := (HC.out.ext E4).pairsAt
      obtain ⟨p2, hp2, hq2⟩ := (HD.out.ext E4).pairsAt
      have hl1 : p1.length = l.length := by rw [← hp1]; simp
      have hl2 : p2.length = q.length := by rw [← hp2]; simp
      obtain ⟨L, hLL⟩ : ∃ L, L = l ++ q := ⟨_, rfl⟩
      have hL64 : L.length ≤ 64 := by rw [hLL, List.length_append]; omega
      have hpl : Hid ((p1 ++ p2).map (·.2) = L) := by show _ = _; rw [List.map_append, hp1, hp2, hLL]
      have HFU : Hid (Full L) := by show Full L; rw [hLL]; exact (ckSeq_full H1.out).append (ckSeq_full H2.out)
      have HQ1 := Lib.hid hq1
      have HQ2 := Lib.hid hq2
      have HL1 := Lib.hid hl1
      have HL2 := Lib.hid hl2
      have HLL := Lib.hid hLL
      clear hp1 hp2 hq1 hq2 hl1 hl2 hLL
      have E5 : Ext W3 (W3.alloc (.cells #[.slice a l.length ca, .slice b q.length cb] 22)) := extA
      have q1 : (W3.alloc (.cells #[.slice a l.length ca, .slice b q.length cb] 22)).cell? ⟨W3.heap.size, 0, none⟩ = some (.slice a l.length ca) := by go_simp
      have q2 : (W3.alloc (.cells #[.slice a l.length ca, .slice b q.length cb] 22)).cell? ⟨W3.heap.size, 1, none⟩ = some (.slice b q.length cb) := by go_simp
      (refine wpAnyE_one (i := 9) (o := ?_) ?_ (by kernel_rfl) (fun K hK => ?_); rotate_left; (focus ((simp only [List.getElem?_toArray, List.getElem?_cons_succ, List.getElem?_cons_zero]; exact rfl))); go_simp; refine hK.out _ _ ?_ (fun hHeld => ?_); rotate_left; clear hK K; (try simp only [Act.put, List.setIfInBounds_toArray, List.set_cons_zero, List.set_cons_succ]))
      rotate_left
      · exact ⟨E5.cell hS.1, E5.cell hS.2.1, E5.cell hS.2.2.1, E5.cell hS.2.2.2⟩
      clear hHeld
      generalize (W3.alloc (.cells #[.slice a l.length ca, .slice b q.length cb] 22)) = W4 at E5 q1 q2 ⊢
      have hcat := ConcatP_any p1 p2 _ hpl.out a b ca cb W3.heap.size W4 (HQ1.out.ext E5) (HQ2.out.ext E5) (by have := HL1.out; omega) (by have := HL1.out; omega) (by have := HL2.out; omega) (by rw [HL1.out]; exact q1) (by rw [HL2.out]; exact q2)
      have HCAT := Lib.hid hcat
      clear hcat q1 q2
      (refine wpAnyE_one (i := 10) (o := ?_) ?_ (by kernel_rfl) (fun K hK => ?_); rotate_left; (focus ((simp only [List.getElem?_toArray, List.getElem?_cons_succ, List.getElem?_cons_zero]; exact rfl))); go_simp; refine HCAT.out.mono ?_; rintro e w5 ⟨ra, rc, rfl, hrc, hrl, hE5⟩; have HRC := Lib.hid hrc; have HRL := Lib.hid hrl; clear hrc hrl; go_wp2_with fail; refine hK.out _ _ ?_ (fun hHeld => ?_); rotate_left; clear hK K; (try simp only [Act.put, List.setIfInBounds_toArray, List.set_cons_zero, List.set_cons_succ]))
      rotate_left
      · have F := E5.trans hE5
        exact ⟨F.cell hS.1, F.cell hS.2.1, F.cell hS.2.2.1, F.cell hS.2.2.2⟩
      have F5 := E5.trans hE5
      clear HCAT
      have HMX : Hid (s = (mx, L)) := by
        show _ = _
        rw [HS.out, HMX0.out, HLL.out]
        unfold joined2
        dsimp only
        rw [show max n m = if n < m then m else n from by split <;> omega]
      (refine eTk 11 ?_)
      have HCOP := Lib.hid (copied_any mx L ra rc w5 (by omega) HFU.out HRC.out)
      (refine wpAnyE_one (i := 12) (o := ?_) ?_ (by kernel_rfl) (fun K hK => ?_); rotate_left; (focus ((simp only [List.getElem?_toArray, List.getElem?_cons_succ, List.getElem?_cons_zero]; exact rfl))); go_simp; refine HCOP.out.mono ?_; rintro e w6 ⟨rv, rfl, hrv, hE6⟩; have HRV := Lib.hid hrv; obtain ⟨ru, rfl, va, vc, rfl, _, _⟩ := hrv w6 (Chg.refl _ _); clear hrv; go_wp2_with fail; refine hK.out _ _ ?_ (fun hHeld => ?_); rotate_left; clear hK K; (try simp only [Act.put, List.setIfInBounds_toArray, List.set_cons_zero, List.set_cons_succ]))
      rotate_left
      · have F := F5.trans hE6
        exact ⟨F.cell hS.1, F.cell hS.2.1, F.cell hS.2.2.1, F.cell hS.2.2.2⟩
      clear HCOP hHeld
      have F6 := F5.trans hE6
      have d2 := (Below.frozen (p := ⟨w.heap.size + 1 + 1, 0, none⟩) F6 (cell_lt c2)).trans d2
      have d3 := (Below.frozen (p := ⟨w.heap.size + 1 + 1, 1, none⟩) F6 (cell_lt c3)).trans d3
      have c2 := F6.cell c2
      have c3 := F6.cell c3
      have hz6 := F6.size
      have EF : Ext w ((w6.setCell ⟨w.heap.size + 1 + 1, 0, none⟩ (.int .i64 mx)).setCell ⟨w.heap.size + 1 + 1, 1, none⟩ (.slice va L.length vc)) := ((E4.trans F6).set (by omega) _).set (by omega) _
      have hz5 := F5.size
      have HSV : Hid (SeqV ((w6.setCell ⟨w.heap.size + 1 + 1, 0, none⟩ (.int .i64 mx)).setCell ⟨w.heap.size + 1 + 1, 1, none⟩ (.slice va L.length vc)) (.agg #[.int .i64 mx, .slice va L.length vc]) s) := by
        show SeqV _ _ _
        rw [HMX.out]
        exact HRV.out _ ((Chg.setCell (B := fun b => b < w5.heap.size) ⟨w.heap.size + 1 + 1, 0, none⟩ _ (by show w.heap.size + 1 + 1 < _; omega)).trans (Chg.setCell (B := fun b => b < w5.heap.size) ⟨w.heap.size + 1 + 1, 1, none⟩ _ (by show w.heap.size + 1 + 1 < _; omega)))
      have hHeld : w6.cell? ⟨w.heap.size, 0, none⟩ = some (.int .i64 n) ∧ w6.cell? ⟨w.heap.size, 1, none⟩ = some (.slice a l.length ca) ∧ w6.cell? ⟨w.heap.size + 1, 0, none⟩ = some (.int .i64 m) ∧ w6.cell? ⟨w.heap.size + 1, 1, none⟩ = some (.slice b q.length cb) := ⟨F6.cell hS.1, F6.cell hS.2.1, F6.cell hS.2.2.1, F6.cell hS.2.2.2⟩
      (refine wpAnyE_one (i := 13) (o := ?_) ?_ (by kernel_rfl) (fun K hK => ?_); rotate_left; (focus ((simp only [List.getElem?_toArray, List.getElem?_cons_succ, List.getElem?_cons_zero]; exact rfl))); go_simp; refine hK.out _ _ ?_ (fun hHeld => ?_); rotate_left; clear hK K; (try simp only [Act.put, List.setIfInBounds_toArray, List.set_cons_zero, List.set_cons_succ]))
      rotate_left
      · refine ⟨?_, ?_, ?_, ?_⟩
        all_goals rw [World.cell?_setCell_other _ _ _ _ (fun h => by simp only [Addr.mk.injEq] at h; omega), World.cell?_setCell_other _ _ _ _ (fun h => by simp only [Addr.mk.injEq] at h; omega)]
        · exact F6.cell hS.1
        · exact F6.cell hS.2.1
        · exact F6.cell hS.2.2.1
        · exact F6.cell hS.2.2.2
      (refine eTk 14 ?_)
      refine wpAnyE_done (by kernel_rfl) ?_ _
      clear hHeld hS
      go_wp2
      exact bodyPost_ret (v := .tuple #[.agg #[.int .i64 mx, .slice va L.length vc], .int .i64 0]) (by rw [results_cell_tmp1 rfl]; go_simp) rfl ⟨_, rfl, HSV.out, EF⟩
set_option maxHeartbeats 8000000 in
set_option maxRecDepth 100000 in
theorem Join_any (n m : Int) (l q : List Stp) (a b : Option Addr) (ca cb : Nat) (w : World) (hl : l.length ≤ maxLen) (hc : CellsP w a l) (hq : q.length ≤ maxLen) (hd : CellsP w b q) :
    Calls Tryd.prog 23 #[.agg #[.int .i64 n, .slice a l.length ca], .agg #[.int .i64 m, .slice b q.length cb]] w (SeqErr (if joinE (n, l) (m, q) = 0 then joined2 (n, l) (m, q) else sq0) (joinE (n, l) (m, q)) w) := by
  by_cases hin : ckSeq (n, l) = 0 ∧ ckSeq (m, q) = 0 ∧ l.length + q.length ≤ 64
  · obtain ⟨h1, h2, h3⟩ := hin
    have hj : joinE (n, l) (m, q) = 0 := by unfold joinE; rw [if_neg (by simp [h1]), if_neg (by simp [h2]), if_neg (by dsimp only; omega)]
    rw [hj, if_pos rfl]
    exact Join_ok n m l q a b ca cb w hl hc hq hd h1 h2 h3
  · obtain ⟨er, hs, hne, hr⟩ : ∃ er, joinE (n, l) (m, q) = er ∧ er ≠ 0 ∧ ((ckSeq (n, l) ≠ 0 ∧ er = ckSeq (n, l)) ∨ (ckSeq (n, l) = 0 ∧ ((ckSeq (m, q) ≠ 0 ∧ er = ckSeq (m, q)) ∨ (ckSeq (m, q) = 0 ∧ er = 5 ∧ 64 < l.length + q.length)))) := by
      by_cases h1 : ckSeq (n, l) = 0
      · by_cases h2 : ckSeq (m, q) = 0
        · have h3 : 64 < l.length + q.length := by
            by_cases h3 : l.length + q.length ≤ 64
            · exact absurd ⟨h1, h2, h3⟩ hin
            · omega
          exact ⟨5, by unfold joinE; rw [if_neg (by simp [h1]), if_neg (by simp [h2]), if_pos (by dsimp only; omega)], by decide, .inr ⟨h1, .inr ⟨h2, rfl, h3⟩⟩⟩
        · exact ⟨_, by unfold joinE; rw [if_neg (by simp [h1]), if_pos h2], h2, .inr ⟨h1, .inl ⟨h2, rfl⟩⟩⟩
      · exact ⟨_, by unfold joinE; rw [if_pos h1], h1, .inl ⟨h1, rfl⟩⟩
    rw [hs, if_neg hne]
    have HC := Lib.hid hc
    have HL := Lib.hid hl
    have HD := Lib.hid hd
    have HQ := Lib.hid hq
    have HR := Lib.hid hr
    have HNE := Lib.hid hne
    clear hc hd hl hq hs hne hr hin
    have hzs : ∀ w, (zeroValue 24).run Tryd.prog w = .ok (.agg #[.int .i64 0, .slice none 0 0]) w := fun _ => by kernel_rfl
    go_enter Tryd.func23, Tryd.ntmps23
    go_wp2_with fail
    have E1 : Ext w ((((w.alloc (.cells #[.int .i64 n, .slice a l.length ca] 24)).alloc (.cells #[.int .i64 m, .slice b q.length cb] 24)).alloc (.cells #[.int .i64 0, .slice none 0 0] 24)).alloc (.cells #[.int .i64 n, .slice a l.length ca, .int .i64 m, .slice b q.length cb] 24)) := extA
    have a0 : ((((w.alloc (.cells #[.int .i64 n, .slice a l.length ca] 24)).alloc (.cells #[.int .i64 m, .slice b q.length cb] 24)).alloc (.cells #[.int .i64 0, .slice none 0 0] 24)).alloc (.cells #[.int .i64 n, .slice a l.length ca, .int .i64 m, .slice b q.length cb] 24)).cell? ⟨w.heap.size, 0, none⟩ = some (.int .i64 n) := by go_simp
    have a1 : ((((w.alloc (.cells #[.int .i64 n, .slice a l.length ca] 24)).alloc (.cells #[.int .i64 m, .slice b q.length cb] 24)).alloc (.cells #[.int .i64 0, .slice none 0 0] 24)).alloc (.cells #[.int .i64 n, .slice a l.length ca, .int .i64 m, .slice b q.length cb] 24)).cell? ⟨w.heap.size, 1, none⟩ = some (.slice a l.length ca) := by go_simp
    have b0 : ((((w.alloc (.cells #[.int .i64 n, .slice a l.length ca] 24)).alloc (.cells #[.int .i64 m, .slice b q.length cb] 24)).alloc (.cells #[.int .i64 0, .slice none 0 0] 24)).alloc (.cells #[.int .i64 n, .slice a l.length ca, .int .i64 m, .slice b q.length cb] 24)).cell? ⟨w.heap.size + 1, 0, none⟩ = some (.int .i64 m) := by go_simp
    have b1 : ((((w.alloc (.cells #[.int .i64 n, .slice a l.length ca] 24)).alloc (.cells #[.int .i64 m, .slice b q.length cb] 24)).alloc (.cells #[.int .i64 0, .slice none 0 0] 24)).alloc (.cells #[.int .i64 n, .slice a l.length ca, .int .i64 m, .slice b q.length cb] 24)).cell? ⟨w.heap.size + 1, 1, none⟩ = some (.slice b q.length cb) := by go_simp
    have c2 : ((((w.alloc (.cells #[.int .i64 n, .slice a l.length ca] 24)).alloc (.cells #[.int .i64 m, .slice b q.length cb] 24)).alloc (.cells #[.int .i64 0, .slice none 0 0] 24)).alloc (.cells #[.int .i64 n, .slice a l.length ca, .int .i64 m, .slice b q.length cb] 24)).cell? ⟨w.heap.size + 1 + 1, 0, none⟩ = some (.int .i64 0) := by go_simp
    have c3 : ((((w.alloc (.cells #[.int .i64 n, .slice a l.length ca] 24)).alloc (.cells #[.int .i64 m, .slice b q.length cb] 24)).alloc (.cells #[.int .i64 0, .slice none 0 0] 24)).alloc (.cells #[.int .i64 n, .slice a l.length ca, .int .i64 m, .slice b q.length cb] 24)).cell? ⟨w.heap.size + 1 + 1, 1, none⟩ = some (.slice none 0 0) := by go_simp
    have d2 : ((((w.alloc (.cells #[.int .i64 n, .slice a l.length ca] 24)).alloc (.cells #[.int .i64 m, .slice b q.length cb] 24)).alloc (.cells #[.int .i64 0, .slice none 0 0] 24)).alloc (.cells #[.int .i64 n, .slice a l.length ca, .int .i64 m, .slice b q.length cb] 24)).frozen? ⟨w.heap.size + 1 + 1, 0, none⟩ = false := by go_simp
    have d3 : ((((w.alloc (.cells #[.int .i64 n, .slice a l.length ca] 24)).alloc (.cells #[.int .i64 m, .slice b q.length cb] 24)).alloc (.cells #[.int .i64 0, .slice none 0 0] 24)).alloc (.cells #[.int .i64 n, .slice a l.length ca, .int .i64 m, .slice b q.length cb] 24)).frozen? ⟨w.heap.size + 1 + 1, 1, none⟩ = false := by go_simp
    have s0 : ((((w.alloc (.cells #[.int .i64 n, .slice a l.length ca] 24)).alloc (.cells #[.int .i64 m, .slice b q.length cb] 24)).alloc (.cells #[.int .i64 0, .slice none 0 0] 24)).alloc (.cells #[.int .i64 n, .slice a l.length ca, .int .i64 m, .slice b q.length cb] 24)).cell? ⟨w.heap.size + 1 + 1 + 1, 0, none⟩ = some (.int .i64 n) := by go_simp
    have s1 : ((((w.alloc (.cells #[.int .i64 n, .slice a l.length ca] 24)).alloc (.cells #[.int .i64 m, .slice b q.length cb] 24)).alloc (.cells #[.int .i64 0, .slice none 0 0] 24)).alloc (.cells #[.int .i64 n, .slice a l.length ca, .int .i64 m, .slice b q.length cb] 24)).cell? ⟨w.heap.size + 1 + 1 + 1, 1, none⟩ = some (.slice a l.length ca) := by go_simp
    have s2 : ((((w.alloc (.cells #[.int .i64 n, .slice a l.length ca] 24)).alloc (.cells #[.int .i64 m, .slice b q.length cb] 24)).alloc (.cells #[.int .i64 0, .slice none 0 0] 24)).alloc (.cells #[.int .i64 n, .slice a l.length ca, .int .i64 m, .slice b q.length cb] 24)).cell? ⟨w.heap.size + 1 + 1 + 1, 2, none⟩ = some (.int .i64 m) := by go_simp
    have s3 : ((((w.alloc (.cells #[.int .i64 n, .slice a l.length ca] 24)).alloc (.cells #[.int .i64 m, .slice b q.length cb] 24)).alloc (.cells #[.int .i64 0, .slice none 0 0] 24)).alloc (.cells #[.int .i64 n, .slice a l.length ca, .int .i64 m, .slice b q.length cb] 24)).cell? ⟨w.heap.size + 1 + 1 + 1, 3, none⟩ = some (.slice b q.length cb) := by go_simp
    generalize ((((w.alloc (.cells #[.int .i64 n, .slice a l.length ca] 24)).alloc (.cells #[.int .i64 m, .slice b q.length cb] 24)).alloc (.cells #[.int .i64 0, .slice none 0 0] 24)).alloc (.cells #[.int .i64 n, .slice a l.length ca, .int .i64 m, .slice b q.length cb] 24)) = W at E1 s0 s1 s2 s3 a0 a1 b0 b1 c2 c3 d2 d3 ⊢
    go_loopw [13] (fun i wr => ∃ k : Nat, k ≤ 2 ∧ i = .int .i64 k ∧ Hid (1 ≤ k → ckSeq (n, l) = 0) ∧ Hid (2 ≤ k → ckSeq (m, q) = 0) ∧ Ext W wr) (fun i _ => 2 - (intOf i).toNat)
    case atStart => exact ⟨0, by omega, rfl, fun h => by omega, fun h => by omega, Ext.refl _⟩
    case round =>
      obtain ⟨k, hk, rfl, K1, K2, he⟩ := hrel
      have s0 := he.cell s0
      have s1 := he.cell s1
      have s2 := he.cell s2
      have s3 := he.cell s3
      have zs := cell_lt s0
      dsimp only at zs
      have : k = 0 ∨ k = 1 ∨ k = 2 := by omega
      rcases this with rfl | rfl | rfl
      · have EB : Ext wr (wr.alloc (.cells #[.int .i64 n, .slice a l.length ca] 24)) := extA
        have HK := Lib.hid (Check_any n l a ca _ HL.out (HC.out.ext ((E1.trans he).trans EB)))
        clear K1 K2
        go_wp2_with fail
        refine HK.out.mono ?_
        rintro e w1 ⟨rfl, hE⟩
        have E5 := (he.trans EB).trans hE
        clear HK
        rcases HR.out with ⟨h1, h2⟩ | ⟨h1, _⟩
        · have hn : (er != 0) = true := by rw [h2]; simp [h1]
          rw [← h2]
          have d2 := (Below.frozen (p := ⟨w.heap.size + 1 + 1, 0, none⟩) E5 (cell_lt c2)).trans d2
          have d3 := (Below.frozen (p := ⟨w.heap.size + 1 + 1, 1, none⟩) E5 (cell_lt c3)).trans d3
          have c2 := E5.cell c2
          have c3 := E5.cell c3
          have EF : Ext w ((w1.setCell ⟨w.heap.size + 1 + 1, 0, none⟩ (.int .i64 0)).setCell ⟨w.heap.size + 1 + 1, 1, none⟩ (.slice none 0 0)) := ((E1.trans E5).set (by omega) _).set (by omega) _
          clear h1 h2 HR
          go_wp2
          exact bodyPost_ret (v := .tuple #[.agg #[.int .i64 0, .slice none 0 0], .int .i64 er]) (by rw [results_cell_tmp1 rfl]; go_simp) rfl ⟨_, rfl, seqV_zero _, EF⟩
        · rw [h1]
          have K1 : Hid (1 ≤ 1 → ckSeq (n, l) = 0) := fun _ => h1
          clear h1
          go_wp2
          refine ⟨⟨1, by omega, by go_num, K1, (fun h => by omega), E5⟩, by simp [intOf]⟩
      · have EB : Ext wr (wr.alloc (.cells #[.int .i64 m, .slice b q.length cb] 24)) := extA
        have HK := Lib.hid (Check_any m q b cb _ HQ.out (HD.out.ext ((E1.trans he).trans EB)))
        clear K2
        go_wp2_with fail
        refine HK.out.mono ?_
        rintro e w1 ⟨rfl, hE⟩
        have E5 := (he.trans EB).trans hE
        clear HK
        rcases HR.out with ⟨h1, _⟩ | ⟨_, ⟨h1, h2⟩ | ⟨h1, _, _⟩⟩
        · exact absurd (K1.out (Nat.le_refl _)) h1
        · have hn : (er != 0) = true := by rw [h2]; simp [h1]
          rw [← h2]
          have d2 := (Below.frozen (p := ⟨w.heap.size + 1 + 1, 0, none⟩) E5 (cell_lt c2)).trans d2
          have d3 := (Below.frozen (p := ⟨w.heap.size + 1 + 1, 1, none⟩) E5 (cell_lt c3)).trans d3
          have c2 := E5.cell c2
          have c3 := E5.cell c3
          have EF : Ext w ((w1.setCell ⟨w.heap.size + 1 + 1, 0, none⟩ (.int .i64 0)).setCell ⟨w.heap.size + 1 + 1, 1, none⟩ (.slice none 0 0)) := ((E1.trans E5).set (by omega) _).set (by omega) _
          clear h1 h2 HR K1
          go_wp2
          exact bodyPost_ret (v := .tuple #[.agg #[.int .i64 0, .slice none 0 0], .int .i64 er]) (by rw [results_cell_tmp1 rfl]; go_simp) rfl ⟨_, rfl, seqV_zero _, EF⟩
        · rw [h1]
          have K2 : Hid (2 ≤ 2 → ckSeq (m, q) = 0) := fun _ => h1
          have K3 : Hid (1 ≤ 2 → ckSeq (n, l) = 0) := fun _ => K1.out (Nat.le_refl _)
          clear h1 K1
          go_wp2
          refine ⟨⟨2, by omega, by go_num, K3, K2, E5⟩, by simp [intOf]⟩
      · have k1 := K1.out (by omega)
        have k2 := K2.out (by omega)
        have hl64 := (ckSeq_zero k1).2.2.2.1
        have hq64 := (ckSeq_zero k2).2.2.2.1
        rcases HR.out with ⟨h1, _⟩ | ⟨_, ⟨h1, _⟩ | ⟨_, rfl, h3⟩⟩
        · exact absurd k1 h1
        · exact absurd k2 h1
        · have a1 := he.cell a1
          have b1 := he.cell b1
          have d2 := (Below.frozen (p := ⟨w.heap.size + 1 + 1, 0, none⟩) he (cell_lt c2)).trans d2
          have d3 := (Below.frozen (p := ⟨w.heap.size + 1 + 1, 1, none⟩) he (cell_lt c3)).trans d3
          have c2 := he.cell c2
          have c3 := he.cell c3
          have EF : Ext w ((wr.setCell ⟨w.heap.size + 1 + 1, 0, none⟩ (.int .i64 0)).setCell ⟨w.heap.size + 1 + 1, 1, none⟩ (.slice none 0 0)) := ((E1.trans he).set (by omega) _).set (by omega) _
          have g1 : IntKind.i64.wrap ((l.length : Int) + (q.length : Int)) = (l.length : Int) + (q.length : Int) := IntWalk.i64_in _ (by omega)
          have g2 : (64 : Int) < (l.length : Int) + (q.length : Int) := by omega
          clear k1 k2 K1 K2 HR
          go_wp2
          exact bodyPost_ret (v := .tuple #[.agg #[.int .i64 0, .slice none 0 0], .int .i64 5]) (by rw [results_cell_tmp1 rfl]; go_simp) rfl ⟨_, rfl, seqV_zero _, EF⟩
end Go.Proofs.YtdolibeceijnnaaDoor
namespace Go.Proofs.YtdolibeceijnnaaDoor
open Go.RowKit
structure BkSt (o : Nat) (wa : Int) (W0 wr : World) (ys : List Stk) : Prop where
  be : Below o W0 wr
  c1 : wr.cell? ⟨o, 1, none⟩ = some (.int .i64 wa)
  f0 : wr.frozen? ⟨o, 0, none⟩ = false
  v : ∃ v, wr.cell? ⟨o, 0, none⟩ = some v ∧ OwnsK wr v ys ∧ ∀ b, v.ownBlock = some b → o < b
end Go.Proofs.YtdolibeceijnnaaDoor
namespace Go.Proofs.YtdolibeceijnnaaDoor
open Go.RowKit
end Go.Proofs.YtdolibeceijnnaaDoor
namespace Go.Proofs.YtdolibeceijnnaaDoor
open Go.RowKit
open Go.Maps
def MapAt (w : World) (b m : Nat) (f : Int → Int) : Prop :=
  ∃ D : DataW Unit, w.ownsMap Tryd.prog 3 (plainElem Tryd.prog 3) b m D ∧ IsMap D ∧ ∀ a : Int, D.atKey (.int .i64 a) (.lit (.int .i64 0)) = .lit (.int .i64 (f a))
theorem wfInt (x : Int) (h : 0 ≤ x ∧ x < 1000) : (Lit.int .i64 x).wf = true := by
  have h1 : IntKind.i64.min = -9223372036854775808 := by decide
  have h2 : IntKind.i64.max = 9223372036854775807 := by decide
  simp [Lit.wf, h1, h2]; omega
theorem plainInt (x : Int) (h : 0 ≤ x ∧ x < 1000) : plainElem (H := Unit) Tryd.prog 3 (.int .i64 x) = some (.lit (.int .i64 x), []) := by
  simp [plainElem, Tryd.underlying3, wfInt x h]
theorem keyInt (x : Int) (h : 0 ≤ x ∧ x < 1000) : keyOf Tryd.prog 3 (.int .i64 x) = some (.int .i64 x) := by simp [keyOf, mapKey, Tryd.underlying3, wfInt x h]
theorem isKeyInt (x : Int) : WideAt.IsKeyLit (.int .i64 x) := by trivial
theorem MapAt.new (w : World) : MapAt (w.alloc (.map #[] 0)) w.heap.size 0 (listFn []) :=
  ⟨.map [], World.ownsMap_made w _ _ _, ⟨[], rfl⟩, fun a => by
    have : listFn [] a = 0 := by unfold listFn; simp
    rw [this]; rfl⟩
theorem grown_below {w w' : World} {b B : Nat} (h : w.grownBy w' (some b)) (hb : B ≤ b) (hB : B ≤ w.heap.size) : Below B w w' :=
  ⟨h.os, h.tape, h.output, h.size, fun k hk => h.block k (Nat.lt_of_lt_of_le hk hB) (fun e => by injection e with e; omega)⟩
end Go.Proofs.YtdolibeceijnnaaDoor
namespace Go.Proofs.YtdolibeceijnnaaDoor
open Go.RowKit
open Go.Maps
def renTo (f : Int → Int) (st : List Stk) (k : Nat) : List Stk := (st.take k).map (fun y => (f y.1, y.2)) ++ st.drop k
theorem renTo_zero (f : Int → Int) (st : List Stk) : renTo f st 0 = st := by simp [renTo]
theorem renTo_end (f : Int → Int) (st : List Stk) : renTo f st st.length = st.map (fun y => (f y.1, y.2)) := by simp [renTo]
theorem renTo_len (f : Int → Int) (st : List Stk) (k : Nat) : (renTo f st k).length = st.length := by
  unfold renTo
  rw [List.length_append, List.length_map, List.length_take, List.length_drop]; omega
theorem renTo_at (f : Int → Int) (st : List Stk) {k : Nat} (h : k < st.length) : (renTo f st k).getD k stk0 = st.getD k stk0 := by
  unfold renTo
  rw [List.getD_eq_getElem?_getD, List.getElem?_append_right (by simp; omega), List.getD_eq_getElem?_getD, List.getElem?_drop]
  congr 2
  simp
  omega
theorem renTo_succ (f : Int → Int) (st : List Stk) {k : Nat} (h : k < st.length) : renTo f st (k + 1) = (renTo f st k).set k (f (st.getD k stk0).1, (st.getD k stk0).2) := by
  unfold renTo
  rw [List.set_append, if_neg (by simp; omega), drop_cons st stk0 h]
  have : k - ((st.take k).map (fun y : Stk => (f y.1, y.2))).length = 0 := by simp; omega
  rw [this, List.set_cons_zero, List.take_succ_eq_append_getElem h, List.map_append, List.append_assoc]
  congr 1
  rw [List.getD_eq_getElem?_getD, List.getElem?_eq_getElem h]
  rfl
theorem MapAt.same {A B : World} {b m : Nat} {f : Int → Int} (h : MapAt A b m f) (e : B.heap[b]? = A.heap[b]?) : MapAt B b m f := by
  obtain ⟨D, ⟨es, ck, h1, h2, h3, h4⟩, h5, h6⟩ := h
  exact ⟨D, ⟨es, ck, e.trans h1, h2, h3, h4⟩, h5, h6⟩
theorem MapAt.lt {A : World} {b m : Nat} {f : Int → Int} (h : MapAt A b m f) : b < A.heap.size := by
  obtain ⟨D, h1, _⟩ := h
  exact h1.lt
theorem MapAt.ext {A B : World} {b m : Nat} {f : Int → Int} (h : MapAt A b m f) (k : Ext A B) : MapAt B b m f := h.same (Below.block k b h.lt)
theorem Own1.cell {n : Nat} {A B : World} (h : Own1 n A B) {p : Addr} {v : Value} (hp : p.block ≠ n) (hc : A.cell? p = some v) : B.cell? p = some v :=
  (World.cell?_of_block (h.2 p.block (cell_lt hc) hp)).trans hc
theorem Own1.frozen {n : Nat} {A B : World} (h : Own1 n A B) {p : Addr} {v : Value} (hp : p.block ≠ n) (hc : A.cell? p = some v) : B.frozen? p = A.frozen? p :=
  World.frozen?_of_block (h.2 p.block (cell_lt hc) hp)
theorem StksAt.set1 {w : World} {b : Nat} {d : List Stk} (h : StksAt w b d) {i : Nat} (hi : i < d.length) (x : Int) : StksAt (w.setCell ⟨b, i * 2, none⟩ (.int .i64 x)) b (d.set i (x, (d.getD i stk0).2)) := fun j hj => by
  rw [List.length_set] at hj
  obtain ⟨⟨h1, h2⟩, h3, h4⟩ := h j hj
  have g2 : (w.setCell ⟨b, i * 2, none⟩ (.int .i64 x)).cell? ⟨b, j * 2 + 1, none⟩ = some (.bool (d.getD j stk0).2) := by
    rw [World.cell?_setCell_other _ _ _ _ (fun h => by simp only [Addr.mk.injEq] at h; omega)]; exact h2
  refine ⟨?_, by rw [World.frozen?_setCell]; exact h3, by rw [World.frozen?_setCell]; exact h4⟩
  by_cases hij : j = i
  · subst hij
    have e : (d.set j (x, (d.getD j stk0).2)).getD j stk0 = (x, (d.getD j stk0).2) := by simp [List.getD_eq_getElem?_getD, hi]
    rw [e]
    exact ⟨World.cell?_setCell_same _ _ _ h1, g2⟩
  · have e : (d.set i (x, (d.getD i stk0).2)).getD j stk0 = d.getD j stk0 := by simp [List.getD_eq_getElem?_getD, Ne.symm hij]
    rw [e]
    exact ⟨by rw [World.cell?_setCell_other _ _ _ _ (fun h => by simp only [Addr.mk.injEq] at h; omega)]; exact h1, g2⟩
set_option maxHeartbeats 8000000 in
set_option maxRecDepth 100000 in
theorem renamed1_any (st : List Stk) (wait : Int) (k0 : Nat) (v : Value) (pb mb m : Nat) (f : Int → Int) (w : World) (h0 : 0 < st.length) (h12 : st.length ≤ 12) (_hm : m ≤ 1000) (ho : OwnsK w v st)
    (hp : w.cell? ⟨pb, 0, none⟩ = some (.map (some mb))) (hM : MapAt w mb m f) (hpb : ∀ b, v.ownBlock = some b → b ≠ pb ∧ b ≠ mb)
    (hx : ∀ i, i < st.length → 0 ≤ (st.getD i stk0).1 ∧ (st.getD i stk0).1 < 6) (hd : Diff (st.map fun y => (f y.1, y.2))) (hf : ∀ y ∈ st, 0 ≤ f y.1 ∧ f y.1 < 6) :
    Calls Tryd.prog 65 #[.int .i64 (k0 : Int), .agg #[v, .int .i64 wait], .pointer (some ⟨pb, 0, none⟩)] w (ChPost (renStep f (st, wait)) v w) := by
  obtain ⟨b, cap, rfl, hst, hvb⟩ := ho.stksAt h0
  obtain ⟨hb1, hb2⟩ := hpb b hvb
  have hb : b < w.heap.size := rowLt ho hvb
  have hml : st.length ≤ maxLen := by unfold maxLen; omega
  have HX := Lib.hid hx
  have HMM := Lib.hid hM
  have HE : Hid (isortK (renTo f st st.length) = (renStep f (st, wait)).1) := by
    show _ = _
    rw [renTo_end]
    exact isortK_ordered hd (fun y hy => by obtain ⟨z, hz, rfl⟩ := List.mem_map.1 hy; exact hf z hz)
  have HW : Hid ((renStep f (st, wait)).2 = wait) := rfl
  obtain ⟨q, hq⟩ : ∃ q, q = renStep f (st, wait) := ⟨_, rfl⟩
  rw [← hq] at HE HW ⊢
  clear hq hd hf hx hpb ho hM
  have zp := cell_lt hp
  dsimp only at zp
  go_enter Tryd.func65, Tryd.ntmps65
  go_wp2
  have E1 : Ext w ((w.alloc (.cells #[.slice (some ⟨b, 0, none⟩) st.length cap, .int .i64 wait] 65)).alloc (.cells #[.slice none 0 0, .int .i64 0] 65)) := extA
  have c0 : ((w.alloc (.cells #[.slice (some ⟨b, 0, none⟩) st.length cap, .int .i64 wait] 65)).alloc (.cells #[.slice none 0 0, .int .i64 0] 65)).cell? ⟨w.heap.size, 0, none⟩ = some (.slice (some ⟨b, 0, none⟩) st.length cap) := by go_simp
  have c1 : ((w.alloc (.cells #[.slice (some ⟨b, 0, none⟩) st.length cap, .int .i64 wait] 65)).alloc (.cells #[.slice none 0 0, .int .i64 0] 65)).cell? ⟨w.heap.size, 1, none⟩ = some (.int .i64 wait) := by go_simp
  have c2 : ((w.alloc (.cells #[.slice (some ⟨b, 0, none⟩) st.length cap, .int .i64 wait] 65)).alloc (.cells #[.slice none 0 0, .int .i64 0] 65)).cell? ⟨w.heap.size + 1, 0, none⟩ = some (.slice none 0 0) := by go_simp
  have c3 : ((w.alloc (.cells #[.slice (some ⟨b, 0, none⟩) st.length cap, .int .i64 wait] 65)).alloc (.cells #[.slice none 0 0, .int .i64 0] 65)).cell? ⟨w.heap.size + 1, 1, none⟩ = some (.int .i64 0) := by go_simp
  have f0 : ((w.alloc (.cells #[.slice (some ⟨b, 0, none⟩) st.length cap, .int .i64 wait] 65)).alloc (.cells #[.slice none 0 0, .int .i64 0] 65)).frozen? ⟨w.heap.size, 0, none⟩ = false := by go_simp
  have f2 : ((w.alloc (.cells #[.slice (some ⟨b, 0, none⟩) st.length cap, .int .i64 wait] 65)).alloc (.cells #[.slice none 0 0, .int .i64 0] 65)).frozen? ⟨w.heap.size + 1, 0, none⟩ = false := by go_simp
  have f3 : ((w.alloc (.cells #[.slice (some ⟨b, 0, none⟩) st.length cap, .int .i64 wait] 65)).alloc (.cells #[.slice none 0 0, .int .i64 0] 65)).frozen? ⟨w.heap.size + 1, 1, none⟩ = false := by go_simp
  generalize ((w.alloc (.cells #[.slice (some ⟨b, 0, none⟩) st.length cap, .int .i64 wait] 65)).alloc (.cells #[.slice none 0 0, .int .i64 0] 65)) = W at E1 c0 c1 c2 c3 f0 f2 f3 ⊢
  have hp := E1.cell hp
  have MW := Lib.hid (HMM.out.ext E1)
  have hbW := E1.size_lt hb
  have M0 : Hid (SoSt b W W (renTo f st 0)) := ⟨by rw [renTo_zero]; exact hst.ext E1, Own1.ext (Ext.refl _) (Nat.le_of_lt hbW)⟩
  clear hst
  go_loopw [11] (fun i wr => ∃ k : Nat, k ≤ st.length ∧ i = .int .i64 k ∧ Hid (SoSt b W wr (renTo f st k))) (fun i _ => st.length - (intOf i).toNat)
  case atStart => exact ⟨0, Nat.zero_le _, rfl, M0⟩
  case round =>
    obtain ⟨k, hk, rfl, M⟩ := hrel
    clear M0
    have hO := M.out.own
    have zb : b < wr.heap.size := Nat.lt_of_lt_of_le hbW hO.1.size
    have c0r := hO.cell (p := ⟨w.heap.size, 0, none⟩) (by show w.heap.size ≠ b; omega) c0
    have c1r := hO.cell (p := ⟨w.heap.size, 1, none⟩) (by show w.heap.size ≠ b; omega) c1
    have c2r := hO.cell (p := ⟨w.heap.size + 1, 0, none⟩) (by show w.heap.size + 1 ≠ b; omega) c2
    have c3r := hO.cell (p := ⟨w.heap.size + 1, 1, none⟩) (by show w.heap.size + 1 ≠ b; omega) c3
    have f0r := (hO.frozen (p := ⟨w.heap.size, 0, none⟩) (by show w.heap.size ≠ b; omega) c0).trans f0
    have f2r := (hO.frozen (p := ⟨w.heap.size + 1, 0, none⟩) (by show w.heap.size + 1 ≠ b; omega) c2).trans f2
    have f3r := (hO.frozen (p := ⟨w.heap.size + 1, 1, none⟩) (by show w.heap.size + 1 ≠ b; omega) c3).trans f3
    have hpr := hO.cell (p := ⟨pb, 0, none⟩) (by show pb ≠ b; omega) hp
    have MR := Lib.hid (MW.out.same (hO.2 mb MW.out.lt (by omega)))
    by_cases hlt : k < st.length
    · have hren := renTo_len f st k
      obtain ⟨⟨s1, s2⟩, s3, s4⟩ := M.out.at_ k (by omega)
      rw [renTo_at f st hlt] at s1 s2
      have HXK := Lib.hid (HX.out k hlt)
      have HSE : Hid (∀ A, StksAt A b (renTo f st k) → StksAt (A.setCell ⟨b, k * 2, none⟩ (.int .i64 (f (st.getD k stk0).1))) b (renTo f st (k + 1))) := fun A hA => by
        rw [renTo_succ f st hlt]
        have h9 := hA.set1 (i := k) (by omega) (f (st.getD k stk0).1)
        rw [renTo_at f st hlt] at h9
        exact h9
      generalize st.getD k stk0 = y at s1 s2 HXK HSE
      obtain ⟨ya, yo⟩ := y
      dsimp only at s1 s2 HXK HSE
      obtain ⟨D, hown, hmm, hat⟩ := MR.out
      have HOWN := Lib.hid hown
      have HAT := Lib.hid hat
      have zz := cell_lt c0r
      have zp2 := cell_lt hpr
      have EA : Ext wr (wr.alloc (.cells #[.int .i64 ya, .bool yo] 67)) := extA
      clear hown hat hmm
      go_wp2_with (first | (at_lookup; refine wpList_lookup_own_int _ rfl _ _ 80 rfl 3 3 .i64 (int_keyed Tryd.underlying3) Tryd.underlying80 Tryd.underlying3 rfl mb m D rfl (HOWN.out.alloc _) _ (.int .i64 ya) rfl (keyInt _ (by have := HXK.out; omega)) ?_; intro c hat hwc) | fail)
      have hca : c = f ya := by
        have h9 := HAT.out ya
        rw [hat] at h9
        injection h9 with h9
        injection h9
      subst hca
      clear hat hwc
      go_wp2
      have MN : Hid (SoSt b W ((wr.setCell ⟨b, k * 2, none⟩ (.int .i64 (f ya))).alloc (.cells #[.int .i64 ya, .bool yo] 67)) (renTo f st (k + 1))) := by
        have h9 : SoSt b W (wr.setCell ⟨b, k * 2, none⟩ (.int .i64 (f ya))) (renTo f st (k + 1)) := ⟨HSE.out _ M.out.at_, M.out.own.trans (Own1.setCell _ _)⟩
        exact h9.ext extA (Nat.lt_of_lt_of_le hbW h9.own.1.size)
      refine ⟨⟨k + 1, by omega, by go_num, MN⟩, by simp [intOf]; omega⟩
    · have hke : k = st.length := by omega
      subst hke
      have hren := renTo_len f st st.length
      have HSO := Lib.hid (sorted_any (renTo f st st.length) b cap wr (by omega) M.out.at_ zb)
      rw [hren] at HSO
      rw [HE.out] at HSO
      go_wp2_with fail
      refine (HSO.out).mono ?_
      rintro e w5 ⟨rfl, hS⟩
      have HS := Lib.hid hS
      have c0 := hS.own.cell (p := ⟨w.heap.size, 0, none⟩) (by show w.heap.size ≠ b; omega) c0r
      have c1 := hS.own.cell (p := ⟨w.heap.size, 1, none⟩) (by show w.heap.size ≠ b; omega) c1r
      have c2 := hS.own.cell (p := ⟨w.heap.size + 1, 0, none⟩) (by show w.heap.size + 1 ≠ b; omega) c2r
      have c3 := hS.own.cell (p := ⟨w.heap.size + 1, 1, none⟩) (by show w.heap.size + 1 ≠ b; omega) c3r
      have f0 := (hS.own.frozen (p := ⟨w.heap.size, 0, none⟩) (by show w.heap.size ≠ b; omega) c0r).trans f0r
      have f2 := (hS.own.frozen (p := ⟨w.heap.size + 1, 0, none⟩) (by show w.heap.size + 1 ≠ b; omega) c2r).trans f2r
      have f3 := (hS.own.frozen (p := ⟨w.heap.size + 1, 1, none⟩) (by show w.heap.size + 1 ≠ b; omega) c3r).trans f3r
      have B5 : Below b w w5 := (((E1.mono (Nat.le_of_lt hb)).trans hO.1).trans hS.own.1)
      clear hS c0r c1r c2r c3r f0r f2r f3r
      go_wp2
      have hl5 : q.1.length = st.length := by rw [← HE.out, isortK_length]; exact hren
      have S5 : StksAt (((w5.setCell ⟨w.heap.size, 0, none⟩ (.slice (some ⟨b, 0, none⟩) st.length cap)).setCell ⟨w.heap.size + 1, 0, none⟩ (.slice (some ⟨b, 0, none⟩) st.length cap)).setCell ⟨w.heap.size + 1, 1, none⟩ (.int .i64 wait)) b q.1 := fun i hi => by
        obtain ⟨⟨g1, g2⟩, g3, g4⟩ := HS.out.at_ i hi
        refine ⟨⟨?_, ?_⟩, ?_, ?_⟩
        · rw [World.cell?_setCell_other _ _ _ _ (fun h => by simp only [Addr.mk.injEq] at h; omega), World.cell?_setCell_other _ _ _ _ (fun h => by simp only [Addr.mk.injEq] at h; omega), World.cell?_setCell_other _ _ _ _ (fun h => by simp only [Addr.mk.injEq] at h; omega)]; exact g1
        · rw [World.cell?_setCell_other _ _ _ _ (fun h => by simp only [Addr.mk.injEq] at h; omega), World.cell?_setCell_other _ _ _ _ (fun h => by simp only [Addr.mk.injEq] at h; omega), World.cell?_setCell_other _ _ _ _ (fun h => by simp only [Addr.mk.injEq] at h; omega)]; exact g2
        · rw [World.frozen?_setCell, World.frozen?_setCell, World.frozen?_setCell]; exact g3
        · rw [World.frozen?_setCell, World.frozen?_setCell, World.frozen?_setCell]; exact g4
      refine bodyPost_ret (v := .agg #[.slice (some ⟨b, 0, none⟩) st.length cap, .int .i64 wait]) (by rw [results_cell1 rfl]; go_simp) rfl ?_
      refine ⟨.slice (some ⟨b, 0, none⟩) st.length cap, by rw [HW.out], by have h9 := S5.slice (cap := cap) (by rw [hl5]; exact hml); rw [hl5] at h9; exact h9, fun b' hb' => .inl hb', ⟨_, cap, by rw [hl5], fun b' off' h => by cases h; rfl⟩, fun n hn hv => ?_⟩
      have hnb := hv b rfl
      exact (((B5.mono hnb).setCell (p := ⟨w.heap.size, 0, none⟩) hn _).setCell (p := ⟨w.heap.size + 1, 0, none⟩) (by show n ≤ w.heap.size + 1; omega) _).setCell (p := ⟨w.heap.size + 1, 1, none⟩) (by show n ≤ w.heap.size + 1; omega) _
end Go.Proofs.YtdolibeceijnnaaDoor
namespace Go.Proofs.YtdolibeceijnnaaDoor
open Go.RowKit
open Go.Maps
def RenOk (f : Int → Int) (l : List Stp) : Prop := ∀ k, k < l.length → 0 < (l.getD k stp0).1.length ∧ (l.getD k stp0).1.length ≤ 12 ∧
  (∀ i, i < (l.getD k stp0).1.length → 0 ≤ ((l.getD k stp0).1.getD i stk0).1 ∧ ((l.getD k stp0).1.getD i stk0).1 < 6) ∧ Diff ((l.getD k stp0).1.map fun y => (f y.1, y.2)) ∧ ∀ y ∈ (l.getD k stp0).1, 0 ≤ f y.1 ∧ f y.1 < 6
theorem RenOk.full {f : Int → Int} {l : List Stp} (h : RenOk f l) : Full l := fun k hk => by
  obtain ⟨h1, h2, _⟩ := h k hk
  exact ⟨h1, by omega⟩
theorem mapK_ren (f : Int → Int) (l : List Stp) : mapK (fun _ x => renStep f x) l l.length = l.map (renStep f) := by
  unfold mapK
  apply list_ext_getD stp0 (by simp)
  intro j hj
  have : j < l.length := by simpa using hj
  simp [List.getD, this]
theorem renamed_own (n : Int) (l : List Stp) (a : Option Addr) (cap mb m : Nat) (f : Int → Int) (w : World) (hl : l.length ≤ 200) (hr : RenOk f l) (hc : CellsP w a l) (hm : m ≤ 1000) (hM : MapAt w mb m f) :
    Calls Tryd.prog 42 #[.agg #[.int .i64 n, .slice a l.length cap], .map (some mb)] w (OwnPost (ren f (n, l)) w) := by
  have HC := Lib.hid hc
  have HR := Lib.hid hr
  have HL := Lib.hid hl
  have HM := Lib.hid hM
  have hren : Hid (ren f (n, l) = (n, mapK (fun _ x => renStep f x) l l.length)) := by show _ = _; rw [mapK_ren]; rfl
  clear hc hr hl hM
  obtain ⟨q, hq⟩ : ∃ q, q = ren f (n, l) := ⟨_, rfl⟩
  rw [← hq] at hren ⊢
  clear hq
  go_enter Tryd.func42, Tryd.ntmps42
  go_wp2_with fail
  have E1 : Ext w (((w.alloc (.cells #[.int .i64 n, .slice a l.length cap] 24)).alloc (.cells #[.map (some mb)] 80)).alloc (.cells #[.int .i64 0, .slice none 0 0] 24)) := extA
  have c0 : (((w.alloc (.cells #[.int .i64 n, .slice a l.length cap] 24)).alloc (.cells #[.map (some mb)] 80)).alloc (.cells #[.int .i64 0, .slice none 0 0] 24)).cell? ⟨w.heap.size + 1, 0, none⟩ = some (.map (some mb)) := by go_simp
  have c1 : (((w.alloc (.cells #[.int .i64 n, .slice a l.length cap] 24)).alloc (.cells #[.map (some mb)] 80)).alloc (.cells #[.int .i64 0, .slice none 0 0] 24)).cell? ⟨w.heap.size + 1 + 1, 0, none⟩ = some (.int .i64 0) := by go_simp
  have c2 : (((w.alloc (.cells #[.int .i64 n, .slice a l.length cap] 24)).alloc (.cells #[.map (some mb)] 80)).alloc (.cells #[.int .i64 0, .slice none 0 0] 24)).cell? ⟨w.heap.size + 1 + 1, 1, none⟩ = some (.slice none 0 0) := by go_simp
  have f1 : (((w.alloc (.cells #[.int .i64 n, .slice a l.length cap] 24)).alloc (.cells #[.map (some mb)] 80)).alloc (.cells #[.int .i64 0, .slice none 0 0] 24)).frozen? ⟨w.heap.size + 1 + 1, 0, none⟩ = false := by go_simp
  have f2 : (((w.alloc (.cells #[.int .i64 n, .slice a l.length cap] 24)).alloc (.cells #[.map (some mb)] 80)).alloc (.cells #[.int .i64 0, .slice none 0 0] 24)).frozen? ⟨w.heap.size + 1 + 1, 1, none⟩ = false := by go_simp
  generalize (((w.alloc (.cells #[.int .i64 n, .slice a l.length cap] 24)).alloc (.cells #[.map (some mb)] 80)).alloc (.cells #[.int .i64 0, .slice none 0 0] 24)) = W at E1 c0 c1 c2 f1 f2 ⊢
  have MW := Lib.hid (HM.out.ext E1)
  have hlt1 := cell_lt c0
  dsimp only at hlt1
  refine (mapped_own n l a cap W 65 #[.pointer (some ⟨w.heap.size + 1, 0, none⟩)] (fun _ x => renStep f x) HL.out HR.out.full (HC.out.ext E1) (enters_of Tryd.func65 (by kernel_rfl) rfl) (fun k v w' hk hE ho hb => ?_)).mono ?_
  · obtain ⟨r1, r2, r3, r4, r5⟩ := HR.out k hk
    exact renamed1_any _ _ k v (w.heap.size + 1) mb m f w' r1 r2 hm ho (hE.cell c0) (MW.out.ext hE) (fun b h => ⟨fun e => by have := hb b h; omega, fun e => by have := hb b h; have := MW.out.lt; omega⟩) r3 r4 r5
  rintro e w2 ⟨o, v, ho, rfl, hv, hob, hE⟩
  dsimp only at hv
  have HV := Lib.hid hv
  have HOB := Lib.hid hob
  have hz1 : w.heap.size + 1 + 1 < W.heap.size := cell_lt c1
  obtain ⟨ua, uc, rfl, _, _⟩ := hv.reads
  have g1 := (Below.frozen (p := ⟨w.heap.size + 1 + 1, 0, none⟩) hE (cell_lt c1)).trans f1
  have g2 := (Below.frozen (p := ⟨w.heap.size + 1 + 1, 1, none⟩) hE (cell_lt c2)).trans f2
  have c1 := hE.cell c1
  have c2 := hE.cell c2
  clear hv hob
  dsimp only
  generalize hP : mapK (fun _ x => renStep f x) l l.length = P at HV HOB hren ⊢
  clear hP
  go_wp2
  have EF : Ext w ((w2.setCell ⟨w.heap.size + 1 + 1, 0, none⟩ (.int .i64 n)).setCell ⟨w.heap.size + 1 + 1, 1, none⟩ (.slice ua P.length uc)) := extA
  have hc : Chg (fun b => b ≤ o) w2 ((w2.setCell ⟨w.heap.size + 1 + 1, 0, none⟩ (.int .i64 n)).setCell ⟨w.heap.size + 1 + 1, 1, none⟩ (.slice ua P.length uc)) :=
    (Chg.setCell (B := fun b => b ≤ o) ⟨w.heap.size + 1 + 1, 0, none⟩ _ (by show w.heap.size + 1 + 1 ≤ o; omega)).trans (Chg.setCell (B := fun b => b ≤ o) ⟨w.heap.size + 1 + 1, 1, none⟩ _ (by show w.heap.size + 1 + 1 ≤ o; omega))
  refine bodyPost_ret (v := .agg #[.int .i64 n, .slice ua P.length uc]) (by rw [results_cell1 rfl]; go_simp) rfl ?_
  rw [hren.out]
  exact ⟨o, _, by omega, rfl, HV.out.chg hc (fun b hb e => by have := HOB.out b hb; omega), HOB.out, EF⟩
end Go.Proofs.YtdolibeceijnnaaDoor
namespace Go.Proofs.YtdolibeceijnnaaDoor
open Go.RowKit
open Go.Maps
theorem ckStrokes_diff {x : Stp} (h : ckStep x = 0) : Diff x.1 := (ckStrokes_asc (ckStep_strokes h).1).1.diff
theorem IntsAt.cells {A : World} {b : Nat} {l : List Int} (h : IntsAt A b l) : CellsI A (some ⟨b, 0, none⟩) l := fun i hi => ⟨b, 0, rfl, by rw [Nat.zero_add]; exact (h i hi).1⟩
theorem IntsAt.own1 {n b : Nat} {A B : World} {d : List Int} (h : IntsAt A b d) (k : Own1 n A B) (hb : b ≠ n) : IntsAt B b d := fun i hi => by
  obtain ⟨h1, h2⟩ := h i hi
  exact ⟨k.cell (p := ⟨b, i, none⟩) hb h1, (k.frozen (p := ⟨b, i, none⟩) hb h1).trans h2⟩
end Go.Proofs.YtdolibeceijnnaaDoor
namespace Go.Proofs.YtdolibeceijnnaaDoor
open Go.RowKit
structure Bij (P : Int → Prop) (n : Int) (f g : Int → Int) : Prop where
  rng : ∀ a, P a → 0 ≤ f a ∧ f a < n
  gp : ∀ a, 0 ≤ a ∧ a < n → P (g a)
  gf : ∀ a, P a → g (f a) = a
  fg : ∀ a, 0 ≤ a ∧ a < n → f (g a) = a
theorem Bij.inj {P : Int → Prop} {n : Int} {f g : Int → Int} (h : Bij P n f g) {a b : Int} (ha : P a) (hb : P b) (e : f a = f b) : a = b := by
  rw [← h.gf a ha, ← h.gf b hb, e]
def In (n : Int) (a : Int) : Prop := 0 ≤ a ∧ a < n
def FineP (P : Int → Prop) (x : Stp) : Prop := ckStep x = 0 ∧ ∀ y ∈ x.1, P y.1
theorem FineP.asc {P : Int → Prop} {x : Stp} (h : FineP P x) : Asc x.1 := (ckStrokes_asc (ckStep_strokes h.1).1).1
theorem FineP.diff {P : Int → Prop} {x : Stp} (h : FineP P x) : Diff x.1 := h.asc.diff
theorem Fine.all {n : Int} {l : List Stp} (h : Fine n l) : ∀ x ∈ l, FineP (In n) x := fun x hx => by
  obtain ⟨k, hk, e⟩ := List.mem_iff_getElem.1 hx
  obtain ⟨h1, h2⟩ := h k hk
  rw [List.getD_eq_getElem?_getD, List.getElem?_eq_getElem hk] at h1 h2
  have h1 : ckStep l[k] = 0 := h1
  have h2 : ∀ j, j < (l[k]).1.length → 0 ≤ ((l[k]).1.getD j stk0).1 ∧ ((l[k]).1.getD j stk0).1 < n := h2
  rw [e] at h1 h2
  refine ⟨h1, fun y hy => ?_⟩
  obtain ⟨j, hj, e⟩ := List.mem_iff_getElem.1 hy
  have := h2 j hj
  rw [List.getD_eq_getElem?_getD, List.getElem?_eq_getElem hj] at this
  rw [← e]; exact this
theorem asc_ck {l : List Stk} {z : Int} (h : Asc l) (hz : ∀ y ∈ l, z < y.1) (hk : ∀ y ∈ l, 0 ≤ y.1 ∧ y.1 < 6) : ckStrokes z l = 0 := by
  induction l generalizing z with
  | nil => rfl
  | cons y l ih =>
    have h1 := hz y (List.mem_cons_self ..)
    have h2 := hk y (List.mem_cons_self ..)
    obtain ⟨p1, p2⟩ := List.pairwise_cons.1 h
    unfold ckStrokes
    rw [if_neg (by omega), if_neg (by omega), if_neg (by omega)]
    exact ih p2 p1 fun y hy => hk y (List.mem_cons_of_mem _ hy)
theorem ckStep_of {x : Stp} (h1 : 0 < x.1.length) (h2 : x.1.length ≤ 6) (h3 : ckStrokes (-1) x.1 = 0) (h4 : 0 ≤ x.2 ∧ x.2 ≤ 1000000) : ckStep x = 0 := by
  unfold ckStep
  rw [if_neg (by omega), if_neg (by omega), if_neg (by simp [h3]), if_neg (by omega)]
section
variable {P : Int → Prop} {n : Int} {f g : Int → Int}
theorem ren_diff (h : Bij P n f g) {x : Stp} (hx : FineP P x) : Diff (x.1.map fun y => (f y.1, y.2)) := by
  unfold Diff
  rw [List.pairwise_map]
  exact List.Pairwise.imp_of_mem (fun {a b} ha hb hab e => hab (h.inj (hx.2 a ha) (hx.2 b hb) e)) hx.diff
theorem ren_mem (h : Bij P n f g) (hn : n ≤ 6) {x : Stp} (hx : FineP P x) (z : Stk) : z ∈ (renStep f x).1 ↔ ∃ y ∈ x.1, (f y.1, y.2) = z := by
  show z ∈ ordered (x.1.map fun y => (f y.1, y.2)) ↔ _
  rw [ordered_mem, List.mem_map]
  refine ⟨fun h => h.1, fun h1 => ⟨h1, ?_⟩⟩
  obtain ⟨y, hy, rfl⟩ := h1
  have := h.rng _ (hx.2 y hy)
  dsimp only
  omega
theorem renStep_asc (h : Bij P n f g) {x : Stp} (hx : FineP P x) : Asc (renStep f x).1 := ordered_asc (ren_diff h hx)
theorem renStep_len (h : Bij P n f g) (hn : n ≤ 6) {x : Stp} (hx : FineP P x) : (renStep f x).1.length = x.1.length := by
  show (ordered (x.1.map fun y => (f y.1, y.2))).length = _
  rw [← isortK_ordered (ren_diff h hx), isortK_length, List.length_map]
  intro y hy
  obtain ⟨z, hz, rfl⟩ := List.mem_map.1 hy
  have := h.rng _ (hx.2 z hz)
  dsimp only
  omega
theorem renStep_fine (h : Bij P n f g) (hn : n ≤ 6) {x : Stp} (hx : FineP P x) : FineP (In n) (renStep f x) := by
  have hs := ckStep_strokes hx.1
  have hm : ∀ y ∈ (renStep f x).1, 0 ≤ y.1 ∧ y.1 < n := fun y hy => by
    obtain ⟨z, hz, rfl⟩ := (ren_mem h hn hx y).1 hy
    exact h.rng _ (hx.2 z hz)
  refine ⟨ckStep_of (by rw [renStep_len h hn hx]; omega) (by rw [renStep_len h hn hx]; omega) (asc_ck (renStep_asc h hx) (fun y hy => by have := hm y hy; omega) (fun y hy => by have := hm y hy; omega)) ⟨hs.2.2.2.1, hs.2.2.2.2⟩, hm⟩
theorem movesIn_iff (a : Int) (x : Stp) : movesIn a x = true ↔ ∃ y ∈ x.1, y.1 = a := by
  unfold movesIn
  rw [List.any_eq_true]
  constructor
  · rintro ⟨y, hy, e⟩; exact ⟨y, hy, by simpa using e⟩
  · rintro ⟨y, hy, e⟩; exact ⟨y, hy, by simpa using e⟩
theorem bool_iff {a b : Bool} (h : a = true ↔ b = true) : a = b := by cases a <;> cases b <;> simp_all
theorem movesIn_ren (h : Bij P n f g) (hn : n ≤ 6) {x : Stp} (hx : FineP P x) {a : Int} (ha : P a) : movesIn (f a) (renStep f x) = movesIn a x := by
  apply bool_iff
  rw [movesIn_iff, movesIn_iff]
  constructor
  · rintro ⟨y, hy, e⟩
    obtain ⟨z, hz, rfl⟩ := (ren_mem h hn hx y).1 hy
    exact ⟨z, hz, h.inj (hx.2 z hz) ha e⟩
  · rintro ⟨y, hy, rfl⟩
    exact ⟨_, (ren_mem h hn hx _).2 ⟨y, hy, rfl⟩, rfl⟩
theorem beh_cons (e : Int → Bool) (y : Stk) (l : List Stk) : beh e (y :: l) = beh (fun i => if i = y.1 then y.2 else e i) l := rfl
theorem beh_not {e : Int → Bool} {l : List Stk} {a : Int} (h : ∀ y ∈ l, y.1 ≠ a) : beh e l a = e a := by
  induction l generalizing e with
  | nil => rfl
  | cons y l ih =>
    rw [beh_cons, ih fun y hy => h y (List.mem_cons_of_mem _ hy)]
    exact if_neg fun e => h y (List.mem_cons_self ..) e.symm
theorem beh_mem {e : Int → Bool} {l : List Stk} (hd : Diff l) {y : Stk} (hy : y ∈ l) : beh e l y.1 = y.2 := by
  induction l generalizing e with
  | nil => cases hy
  | cons z l ih =>
    obtain ⟨h1, h2⟩ := List.pairwise_cons.1 hd
    rw [beh_cons]
    rcases List.mem_cons.1 hy with rfl | hy
    · rw [beh_not fun z hz e => h1 z hz e.symm]
      exact if_pos rfl
    · exact ih h2 hy
theorem beh_ren (h : Bij P n f g) (hn : n ≤ 6) {x : Stp} (hx : FineP P x) {e e' : Int → Bool} (he : ∀ a, P a → e' (f a) = e a) : ∀ a, P a → beh e' (renStep f x).1 (f a) = beh e x.1 a := fun a ha => by
  cases hm : movesIn a x
  · have h1 : ∀ y ∈ x.1, y.1 ≠ a := fun y hy e => by
      have := (movesIn_iff a x).2 ⟨y, hy, e⟩
      rw [hm] at this; cases this
    rw [beh_not h1, beh_not, he a ha]
    intro y hy e
    obtain ⟨z, hz, rfl⟩ := (ren_mem h hn hx y).1 hy
    exact h1 z hz (h.inj (hx.2 z hz) ha e)
  · obtain ⟨y, hy, rfl⟩ := (movesIn_iff a x).1 hm
    rw [beh_mem hx.diff hy]
    exact beh_mem (renStep_asc h hx).diff (y := (f y.1, y.2)) ((ren_mem h hn hx _).2 ⟨y, hy, rfl⟩)
theorem ckFit_iff {m : Int} {x : Stp} {e : Int → Bool} : ckFit m x e = 0 ↔ ckStep x = 0 ∧ (∀ y ∈ x.1, y.1 < m) ∧ ∀ y ∈ x.1, e y.1 = !y.2 := by
  unfold ckFit
  by_cases h1 : ckStep x = 0
  · rw [if_neg (by simp [h1])]
    cases h2 : anyHigh m x.1
    · have h2' : ∀ y ∈ x.1, y.1 < m := fun y hy => by
        have := (List.any_eq_false.1 h2) y hy
        simp at this; omega
      cases h3 : anySame e x.1
      · refine ⟨fun _ => ⟨h1, h2', fun y hy => ?_⟩, fun _ => rfl⟩
        have := (List.any_eq_false.1 h3) y hy
        cases ha : e y.1 <;> cases hb : y.2 <;> simp_all
      · refine ⟨fun h => by simp at h, fun ⟨_, _, h⟩ => ?_⟩
        obtain ⟨y, hy, hh⟩ := List.any_eq_true.1 h3
        rw [h y hy] at hh
        cases hb : y.2 <;> rw [hb] at hh <;> cases hh
    · refine ⟨fun h => by simp at h, fun ⟨_, h, _⟩ => ?_⟩
      obtain ⟨y, hy, hh⟩ := List.any_eq_true.1 h2
      have := h y hy
      simp at hh; omega
  · rw [if_pos h1]
    exact ⟨fun h => absurd h h1, fun h => absurd h.1 h1⟩
theorem ckWalk_iff {m : Int} {e : Int → Bool} {x : Stp} {l : List Stp} : ckWalk m e (x :: l) = 0 ↔ ckFit m x e = 0 ∧ ckWalk m (beh e x.1) l = 0 := by
  show (if ckFit m x e ≠ 0 then ckFit m x e else ckWalk m (beh e x.1) l) = 0 ↔ _
  by_cases h : ckFit m x e = 0
  · rw [if_neg (by simp [h])]; exact ⟨fun k => ⟨h, k⟩, fun k => k.2⟩
  · rw [if_pos h]; exact ⟨fun k => absurd k h, fun k => absurd k.1 h⟩
theorem ckWalk_ren (h : Bij P n f g) (hn : n ≤ 6) {m : Int} {l : List Stp} (hl : ∀ x ∈ l, FineP P x) {e e' : Int → Bool} (he : ∀ a, P a → e' (f a) = e a) (hk : ckWalk m e l = 0) : ckWalk n e' (l.map (renStep f)) = 0 := by
  induction l generalizing e e' with
  | nil => rfl
  | cons x l ih =>
    have hx := hl x (List.mem_cons_self ..)
    obtain ⟨h1, h2⟩ := ckWalk_iff.1 hk
    obtain ⟨_, _, h3⟩ := ckFit_iff.1 h1
    have hf := renStep_fine h hn hx
    rw [List.map_cons]
    refine ckWalk_iff.2 ⟨ckFit_iff.2 ⟨hf.1, fun y hy => (hf.2 y hy).2, fun y hy => ?_⟩, ih (fun x hx => hl x (List.mem_cons_of_mem _ hx)) (beh_ren h hn hx he) h2⟩
    obtain ⟨z, hz, rfl⟩ := (ren_mem h hn hx y).1 hy
    rw [he _ (hx.2 z hz)]
    exact h3 z hz
theorem behAll_cons (e : Int → Bool) (x : Stp) (l : List Stp) : behAll e (x :: l) = behAll (beh e x.1) l := rfl
theorem behAll_ren (h : Bij P n f g) (hn : n ≤ 6) {l : List Stp} (hl : ∀ x ∈ l, FineP P x) {e e' : Int → Bool} (he : ∀ a, P a → e' (f a) = e a) : ∀ a, P a → behAll e' (l.map (renStep f)) (f a) = behAll e l a := by
  induction l generalizing e e' with
  | nil => exact he
  | cons x l ih =>
    rw [List.map_cons, behAll_cons, behAll_cons]
    exact ih (fun x hx => hl x (List.mem_cons_of_mem _ hx)) (beh_ren h hn (hl x (List.mem_cons_self ..)) he)
theorem movedIn_iff (a : Int) (l : List Stp) : movedIn a l = true ↔ ∃ x ∈ l, movesIn a x = true := by
  unfold movedIn
  exact List.any_eq_true
theorem movedIn_ren (h : Bij P n f g) (hn : n ≤ 6) {l : List Stp} (hl : ∀ x ∈ l, FineP P x) {a : Int} (ha : P a) : movedIn (f a) (l.map (renStep f)) = movedIn a l := by
  apply bool_iff
  rw [movedIn_iff, movedIn_iff]
  constructor
  · rintro ⟨y, hy, e⟩
    obtain ⟨x, hx, rfl⟩ := List.mem_map.1 hy
    exact ⟨x, hx, by rw [← movesIn_ren h hn (hl x hx) ha]; exact e⟩
  · rintro ⟨x, hx, e⟩
    exact ⟨_, List.mem_map.2 ⟨x, hx, rfl⟩, by rw [movesIn_ren h hn (hl x hx) ha]; exact e⟩
theorem ints_all (p : Int → Bool) (m : Int) : (ints m).any p = false ↔ ∀ a, 0 ≤ a ∧ a < m → p a = false := by
  rw [List.any_eq_false]
  constructor
  · intro h a ha; have := h a (ints_mem.2 ha); simpa using this
  · intro h a ha; simp [h a (ints_mem.1 ha)]
theorem ckSeq_of {m : Int} {l : List Stp} (h1 : 1 ≤ m ∧ m ≤ 6) (h2 : 0 < l.length ∧ l.length ≤ 64) (h3 : ckWalk m none6 l = 0) (h4 : ∀ a, 0 ≤ a ∧ a < m → behAll none6 l a = false) (h5 : ∀ a, 0 ≤ a ∧ a < m → movedIn a l = true) : ckSeq (m, l) = 0 := by
  have h4' := (ints_all (behAll none6 l) m).2 h4
  have h5' : (ints m).any (fun a => !movedIn a l) = false := (ints_all _ m).2 fun a ha => by rw [h5 a ha]; rfl
  unfold ckSeq
  dsimp only
  rw [if_neg (by omega), if_neg (by omega), if_neg (by omega), if_neg (by simp [h3]), h4', h5']
  rfl
structure Right (m : Int) (l : List Stp) : Prop where
  act : 1 ≤ m ∧ m ≤ 6
  len : 0 < l.length ∧ l.length ≤ 64
  walk : ckWalk m none6 l = 0
  back : ∀ a, 0 ≤ a ∧ a < m → behAll none6 l a = false
  moved : ∀ a, 0 ≤ a ∧ a < m → movedIn a l = true
theorem ckSeq_right {m : Int} {l : List Stp} (h : ckSeq (m, l) = 0) : Right m l := by
  obtain ⟨h1, h2, h3, h4, h5, h6, h7⟩ := ckSeq_zero h
  refine ⟨⟨h1, h2⟩, ⟨h3, h4⟩, h5, (ints_all _ _).1 h6, fun a ha => ?_⟩
  have := (ints_all _ _).1 h7 a ha
  simpa using this
theorem Right.fine {m : Int} {l : List Stp} (h : Right m l) : ∀ x ∈ l, FineP (In m) x := (ckWalk_fine h.walk).all
end
end Go.Proofs.YtdolibeceijnnaaDoor
namespace Go.Proofs.YtdolibeceijnnaaDoor
open Go.RowKit
theorem partFn_succ (l : List Stp) (k : Nat) : partFn l ((k + 1 : Nat) : Int) = partFn l (k : Int) + (if movedIn (k : Int) l then 1 else 0) := by
  unfold partFn
  rw [ints_succ, List.filter_append, List.length_append, List.filter_cons]
  cases movedIn (k : Int) l <;> simp
theorem partFn_nonneg (l : List Stp) (a : Int) : 0 ≤ partFn l a := by unfold partFn; omega
theorem partFn_le (l : List Stp) (k : Nat) : partFn l (k : Int) ≤ (k : Int) := by
  unfold partFn
  have h := List.length_filter_le (fun b => movedIn b l) (ints (k : Int))
  rw [ints_length] at h
  omega
theorem partFn_mono (l : List Stp) (k d : Nat) : partFn l (k : Int) ≤ partFn l ((k + d : Nat) : Int) := by
  induction d with
  | zero => exact Int.le_refl _
  | succ d ih =>
    rw [show k + (d + 1) = k + d + 1 from rfl, partFn_succ]
    split <;> omega
theorem partFn_lt (l : List Stp) {a b : Int} (h0 : 0 ≤ a) (h : a < b) (hm : movedIn a l = true) : partFn l a < partFn l b := by
  obtain ⟨k, rfl⟩ := Int.eq_ofNat_of_zero_le h0
  obtain ⟨d, hd⟩ : ∃ d : Nat, b = ((k + 1 + d : Nat) : Int) := ⟨(b - (k + 1)).toNat, by omega⟩
  have h1 := partFn_succ l k
  rw [hm, if_pos rfl] at h1
  have h2 := partFn_mono l (k + 1) d
  rw [hd]
  omega
theorem partFn_inj (l : List Stp) {a b : Int} (ha : 0 ≤ a) (hb : 0 ≤ b) (hma : movedIn a l = true) (hmb : movedIn b l = true) (h : partFn l a = partFn l b) : a = b := by
  by_cases h1 : a < b
  · have := partFn_lt l ha h1 hma; omega
  · by_cases h2 : b < a
    · have := partFn_lt l hb h2 hmb; omega
    · omega
def aloneFn (l : List Stp) (k : Nat) (a : Int) : Int := if (0 ≤ a ∧ a < (k : Int)) ∧ movedIn a l = true then partFn l a else 0
theorem aloneFn_zero (l : List Stp) (a : Int) : aloneFn l 0 a = 0 := by unfold aloneFn; rw [if_neg (by omega)]
theorem aloneFn_succ (l : List Stp) (k : Nat) (a : Int) : aloneFn l (k + 1) a = if a = (k : Int) ∧ movedIn (k : Int) l = true then partFn l (k : Int) else aloneFn l k a := by
  unfold aloneFn
  by_cases h : a = (k : Int)
  · subst h
    by_cases hm : movedIn (k : Int) l = true
    · rw [if_pos ⟨by omega, hm⟩, if_pos ⟨rfl, hm⟩]
    · rw [if_neg (fun h => hm h.2), if_neg (fun h => hm h.2), if_neg (fun h => hm h.2)]
  · rw [if_neg (c := a = (k : Int) ∧ _) (fun h' => h h'.1)]
    by_cases hm : (0 ≤ a ∧ a < (k : Int)) ∧ movedIn a l = true
    · rw [if_pos hm, if_pos ⟨by omega, hm.2⟩]
    · rw [if_neg hm, if_neg (fun h' => hm ⟨by omega, h'.2⟩)]
theorem movedIn_mem {l : List Stp} {x : Stp} {y : Stk} (hx : x ∈ l) (hy : y ∈ x.1) : movedIn y.1 l = true := by
  unfold movedIn movesIn
  rw [List.any_eq_true]
  exact ⟨x, hx, by rw [List.any_eq_true]; exact ⟨y, hy, by simp⟩⟩
theorem getD_mem {α : Type} {l : List α} {k : Nat} (d : α) (h : k < l.length) : l.getD k d ∈ l := by
  rw [List.getD_eq_getElem?_getD, List.getElem?_eq_getElem h]; exact List.getElem_mem h
theorem mem_getD {α : Type} {l : List α} {x : α} (d : α) (h : x ∈ l) : ∃ k, k < l.length ∧ l.getD k d = x := by
  obtain ⟨k, hk, e⟩ := List.mem_iff_getElem.1 h
  exact ⟨k, hk, by rw [List.getD_eq_getElem?_getD, List.getElem?_eq_getElem hk]; exact e⟩
theorem Fine.stroke {n : Int} {l : List Stp} (h : Fine n l) {x : Stp} {y : Stk} (hx : x ∈ l) (hy : y ∈ x.1) : 0 ≤ y.1 ∧ y.1 < n := by
  obtain ⟨k, hk, rfl⟩ := mem_getD stp0 hx
  obtain ⟨j, hj, rfl⟩ := mem_getD stk0 hy
  exact (h k hk).2 j hj
theorem renOk_in {f : Int → Int} {n : Int} {l : List Stp} (h : Fine n l) (hi : ∀ a b, 0 ≤ a ∧ a < n → 0 ≤ b ∧ b < n → movedIn a l = true → movedIn b l = true → f a = f b → a = b) (hr : ∀ a, 0 ≤ a ∧ a < n → movedIn a l = true → 0 ≤ f a ∧ f a < 6) : RenOk f l := fun k hk => by
  have h1 := (h k hk).1
  have h3 := ckStep_strokes h1
  have hx := getD_mem stp0 hk
  refine ⟨h3.2.2.1, by omega, ckStep_known h1, ?_, fun y hy => hr _ (h.stroke hx hy) (movedIn_mem hx hy)⟩
  unfold Diff
  rw [List.pairwise_map]
  refine List.Pairwise.imp_of_mem (fun {a b} ha hb hab e => hab (hi _ _ (h.stroke hx ha) (h.stroke hx hb) (movedIn_mem hx ha) (movedIn_mem hx hb) e)) (ckStrokes_diff h1)
theorem renOk_alone {N : Nat} {l : List Stp} (h : Fine (N : Int) l) (hN : N ≤ 6) : RenOk (aloneFn l N) l := by
  refine renOk_in h (fun a b ha hb hma hmb e => ?_) (fun a ha hma => ?_)
  · unfold aloneFn at e
    rw [if_pos ⟨ha, hma⟩, if_pos ⟨hb, hmb⟩] at e
    exact partFn_inj l ha.1 hb.1 hma hmb e
  · unfold aloneFn
    rw [if_pos ⟨ha, hma⟩]
    obtain ⟨k, rfl⟩ := Int.eq_ofNat_of_zero_le ha.1
    have := partFn_le l k
    have := partFn_nonneg l (k : Int)
    omega
theorem alone_map {N : Nat} {l : List Stp} (h : Fine (N : Int) l) : l.map (renStep (aloneFn l N)) = l.map (renStep (partFn l)) := by
  refine List.map_congr_left (fun x hx => ?_)
  unfold renStep
  congr 2
  refine List.map_congr_left (fun y hy => ?_)
  unfold aloneFn
  rw [if_pos ⟨h.stroke hx hy, movedIn_mem hx hy⟩]
theorem movesOf_pos (l : List Stp) (a : Int) : decide (0 < (movesOf l a).length) = movedIn a l := by
  unfold movesOf
  rw [Bool.eq_iff_iff, decide_eq_true_eq, List.length_pos_iff]
  constructor
  · intro h
    obtain ⟨k, hk⟩ := List.exists_mem_of_ne_nil _ h
    rw [List.mem_filter] at hk
    have h1 := ints_mem.1 hk.1
    unfold movedIn
    rw [List.any_eq_true]
    exact ⟨_, getD_mem stp0 (k := k.toNat) (by omega), hk.2⟩
  · intro h
    unfold movedIn at h
    rw [List.any_eq_true] at h
    obtain ⟨x, hx, hm⟩ := h
    obtain ⟨k, hk, rfl⟩ := mem_getD stp0 hx
    refine List.ne_nil_of_mem (a := (k : Int)) ?_
    rw [List.mem_filter]
    exact ⟨ints_mem.2 (by omega), hm⟩
end Go.Proofs.YtdolibeceijnnaaDoor
namespace Go.Proofs.YtdolibeceijnnaaDoor
open Go.RowKit
open Go.Maps
def AlMap (w : World) (b : Nat) (l : List Stp) (k : Nat) : Prop :=
  ∃ D : DataW Unit, w.ownsMap Tryd.prog 3 (plainElem Tryd.prog 3) b k D ∧ Tidy D ∧ (Maps.size D : Int) = partFn l (k : Int) ∧ (∀ a : Int, (k : Int) ≤ a → has D (.int .i64 a) = false) ∧ ∀ a : Int, D.atKey (.int .i64 a) (.lit (.int .i64 0)) = .lit (.int .i64 (aloneFn l k a))
theorem AlMap.new (w : World) (l : List Stp) : AlMap (w.alloc (.map #[] 0)) w.heap.size l 0 :=
  ⟨.map [], World.ownsMap_made w _ _ _, tidy_empty, rfl, fun _ _ => rfl, fun a => by rw [aloneFn_zero]; rfl⟩
theorem AlMap.same {A B : World} {b k : Nat} {l : List Stp} (h : AlMap A b l k) (e : B.heap[b]? = A.heap[b]?) : AlMap B b l k := by
  obtain ⟨D, ⟨es, ck, h1, h2, h3, h4⟩, h5⟩ := h
  exact ⟨D, ⟨es, ck, e.trans h1, h2, h3, h4⟩, h5⟩
theorem AlMap.lt {A : World} {b k : Nat} {l : List Stp} (h : AlMap A b l k) : b < A.heap.size := by
  obtain ⟨D, h1, _⟩ := h
  exact h1.lt
theorem AlMap.ext {A B : World} {b m : Nat} {l : List Stp} (h : AlMap A b l m) (k : Ext A B) : AlMap B b l m := h.same (Below.block k b h.lt)
theorem AlMap.skip {A : World} {b k : Nat} {l : List Stp} (h : AlMap A b l k) (hm : movedIn (k : Int) l = false) : AlMap A b l (k + 1) := by
  obtain ⟨D, h1, h2, h3, h4, h5⟩ := h
  refine ⟨D, h1.mono (Nat.le_succ k), h2, by rw [partFn_succ, hm, h3]; simp, fun a ha => h4 a (by omega), fun a => ?_⟩
  rw [aloneFn_succ, if_neg (fun h => by rw [hm] at h; cases h.2)]
  exact h5 a
theorem AlMap.map {A : World} {b k : Nat} {l : List Stp} (h : AlMap A b l k) : MapAt A b k (aloneFn l k) := by
  obtain ⟨D, h1, h2, _, _, h5⟩ := h
  exact ⟨D, h1, h2.isMap, h5⟩
set_option maxHeartbeats 8000000 in
set_option maxRecDepth 100000 in
theorem alone_any (N : Nat) (l : List Stp) (a : Option Addr) (cap : Nat) (w : World) (hN : N ≤ 6) (hl : l.length ≤ 64) (hf : Fine (N : Int) l) (hc : CellsP w a l) :
    Calls Tryd.prog 52 #[.int .i64 (N : Int), .slice a l.length cap] w (OwnPost (partOf (N : Int) l) w) := by
  have HC := Lib.hid hc
  have HF := Lib.hid hf
  obtain ⟨s, hs⟩ : ∃ s, s = partOf (N : Int) l := ⟨_, rfl⟩
  rw [← hs]
  have HS := Lib.hid hs
  have hmm : ∀ (t : TypeId) (w : World), (Instr.makeMap t none).run Tryd.prog w = .ok (.map (some w.heap.size)) (w.alloc (.map #[] 0)) := fun _ _ => rfl
  clear hc hf hs
  go_enter Tryd.func52, Tryd.ntmps52
  go_wp2
  have E1 : Ext w ((w.alloc (.cells #[.int .i64 0, .slice none 0 0] 24)).alloc (.cells #[.int .i64 0, .slice a l.length cap] 24)) := extA
  have c0 : ((w.alloc (.cells #[.int .i64 0, .slice none 0 0] 24)).alloc (.cells #[.int .i64 0, .slice a l.length cap] 24)).cell? ⟨w.heap.size + 1, 0, none⟩ = some (.int .i64 0) := by go_simp
  have c1 : ((w.alloc (.cells #[.int .i64 0, .slice none 0 0] 24)).alloc (.cells #[.int .i64 0, .slice a l.length cap] 24)).cell? ⟨w.heap.size + 1, 1, none⟩ = some (.slice a l.length cap) := by go_simp
  have r0 : ((w.alloc (.cells #[.int .i64 0, .slice none 0 0] 24)).alloc (.cells #[.int .i64 0, .slice a l.length cap] 24)).cell? ⟨w.heap.size, 0, none⟩ = some (.int .i64 0) := by go_simp
  have r1 : ((w.alloc (.cells #[.int .i64 0, .slice none 0 0] 24)).alloc (.cells #[.int .i64 0, .slice a l.length cap] 24)).cell? ⟨w.heap.size, 1, none⟩ = some (.slice none 0 0) := by go_simp
  have fc : ((w.alloc (.cells #[.int .i64 0, .slice none 0 0] 24)).alloc (.cells #[.int .i64 0, .slice a l.length cap] 24)).frozen? ⟨w.heap.size + 1, 0, none⟩ = false := by go_simp
  have f0 : ((w.alloc (.cells #[.int .i64 0, .slice none 0 0] 24)).alloc (.cells #[.int .i64 0, .slice a l.length cap] 24)).frozen? ⟨w.heap.size, 0, none⟩ = false := by go_simp
  have f1 : ((w.alloc (.cells #[.int .i64 0, .slice none 0 0] 24)).alloc (.cells #[.int .i64 0, .slice a l.length cap] 24)).frozen? ⟨w.heap.size, 1, none⟩ = false := by go_simp
  obtain ⟨b, hb⟩ : ∃ b, b = w.heap.size + 1 + 1 := ⟨_, rfl⟩
  have hb1 : ((w.alloc (.cells #[.int .i64 0, .slice none 0 0] 24)).alloc (.cells #[.int .i64 0, .slice a l.length cap] 24)).heap.size = b := by rw [hb]; simp
  have M0 : Hid (AlMap (((w.alloc (.cells #[.int .i64 0, .slice none 0 0] 24)).alloc (.cells #[.int .i64 0, .slice a l.length cap] 24)).alloc (.map #[] 0)) b l 0) := by rw [← hb1]; exact AlMap.new _ l
  rw [← hb]
  have hzz : b < (((w.alloc (.cells #[.int .i64 0, .slice none 0 0] 24)).alloc (.cells #[.int .i64 0, .slice a l.length cap] 24)).alloc (.map #[] 0)).heap.size := by show _ < (Array.push _ _).size; rw [Array.size_push, hb1]; omega
  have EM : Ext ((w.alloc (.cells #[.int .i64 0, .slice none 0 0] 24)).alloc (.cells #[.int .i64 0, .slice a l.length cap] 24)) (((w.alloc (.cells #[.int .i64 0, .slice none 0 0] 24)).alloc (.cells #[.int .i64 0, .slice a l.length cap] 24)).alloc (.map #[] 0)) := extA
  generalize ((w.alloc (.cells #[.int .i64 0, .slice none 0 0] 24)).alloc (.cells #[.int .i64 0, .slice a l.length cap] 24)).alloc (.map #[] 0) = W2 at M0 hzz EM ⊢
  generalize ((w.alloc (.cells #[.int .i64 0, .slice none 0 0] 24)).alloc (.cells #[.int .i64 0, .slice a l.length cap] 24)) = W1 at E1 c0 c1 r0 r1 fc f0 f1 hb1 EM
  have HB1 := Lib.hid hb1
  have HB := Lib.hid hb
  clear hb1 hb
  go_loopw [12] (fun i wr => ∃ k : Nat, k ≤ N ∧ i = .int .i64 k ∧ Hid (AlMap wr b l k) ∧ Ext W1 wr ∧ b < wr.heap.size) (fun i _ => N - (intOf i).toNat)
  case atStart => exact ⟨0, Nat.zero_le _, rfl, M0, EM, hzz⟩
  case round =>
    obtain ⟨k, hk, rfl, M, he, hbz⟩ := hrel
    clear M0 EM hzz
    have d0 := he.cell c0
    have d1 := he.cell c1
    have E2 := E1.trans he
    have zd := cell_lt d0
    dsimp only at zd
    by_cases hlt : k < N
    · have HMV := Lib.hid (moves_any (.int .i64 0) l (k : Int) a cap)
      have hpos := movesOf_pos l (k : Int)
      go_wp2_with fail
      refine (HMV.out _ (by omega) (HC.out.ext E2)).mono ?_
      rintro e w5 ⟨v, rfl, hO, _, hE⟩
      obtain ⟨va, vc, rfl, _, _⟩ := hO.reads
      generalize (movesOf l (k : Int)).length = ml at hpos ⊢
      clear hO HMV
      have M5 := Lib.hid (M.out.ext hE)
      have F5 := he.trans hE
      have hb5 := hE.size_lt hbz
      clear M
      cases hm : movedIn (k : Int) l
      · have hml : ¬ ((0 : Int) < (ml : Int)) := by rw [hm] at hpos; simp at hpos; omega
        have MN := Lib.hid (M5.out.skip hm)
        clear hpos hm
        go_wp2
        refine ⟨⟨k + 1, by omega, by go_num, MN, F5, hb5⟩, by simp [intOf]; omega⟩
      · have hml : (0 : Int) < (ml : Int) := by rw [hm] at hpos; simp at hpos; omega
        obtain ⟨D, hown, ht, hs, hh, hat⟩ := M5.out
        have HOWN := Lib.hid hown
        have HT := Lib.hid ht
        have HSZ := Lib.hid hs
        have HH := Lib.hid hh
        have HAT := Lib.hid hat
        have HMO := Lib.hid hm
        have HPF := Lib.hid (partFn_succ l k)
        have HPL := Lib.hid (partFn_le l k)
        clear hpos hm hown ht hs hh hat M5
        generalize hsz : Maps.size D = sz at HSZ
        have HSD := Lib.hid hsz
        clear hsz
        have hsk : 0 ≤ (sz : Int) ∧ (sz : Int) < 1000 := by have h1 := HPL.out; have h2 := HSZ.out; omega
        go_wp2_with (first | (at_mapUpdate; refine wpList_mapUpdate_own _ rfl _ _ _ 80 rfl 3 3 (int_keyed Tryd.underlying3) Tryd.underlying80 _ b k D rfl HOWN.out (by unfold maxLen; omega) _ _ (.int .i64 k) rfl rfl (keyInt _ (by omega)) (.lit (.int .i64 (sz : Int))) [] (plainInt _ hsk) ?_; intro w6 hown6 hgr6) | (at_len; refine wpList_len_own _ rfl _ 80 rfl 3 3 Tryd.underlying80 _ b k D rfl HOWN.out ?_; rw [HSD.out]) | fail)
        have MN : Hid (AlMap w6 b l (k + 1)) := by
          have hkk := HH.out (k : Int) (Int.le_refl _)
          refine ⟨_, hown6, HT.out.put (isKeyInt _) _, ?_, fun z hz => ?_, fun z => ?_⟩
          · rw [size_put HT.out, hkk, HPF.out, HMO.out, if_pos rfl, ← HSZ.out, HSD.out]
            simp
          · rw [has_put_other (by intro h; injection h with _ h; omega)]
            exact HH.out z (by omega)
          · rw [aloneFn_succ]
            by_cases hz : z = (k : Int)
            · subst hz
              rw [if_pos ⟨rfl, HMO.out⟩, ← HSZ.out]
              exact atKey_put_same HT.out.isMap (isKeyInt _) _ _
            · rw [if_neg (fun h => hz h.1), atKey_put_other (by intro h; injection h with _ h; exact hz h)]
              exact HAT.out z
        have he6 : Ext W1 w6 := F5.trans' (grown_below hgr6 (Nat.le_refl b) (Nat.le_of_lt hb5)) (Nat.le_of_eq HB1.out)
        have hb6 : b < w6.heap.size := Nat.lt_of_lt_of_le hb5 hgr6.size
        clear hown6 hgr6 HOWN HT HSZ HH HAT HMO HPF HPL HSD
        go_wp2
        refine ⟨⟨k + 1, by omega, by go_num, MN, he6, hb6⟩, by simp [intOf]; omega⟩
    · have hke : k = N := by omega
      subst hke
      obtain ⟨D, hown, ht, hs, hh, hat⟩ := M.out
      have HOWN := Lib.hid hown
      generalize hsz : Maps.size D = sz at hs
      have HSD := Lib.hid hsz
      have HSZ := Lib.hid hs
      have HMA := Lib.hid M.out.map
      clear hown ht hs hh hat hsz M
      have fc := (Below.frozen (p := ⟨w.heap.size + 1, 0, none⟩) he (cell_lt c0)).trans fc
      have f0 := (Below.frozen (p := ⟨w.heap.size, 0, none⟩) he (cell_lt r0)).trans f0
      have f1 := (Below.frozen (p := ⟨w.heap.size, 1, none⟩) he (cell_lt r1)).trans f1
      have r0 := he.cell r0
      have r1 := he.cell r1
      have zb : w.heap.size + 1 < b := by have := HB.out; omega
      go_wp2_with (first | (at_len; refine wpList_len_own _ rfl _ 80 rfl 3 3 Tryd.underlying80 _ b k D rfl HOWN.out ?_; rw [HSD.out]) | fail)
      have OW : Own1 (w.heap.size + 1) wr (wr.setCell ⟨w.heap.size + 1, 0, none⟩ (.int .i64 (sz : Int))) := Own1.setCell _ _
      have E5 : Ext w (wr.setCell ⟨w.heap.size + 1, 0, none⟩ (.int .i64 (sz : Int))) := E2.set (by omega) _
      have f0 := (OW.frozen (p := ⟨w.heap.size, 0, none⟩) (by show w.heap.size ≠ w.heap.size + 1; omega) r0).trans f0
      have f1 := (OW.frozen (p := ⟨w.heap.size, 1, none⟩) (by show w.heap.size ≠ w.heap.size + 1; omega) r1).trans f1
      have r0 := OW.cell (p := ⟨w.heap.size, 0, none⟩) (by show w.heap.size ≠ w.heap.size + 1; omega) r0
      have r1 := OW.cell (p := ⟨w.heap.size, 1, none⟩) (by show w.heap.size ≠ w.heap.size + 1; omega) r1
      have HMA5 := Lib.hid (HMA.out.same (OW.2 b hbz (by omega)))
      clear HMA OW HSD HOWN
      generalize wr.setCell ⟨w.heap.size + 1, 0, none⟩ (.int .i64 (sz : Int)) = w5 at E5 f0 f1 r0 r1 HMA5 ⊢
      have HRN := Lib.hid (renamed_own (sz : Int) l a cap b k (aloneFn l k) w5 (by omega) (renOk_alone HF.out hN) (HC.out.ext E5) (by omega) HMA5.out)
      obtain ⟨P, hP⟩ : ∃ P, P = l.map (renStep (aloneFn l k)) := ⟨_, rfl⟩
      have hren : ren (aloneFn l k) ((sz : Int), l) = ((sz : Int), P) := by rw [hP]; rfl
      rw [hren] at HRN
      have hsP : s = ((sz : Int), P) := by rw [HS.out, hP, alone_map HF.out, HSZ.out]; rfl
      have HSP := Lib.hid hsP
      clear hP hren hsP
      refine HRN.out.mono ?_
      rintro e w6 ⟨o, ov, ho, rfl, hO, hob, hE⟩
      dsimp only at hO ⊢
      obtain ⟨ua, uc, rfl, _, _⟩ := hO.reads
      have HO := Lib.hid hO
      have HOB := Lib.hid hob
      have z5 : w.heap.size < w5.heap.size := cell_lt r0
      have f0 := (Below.frozen (p := ⟨w.heap.size, 0, none⟩) hE (cell_lt r0)).trans f0
      have f1 := (Below.frozen (p := ⟨w.heap.size, 1, none⟩) hE (cell_lt r1)).trans f1
      have r0 := hE.cell r0
      have r1 := hE.cell r1
      clear hO hob HRN
      go_wp2
      have EF : Ext w ((w6.setCell ⟨w.heap.size, 0, none⟩ (.int .i64 (sz : Int))).setCell ⟨w.heap.size, 1, none⟩ (.slice ua P.length uc)) := ((E5.trans hE).set (by omega) _).set (by omega) _
      have cc : Chg (fun b => b ≤ o) w6 ((w6.setCell ⟨w.heap.size, 0, none⟩ (.int .i64 (sz : Int))).setCell ⟨w.heap.size, 1, none⟩ (.slice ua P.length uc)) :=
        (Chg.setCell (B := fun b => b ≤ o) ⟨w.heap.size, 0, none⟩ _ (by show w.heap.size ≤ o; omega)).trans (Chg.setCell (B := fun b => b ≤ o) ⟨w.heap.size, 1, none⟩ _ (by show w.heap.size ≤ o; omega))
      refine bodyPost_ret (v := .agg #[.int .i64 (sz : Int), .slice ua P.length uc]) (by rw [results_cell1 rfl]; go_simp) rfl ?_
      rw [HSP.out]
      exact ⟨o, _, by omega, rfl, HO.out.chg cc (fun b' hb' e => by have := HOB.out b' hb'; omega), HOB.out, EF⟩
end Go.Proofs.YtdolibeceijnnaaDoor
namespace Go.Proofs.YtdolibeceijnnaaDoor
open Go.RowKit
def QU (X : Nat → Prop) (w : World) (u : Value) (l : List Stp) : Prop := OwnsP X w u l ∧ ∀ b, u.ownBlock = some b → ¬ X b
theorem QU.chg {X : Nat → Prop} {A B : World} {u : Value} {l : List Stp} (h : QU X A u l) (c : Chg X A B) : QU X B u l := ⟨h.1.chg c h.2, h.2⟩
theorem QU.mono {X Y : Nat → Prop} {A : World} {u : Value} {l : List Stp} (h : QU X A u l) (k : ∀ b, Y b → X b) : QU Y A u l := ⟨h.1.mono k, fun b hb hy => h.2 b hb (k b hy)⟩
theorem OwnsP.lt {X : Nat → Prop} {A : World} {u : Value} {l : List Stp} (h : OwnsP X A u l) {b : Nat} (hb : u.ownBlock = some b) : b < A.heap.size := by
  obtain ⟨ps, h1, h2, h3⟩ := h
  exact rowLt h2 hb
theorem QU.up {X : Nat → Prop} {A : World} {u : Value} {l : List Stp} (h : QU X A u l) : QU (fun b => X b ∨ A.heap.size ≤ b) A u l :=
  ⟨h.1.up, fun b hb hx => by
    rcases hx with hx | hx
    · exact h.2 b hb hx
    · have := h.1.lt hb; omega⟩
def pairQ (ps : List (Value × Sq)) : List (Value × Value) := ps.map fun p => (.int .i64 p.2.1, p.1)
def OwnsQ (w : World) (v : Value) (ys : List Sq) : Prop :=
  ∃ ps : List (Value × Sq), ps.map (·.2) = ys ∧ w.ownsRow 0 24 2 v ys.length (flat2 (pairQ ps)) ∧ ∀ p ∈ ps, QU (fun b => v.ownBlock = some b) w p.1 p.2.2
theorem OwnsQ.nil (w : World) : OwnsQ w (.slice none 0 0) [] := ⟨[], rfl, World.ownsRow_nil w 0 _ _, fun p hp => by cases hp⟩
theorem OwnsQ.ext {A B : World} {v : Value} {ys : List Sq} (h : OwnsQ A v ys) (k : Ext A B) : OwnsQ B v ys := by
  obtain ⟨ps, h1, h2, h3⟩ := h
  exact ⟨ps, h1, rowExt h2 k, fun p hp => (h3 p hp).chg (Chg.ext k)⟩
theorem OwnsQ.reads {A : World} {v : Value} {ys : List Sq} (h : OwnsQ A v ys) : ∃ a cap, v = .slice a ys.length cap ∧ CellsQ A a ys ∧ ys.length ≤ maxLen := by
  obtain ⟨ps, h1, h2, h3⟩ := h
  obtain ⟨a, cap, hv, hm, hr⟩ := rowReads h2
  refine ⟨a, cap, hv, fun i hi => ?_, hm⟩
  have hl : ps.length = ys.length := by rw [← h1]; simp
  have hi' : i < (pairQ ps).length := by simp [pairQ]; omega
  have hip : i < ps.length := by omega
  have hg := flat2_get (pairQ ps) i hi'
  have e1 : (pairQ ps)[i].1 = .int .i64 ps[i].2.1 := by simp [pairQ]
  have e2 : (pairQ ps)[i].2 = ps[i].1 := by simp [pairQ]
  rw [e1, e2] at hg
  have ey : ys.getD i sq0 = ps[i].2 := by rw [← h1]; simp [List.getD, hip]
  obtain ⟨b, hb, _, g1, _⟩ := hr _ _ hg.1
  obtain ⟨b', hb', _, g2, _⟩ := hr _ _ hg.2
  rw [hb] at hb'
  cases hb'
  refine ⟨b, 0, ps[i].1, hb, ?_, ?_, ?_⟩
  · rw [ey, Nat.zero_add]; exact g1
  · rw [Nat.zero_add]; exact g2
  · rw [ey]; exact (h3 _ (List.getElem_mem hip)).1.reads
theorem OwnsQ.app {A B : World} {v v' : Value} {ys : List Sq} {u : Value} {y : Sq} (h : OwnsQ A v ys) (hu : QU (fun b => v.ownBlock = some b) A u y.2)
    (hown : B.ownsRow 0 24 2 v' (ys.length + 1) (flat2 (pairQ (Classical.choose h)) ++ [.int .i64 y.1, u])) (he : AppEnd A B v v') : OwnsQ B v' (ys ++ [y]) := by
  obtain ⟨h1, h2, h3⟩ := Classical.choose_spec h
  refine ⟨Classical.choose h ++ [(u, y)], by rw [List.map_append, h1]; rfl, ?_, ?_⟩
  · unfold pairQ at hown ⊢
    rw [List.length_append, List.map_append, flat2_append]
    exact hown
  · have c : Chg (fun b => v.ownBlock = some b ∨ A.heap.size ≤ b) A B := (Chg.app (B := fun b => v.ownBlock = some b) he (fun b hb => hb)).mono (fun b h => .inl h)
    have hy : ∀ b, v'.ownBlock = some b → v.ownBlock = some b ∨ A.heap.size ≤ b := he.chg.2.2
    intro p hp
    rcases List.mem_append.1 hp with hp | hp
    · exact ((h3 p hp).up.chg c).mono hy
    · rcases List.mem_singleton.1 hp with rfl
      exact (hu.up.chg c).mono hy
theorem OwnPost.qu {s : Sq} {w : World} {e : Ending} {w' : World} (h : OwnPost s w e w') : ∃ u, e = .returned (.agg #[.int .i64 s.1, u]) ∧ QU (fun b => b < w.heap.size) w' u s.2 ∧ Ext w w' := by
  obtain ⟨o, v, ho, he, h1, h2, h3⟩ := h
  exact ⟨v, he, ⟨h1.mono (fun b hb => by omega), fun b hb hx => by have := h2 b hb; omega⟩, h3⟩
def SeqsPost (l : List Sq) (err : Int) (w : World) (e : Ending) (w' : World) : Prop := ∃ a cap, e = .returned (.tuple #[.slice a l.length cap, .int .i64 err]) ∧ CellsQ w' a l ∧ l.length ≤ maxLen ∧ Ext w w'
theorem CellsQ.nil (w : World) (a : Option Addr) : CellsQ w a [] := fun i hi => by simp at hi
def partAt (s : Sq) (i : Nat) : Sq := partOf s.1 ((s.2.take (endOf s (pauses s) i)).drop ((pauses s).getD i 0).toNat)
def partsK (s : Sq) (k : Nat) : List Sq := (List.range k).map (partAt s)
theorem partsK_succ (s : Sq) (k : Nat) : partsK s (k + 1) = partsK s k ++ [partAt s k] := by unfold partsK; rw [List.range_succ, List.map_append]; rfl
theorem partsK_len (s : Sq) (k : Nat) : (partsK s k).length = k := by simp [partsK]
theorem pauses_asc (s : Sq) : (pauses s).Pairwise fun a b => a < b := (ints_asc _).filter _
theorem pauses_in {s : Sq} {k : Nat} (h : k < (pauses s).length) : 0 ≤ (pauses s).getD k 0 ∧ (pauses s).getD k 0 < (s.2.length : Int) := by
  have := getD_mem 0 h
  unfold pauses at this
  exact ints_mem.1 (List.mem_filter.1 this).1
theorem pauses_lt {s : Sq} {k : Nat} (h : k + 1 < (pauses s).length) : (pauses s).getD k 0 < (pauses s).getD (k + 1) 0 := by
  have := List.pairwise_iff_getElem.1 (pauses_asc s) k (k + 1) (by omega) h (by omega)
  rw [List.getD_eq_getElem?_getD, List.getD_eq_getElem?_getD, List.getElem?_eq_getElem h, List.getElem?_eq_getElem (show k < _ by omega)]
  exact this
theorem pauses_le (s : Sq) : (pauses s).length ≤ s.2.length := by
  unfold pauses
  refine Nat.le_trans (List.length_filter_le _ _) ?_
  rw [ints_length]; omega
theorem Fine.of_mem {n : Int} {l m : List Stp} (h : Fine n l) (k : ∀ x ∈ m, x ∈ l) : Fine n m := fun i hi => by
  have hm := k _ (getD_mem stp0 hi)
  obtain ⟨j, hj, e⟩ := mem_getD stp0 hm
  rw [← e]
  exact h j hj
theorem Fine.part {n : Int} {l : List Stp} (h : Fine n l) (e k : Nat) : Fine n ((l.take e).drop k) := h.of_mem fun _x hx => List.mem_of_mem_take (List.mem_of_mem_drop hx)
end Go.Proofs.YtdolibeceijnnaaDoor
namespace Go.Proofs.YtdolibeceijnnaaDoor
open Go.RowKit
theorem behAll_not {e : Int → Bool} {l : List Stp} {a : Int} (h : ∀ x ∈ l, movesIn a x = false) : behAll e l a = e a := by
  induction l generalizing e with
  | nil => rfl
  | cons x l ih =>
    rw [behAll_cons, ih fun y hy => h y (List.mem_cons_of_mem _ hy)]
    refine beh_not fun y hy ee => ?_
    have := (movesIn_iff a x).2 ⟨y, hy, ee⟩
    rw [h x (List.mem_cons_self ..)] at this; cases this
theorem behAll_append (e : Int → Bool) (l q : List Stp) : behAll e (l ++ q) = behAll (behAll e l) q := List.foldl_append
theorem ckWalk_append {m : Int} {e : Int → Bool} {l q : List Stp} : ckWalk m e (l ++ q) = 0 ↔ ckWalk m e l = 0 ∧ ckWalk m (behAll e l) q = 0 := by
  induction l generalizing e with
  | nil => exact ⟨fun h => ⟨rfl, h⟩, fun h => h.2⟩
  | cons x l ih =>
    rw [List.cons_append, ckWalk_iff, ckWalk_iff, ih, behAll_cons]
    exact ⟨fun h => ⟨⟨h.1, h.2.1⟩, h.2.2⟩, fun h => ⟨h.1.1, h.1.2, h.2⟩⟩
theorem ckWalk_mono {m m' : Int} (hm : m ≤ m') {e : Int → Bool} {l : List Stp} (h : ckWalk m e l = 0) : ckWalk m' e l = 0 := by
  induction l generalizing e with
  | nil => rfl
  | cons x l ih =>
    obtain ⟨h1, h2⟩ := ckWalk_iff.1 h
    obtain ⟨k1, k2, k3⟩ := ckFit_iff.1 h1
    exact ckWalk_iff.2 ⟨ckFit_iff.2 ⟨k1, fun y hy => by have := k2 y hy; omega, k3⟩, ih h2⟩
theorem Right.notIn {m : Int} {l : List Stp} (h : Right m l) {a : Int} (ha : ¬ In m a) : ∀ x ∈ l, movesIn a x = false := fun x hx => by
  cases hm : movesIn a x
  · rfl
  · obtain ⟨y, hy, rfl⟩ := (movesIn_iff a x).1 hm
    exact absurd ((h.fine x hx).2 y hy) ha
theorem Right.none {m : Int} {l : List Stp} (h : Right m l) : behAll none6 l = none6 := by
  funext a
  by_cases ha : In m a
  · exact h.back a ha
  · exact behAll_not (h.notIn ha)
theorem Right.ck {m : Int} {l : List Stp} (h : Right m l) : ckSeq (m, l) = 0 := ckSeq_of h.act h.len h.walk h.back h.moved
theorem rests_none {m : Int} {l : List Stp} (h : Right m l) {k : Nat} : restsAt (m, l) k = true ↔ behAll none6 (l.take k) = none6 := by
  unfold restsAt
  rw [List.all_eq_true]
  constructor
  · intro hr
    funext a
    by_cases ha : In m a
    · have := hr a (ints_mem.2 ha)
      have h2 : behAll none6 (l.take k) a = false := by simpa using this
      exact h2
    · exact behAll_not fun x hx => h.notIn ha x (List.mem_of_mem_take hx)
  · intro hr a _
    dsimp only
    rw [hr]; rfl
theorem joined_right {m n : Int} {l q : List Stp} (h : Right m l) (k : Right n q) (hlen : l.length + q.length ≤ 64) : Right (max m n) (l ++ q) := by
  refine ⟨by have := h.act; have := k.act; omega, by rw [List.length_append]; have := h.len; omega, ckWalk_append.2 ⟨ckWalk_mono (by omega) h.walk, by rw [h.none]; exact ckWalk_mono (by omega) k.walk⟩, fun a _ => by rw [behAll_append, h.none, k.none]; rfl, fun a ha => ?_⟩
  rw [movedIn_iff]
  by_cases hm : a < m
  · obtain ⟨x, hx, hh⟩ := (movedIn_iff a l).1 (h.moved a ⟨ha.1, hm⟩)
    exact ⟨x, List.mem_append.2 (.inl hx), hh⟩
  · obtain ⟨x, hx, hh⟩ := (movedIn_iff a q).1 (k.moved a ⟨ha.1, by have := ha.2; omega⟩)
    exact ⟨x, List.mem_append.2 (.inr hx), hh⟩
theorem partFn_sur (l : List Stp) (n : Nat) : ∀ v, 0 ≤ v → v < partFn l (n : Int) → ∃ a : Nat, a < n ∧ movedIn (a : Int) l = true ∧ partFn l (a : Int) = v := by
  induction n with
  | zero =>
    intro v h0 h
    have : partFn l ((0 : Nat) : Int) ≤ ((0 : Nat) : Int) := partFn_le l 0
    omega
  | succ n ih =>
    intro v h0 h
    rw [partFn_succ] at h
    by_cases hv : v < partFn l (n : Int)
    · obtain ⟨a, h1, h2, h3⟩ := ih v h0 hv
      exact ⟨a, by omega, h2, h3⟩
    · cases hm : movedIn (n : Int) l
      · rw [hm] at h; simp at h; omega
      · rw [hm] at h; simp at h
        exact ⟨n, by omega, hm, by omega⟩
theorem part_bij (n : Nat) (l : List Stp) : ∃ g, Bij (fun a => In (n : Int) a ∧ movedIn a l = true) (partFn l n) (partFn l) g := by
  classical
  refine ⟨fun v => if h : 0 ≤ v ∧ v < partFn l (n : Int) then ((Classical.choose (partFn_sur l n v h.1 h.2) : Nat) : Int) else 0, fun a ha => ⟨partFn_nonneg l a, partFn_lt l ha.1.1 ha.1.2 ha.2⟩, fun a ha => ?_, fun a ha => ?_, fun a ha => ?_⟩
  · (try dsimp only)
    rw [dif_pos ha]
    have hs := Classical.choose_spec (partFn_sur l n a ha.1 ha.2)
    exact ⟨⟨by omega, by omega⟩, hs.2.1⟩
  · have hr : 0 ≤ partFn l a ∧ partFn l a < partFn l (n : Int) := ⟨partFn_nonneg l a, partFn_lt l ha.1.1 ha.1.2 ha.2⟩
    (try dsimp only)
    rw [dif_pos hr]
    have hs := Classical.choose_spec (partFn_sur l n _ hr.1 hr.2)
    exact partFn_inj l (by omega) ha.1.1 hs.2.1 ha.2 hs.2.2
  · (try dsimp only)
    rw [dif_pos ha]
    exact (Classical.choose_spec (partFn_sur l n a ha.1 ha.2)).2.2
theorem part_right {n : Nat} {l : List Stp} (hn : (n : Int) ≤ 6) (h0 : 0 < l.length ∧ l.length ≤ 64) (hw : ckWalk (n : Int) none6 l = 0) (hb : behAll none6 l = none6) : Right (partOf (n : Int) l).1 (partOf (n : Int) l).2 := by
  obtain ⟨g, hg⟩ := part_bij n l
  have hf : ∀ x ∈ l, FineP (fun a => In (n : Int) a ∧ movedIn a l = true) x := fun x hx => by
    have := (ckWalk_fine hw).all x hx
    exact ⟨this.1, fun y hy => ⟨this.2 y hy, movedIn_mem hx hy⟩⟩
  have hle := partFn_le l n
  have hp6 : partFn l n ≤ 6 := by omega
  show Right (partFn l n) (l.map (renStep (partFn l)))
  refine ⟨⟨?_, hp6⟩, by rw [List.length_map]; exact h0, ckWalk_ren hg hp6 hf (fun _ _ => rfl) hw, fun a ha => ?_, fun a ha => ?_⟩
  · have hx : l.getD 0 stp0 ∈ l := getD_mem stp0 h0.1
    have h1 := hf _ hx
    have h2 := ckStep_strokes h1.1
    have hy : (l.getD 0 stp0).1.getD 0 stk0 ∈ (l.getD 0 stp0).1 := getD_mem stk0 h2.2.2.1
    have h3 := hg.rng _ (h1.2 _ hy)
    omega
  · rw [← hg.fg a ha, behAll_ren (e := none6) (e' := none6) hg hp6 hf (fun _ _ => rfl) _ (hg.gp a ha), hb]; rfl
  · rw [← hg.fg a ha, movedIn_ren hg hp6 hf (hg.gp a ha)]
    exact (hg.gp a ha).2
end Go.Proofs.YtdolibeceijnnaaDoor
namespace Go.Proofs.YtdolibeceijnnaaDoor
open Go.RowKit
theorem pause_rests {s : Sq} {k : Nat} (h : k < (pauses s).length) : restsAt s ((pauses s).getD k 0).toNat = true := by
  have hm : (pauses s).getD k 0 ∈ pauses s := getD_mem 0 h
  unfold pauses at hm
  exact (List.mem_filter.1 hm).2
theorem pauses_first {n : Int} {l : List Stp} (h : Right n l) : 0 < (pauses (n, l)).length ∧ (pauses (n, l)).getD 0 0 = 0 := by
  have h0 : restsAt (n, l) 0 = true := by rw [rests_none h]; rfl
  obtain ⟨m, hm⟩ : ∃ m, l.length = m + 1 := ⟨l.length - 1, by have := h.len; omega⟩
  have e : ints (l.length : Int) = 0 :: (List.range m).map (fun k => ((k + 1 : Nat) : Int)) := by
    unfold ints
    rw [show ((l.length : Int)).toNat = m + 1 by omega, List.range_succ_eq_map, List.map_cons, List.map_map]
    rfl
  unfold pauses
  rw [e, List.filter_cons, if_pos (by exact h0)]
  exact ⟨by simp, rfl⟩
def startOf (s : Sq) (k : Nat) : Nat := if k < (pauses s).length then ((pauses s).getD k 0).toNat else s.2.length
theorem start_none {n : Int} {l : List Stp} (h : Right n l) (k : Nat) : behAll none6 (l.take (startOf (n, l) k)) = none6 := by
  unfold startOf
  by_cases hk : k < (pauses (n, l)).length
  · rw [if_pos hk]
    exact (rests_none h).1 (pause_rests hk)
  · rw [if_neg hk]
    show behAll none6 (l.take l.length) = none6
    rw [List.take_length]; exact h.none
theorem start_lt {n : Int} {l : List Stp} {k : Nat} (hk : k < (pauses (n, l)).length) : startOf (n, l) k < startOf (n, l) (k + 1) ∧ startOf (n, l) (k + 1) ≤ l.length := by
  unfold startOf
  rw [if_pos hk]
  have h1 := pauses_in hk
  dsimp only at h1
  by_cases hk2 : k + 1 < (pauses (n, l)).length
  · rw [if_pos hk2]
    have h2 := pauses_lt hk2
    have h3 := pauses_in hk2
    dsimp only at h3
    omega
  · rw [if_neg hk2]
    dsimp only
    omega
theorem part_ok {n : Nat} {l : List Stp} (h : Right (n : Int) l) {k : Nat} (hk : k < (pauses ((n : Int), l)).length) : ckSeq (partAt ((n : Int), l) k) = 0 ∧ (partAt ((n : Int), l) k).2.length + startOf ((n : Int), l) k = startOf ((n : Int), l) (k + 1) := by
  have hlt := start_lt hk
  have e0 : startOf ((n : Int), l) k = ((pauses ((n : Int), l)).getD k 0).toNat := by unfold startOf; rw [if_pos hk]
  have hseg : partAt ((n : Int), l) k = partOf (n : Int) ((l.take (startOf ((n : Int), l) (k + 1))).drop (startOf ((n : Int), l) k)) := by
    unfold partAt
    rw [e0]; rfl
  have h1 := start_none h k
  have h2 := start_none h (k + 1)
  generalize startOf ((n : Int), l) k = x at *
  generalize startOf ((n : Int), l) (k + 1) = y at *
  obtain ⟨seg, hsg⟩ : ∃ seg, seg = (l.take y).drop x := ⟨_, rfl⟩
  have hsplit : l.take y = l.take x ++ seg := by
    have e : (l.take y).take x = l.take x := by rw [List.take_take, Nat.min_eq_left (by omega)]
    rw [hsg, ← e, List.take_append_drop]
  have hw := h.walk
  rw [← List.take_append_drop y l, hsplit] at hw
  obtain ⟨w1, _⟩ := ckWalk_append.1 hw
  obtain ⟨_, w2⟩ := ckWalk_append.1 w1
  rw [h1] at w2
  rw [hsplit, behAll_append, h1] at h2
  have hlen : seg.length = y - x := by rw [hsg, List.length_drop, List.length_take]; omega
  rw [hseg, ← hsg]
  have hr := part_right (n := n) (l := seg) (by have := h.act; omega) (by have := h.len; omega) w2 h2
  refine ⟨hr.ck, ?_⟩
  show (seg.map (renStep (partFn seg))).length + x = y
  rw [List.length_map]; omega
theorem parts_len (s : Sq) : (partsOf s).length = (pauses s).length := by unfold partsOf; simp
theorem parts_at (s : Sq) {k : Nat} (h : k < (pauses s).length) : (partsOf s).getD k sq0 = partAt s k := by
  show ((List.range (pauses s).length).map (partAt s)).getD k sq0 = partAt s k
  rw [List.getD_eq_getElem?_getD, List.getElem?_map, List.getElem?_range h]; rfl
end Go.Proofs.YtdolibeceijnnaaDoor
namespace Go.Proofs.YtdolibeceijnnaaDoor
def okF (f : Nat → Stp) (i j : Nat) : Bool := (List.range j).all fun q => (List.range q).all fun p => decide (p < i) || apart (f p) (f q)
theorem okF_iff {f : Nat → Stp} {i j : Nat} : okF f i j = true ↔ ∀ p q, i ≤ p → p < q → q < j → apart (f p) (f q) = true := by
  unfold okF
  rw [List.all_eq_true]
  refine ⟨fun h p q h1 h2 h3 => ?_, fun h q hq => ?_⟩
  · have := h q (List.mem_range.2 h3)
    rw [List.all_eq_true] at this
    have := this p (List.mem_range.2 h2)
    rw [Bool.or_eq_true, decide_eq_true_eq] at this
    rcases this with h4 | h4
    · omega
    · exact h4
  · rw [List.all_eq_true]
    intro p hp
    rw [Bool.or_eq_true, decide_eq_true_eq]
    by_cases hi : p < i
    · exact .inl hi
    · exact .inr (h p q (by omega) (List.mem_range.1 hp) (List.mem_range.1 hq))
theorem okF_her (f : Nat → Stp) : Her (okF f) :=
  ⟨fun i => okF_iff.2 fun p q h1 h2 h3 => by omega, fun i j i' j' h1 h2 _ h => okF_iff.2 fun p q g1 g2 g3 => okF_iff.1 h p q (by omega) g2 (by omega)⟩
theorem okF_shift {f g : Nat → Stp} {t : Nat} (h : ∀ p, g p = f (p + t)) (i j : Nat) : okF g i j = okF f (i + t) (j + t) := by
  refine bool_iff ?_
  rw [okF_iff, okF_iff]
  refine ⟨fun e p q h1 h2 h3 => ?_, fun e p q h1 h2 h3 => ?_⟩
  · have := e (p - t) (q - t) (by omega) (by omega) (by omega)
    rw [h, h, show p - t + t = p by omega, show q - t + t = q by omega] at this
    exact this
  · rw [h, h]; exact e _ _ (by omega) (by omega) (by omega)
theorem okF_congr {f g : Nat → Stp} {i j : Nat} (h : ∀ p q, p < j → q < j → apart (g p) (g q) = apart (f p) (f q)) : okF g i j = okF f i j := by
  refine bool_iff ?_
  rw [okF_iff, okF_iff]
  refine ⟨fun e p q h1 h2 h3 => ?_, fun e p q h1 h2 h3 => ?_⟩
  · rw [← h p q (by omega) h3]; exact e p q h1 h2 h3
  · rw [h p q (by omega) h3]; exact e p q h1 h2 h3
theorem apart_iff {a b : Stp} : apart a b = true ↔ ∀ y ∈ a.1, ∀ z ∈ b.1, z.1 ≠ y.1 := by
  unfold apart
  rw [List.all_eq_true]
  refine ⟨fun h y hy z hz e => ?_, fun h y hy => ?_⟩
  · have := h y hy
    rw [Bool.not_eq_true'] at this
    rw [(movesIn_iff _ _).2 ⟨z, hz, e⟩] at this
    cases this
  · rw [Bool.not_eq_true']
    cases hm : movesIn y.1 b
    · rfl
    · obtain ⟨z, hz, e⟩ := (movesIn_iff _ _).1 hm
      exact absurd e (h y hy z hz)
def cyc (l : List Stp) (p : Nat) : Stp := l.getD (p % l.length) stp0
def lin (l : List Stp) (p : Nat) : Stp := l.getD p stp0
theorem cyc_lin {l : List Stp} {p : Nat} (h : p < l.length) : cyc l p = lin l p := by unfold cyc lin; rw [Nat.mod_eq_of_lt h]
theorem cyc_per (l : List Stp) : Per (okF (cyc l)) l.length := fun i j => (okF_shift (fun p => by unfold cyc; rw [Nat.add_mod_right]) i j).symm
theorem Greedy.congr {ok ok' : Nat → Nat → Bool} {a b k n : Nat} (h : Greedy ok a b k) (hb : b ≤ n) (e : ∀ i j, i ≤ n → j ≤ n → ok i j = ok' i j) : Greedy ok' a b k := by
  induction h with
  | nil => exact .nil _
  | cons h1 h2 h3 h4 ih =>
    rename_i a c b k
    have hcb := h4.div.le
    refine .cons h1 (by rw [← e _ _ (by omega) (by omega)]; exact h2) ?_ (ih hb)
    rcases h3 with h3 | ⟨h3, h5⟩
    · exact .inl h3
    · exact .inr ⟨h3, by rw [← e _ _ (by omega) (by omega)]; exact h5⟩
theorem Greedy.up {ok ok' : Nat → Nat → Bool} {t a b k : Nat} (e : ∀ i j, ok' i j = ok (i + t) (j + t)) (h : Greedy ok' a b k) : Greedy ok (a + t) (b + t) k := by
  induction h with
  | nil => exact .nil _
  | cons h1 h2 h3 _ ih =>
    refine .cons (by omega) (by rw [← e]; exact h2) ?_ ih
    rcases h3 with h3 | ⟨h3, h5⟩
    · exact .inl (by omega)
    · exact .inr ⟨by omega, by rw [e] at h5; rw [← h5]; congr 1; omega⟩
def grpN (l : List Stp) : Nat := (longS (okF (cyc l)) l.length 0).length
theorem grp_greedy {l : List Stp} (h : 0 < l.length) : Greedy (okF (lin l)) 0 l.length (grpN l) := by
  have := long_greedy (okF_her (cyc l)) (n := l.length) (b := 0) h
  rw [Nat.zero_add] at this
  exact this.congr (n := l.length) (Nat.le_refl _) fun i j hi hj => okF_congr fun p q hp hq => by rw [cyc_lin (by omega), cyc_lin (by omega)]
theorem ren_apart {P : Int → Prop} {n : Int} {f g : Int → Int} (h : Bij P n f g) (hn : n ≤ 6) {a b : Stp} (ha : FineP P a) (hb : FineP P b) : apart (renStep f a) (renStep f b) = apart a b := by
  refine bool_iff ?_
  rw [apart_iff, apart_iff]
  refine ⟨fun e y hy z hz hyz => ?_, fun e y hy z hz hyz => ?_⟩
  · exact e (f y.1, y.2) ((ren_mem h hn ha _).2 ⟨y, hy, rfl⟩) (f z.1, z.2) ((ren_mem h hn hb _).2 ⟨z, hz, rfl⟩) (by dsimp only; rw [hyz])
  · obtain ⟨y', hy', rfl⟩ := (ren_mem h hn ha _).1 hy
    obtain ⟨z', hz', rfl⟩ := (ren_mem h hn hb _).1 hz
    exact e y' hy' z' hz' (h.inj (hb.2 z' hz') (ha.2 y' hy') hyz)
theorem ren_okF {P : Int → Prop} {n : Int} {f g : Int → Int} (h : Bij P n f g) (hn : n ≤ 6) {l : List Stp} (hl : ∀ x ∈ l, FineP P x) (h0 : 0 < l.length) : okF (cyc (l.map (renStep f))) = okF (cyc l) := by
  funext i j
  have hc : ∀ p, ∃ x ∈ l, cyc l p = x ∧ cyc (l.map (renStep f)) p = renStep f x := fun p => by
    have hr : p % l.length < l.length := Nat.mod_lt _ h0
    refine ⟨l[p % l.length], List.getElem_mem _, ?_, ?_⟩
    · unfold cyc; simp [List.getD, hr]
    · unfold cyc; rw [List.length_map]; simp [List.getD, hr]
  refine okF_congr fun p q _ _ => ?_
  obtain ⟨x, hx, e1, e2⟩ := hc p
  obtain ⟨y, hy, e3, e4⟩ := hc q
  rw [e1, e2, e3, e4, ren_apart h hn (hl x hx) (hl y hy)]
end Go.Proofs.YtdolibeceijnnaaDoor
namespace Go.Proofs.YtdolibeceijnnaaDoor
open Go.RowKit
def mskF (f : Nat → Stp) (i : Nat) : Nat → Nat
  | 0 => 0
  | k + 1 => mskF f i k ||| mskK (f (i + k)).1
theorem mskF_bit (f : Nat → Stp) (i b : Nat) : ∀ k, (mskF f i k).testBit b = true ↔ ∃ t, t < k ∧ ∃ y ∈ (f (i + t)).1, y.1.toNat = b := by
  intro k
  induction k with
  | zero => unfold mskF; simp
  | succ k ih =>
    unfold mskF
    rw [Nat.testBit_or, Bool.or_eq_true, ih, msk_bit, List.any_eq_true]
    constructor
    · rintro (⟨t, h1, h2⟩ | ⟨y, h1, h2⟩)
      · exact ⟨t, by omega, h2⟩
      · exact ⟨k, by omega, y, h1, of_decide_eq_true h2⟩
    · rintro ⟨t, h1, y, h2, h3⟩
      by_cases ht : t = k
      · subst ht; exact .inr ⟨y, h2, decide_eq_true h3⟩
      · exact .inl ⟨t, by omega, y, h2, h3⟩
def RngF (f : Nat → Stp) : Prop := ∀ p, ∀ y ∈ (f p).1, 0 ≤ y.1 ∧ y.1 < 6
theorem mskF_lt {f : Nat → Stp} (h : RngF f) (i : Nat) : ∀ k, mskF f i k < 64 := by
  intro k
  induction k with
  | zero => unfold mskF; omega
  | succ k ih =>
    unfold mskF
    exact Nat.or_lt_two_pow (n := 6) ih (msk_lt (h _))
theorem and_zero (a b : Nat) : a &&& b = 0 ↔ ∀ i, a.testBit i = true → b.testBit i = false := by
  constructor
  · intro h i hi
    have := Nat.testBit_and a b i
    rw [h, Nat.zero_testBit, hi, Bool.true_and] at this
    exact this.symm
  · intro h
    refine Nat.eq_of_testBit_eq fun i => ?_
    rw [Nat.testBit_and, Nat.zero_testBit]
    cases hx : a.testBit i
    · rfl
    · rw [h i hx]; rfl
theorem once_step {f : Nat → Stp} (hr : RngF f) {i k : Nat} (h : okF f i (i + k) = true) : (mskF f i k &&& mskK (f (i + k)).1 = 0) ↔ okF f i (i + (k + 1)) = true := by
  rw [okF_iff] at h ⊢
  rw [and_zero]
  constructor
  · intro e p q h1 h2 h3
    by_cases hq : q = i + k
    · subst hq
      rw [apart_iff]
      intro y hy z hz hyz
      have h4 := e y.1.toNat ((mskF_bit f i _ k).2 ⟨p - i, by omega, y, by rw [show i + (p - i) = p by omega]; exact hy, rfl⟩)
      rw [msk_bit, List.any_eq_false] at h4
      exact h4 z hz (by simp [hyz])
    · exact h p q h1 h2 (by omega)
  · intro e b hb
    obtain ⟨t, ht, y, hy, hyb⟩ := (mskF_bit f i b k).1 hb
    rw [msk_bit, List.any_eq_false]
    intro z hz hzb
    have hzb := of_decide_eq_true hzb
    have h4 := apart_iff.1 (e (i + t) (i + k) (by omega) (by omega) (by omega)) y hy z hz
    have := hr _ y hy
    have := hr _ z hz
    omega
theorem rng_cyc {l : List Stp} (h : ∀ x ∈ l, ∀ y ∈ x.1, 0 ≤ y.1 ∧ y.1 < 6) : RngF (cyc l) := fun p y hy => by
  unfold cyc at hy
  by_cases hp : p % l.length < l.length
  · exact h _ (getD_inn hp) y hy
  · rw [List.getD_eq_getElem?_getD, List.getElem?_eq_none (by omega)] at hy
    simp [stp0] at hy
structure SeqG (w : World) (a : Option Addr) (l : List Stp) : Prop where
  cells : CellsP w a l
  rng : ∀ x ∈ l, ∀ y ∈ x.1, 0 ≤ y.1 ∧ y.1 < 6
  pos : 0 < l.length
  len : l.length ≤ 64
  bits : GBits w
theorem SeqG.ext {w w' : World} {a : Option Addr} {l : List Stp} (h : SeqG w a l) (e : Ext w w') : SeqG w' a l := ⟨h.cells.ext e, h.rng, h.pos, h.len, h.bits.ext e⟩
set_option maxHeartbeats 8000000 in
set_option maxRecDepth 100000 in
theorem once_any (n : Int) (l : List Stp) (a : Option Addr) (cap : Nat) (i c : Nat) (w : World) (hi : i ≤ 1000) (hcn : c ≤ 1000) (h : SeqG w a l) :
    Calls Tryd.prog 40 #[.agg #[.int .i64 n, .slice a l.length cap], .int .i64 i, .int .i64 c] w fun r w' => (∃ m : Int, r = .returned (.tuple #[.int .u64 m, .bool (okF (cyc l) i (i + c))])) ∧ Ext w w' := by
  have HH := Lib.hid h
  have hl0 := h.pos
  have hl := h.len
  have HR := Lib.hid (rng_cyc h.rng)
  clear h
  go_enter Tryd.func40, Tryd.ntmps40
  go_wp2_with fail
  have E1 : Ext w (w.alloc (.cells #[.int .i64 n, .slice a l.length cap] 24)) := extA
  have c1 : ((w.alloc (.cells #[.int .i64 n, .slice a l.length cap] 24))).cell? ⟨w.heap.size, 1, none⟩ = some (.slice a l.length cap) := by go_simp
  obtain ⟨bs, hbs⟩ : ∃ bs, bs = w.heap.size := ⟨_, rfl⟩
  rw [← hbs] at c1 ⊢
  clear hbs
  generalize (w.alloc (.cells #[.int .i64 n, .slice a l.length cap] 24)) = W at E1 c1 ⊢
  replace HH := Lib.hid (HH.out.ext E1)
  go_wp2
  go_loopw [12, 8] (fun x v wr => ∃ k : Nat, k ≤ c ∧ x = .int .i64 k ∧ v = .int .u64 ((mskF (cyc l) i k : Nat) : Int) ∧ Hid (okF (cyc l) i (i + k) = true) ∧ Ext W wr) (fun x _ _ => c - (intOf x).toNat)
  case atStart => exact ⟨0, Nat.zero_le _, rfl, rfl, okF_iff.2 fun p q h1 h2 h3 => by omega, Ext.refl _⟩
  case round =>
    obtain ⟨k, hk, rfl, rfl, hok, he⟩ := hrel
    have d1 := he.cell c1
    by_cases hlt : k < c
    · obtain ⟨r, hr⟩ : ∃ r, r = (i + k) % l.length := ⟨_, rfl⟩
      have hrl : r < l.length := by rw [hr]; exact Nat.mod_lt _ hl0
      obtain ⟨b, off, v, ha, e1, e2, e3⟩ := HH.out.cells.ext he r hrl
      subst ha
      obtain ⟨sa, sc, rfl, hsc, hsm⟩ := e2
      have hmod : ((i : Int) + (k : Int)).tmod (l.length : Int) = (r : Int) := by
        rw [Int.tmod_eq_emod_of_nonneg (by omega), hr]; rfl
      have hcy : cyc l (i + k) = l.getD r stp0 := by unfold cyc; rw [hr]
      have hst := once_step HR.out hok.out
      rw [hcy] at hst
      have hrg := HR.out (i + k)
      rw [hcy] at hrg
      have hml := msk_lt hrg
      have hfl := mskF_lt HR.out i k
      have hsucc : mskF (cyc l) i (k + 1) = mskF (cyc l) i k ||| mskK (l.getD r stp0).1 := by rw [← hcy]; rfl
      have HMV := Lib.hid (fun W' hG hC => moving_any (l.getD r stp0).1 (l.getD r stp0).2 sa sc W' hsm hrg hG hC)
      have HX := Lib.hid hsc
      clear hcy hr hrg
      generalize l.getD r stp0 = x at e1 e3 HMV HX hst hml hsucc hsm
      obtain ⟨st, wt⟩ := x
      dsimp only at e1 e3 HMV HX hst hml hsucc hsm
      have u1 : IntKind.i64.wrap ((i : Int) + (k : Int)) = (i : Int) + (k : Int) := IntWalk.i64_in _ (by omega)
      have u2 : IntKind.i64.wrap (r : Int) = (r : Int) := IntWalk.i64_in _ (by omega)
      have u3 : ((l.length : Int) == 0) = false := beq_eq_false_iff_ne.2 (by omega)
      have u4 : ¬ (l = []) := fun h => by rw [h] at hl0; simp at hl0
      have HA := bits_and_u64_nat (mskF (cyc l) i k) (mskK st) (by omega) (by omega)
      have HO := bits_or_u64_nat (mskF (cyc l) i k) (mskK st) (by omega) (by omega)
      rw [← hsucc] at HO
      have HST := Lib.hid hst
      have z1 := cell_lt d1
      have z2 := cell_lt e1
      dsimp only at z1 z2
      clear hsucc hml hfl hst hsm
      obtain ⟨m2, hm2⟩ : ∃ m, m = mskF (cyc l) i (k + 1) := ⟨_, rfl⟩
      rw [← hm2] at HO
      have HM2 := Lib.hid hm2
      clear hm2
      generalize mskF (cyc l) i k = m1 at HA HO HST ⊢
      generalize mskK st = ms at HA HO HST HMV ⊢
      go_wp2
      go_region_held3 (fun w' => Sees wr w') ((repeat (first | exact Sees.refl _ | assumption | apply Sees.drew | apply Sees.alloc | (refine Sees.ext ?_ (by assumption))))) (first | (go_at_call 46; refine (HMV.out _ (HH.out.bits.ext (he.trans (by exact (show Sees wr _ by assumption).2.2))) (HX.out.ext (by exact (show Sees wr _ by assumption).2.2))).mono ?_; rintro e w' ⟨rfl, hE⟩))
      have F := he.trans (show Sees wr _ by assumption).2.2
      by_cases hz : m1 &&& ms = 0
      · have HZ : Hid (okF (cyc l) i (i + (k + 1)) = true) := HST.out.1 hz
        have hz2 : (((m1 &&& ms : Nat) : Int) != 0) = false := by rw [hz]; rfl
        clear HST hz
        go_wp2
        refine ⟨⟨k + 1, by omega, by go_num, by rw [HM2.out], HZ, F⟩, by simp [intOf]; omega⟩
      · have hz2 : (((m1 &&& ms : Nat) : Int) != 0) = true := by rw [bne_iff_ne]; omega
        have hno : okF (cyc l) i (i + c) = false := by
          cases hx : okF (cyc l) i (i + c)
          · rfl
          · exact absurd (HST.out.2 ((okF_her _).part i (i + c) i (i + (k + 1)) (Nat.le_refl _) (by omega) (by omega) hx)) hz
        have HN := Lib.hid hno
        clear HST hz hno
        go_wp2
        go_ret2
        exact ⟨⟨(m1 : Int), by rw [HN.out]; rfl⟩, E1.trans F⟩
    · have : k = c := by omega
      subst this
      go_wp2
      go_ret2
      exact ⟨⟨((mskF (cyc l) i k : Nat) : Int), by rw [hok.out]; rfl⟩, E1.trans he⟩
end Go.Proofs.YtdolibeceijnnaaDoor
namespace Go.Proofs.YtdolibeceijnnaaDoor
open Go.RowKit
def intsN (l : List Nat) : List Int := l.map fun (n : Nat) => (n : Int)
theorem intsN_len (l : List Nat) : (intsN l).length = l.length := List.length_map ..
theorem intsN_get (l : List Nat) (k : Nat) : (intsN l).getD k 0 = ((l.getD k 0 : Nat) : Int) := by
  unfold intsN
  rw [List.getD_eq_getElem?_getD, List.getD_eq_getElem?_getD, List.getElem?_map]
  cases l[k]? <;> rfl
theorem ownsI_one (w : World) (x : Int) : OwnsI (w.alloc (.cells #[.int .i64 x] 3)) (.slice (some ⟨w.heap.size, 0, none⟩) 1 1) [x] :=
  ⟨by simp, .inr ⟨w.heap.size, 1, #[.int .i64 x], rfl, Nat.zero_le _, heap_alloc_new w _, Nat.le_refl _, by decide, rfl, rfl⟩⟩
def OwnNatPost (l : List Nat) (w : World) (e : Ending) (w' : World) : Prop := ∃ v, e = .returned v ∧ OwnsI w' v (intsN l) ∧ (∀ b, v.ownBlock = some b → w.heap.size ≤ b) ∧ Ext w w'
theorem lng_succ_yes {ok : Nat → Nat → Bool} {b n k last : Nat} (hk : k < n) (h : ok last (b + k + 1) = true) : lngS ok b (n - k) k last = lngS ok b (n - (k + 1)) (k + 1) last := by
  rw [show n - k = n - (k + 1) + 1 by omega]
  conv => lhs; unfold lngS
  rw [if_pos h]
theorem lng_succ_no {ok : Nat → Nat → Bool} {b n k last : Nat} (hk : k < n) (h : ok last (b + k + 1) = false) : lngS ok b (n - k) k last = (b + k) :: lngS ok b (n - (k + 1)) (k + 1) (b + k) := by
  rw [show n - k = n - (k + 1) + 1 by omega]
  conv => lhs; unfold lngS
  rw [if_neg (by simp [h])]
set_option maxHeartbeats 8000000 in
set_option maxRecDepth 100000 in
theorem longest_any (n : Int) (l : List Stp) (a : Option Addr) (cap : Nat) (b : Nat) (w : World) (hb : b ≤ 64) (h : SeqG w a l) :
    Calls Tryd.prog 36 #[.agg #[.int .i64 n, .slice a l.length cap], .int .i64 b] w (OwnNatPost (longS (okF (cyc l)) l.length b) w) := by
  have HH := Lib.hid h
  have hl0 := h.pos
  have hl := h.len
  clear h
  obtain ⟨i0, hi, hi0, hi1, hi2⟩ := info_parts infoInt
  go_enter Tryd.func36, Tryd.ntmps36
  go_wp2_with fail
  have E0 : Ext w (w.alloc (.cells #[.int .i64 n, .slice a l.length cap] 24)) := extA
  have E1 : Ext (w.alloc (.cells #[.int .i64 n, .slice a l.length cap] 24)) ((w.alloc (.cells #[.int .i64 n, .slice a l.length cap] 24)).alloc (.cells #[.int .i64 (b : Int)] 3)) := extA
  have c0 : ((w.alloc (.cells #[.int .i64 n, .slice a l.length cap] 24))).cell? ⟨w.heap.size, 0, none⟩ = some (.int .i64 n) := by go_simp
  have c1 : ((w.alloc (.cells #[.int .i64 n, .slice a l.length cap] 24))).cell? ⟨w.heap.size, 1, none⟩ = some (.slice a l.length cap) := by go_simp
  have hvs : ((w.alloc (.cells #[.int .i64 n, .slice a l.length cap] 24))).heap.size = w.heap.size + 1 := Array.size_push _
  have O0 : Hid (OwnsI ((w.alloc (.cells #[.int .i64 n, .slice a l.length cap] 24)).alloc (.cells #[.int .i64 (b : Int)] 3)) (.slice (some ⟨w.heap.size + 1, 0, none⟩) 1 1) [(b : Int)]) := by
    have h9 := ownsI_one (w.alloc (.cells #[.int .i64 n, .slice a l.length cap] 24)) (b : Int)
    rw [hvs] at h9
    exact h9
  replace HH := Lib.hid (HH.out.ext E0)
  generalize ((w.alloc (.cells #[.int .i64 n, .slice a l.length cap] 24)).alloc (.cells #[.int .i64 (b : Int)] 3)) = W at E1 O0 ⊢
  generalize (w.alloc (.cells #[.int .i64 n, .slice a l.length cap] 24)) = V at E0 E1 c0 c1 HH hvs
  obtain ⟨bs, hbs⟩ : ∃ bs, bs = w.heap.size := ⟨_, rfl⟩
  rw [← hbs] at c0 c1 O0 hvs ⊢
  have HVS := Lib.hid hvs
  clear hbs hvs
  go_wp2
  go_loopw [7, 5, 6] (fun x v z wr => ∃ (k last : Nat) (pre : List Nat), k ≤ l.length ∧ last ≤ b + k ∧ x = .int .i64 k ∧ (∃ vv, v = vv ∧ Hid (OwnsI wr vv (intsN (pre ++ [last])) ∧ (∀ g, vv.ownBlock = some g → V.heap.size ≤ g) ∧ pre.length ≤ k ∧ pre ++ last :: lngS (okF (cyc l)) b (l.length - k) k last = longS (okF (cyc l)) l.length b)) ∧ z = .int .i64 ((b : Int) + (k : Int) - (last : Int)) ∧ Ext V wr) (fun x _ _ _ => l.length - (intOf x).toNat)
  case atStart => exact ⟨0, b, [], Nat.zero_le _, by omega, rfl, ⟨_, rfl, O0.out, fun g hg => by cases hg; have := HVS.out; exact Nat.le_of_eq this, Nat.le_refl _, rfl⟩, by simp, E1⟩
  case round =>
    obtain ⟨k, last, pre, hk, hlast, rfl, ⟨vv, hvv, hO⟩, rfl, he⟩ := hrel
    obtain rfl := hvv.symm
    have d0 := he.cell c0
    have d1 := he.cell c1
    by_cases hlt : k < l.length
    · obtain ⟨va, vc, hv, hvc, hvr⟩ := hO.out.1.reads
      have hplen : (intsN (pre ++ [last])).length = pre.length + 1 := by rw [intsN_len, List.length_append]; rfl
      have hp := hO.out.2.2.1
      obtain ⟨vb, vo, rfl, e1⟩ := hvc pre.length (by omega)
      rw [intsN_get, show (pre ++ [last]).getD pre.length 0 = last by simp] at e1
      obtain ⟨L, hL⟩ : ∃ L, L = pre.length + 1 := ⟨_, rfl⟩
      rw [hplen, ← hL] at hv
      obtain ⟨p, hp2⟩ : ∃ p, p = pre.length := ⟨_, rfl⟩
      have hpL : p < L := by omega
      have hL64 : L ≤ 65 := by omega
      have z0 := cell_lt d0
      have z1 := cell_lt e1
      dsimp only at z0 z1
      have HON := Lib.hid (fun W' hs => once_any n l a cap last (b + k + 1 - last) W' (by omega) (by omega) hs)
      rw [show last + (b + k + 1 - last) = b + k + 1 by omega] at HON
      have hcs : ((b + k + 1 - last : Nat) : Int) = (b : Int) + (k : Int) - (last : Int) + 1 := by omega
      rw [hcs] at HON
      have u1 : IntKind.i64.wrap ((b : Int) + (k : Int) - (last : Int) + 1) = (b : Int) + (k : Int) - (last : Int) + 1 := IntWalk.i64_in _ (by omega)
      have u2 : IntKind.i64.wrap ((L : Int) - 1) = (p : Int) := by rw [IntWalk.i64_in _ (by omega)]; omega
      rw [← hp2] at e1
      subst hv
      have HLP := Lib.hid (And.intro hL hp2)
      clear hvc hvr hplen hL hp2 hp
      have hcond : ∃ q, okF (cyc l) last (b + k + 1) = q := ⟨_, rfl⟩
      obtain ⟨q, hq⟩ := hcond
      rw [hq] at HON
      have HQ := Lib.hid hq
      clear hq hcs
      go_wp2
      go_region_held3 (fun w' => Sees wr w') ((repeat (first | exact Sees.refl _ | assumption | apply Sees.drew | apply Sees.alloc | (refine Sees.ext ?_ (by assumption))))) (first | (go_at_call 40; refine (HON.out _ (HH.out.ext (he.trans (by exact (show Sees wr _ by assumption).2.2)))).mono ?_; rintro e w' ⟨⟨m, rfl⟩, hE⟩))
      have F := (show Sees wr _ by assumption).2.2
      have O2 := Lib.hid (hO.out.1.ext F)
      have OB := Lib.hid hO.out.2.1
      have OE := Lib.hid hO.out.2.2
      clear hO
      have G := he.trans F
      generalize w' = w2 at G O2 ⊢
      cases q
      · have hnx := lng_succ_no (ok := okF (cyc l)) (b := b) hlt HQ.out
        have u3 : IntKind.i64.wrap ((b : Int) + (k : Int)) = ((b + k : Nat) : Int) := by rw [IntWalk.i64_in _ (by omega)]; omega
        have hsz2 := G.size
        have HNX := Lib.hid hnx
        clear hnx
        go_wp2_with (at_builtin; refine wpList_append1 _ rfl _ _ 27 rfl 3 i0 (.int .i64 0) 1 8 Tryd.underlying27 hi hi0 hi1 hi2 rfl (by decide) (.slice (some ⟨vb, vo, none⟩) L vc) (intsN (pre ++ [last])).length ((intsN (pre ++ [last])).map (Value.int .i64)) rfl ?ho ⟨w2.heap.size, 0, none⟩ 1 1 (by decide) [.int .i64 ((b + k : Nat) : Int)] rfl rfl ?hn ?c1 ?c2 ?c3 ?c4)
        case ho => exact O2.out.ext ((Ext.refl _).alloc _)
        case hn => exact cells_one _ _ _
        case c1 => intro u hu; simp at hu; subst hu; rfl
        case c2 => have := HLP.out; have := OE.out.1; rw [intsN_len, List.length_append, List.length_singleton]; unfold maxLen; omega
        case c3 => have := HLP.out; have := OE.out.1; rw [intsN_len, List.length_append, List.length_singleton]; omega
        case c4 =>
          intro v' w5 hown5 hend5
          have O5 : Hid (OwnsI w5 v' (intsN ((pre ++ [last]) ++ [b + k]))) := by
            show OwnsI _ _ _
            have h9 := ownsI_succ hown5
            unfold intsN at h9 ⊢
            rw [List.map_append]
            exact h9
          have B5 : Ext V w5 := (G.trans ((Ext.refl _).alloc _)).trans' (hend5.below (n := V.heap.size) (by simp; omega) OB.out) (Nat.le_refl _)
          have OB5 : Hid (∀ b, v'.ownBlock = some b → V.heap.size ≤ b) := hend5.ge (n := V.heap.size) (by simp; omega) OB.out
          clear hown5 hend5 O2 OB
          go_wp2
          refine ⟨⟨k + 1, b + k, pre ++ [last], by omega, by omega, by go_num, ⟨v', rfl, O5.out, OB5.out, by have := OE.out.1; rw [List.length_append, List.length_singleton]; omega, ?_⟩, by simp; omega, B5⟩, by simp [intOf]; omega⟩
          have h9 := OE.out.2
          rw [HNX.out] at h9
          rw [List.append_assoc]
          exact h9
      · have hnx := lng_succ_yes (ok := okF (cyc l)) (b := b) hlt HQ.out
        have HNX := Lib.hid hnx
        clear hnx
        go_wp2
        refine ⟨⟨k + 1, last, pre, by omega, by omega, by go_num, ⟨_, rfl, O2.out, OB.out, by have := OE.out.1; omega, ?_⟩, by simp; omega, G⟩, by simp [intOf]; omega⟩
        have h9 := OE.out.2
        rw [HNX.out] at h9
        exact h9
    · have hke : k = l.length := by omega
      subst hke
      have h9 := hO.out.2.2.2
      rw [Nat.sub_self] at h9
      have H9 := Lib.hid h9
      clear h9
      go_wp2
      go_ret
      have HVS2 := HVS.out
      have h0 := E0.size
      refine ⟨vv, rfl, ?_, fun g hg => Nat.le_trans h0 (hO.out.2.1 g hg), E0.trans he⟩
      have h8 := hO.out.1
      rw [show pre ++ [last] = longS (okF (cyc l)) l.length b from H9.out] at h8
      exact h8
end Go.Proofs.YtdolibeceijnnaaDoor
