/- Steps of the proof: QJoin, QBack, QBackP, QLetters, QRen1, QRen, QStdW. No conditions. -/
import Derived.Maps.OwnOps
import Derived.Maps.Views
import Derived.Test.YtnhbogmihnnpjaaGreatYB1
import Derived.Test.YtnhbogmihnnpjaaGreatYB2
import Derived.Test.YtnhbogmihnnpjaaGreatYB3
import Derived.Test.YtnhbogmihnnpjaaGreatYB4
import Derived.Test.YtnhbogmihnnpjaaGreatYB5
import Derived.Test.YtnhbogmihnnpjaaGreatYB6
import Derived.Test.YtnhbogmihnnpjaaGreatYB7
/- variant.Join. -/
namespace Go.Proofs.YtnhbogmihnnpjaaGreat
open Go.RowKit

theorem Full.append {l q : List Stp} (h : Full l) (k : Full q) : Full (l ++ q) := fun i hi => by
  rw [List.getD_eq_getElem?_getD]
  by_cases c : i < l.length
  · rw [List.getElem?_append_left c]
    have := h i c
    rw [List.getD_eq_getElem?_getD] at this
    exact this
  · rw [List.getElem?_append_right (by omega)]
    have := k (i - l.length) (by rw [List.length_append] at hi; omega)
    rw [List.getD_eq_getElem?_getD] at this
    exact this

set_option maxHeartbeats 8000000 in
set_option maxRecDepth 100000 in
theorem Join_ok (n m : Int) (l q : List Stp) (a b : Option Addr) (ca cb : Nat) (w : World) (hl : l.length ≤ maxLen) (hc : CellsP w a l) (hq : q.length ≤ maxLen) (hd : CellsP w b q) (h1 : ckSeq (n, l) = 0) (h2 : ckSeq (m, q) = 0) (h3 : l.length + q.length ≤ 64) :
    Calls Tryz.prog 30 #[.agg #[.int .i64 n, .slice a l.length ca], .agg #[.int .i64 m, .slice b q.length cb]] w (SeqErr (joined2 (n, l) (m, q)) 0 w) := by
  have HC := Lib.hid hc
  have HL := Lib.hid hl
  have HD := Lib.hid hd
  have HQ := Lib.hid hq
  have H1 := Lib.hid h1
  have H2 := Lib.hid h2
  have hl0 := (ckSeq_zero h1).2.2.1
  obtain ⟨s, hs⟩ : ∃ s, s = joined2 (n, l) (m, q) := ⟨_, rfl⟩
  rw [← hs]
  have HS := Lib.hid hs
  clear hs hc hd hl hq h1 h2
  go_enter Tryz.func30, Tryz.ntmps30
  go_wp2_with fail
  have E1 : Ext w ((((w.alloc (.cells #[.int .i64 n, .slice a l.length ca] 24)).alloc (.cells #[.int .i64 m, .slice b q.length cb] 24)).alloc (.cells #[.int .i64 0, .slice none 0 0] 24)).alloc (.cells #[.int .i64 n, .slice a l.length ca, .int .i64 m, .slice b q.length cb] 24)) := (by repeat (first | with_reducible exact Ext.refl _ | with_reducible assumption | with_reducible apply Ext.drewN | with_reducible apply Ext.drew | with_reducible apply Ext.alloc | ((with_reducible refine Ext.set ?_ ?_ _); rotate_left; first | omega | (simp; omega)) | (with_reducible refine Ext.trans ?_ (by with_reducible assumption))))
  have a0 : ((((w.alloc (.cells #[.int .i64 n, .slice a l.length ca] 24)).alloc (.cells #[.int .i64 m, .slice b q.length cb] 24)).alloc (.cells #[.int .i64 0, .slice none 0 0] 24)).alloc (.cells #[.int .i64 n, .slice a l.length ca, .int .i64 m, .slice b q.length cb] 24)).cell? ⟨w.heap.size, 0, none⟩ = some (.int .i64 n) := by go_simp
  have a1 : ((((w.alloc (.cells #[.int .i64 n, .slice a l.length ca] 24)).alloc (.cells #[.int .i64 m, .slice b q.length cb] 24)).alloc (.cells #[.int .i64 0, .slice none 0 0] 24)).alloc (.cells #[.int .i64 n, .slice a l.length ca, .int .i64 m, .slice b q.length cb] 24)).cell? ⟨w.heap.size, 1, none⟩ = some (.slice a l.length ca) := by go_simp
  have b0 : ((((w.alloc (.cells #[.int .i64 n, .slice a l.length ca] 24)).alloc (.cells #[.int .i64 m, .slice b q.length cb] 24)).alloc (.cells #[.int .i64 0, .slice none 0 0] 24)).alloc (.cells #[.int .i64 n, .slice a l.length ca, .int .i64 m, .slice b q.length cb] 24)).cell? ⟨w.heap.size + 1, 0, none⟩ = some (.int .i64 m) := by go_simp
  have b1 : ((((w.alloc (.cells #[.int .i64 n, .slice a l.length ca] 24)).alloc (.cells #[.int .i64 m, .slice b q.length cb] 24)).alloc (.cells #[.int .i64 0, .slice none 0 0] 24)).alloc (.cells #[.int .i64 n, .slice a l.length ca, .int .i64 m, .slice b q.length cb] 24)).cell? ⟨w.heap.size + 1, 1, none⟩ = some (.slice b q.length cb) := by go_simp
  have c2 : ((((w.alloc (.cells #[.int .i64 n, .slice a l.length ca] 24)).alloc (.cells #[.int .i64 m, .slice b q.length cb] 24)).alloc (.cells #[.int .i64 0, .slice none 0 0] 24)).alloc (.cells #[.int .i64 n, .slice a l.length ca, .int .i64 m, .slice b q.length cb] 24)).cell? ⟨w.heap.size + 1 + 1, 0, none⟩ = some (.int .i64 0) := by go_simp
  have c3 : ((((w.alloc (.cells #[.int .i64 n, .slice a l.length ca] 24)).alloc (.cells #[.int .i64 m, .slice b q.length cb] 24)).alloc (.cells #[.int .i64 0, .slice none 0 0] 24)).alloc (.cells #[.int .i64 n, .slice a l.length ca, .int .i64 m, .slice b q.length cb] 24)).cell? ⟨w.heap.size + 1 + 1, 1, none⟩ = some (.slice none 0 0) := by go_simp
  have d2 : ((((w.alloc (.cells #[.int .i64 n, .slice a l.length ca] 24)).alloc (.cells #[.int .i64 m, .slice b q.length cb] 24)).alloc (.cells #[.int .i64 0, .slice none 0 0] 24)).alloc (.cells #[.int .i64 n, .slice a l.length ca, .int .i64 m, .slice b q.length cb] 24)).frozen? ⟨w.heap.size + 1 + 1, 0, none⟩ = false := by go_simp
  have d3 : ((((w.alloc (.cells #[.int .i64 n, .slice a l.length ca] 24)).alloc (.cells #[.int .i64 m, .slice b q.length cb] 24)).alloc (.cells #[.int .i64 0, .slice none 0 0] 24)).alloc (.cells #[.int .i64 n, .slice a l.length ca, .int .i64 m, .slice b q.length cb] 24)).frozen? ⟨w.heap.size + 1 + 1, 1, none⟩ = false := by go_simp
  have s0 : ((((w.alloc (.cells #[.int .i64 n, .slice a l.length ca] 24)).alloc (.cells #[.int .i64 m, .slice b q.length cb] 24)).alloc (.cells #[.int .i64 0, .slice none 0 0] 24)).alloc (.cells #[.int .i64 n, .slice a l.length ca, .int .i64 m, .slice b q.length cb] 24)).cell? ⟨w.heap.size + 1 + 1 + 1, 0, none⟩ = some (.int .i64 n) := by go_simp
  have s1 : ((((w.alloc (.cells #[.int .i64 n, .slice a l.length ca] 24)).alloc (.cells #[.int .i64 m, .slice b q.length cb] 24)).alloc (.cells #[.int .i64 0, .slice none 0 0] 24)).alloc (.cells #[.int .i64 n, .slice a l.length ca, .int .i64 m, .slice b q.length cb] 24)).cell? ⟨w.heap.size + 1 + 1 + 1, 1, none⟩ = some (.slice a l.length ca) := by go_simp
  have s2 : ((((w.alloc (.cells #[.int .i64 n, .slice a l.length ca] 24)).alloc (.cells #[.int .i64 m, .slice b q.length cb] 24)).alloc (.cells #[.int .i64 0, .slice none 0 0] 24)).alloc (.cells #[.int .i64 n, .slice a l.length ca, .int .i64 m, .slice b q.length cb] 24)).cell? ⟨w.heap.size + 1 + 1 + 1, 2, none⟩ = some (.int .i64 m) := by go_simp
  have s3 : ((((w.alloc (.cells #[.int .i64 n, .slice a l.length ca] 24)).alloc (.cells #[.int .i64 m, .slice b q.length cb] 24)).alloc (.cells #[.int .i64 0, .slice none 0 0] 24)).alloc (.cells #[.int .i64 n, .slice a l.length ca, .int .i64 m, .slice b q.length cb] 24)).cell? ⟨w.heap.size + 1 + 1 + 1, 3, none⟩ = some (.slice b q.length cb) := by go_simp
  generalize ((((w.alloc (.cells #[.int .i64 n, .slice a l.length ca] 24)).alloc (.cells #[.int .i64 m, .slice b q.length cb] 24)).alloc (.cells #[.int .i64 0, .slice none 0 0] 24)).alloc (.cells #[.int .i64 n, .slice a l.length ca, .int .i64 m, .slice b q.length cb] 24)) = W at E1 s0 s1 s2 s3 a0 a1 b0 b1 c2 c3 d2 d3 ⊢
  go_loopw [13] (fun i wr => ∃ k : Nat, k ≤ 2 ∧ i = .int .i64 k ∧ Ext W wr) (fun i _ => 2 - (intOf i).toNat)
  case atStart => exact ⟨0, by omega, rfl, Ext.refl _⟩
  case round =>
    obtain ⟨k, hk, rfl, he⟩ := hrel
    have s0 := he.cell s0
    have s1 := he.cell s1
    have s2 := he.cell s2
    have s3 := he.cell s3
    have zs := cell_lt s0
    dsimp only at zs
    have : k = 0 ∨ k = 1 ∨ k = 2 := by omega
    rcases this with rfl | rfl | rfl
    · have EB : Ext wr (wr.alloc (.cells #[.int .i64 n, .slice a l.length ca] 24)) := (by repeat (first | with_reducible exact Ext.refl _ | with_reducible assumption | with_reducible apply Ext.drewN | with_reducible apply Ext.drew | with_reducible apply Ext.alloc | ((with_reducible refine Ext.set ?_ ?_ _); rotate_left; first | omega | (simp; omega)) | (with_reducible refine Ext.trans ?_ (by with_reducible assumption))))
      have HK := Lib.hid (Check_any n l a ca _ HL.out (HC.out.ext ((E1.trans he).trans EB)))
      go_wp2_with fail
      refine HK.out.mono ?_
      rintro e w1 ⟨rfl, hE⟩
      rw [H1.out]
      have E5 := (he.trans EB).trans hE
      clear HK
      go_wp2
      refine ⟨⟨1, by omega, by go_num, E5⟩, by simp [intOf]⟩
    · have EB : Ext wr (wr.alloc (.cells #[.int .i64 m, .slice b q.length cb] 24)) := (by repeat (first | with_reducible exact Ext.refl _ | with_reducible assumption | with_reducible apply Ext.drewN | with_reducible apply Ext.drew | with_reducible apply Ext.alloc | ((with_reducible refine Ext.set ?_ ?_ _); rotate_left; first | omega | (simp; omega)) | (with_reducible refine Ext.trans ?_ (by with_reducible assumption))))
      have HK := Lib.hid (Check_any m q b cb _ HQ.out (HD.out.ext ((E1.trans he).trans EB)))
      go_wp2_with fail
      refine HK.out.mono ?_
      rintro e w1 ⟨rfl, hE⟩
      rw [H2.out]
      have E5 := (he.trans EB).trans hE
      clear HK
      go_wp2
      refine ⟨⟨2, by omega, by go_num, E5⟩, by simp [intOf]⟩
    · have a0 := he.cell a0
      have a1 := he.cell a1
      have b0 := he.cell b0
      have b1 := he.cell b1
      have d2 := (Below.frozen (p := ⟨w.heap.size + 1 + 1, 0, none⟩) he (cell_lt c2)).trans d2
      have d3 := (Below.frozen (p := ⟨w.heap.size + 1 + 1, 1, none⟩) he (cell_lt c3)).trans d3
      have c2 := he.cell c2
      have c3 := he.cell c3
      have E3 := E1.trans he
      have g1 : IntKind.i64.wrap ((l.length : Int) + (q.length : Int)) = (l.length : Int) + (q.length : Int) := IntWalk.i64_in _ (by omega)
      have g2 : ¬ ((64 : Int) < (l.length : Int) + (q.length : Int)) := by omega
      clear s0 s1 s2 s3 zs
      go_wp2
      refine wp_region_heldE 99 (fun w' => w'.cell? ⟨w.heap.size, 0, none⟩ = some (.int .i64 n) ∧ w'.cell? ⟨w.heap.size, 1, none⟩ = some (.slice a l.length ca) ∧ w'.cell? ⟨w.heap.size + 1, 0, none⟩ = some (.int .i64 m) ∧ w'.cell? ⟨w.heap.size + 1, 1, none⟩ = some (.slice b q.length cb)) (by kernel_rfl) ?_
      have ED : Ext wr wr.drew := (by repeat (first | with_reducible exact Ext.refl _ | with_reducible assumption | with_reducible apply Ext.drewN | with_reducible apply Ext.drew | with_reducible apply Ext.alloc | ((with_reducible refine Ext.set ?_ ?_ _); rotate_left; first | omega | (simp; omega)) | (with_reducible refine Ext.trans ?_ (by with_reducible assumption))))
      have E4 := E3.trans ED
      have hS : wr.drew.cell? ⟨w.heap.size, 0, none⟩ = some (.int .i64 n) ∧ wr.drew.cell? ⟨w.heap.size, 1, none⟩ = some (.slice a l.length ca) ∧ wr.drew.cell? ⟨w.heap.size + 1, 0, none⟩ = some (.int .i64 m) ∧ wr.drew.cell? ⟨w.heap.size + 1, 1, none⟩ = some (.slice b q.length cb) := ⟨ED.cell a0, ED.cell a1, ED.cell b0, ED.cell b1⟩
      have d2 := (Below.frozen (p := ⟨w.heap.size + 1 + 1, 0, none⟩) ED (cell_lt c2)).trans d2
      have d3 := (Below.frozen (p := ⟨w.heap.size + 1 + 1, 1, none⟩) ED (cell_lt c3)).trans d3
      have c2 := ED.cell c2
      have c3 := ED.cell c3
      clear a0 a1 b0 b1
      generalize wr.drew = W3 at E4 hS c2 c3 d2 d3 ⊢
      clear ED
      have hz3 : w.heap.size + 1 + 1 < W3.heap.size := cell_lt c2
      ((refine wpAnyE_take (i := 0) (oi := ?_) (v := ?_) ?_ (by kernel_rfl) ?_ ?_ (by assumption) ?_; rotate_left 2; (focus ((simp only [List.getElem?_toArray, List.getElem?_cons_zero]; exact rfl))); (focus (exact fun _ _ _ h => h)); (focus (refine Or.inl ⟨by rfl, ?_⟩; intro w hSw; (try dsimp only at hSw); (first | (go_simp; done) | (go_simp; with_reducible rfl)))); (try simp only [Act.put, List.setIfInBounds_toArray, List.set_cons_zero, List.set_cons_succ])); (refine wpAnyE_take (i := 1) (oi := ?_) (v := ?_) ?_ (by kernel_rfl) ?_ ?_ (by assumption) ?_; rotate_left 2; (focus ((simp only [List.getElem?_toArray, List.getElem?_cons_succ, List.getElem?_cons_zero]; exact rfl))); (focus (exact fun _ _ _ h => h)); (focus (refine Or.inl ⟨by rfl, ?_⟩; intro w hSw; (try dsimp only at hSw); (first | (go_simp; done) | (go_simp; with_reducible rfl)))); (try simp only [Act.put, List.setIfInBounds_toArray, List.set_cons_zero, List.set_cons_succ])); (refine wpAnyE_take (i := 2) (oi := ?_) (v := ?_) ?_ (by kernel_rfl) ?_ ?_ (by assumption) ?_; rotate_left 2; (focus ((simp only [List.getElem?_toArray, List.getElem?_cons_succ, List.getElem?_cons_zero]; exact rfl))); (focus (exact fun _ _ _ h => h)); (focus (refine Or.inl ⟨by rfl, ?_⟩; intro w hSw; (try dsimp only at hSw); (first | (go_simp; done) | (go_simp; with_reducible rfl)))); (try simp only [Act.put, List.setIfInBounds_toArray, List.set_cons_zero, List.set_cons_succ])); (refine wpAnyE_take (i := 3) (oi := ?_) (v := ?_) ?_ (by kernel_rfl) ?_ ?_ (by assumption) ?_; rotate_left 2; (focus ((simp only [List.getElem?_toArray, List.getElem?_cons_succ, List.getElem?_cons_zero]; exact rfl))); (focus (exact fun _ _ _ h => h)); (focus (refine Or.inl ⟨by rfl, ?_⟩; intro w hSw; (try dsimp only at hSw); (first | (go_simp; done) | (go_simp; with_reducible rfl)))); (try simp only [Act.put, List.setIfInBounds_toArray, List.set_cons_zero, List.set_cons_succ])); (refine wpAnyE_take (i := 4) (oi := ?_) (v := ?_) ?_ (by kernel_rfl) ?_ ?_ (by assumption) ?_; rotate_left 2; (focus ((simp only [List.getElem?_toArray, List.getElem?_cons_succ, List.getElem?_cons_zero]; exact rfl))); (focus (exact fun _ _ _ h => h)); (focus (refine Or.inl ⟨by rfl, ?_⟩; intro w hSw; (try dsimp only at hSw); (first | (go_simp; done) | (go_simp; with_reducible rfl)))); (try simp only [Act.put, List.setIfInBounds_toArray, List.set_cons_zero, List.set_cons_succ])))
      obtain ⟨mx, hmx⟩ : ∃ mx, mx = (if n < m then m else n) := ⟨_, rfl⟩
      rw [← hmx]
      have HMX0 := Lib.hid hmx
      clear hmx
      ((refine wpAnyE_take (i := 5) (oi := ?_) (v := ?_) ?_ (by kernel_rfl) ?_ ?_ (by assumption) ?_; rotate_left 2; (focus ((simp only [List.getElem?_toArray, List.getElem?_cons_succ, List.getElem?_cons_zero]; exact rfl))); (focus (exact fun _ _ _ h => h)); (focus (refine Or.inl ⟨by rfl, ?_⟩; intro w hSw; (try dsimp only at hSw); (first | (go_simp; done) | (go_simp; with_reducible rfl)))); (try simp only [Act.put, List.setIfInBounds_toArray, List.set_cons_zero, List.set_cons_succ])); (refine wpAnyE_take (i := 6) (oi := ?_) (v := ?_) ?_ (by kernel_rfl) ?_ ?_ (by assumption) ?_; rotate_left 2; (focus ((simp only [List.getElem?_toArray, List.getElem?_cons_succ, List.getElem?_cons_zero]; exact rfl))); (focus (exact fun _ _ _ h => h)); (focus (refine Or.inl ⟨by rfl, ?_⟩; intro w hSw; (try dsimp only at hSw); (first | (go_simp; done) | (go_simp; with_reducible rfl)))); (try simp only [Act.put, List.setIfInBounds_toArray, List.set_cons_zero, List.set_cons_succ])); (refine wpAnyE_take (i := 7) (oi := ?_) (v := ?_) ?_ (by kernel_rfl) ?_ ?_ (by assumption) ?_; rotate_left 2; (focus ((simp only [List.getElem?_toArray, List.getElem?_cons_succ, List.getElem?_cons_zero]; exact rfl))); (focus (exact fun _ _ _ h => h)); (focus (refine Or.inl ⟨by rfl, ?_⟩; intro w hSw; (try dsimp only at hSw); (first | (go_simp; done) | (go_simp; with_reducible rfl)))); (try simp only [Act.put, List.setIfInBounds_toArray, List.set_cons_zero, List.set_cons_succ])); (refine wpAnyE_take (i := 8) (oi := ?_) (v := ?_) ?_ (by kernel_rfl) ?_ ?_ (by assumption) ?_; rotate_left 2; (focus ((simp only [List.getElem?_toArray, List.getElem?_cons_succ, List.getElem?_cons_zero]; exact rfl))); (focus (exact fun _ _ _ h => h)); (focus (refine Or.inl ⟨by rfl, ?_⟩; intro w hSw; (try dsimp only at hSw); (first | (go_simp; done) | (go_simp; with_reducible rfl)))); (try simp only [Act.put, List.setIfInBounds_toArray, List.set_cons_zero, List.set_cons_succ])))
      obtain ⟨p1, hp1, hq1⟩ := (HC.out.ext E4).pairsAt
      obtain ⟨p2, hp2, hq2⟩ := (HD.out.ext E4).pairsAt
      have hl1 : p1.length = l.length := by rw [← hp1]; simp
      have hl2 : p2.length = q.length := by rw [← hp2]; simp
      obtain ⟨L, hLL⟩ : ∃ L, L = l ++ q := ⟨_, rfl⟩
      have hL64 : L.length ≤ 64 := by rw [hLL, List.length_append]; omega
      have hpl : Hid ((p1 ++ p2).map (·.2) = L) := by show _ = _; rw [List.map_append, hp1, hp2, hLL]
      have HFU : Hid (Full L) := by show Full L; rw [hLL]; exact (ckSeq_full H1.out).append (ckSeq_full H2.out)
      have HQ1 := Lib.hid hq1
      have HQ2 := Lib.hid hq2
      have HL1 := Lib.hid hl1
      have HL2 := Lib.hid hl2
      have HLL := Lib.hid hLL
      clear hp1 hp2 hq1 hq2 hl1 hl2 hLL
      have E5 : Ext W3 (W3.alloc (.cells #[.slice a l.length ca, .slice b q.length cb] 22)) := (by repeat (first | with_reducible exact Ext.refl _ | with_reducible assumption | with_reducible apply Ext.drewN | with_reducible apply Ext.drew | with_reducible apply Ext.alloc | ((with_reducible refine Ext.set ?_ ?_ _); rotate_left; first | omega | (simp; omega)) | (with_reducible refine Ext.trans ?_ (by with_reducible assumption))))
      have q1 : (W3.alloc (.cells #[.slice a l.length ca, .slice b q.length cb] 22)).cell? ⟨W3.heap.size, 0, none⟩ = some (.slice a l.length ca) := by go_simp
      have q2 : (W3.alloc (.cells #[.slice a l.length ca, .slice b q.length cb] 22)).cell? ⟨W3.heap.size, 1, none⟩ = some (.slice b q.length cb) := by go_simp
      (refine wpAnyE_one (i := 9) (o := ?_) ?_ (by kernel_rfl) (fun K hK => ?_); rotate_left; (focus ((simp only [List.getElem?_toArray, List.getElem?_cons_succ, List.getElem?_cons_zero]; exact rfl))); go_simp; refine hK.out _ _ ?_ (fun hHeld => ?_); rotate_left; clear hK K; (try simp only [Act.put, List.setIfInBounds_toArray, List.set_cons_zero, List.set_cons_succ]))
      rotate_left
      · exact ⟨E5.cell hS.1, E5.cell hS.2.1, E5.cell hS.2.2.1, E5.cell hS.2.2.2⟩
      clear hHeld
      generalize (W3.alloc (.cells #[.slice a l.length ca, .slice b q.length cb] 22)) = W4 at E5 q1 q2 ⊢
      have hcat := ConcatP_any p1 p2 _ hpl.out a b ca cb W3.heap.size W4 (HQ1.out.ext E5) (HQ2.out.ext E5) (by have := HL1.out; omega) (by have := HL1.out; omega) (by have := HL2.out; omega) (by rw [HL1.out]; exact q1) (by rw [HL2.out]; exact q2)
      have HCAT := Lib.hid hcat
      clear hcat q1 q2
      (refine wpAnyE_one (i := 10) (o := ?_) ?_ (by kernel_rfl) (fun K hK => ?_); rotate_left; (focus ((simp only [List.getElem?_toArray, List.getElem?_cons_succ, List.getElem?_cons_zero]; exact rfl))); go_simp; refine HCAT.out.mono ?_; rintro e w5 ⟨ra, rc, rfl, hrc, hrl, hE5⟩; have HRC := Lib.hid hrc; have HRL := Lib.hid hrl; clear hrc hrl; go_wp2_with fail; refine hK.out _ _ ?_ (fun hHeld => ?_); rotate_left; clear hK K; (try simp only [Act.put, List.setIfInBounds_toArray, List.set_cons_zero, List.set_cons_succ]))
      rotate_left
      · have F := E5.trans hE5
        exact ⟨F.cell hS.1, F.cell hS.2.1, F.cell hS.2.2.1, F.cell hS.2.2.2⟩
      have F5 := E5.trans hE5
      clear HCAT
      have HMX : Hid (s = (mx, L)) := by
        show _ = _
        rw [HS.out, HMX0.out, HLL.out]
        unfold joined2
        dsimp only
        rw [show max n m = if n < m then m else n from by split <;> omega]
      (refine wpAnyE_take (i := 11) (oi := ?_) (v := ?_) ?_ (by kernel_rfl) ?_ ?_ (by assumption) ?_; rotate_left 2; (focus ((simp only [List.getElem?_toArray, List.getElem?_cons_succ, List.getElem?_cons_zero]; exact rfl))); (focus (exact fun _ _ _ h => h)); (focus (refine Or.inl ⟨by rfl, ?_⟩; intro w hSw; (try dsimp only at hSw); (first | (go_simp; done) | (go_simp; with_reducible rfl)))); (try simp only [Act.put, List.setIfInBounds_toArray, List.set_cons_zero, List.set_cons_succ]))
      have HCOP := Lib.hid (copied_any mx L ra rc w5 (by omega) HFU.out HRC.out)
      (refine wpAnyE_one (i := 12) (o := ?_) ?_ (by kernel_rfl) (fun K hK => ?_); rotate_left; (focus ((simp only [List.getElem?_toArray, List.getElem?_cons_succ, List.getElem?_cons_zero]; exact rfl))); go_simp; refine HCOP.out.mono ?_; rintro e w6 ⟨rv, rfl, hrv, hE6⟩; have HRV := Lib.hid hrv; obtain ⟨ru, rfl, va, vc, rfl, _, _⟩ := hrv w6 (Chg.refl _ _); clear hrv; go_wp2_with fail; refine hK.out _ _ ?_ (fun hHeld => ?_); rotate_left; clear hK K; (try simp only [Act.put, List.setIfInBounds_toArray, List.set_cons_zero, List.set_cons_succ]))
      rotate_left
      · have F := F5.trans hE6
        exact ⟨F.cell hS.1, F.cell hS.2.1, F.cell hS.2.2.1, F.cell hS.2.2.2⟩
      clear HCOP hHeld
      have F6 := F5.trans hE6
      have d2 := (Below.frozen (p := ⟨w.heap.size + 1 + 1, 0, none⟩) F6 (cell_lt c2)).trans d2
      have d3 := (Below.frozen (p := ⟨w.heap.size + 1 + 1, 1, none⟩) F6 (cell_lt c3)).trans d3
      have c2 := F6.cell c2
      have c3 := F6.cell c3
      have hz6 := F6.size
      have EF : Ext w ((w6.setCell ⟨w.heap.size + 1 + 1, 0, none⟩ (.int .i64 mx)).setCell ⟨w.heap.size + 1 + 1, 1, none⟩ (.slice va L.length vc)) := ((E4.trans F6).set (by omega) _).set (by omega) _
      have hz5 := F5.size
      have HSV : Hid (SeqV ((w6.setCell ⟨w.heap.size + 1 + 1, 0, none⟩ (.int .i64 mx)).setCell ⟨w.heap.size + 1 + 1, 1, none⟩ (.slice va L.length vc)) (.agg #[.int .i64 mx, .slice va L.length vc]) s) := by
        show SeqV _ _ _
        rw [HMX.out]
        exact HRV.out _ ((Chg.setCell (B := fun b => b < w5.heap.size) ⟨w.heap.size + 1 + 1, 0, none⟩ _ (by show w.heap.size + 1 + 1 < _; omega)).trans (Chg.setCell (B := fun b => b < w5.heap.size) ⟨w.heap.size + 1 + 1, 1, none⟩ _ (by show w.heap.size + 1 + 1 < _; omega)))
      have hHeld : w6.cell? ⟨w.heap.size, 0, none⟩ = some (.int .i64 n) ∧ w6.cell? ⟨w.heap.size, 1, none⟩ = some (.slice a l.length ca) ∧ w6.cell? ⟨w.heap.size + 1, 0, none⟩ = some (.int .i64 m) ∧ w6.cell? ⟨w.heap.size + 1, 1, none⟩ = some (.slice b q.length cb) := ⟨F6.cell hS.1, F6.cell hS.2.1, F6.cell hS.2.2.1, F6.cell hS.2.2.2⟩
      (refine wpAnyE_one (i := 13) (o := ?_) ?_ (by kernel_rfl) (fun K hK => ?_); rotate_left; (focus ((simp only [List.getElem?_toArray, List.getElem?_cons_succ, List.getElem?_cons_zero]; exact rfl))); go_simp; refine hK.out _ _ ?_ (fun hHeld => ?_); rotate_left; clear hK K; (try simp only [Act.put, List.setIfInBounds_toArray, List.set_cons_zero, List.set_cons_succ]))
      rotate_left
      · refine ⟨?_, ?_, ?_, ?_⟩
        all_goals rw [World.cell?_setCell_other _ _ _ _ (fun h => by simp only [Addr.mk.injEq] at h; omega), World.cell?_setCell_other _ _ _ _ (fun h => by simp only [Addr.mk.injEq] at h; omega)]
        · exact F6.cell hS.1
        · exact F6.cell hS.2.1
        · exact F6.cell hS.2.2.1
        · exact F6.cell hS.2.2.2
      (refine wpAnyE_take (i := 14) (oi := ?_) (v := ?_) ?_ (by kernel_rfl) ?_ ?_ (by assumption) ?_; rotate_left 2; (focus ((simp only [List.getElem?_toArray, List.getElem?_cons_succ, List.getElem?_cons_zero]; exact rfl))); (focus (exact fun _ _ _ h => h)); (focus (refine Or.inl ⟨by rfl, ?_⟩; intro w hSw; (try dsimp only at hSw); (first | (go_simp; done) | (go_simp; with_reducible rfl)))); (try simp only [Act.put, List.setIfInBounds_toArray, List.set_cons_zero, List.set_cons_succ]))
      refine wpAnyE_done (by kernel_rfl) ?_ _
      clear hHeld hS
      go_wp2
      exact bodyPost_ret (v := .tuple #[.agg #[.int .i64 mx, .slice va L.length vc], .int .i64 0]) (by rw [results_cell_tmp1 rfl]; go_simp) rfl ⟨_, rfl, HSV.out, EF⟩
set_option maxHeartbeats 8000000 in
set_option maxRecDepth 100000 in
theorem Join_any (n m : Int) (l q : List Stp) (a b : Option Addr) (ca cb : Nat) (w : World) (hl : l.length ≤ maxLen) (hc : CellsP w a l) (hq : q.length ≤ maxLen) (hd : CellsP w b q) :
    Calls Tryz.prog 30 #[.agg #[.int .i64 n, .slice a l.length ca], .agg #[.int .i64 m, .slice b q.length cb]] w (SeqErr (if joinE (n, l) (m, q) = 0 then joined2 (n, l) (m, q) else sq0) (joinE (n, l) (m, q)) w) := by
  by_cases hin : ckSeq (n, l) = 0 ∧ ckSeq (m, q) = 0 ∧ l.length + q.length ≤ 64
  · obtain ⟨h1, h2, h3⟩ := hin
    have hj : joinE (n, l) (m, q) = 0 := by unfold joinE; rw [if_neg (by simp [h1]), if_neg (by simp [h2]), if_neg (by dsimp only; omega)]
    rw [hj, if_pos rfl]
    exact Join_ok n m l q a b ca cb w hl hc hq hd h1 h2 h3
  · obtain ⟨er, hs, hne, hr⟩ : ∃ er, joinE (n, l) (m, q) = er ∧ er ≠ 0 ∧ ((ckSeq (n, l) ≠ 0 ∧ er = ckSeq (n, l)) ∨ (ckSeq (n, l) = 0 ∧ ((ckSeq (m, q) ≠ 0 ∧ er = ckSeq (m, q)) ∨ (ckSeq (m, q) = 0 ∧ er = 5 ∧ 64 < l.length + q.length)))) := by
      by_cases h1 : ckSeq (n, l) = 0
      · by_cases h2 : ckSeq (m, q) = 0
        · have h3 : 64 < l.length + q.length := by
            by_cases h3 : l.length + q.length ≤ 64
            · exact absurd ⟨h1, h2, h3⟩ hin
            · omega
          exact ⟨5, by unfold joinE; rw [if_neg (by simp [h1]), if_neg (by simp [h2]), if_pos (by dsimp only; omega)], by decide, .inr ⟨h1, .inr ⟨h2, rfl, h3⟩⟩⟩
        · exact ⟨_, by unfold joinE; rw [if_neg (by simp [h1]), if_pos h2], h2, .inr ⟨h1, .inl ⟨h2, rfl⟩⟩⟩
      · exact ⟨_, by unfold joinE; rw [if_pos h1], h1, .inl ⟨h1, rfl⟩⟩
    rw [hs, if_neg hne]
    have HC := Lib.hid hc
    have HL := Lib.hid hl
    have HD := Lib.hid hd
    have HQ := Lib.hid hq
    have HR := Lib.hid hr
    have HNE := Lib.hid hne
    clear hc hd hl hq hs hne hr hin
    have hzs : ∀ w, (zeroValue 24).run Tryz.prog w = .ok (.agg #[.int .i64 0, .slice none 0 0]) w := fun _ => by kernel_rfl
    go_enter Tryz.func30, Tryz.ntmps30
    go_wp2_with fail
    have E1 : Ext w ((((w.alloc (.cells #[.int .i64 n, .slice a l.length ca] 24)).alloc (.cells #[.int .i64 m, .slice b q.length cb] 24)).alloc (.cells #[.int .i64 0, .slice none 0 0] 24)).alloc (.cells #[.int .i64 n, .slice a l.length ca, .int .i64 m, .slice b q.length cb] 24)) := (by repeat (first | with_reducible exact Ext.refl _ | with_reducible assumption | with_reducible apply Ext.drewN | with_reducible apply Ext.drew | with_reducible apply Ext.alloc | ((with_reducible refine Ext.set ?_ ?_ _); rotate_left; first | omega | (simp; omega)) | (with_reducible refine Ext.trans ?_ (by with_reducible assumption))))
    have a0 : ((((w.alloc (.cells #[.int .i64 n, .slice a l.length ca] 24)).alloc (.cells #[.int .i64 m, .slice b q.length cb] 24)).alloc (.cells #[.int .i64 0, .slice none 0 0] 24)).alloc (.cells #[.int .i64 n, .slice a l.length ca, .int .i64 m, .slice b q.length cb] 24)).cell? ⟨w.heap.size, 0, none⟩ = some (.int .i64 n) := by go_simp
    have a1 : ((((w.alloc (.cells #[.int .i64 n, .slice a l.length ca] 24)).alloc (.cells #[.int .i64 m, .slice b q.length cb] 24)).alloc (.cells #[.int .i64 0, .slice none 0 0] 24)).alloc (.cells #[.int .i64 n, .slice a l.length ca, .int .i64 m, .slice b q.length cb] 24)).cell? ⟨w.heap.size, 1, none⟩ = some (.slice a l.length ca) := by go_simp
    have b0 : ((((w.alloc (.cells #[.int .i64 n, .slice a l.length ca] 24)).alloc (.cells #[.int .i64 m, .slice b q.length cb] 24)).alloc (.cells #[.int .i64 0, .slice none 0 0] 24)).alloc (.cells #[.int .i64 n, .slice a l.length ca, .int .i64 m, .slice b q.length cb] 24)).cell? ⟨w.heap.size + 1, 0, none⟩ = some (.int .i64 m) := by go_simp
    have b1 : ((((w.alloc (.cells #[.int .i64 n, .slice a l.length ca] 24)).alloc (.cells #[.int .i64 m, .slice b q.length cb] 24)).alloc (.cells #[.int .i64 0, .slice none 0 0] 24)).alloc (.cells #[.int .i64 n, .slice a l.length ca, .int .i64 m, .slice b q.length cb] 24)).cell? ⟨w.heap.size + 1, 1, none⟩ = some (.slice b q.length cb) := by go_simp
    have c2 : ((((w.alloc (.cells #[.int .i64 n, .slice a l.length ca] 24)).alloc (.cells #[.int .i64 m, .slice b q.length cb] 24)).alloc (.cells #[.int .i64 0, .slice none 0 0] 24)).alloc (.cells #[.int .i64 n, .slice a l.length ca, .int .i64 m, .slice b q.length cb] 24)).cell? ⟨w.heap.size + 1 + 1, 0, none⟩ = some (.int .i64 0) := by go_simp
    have c3 : ((((w.alloc (.cells #[.int .i64 n, .slice a l.length ca] 24)).alloc (.cells #[.int .i64 m, .slice b q.length cb] 24)).alloc (.cells #[.int .i64 0, .slice none 0 0] 24)).alloc (.cells #[.int .i64 n, .slice a l.length ca, .int .i64 m, .slice b q.length cb] 24)).cell? ⟨w.heap.size + 1 + 1, 1, none⟩ = some (.slice none 0 0) := by go_simp
    have d2 : ((((w.alloc (.cells #[.int .i64 n, .slice a l.length ca] 24)).alloc (.cells #[.int .i64 m, .slice b q.length cb] 24)).alloc (.cells #[.int .i64 0, .slice none 0 0] 24)).alloc (.cells #[.int .i64 n, .slice a l.length ca, .int .i64 m, .slice b q.length cb] 24)).frozen? ⟨w.heap.size + 1 + 1, 0, none⟩ = false := by go_simp
    have d3 : ((((w.alloc (.cells #[.int .i64 n, .slice a l.length ca] 24)).alloc (.cells #[.int .i64 m, .slice b q.length cb] 24)).alloc (.cells #[.int .i64 0, .slice none 0 0] 24)).alloc (.cells #[.int .i64 n, .slice a l.length ca, .int .i64 m, .slice b q.length cb] 24)).frozen? ⟨w.heap.size + 1 + 1, 1, none⟩ = false := by go_simp
    have s0 : ((((w.alloc (.cells #[.int .i64 n, .slice a l.length ca] 24)).alloc (.cells #[.int .i64 m, .slice b q.length cb] 24)).alloc (.cells #[.int .i64 0, .slice none 0 0] 24)).alloc (.cells #[.int .i64 n, .slice a l.length ca, .int .i64 m, .slice b q.length cb] 24)).cell? ⟨w.heap.size + 1 + 1 + 1, 0, none⟩ = some (.int .i64 n) := by go_simp
    have s1 : ((((w.alloc (.cells #[.int .i64 n, .slice a l.length ca] 24)).alloc (.cells #[.int .i64 m, .slice b q.length cb] 24)).alloc (.cells #[.int .i64 0, .slice none 0 0] 24)).alloc (.cells #[.int .i64 n, .slice a l.length ca, .int .i64 m, .slice b q.length cb] 24)).cell? ⟨w.heap.size + 1 + 1 + 1, 1, none⟩ = some (.slice a l.length ca) := by go_simp
    have s2 : ((((w.alloc (.cells #[.int .i64 n, .slice a l.length ca] 24)).alloc (.cells #[.int .i64 m, .slice b q.length cb] 24)).alloc (.cells #[.int .i64 0, .slice none 0 0] 24)).alloc (.cells #[.int .i64 n, .slice a l.length ca, .int .i64 m, .slice b q.length cb] 24)).cell? ⟨w.heap.size + 1 + 1 + 1, 2, none⟩ = some (.int .i64 m) := by go_simp
    have s3 : ((((w.alloc (.cells #[.int .i64 n, .slice a l.length ca] 24)).alloc (.cells #[.int .i64 m, .slice b q.length cb] 24)).alloc (.cells #[.int .i64 0, .slice none 0 0] 24)).alloc (.cells #[.int .i64 n, .slice a l.length ca, .int .i64 m, .slice b q.length cb] 24)).cell? ⟨w.heap.size + 1 + 1 + 1, 3, none⟩ = some (.slice b q.length cb) := by go_simp
    generalize ((((w.alloc (.cells #[.int .i64 n, .slice a l.length ca] 24)).alloc (.cells #[.int .i64 m, .slice b q.length cb] 24)).alloc (.cells #[.int .i64 0, .slice none 0 0] 24)).alloc (.cells #[.int .i64 n, .slice a l.length ca, .int .i64 m, .slice b q.length cb] 24)) = W at E1 s0 s1 s2 s3 a0 a1 b0 b1 c2 c3 d2 d3 ⊢
    go_loopw [13] (fun i wr => ∃ k : Nat, k ≤ 2 ∧ i = .int .i64 k ∧ Hid (1 ≤ k → ckSeq (n, l) = 0) ∧ Hid (2 ≤ k → ckSeq (m, q) = 0) ∧ Ext W wr) (fun i _ => 2 - (intOf i).toNat)
    case atStart => exact ⟨0, by omega, rfl, fun h => by omega, fun h => by omega, Ext.refl _⟩
    case round =>
      obtain ⟨k, hk, rfl, K1, K2, he⟩ := hrel
      have s0 := he.cell s0
      have s1 := he.cell s1
      have s2 := he.cell s2
      have s3 := he.cell s3
      have zs := cell_lt s0
      dsimp only at zs
      have : k = 0 ∨ k = 1 ∨ k = 2 := by omega
      rcases this with rfl | rfl | rfl
      · have EB : Ext wr (wr.alloc (.cells #[.int .i64 n, .slice a l.length ca] 24)) := (by repeat (first | with_reducible exact Ext.refl _ | with_reducible assumption | with_reducible apply Ext.drewN | with_reducible apply Ext.drew | with_reducible apply Ext.alloc | ((with_reducible refine Ext.set ?_ ?_ _); rotate_left; first | omega | (simp; omega)) | (with_reducible refine Ext.trans ?_ (by with_reducible assumption))))
        have HK := Lib.hid (Check_any n l a ca _ HL.out (HC.out.ext ((E1.trans he).trans EB)))
        clear K1 K2
        go_wp2_with fail
        refine HK.out.mono ?_
        rintro e w1 ⟨rfl, hE⟩
        have E5 := (he.trans EB).trans hE
        clear HK
        rcases HR.out with ⟨h1, h2⟩ | ⟨h1, _⟩
        · have hn : (er != 0) = true := by rw [h2]; simp [h1]
          rw [← h2]
          have d2 := (Below.frozen (p := ⟨w.heap.size + 1 + 1, 0, none⟩) E5 (cell_lt c2)).trans d2
          have d3 := (Below.frozen (p := ⟨w.heap.size + 1 + 1, 1, none⟩) E5 (cell_lt c3)).trans d3
          have c2 := E5.cell c2
          have c3 := E5.cell c3
          have EF : Ext w ((w1.setCell ⟨w.heap.size + 1 + 1, 0, none⟩ (.int .i64 0)).setCell ⟨w.heap.size + 1 + 1, 1, none⟩ (.slice none 0 0)) := ((E1.trans E5).set (by omega) _).set (by omega) _
          clear h1 h2 HR
          go_wp2
          exact bodyPost_ret (v := .tuple #[.agg #[.int .i64 0, .slice none 0 0], .int .i64 er]) (by rw [results_cell_tmp1 rfl]; go_simp) rfl ⟨_, rfl, seqV_zero _, EF⟩
        · rw [h1]
          have K1 : Hid (1 ≤ 1 → ckSeq (n, l) = 0) := fun _ => h1
          clear h1
          go_wp2
          refine ⟨⟨1, by omega, by go_num, K1, (fun h => by omega), E5⟩, by simp [intOf]⟩
      · have EB : Ext wr (wr.alloc (.cells #[.int .i64 m, .slice b q.length cb] 24)) := (by repeat (first | with_reducible exact Ext.refl _ | with_reducible assumption | with_reducible apply Ext.drewN | with_reducible apply Ext.drew | with_reducible apply Ext.alloc | ((with_reducible refine Ext.set ?_ ?_ _); rotate_left; first | omega | (simp; omega)) | (with_reducible refine Ext.trans ?_ (by with_reducible assumption))))
        have HK := Lib.hid (Check_any m q b cb _ HQ.out (HD.out.ext ((E1.trans he).trans EB)))
        clear K2
        go_wp2_with fail
        refine HK.out.mono ?_
        rintro e w1 ⟨rfl, hE⟩
        have E5 := (he.trans EB).trans hE
        clear HK
        rcases HR.out with ⟨h1, _⟩ | ⟨_, ⟨h1, h2⟩ | ⟨h1, _, _⟩⟩
        · exact absurd (K1.out (Nat.le_refl _)) h1
        · have hn : (er != 0) = true := by rw [h2]; simp [h1]
          rw [← h2]
          have d2 := (Below.frozen (p := ⟨w.heap.size + 1 + 1, 0, none⟩) E5 (cell_lt c2)).trans d2
          have d3 := (Below.frozen (p := ⟨w.heap.size + 1 + 1, 1, none⟩) E5 (cell_lt c3)).trans d3
          have c2 := E5.cell c2
          have c3 := E5.cell c3
          have EF : Ext w ((w1.setCell ⟨w.heap.size + 1 + 1, 0, none⟩ (.int .i64 0)).setCell ⟨w.heap.size + 1 + 1, 1, none⟩ (.slice none 0 0)) := ((E1.trans E5).set (by omega) _).set (by omega) _
          clear h1 h2 HR K1
          go_wp2
          exact bodyPost_ret (v := .tuple #[.agg #[.int .i64 0, .slice none 0 0], .int .i64 er]) (by rw [results_cell_tmp1 rfl]; go_simp) rfl ⟨_, rfl, seqV_zero _, EF⟩
        · rw [h1]
          have K2 : Hid (2 ≤ 2 → ckSeq (m, q) = 0) := fun _ => h1
          have K3 : Hid (1 ≤ 2 → ckSeq (n, l) = 0) := fun _ => K1.out (Nat.le_refl _)
          clear h1 K1
          go_wp2
          refine ⟨⟨2, by omega, by go_num, K3, K2, E5⟩, by simp [intOf]⟩
      · have k1 := K1.out (by omega)
        have k2 := K2.out (by omega)
        have hl64 := (ckSeq_zero k1).2.2.2.1
        have hq64 := (ckSeq_zero k2).2.2.2.1
        rcases HR.out with ⟨h1, _⟩ | ⟨_, ⟨h1, _⟩ | ⟨_, rfl, h3⟩⟩
        · exact absurd k1 h1
        · exact absurd k2 h1
        · have a1 := he.cell a1
          have b1 := he.cell b1
          have d2 := (Below.frozen (p := ⟨w.heap.size + 1 + 1, 0, none⟩) he (cell_lt c2)).trans d2
          have d3 := (Below.frozen (p := ⟨w.heap.size + 1 + 1, 1, none⟩) he (cell_lt c3)).trans d3
          have c2 := he.cell c2
          have c3 := he.cell c3
          have EF : Ext w ((wr.setCell ⟨w.heap.size + 1 + 1, 0, none⟩ (.int .i64 0)).setCell ⟨w.heap.size + 1 + 1, 1, none⟩ (.slice none 0 0)) := ((E1.trans he).set (by omega) _).set (by omega) _
          have g1 : IntKind.i64.wrap ((l.length : Int) + (q.length : Int)) = (l.length : Int) + (q.length : Int) := IntWalk.i64_in _ (by omega)
          have g2 : (64 : Int) < (l.length : Int) + (q.length : Int) := by omega
          clear k1 k2 K1 K2 HR
          go_wp2
          exact bodyPost_ret (v := .tuple #[.agg #[.int .i64 0, .slice none 0 0], .int .i64 5]) (by rw [results_cell_tmp1 rfl]; go_simp) rfl ⟨_, rfl, seqV_zero _, EF⟩
end Go.Proofs.YtnhbogmihnnpjaaGreat
/- variant.Backwards: its closure. -/
namespace Go.Proofs.YtnhbogmihnnpjaaGreat
open Go.RowKit

theorem flipAll_succ (l : List Stk) {k : Nat} (h : k < l.length) : flipAll (l.take (k + 1)) = flipAll (l.take k) ++ [((l.getD k stk0).1, !(l.getD k stk0).2)] := by
  unfold flipAll
  rw [List.take_succ_eq_append_getElem h, List.map_append, List.getD_eq_getElem?_getD, List.getElem?_eq_getElem h]
  rfl
theorem flipAll_len (l : List Stk) : (flipAll l).length = l.length := by simp [flipAll]
/-- the memory of the loop: the new strokes lie in block o's first cell -/
structure BkSt (o : Nat) (wa : Int) (W0 wr : World) (ys : List Stk) : Prop where
  be : Below o W0 wr
  c1 : wr.cell? ⟨o, 1, none⟩ = some (.int .i64 wa)
  f0 : wr.frozen? ⟨o, 0, none⟩ = false
  v : ∃ v, wr.cell? ⟨o, 0, none⟩ = some v ∧ OwnsK wr v ys ∧ ∀ b, v.ownBlock = some b → o < b

set_option maxHeartbeats 8000000 in
set_option maxRecDepth 100000 in
theorem back1_any (n : Int) (l : List Stp) (k : Nat) (v : Value) (wait : Int) (a : Option Addr) (cap sb nb : Nat) (w : World) (hl : l.length ≤ 64) (hk : k < l.length) (hf : Full l) (hc : CellsP w a l)
    (e1 : w.cell? ⟨sb, 1, none⟩ = some (.slice a l.length cap)) (e2 : w.cell? ⟨nb, 0, none⟩ = some (.int .i64 (l.length : Int))) :
    Calls Tryz.prog 63 #[.int .i64 (k : Int), .agg #[v, .int .i64 wait], .pointer (some ⟨sb, 0, none⟩), .pointer (some ⟨nb, 0, none⟩)] w (ChPost (backStep (n, l) k) v w) := by
  obtain ⟨y, hy⟩ : ∃ y, y = backStep (n, l) k := ⟨_, rfl⟩
  rw [← hy]
  have HY := Lib.hid hy
  have HC := Lib.hid hc
  have HF := Lib.hid hf
  clear hy hc hf
  obtain ⟨j, hj⟩ : ∃ j, j = l.length - 1 - k := ⟨_, rfl⟩
  obtain ⟨i, hi⟩ : ∃ i, i = (2 * l.length - 2 - k) % l.length := ⟨_, rfl⟩
  have hjl : j < l.length := by omega
  have hil : i < l.length := by rw [hi]; exact Nat.mod_lt _ (by omega)
  obtain ⟨b, off, vj, rfl, p1, p2, p3⟩ := HC.out j hjl
  obtain ⟨_, _, vi, e0, q1, q2, q3⟩ := HC.out i hil
  cases e0
  have hmodi : ((2 : Int) * (l.length : Int) - 2 - (k : Int)).tmod (l.length : Int) = (i : Int) := by
    rw [Int.tmod_eq_emod_of_nonneg (by omega)]
    rw [hi, show (2 : Int) * (l.length : Int) - 2 - (k : Int) = ((2 * l.length - 2 - k : Nat) : Int) from by omega]
    rfl
  have HJ := Lib.hid hj
  have HI := Lib.hid hi
  have m1 : IntKind.i64.wrap ((l.length : Int) - 1) = (l.length : Int) - 1 := IntWalk.i64_in _ (by omega)
  have m2 : IntKind.i64.wrap ((l.length : Int) - 1 - (k : Int)) = (j : Int) := by rw [IntWalk.i64_in _ (by omega)]; omega
  have m3 : (0 : Int) ≤ (j : Int) := by omega
  have m4 : (j : Int) < (l.length : Int) := by omega
  clear hj hi
  obtain ⟨st, hst⟩ : ∃ st, st = (l.getD j stp0).1 := ⟨_, rfl⟩
  obtain ⟨wa, hwa⟩ : ∃ wa, wa = (l.getD i stp0).2 := ⟨_, rfl⟩
  rw [← hst] at p2
  rw [← hwa] at q3
  obtain ⟨sa, sc, rfl, pc, pl⟩ := p2
  have PC := Lib.hid pc
  have PL := Lib.hid pl
  have HST := Lib.hid hst
  have HWA := Lib.hid hwa
  generalize (l.getD j stp0).2 = wj at p3
  clear pc pl hst hwa q1 q2
  have zb := cell_lt p1
  have ze := cell_lt e1
  have zn := cell_lt e2
  dsimp only at zb ze zn
  go_enter Tryz.func63, Tryz.ntmps63
  go_wp2
  have E1 : Ext w (((w.alloc (.cells #[v, .int .i64 wait] 87)).alloc (.cells #[.slice none 0 0, .int .i64 0] 87)).alloc (.cells #[.slice sa st.length sc, .int .i64 wj] 87)).drew := (by repeat (first | with_reducible exact Ext.refl _ | with_reducible assumption | with_reducible apply Ext.drewN | with_reducible apply Ext.drew | with_reducible apply Ext.alloc | ((with_reducible refine Ext.set ?_ ?_ _); rotate_left; first | omega | (simp; omega)) | (with_reducible refine Ext.trans ?_ (by with_reducible assumption))))
  have r0 : (((w.alloc (.cells #[v, .int .i64 wait] 87)).alloc (.cells #[.slice none 0 0, .int .i64 0] 87)).alloc (.cells #[.slice sa st.length sc, .int .i64 wj] 87)).drew.cell? ⟨w.heap.size + 1, 0, none⟩ = some (.slice none 0 0) := by go_simp
  have r1 : (((w.alloc (.cells #[v, .int .i64 wait] 87)).alloc (.cells #[.slice none 0 0, .int .i64 0] 87)).alloc (.cells #[.slice sa st.length sc, .int .i64 wj] 87)).drew.cell? ⟨w.heap.size + 1, 1, none⟩ = some (.int .i64 0) := by go_simp
  have rf0 : (((w.alloc (.cells #[v, .int .i64 wait] 87)).alloc (.cells #[.slice none 0 0, .int .i64 0] 87)).alloc (.cells #[.slice sa st.length sc, .int .i64 wj] 87)).drew.frozen? ⟨w.heap.size + 1, 0, none⟩ = false := by go_simp
  have rf1 : (((w.alloc (.cells #[v, .int .i64 wait] 87)).alloc (.cells #[.slice none 0 0, .int .i64 0] 87)).alloc (.cells #[.slice sa st.length sc, .int .i64 wj] 87)).drew.frozen? ⟨w.heap.size + 1, 1, none⟩ = false := by go_simp
  have t0 : (((w.alloc (.cells #[v, .int .i64 wait] 87)).alloc (.cells #[.slice none 0 0, .int .i64 0] 87)).alloc (.cells #[.slice sa st.length sc, .int .i64 wj] 87)).drew.cell? ⟨w.heap.size + 1 + 1, 0, none⟩ = some (.slice sa st.length sc) := by go_simp
  refine wp_region_heldE 99 (fun w' => w'.cell? ⟨sb, 1, none⟩ = some (.slice (some ⟨b, off, none⟩) l.length cap) ∧ w'.cell? ⟨nb, 0, none⟩ = some (.int .i64 (l.length : Int)) ∧ w'.cell? ⟨b, off + i * 2 + 1, none⟩ = some (.int .i64 wa)) (by kernel_rfl) ?_
  generalize (((w.alloc (.cells #[v, .int .i64 wait] 87)).alloc (.cells #[.slice none 0 0, .int .i64 0] 87)).alloc (.cells #[.slice sa st.length sc, .int .i64 wj] 87)).drew = W at E1 r0 r1 rf0 rf1 t0 ⊢
  have hS : W.cell? ⟨sb, 1, none⟩ = some (.slice (some ⟨b, off, none⟩) l.length cap) ∧ W.cell? ⟨nb, 0, none⟩ = some (.int .i64 (l.length : Int)) ∧ W.cell? ⟨b, off + i * 2 + 1, none⟩ = some (.int .i64 wa) := ⟨E1.cell e1, E1.cell e2, E1.cell q3⟩
  have u1 : IntKind.i64.wrap (2 * (l.length : Int)) = 2 * (l.length : Int) := IntWalk.i64_in _ (by omega)
  have u2 : IntKind.i64.wrap (2 * (l.length : Int) - 2) = 2 * (l.length : Int) - 2 := IntWalk.i64_in _ (by omega)
  have u3 : IntKind.i64.wrap (2 * (l.length : Int) - 2 - (k : Int)) = 2 * (l.length : Int) - 2 - (k : Int) := IntWalk.i64_in _ (by omega)
  have u4 : IntKind.i64.wrap (i : Int) = (i : Int) := IntWalk.i64_in _ (by omega)
  have u5 : (0 : Int) ≤ (i : Int) := by omega
  have u6 : (i : Int) < (l.length : Int) := by omega
  have hne : ¬ l = [] := by rintro rfl; simp at hk
  ((refine wpAnyE_take (i := 0) (oi := ?_) (v := ?_) ?_ (by kernel_rfl) ?_ ?_ (by assumption) ?_; rotate_left 2; (focus ((simp only [List.getElem?_toArray, List.getElem?_cons_zero]; exact rfl))); (focus (exact fun _ _ _ h => h)); (focus (refine Or.inl ⟨by rfl, ?_⟩; intro w hSw; (try dsimp only at hSw); (first | (go_simp; done) | (go_simp; with_reducible rfl)))); (try simp only [Act.put, List.setIfInBounds_toArray, List.set_cons_zero, List.set_cons_succ])); (refine wpAnyE_take (i := 1) (oi := ?_) (v := ?_) ?_ (by kernel_rfl) ?_ ?_ (by assumption) ?_; rotate_left 2; (focus ((simp only [List.getElem?_toArray, List.getElem?_cons_succ, List.getElem?_cons_zero]; exact rfl))); (focus (exact fun _ _ _ h => h)); (focus (refine Or.inl ⟨by rfl, ?_⟩; intro w hSw; (try dsimp only at hSw); (first | (go_simp; done) | (go_simp; with_reducible rfl)))); (try simp only [Act.put, List.setIfInBounds_toArray, List.set_cons_zero, List.set_cons_succ])); (refine wpAnyE_take (i := 2) (oi := ?_) (v := ?_) ?_ (by kernel_rfl) ?_ ?_ (by assumption) ?_; rotate_left 2; (focus ((simp only [List.getElem?_toArray, List.getElem?_cons_succ, List.getElem?_cons_zero]; exact rfl))); (focus (exact fun _ _ _ h => h)); (focus (refine Or.inl ⟨by rfl, ?_⟩; intro w hSw; (try dsimp only at hSw); (first | (go_simp; done) | (go_simp; with_reducible rfl)))); (try simp only [Act.put, List.setIfInBounds_toArray, List.set_cons_zero, List.set_cons_succ])); (refine wpAnyE_take (i := 3) (oi := ?_) (v := ?_) ?_ (by kernel_rfl) ?_ ?_ (by assumption) ?_; rotate_left 2; (focus ((simp only [List.getElem?_toArray, List.getElem?_cons_succ, List.getElem?_cons_zero]; exact rfl))); (focus (exact fun _ _ _ h => h)); (focus (refine Or.inl ⟨by rfl, ?_⟩; intro w hSw; (try dsimp only at hSw); (first | (go_simp; done) | (go_simp; with_reducible rfl)))); (try simp only [Act.put, List.setIfInBounds_toArray, List.set_cons_zero, List.set_cons_succ])); (refine wpAnyE_take (i := 4) (oi := ?_) (v := ?_) ?_ (by kernel_rfl) ?_ ?_ (by assumption) ?_; rotate_left 2; (focus ((simp only [List.getElem?_toArray, List.getElem?_cons_succ, List.getElem?_cons_zero]; exact rfl))); (focus (exact fun _ _ _ h => h)); (focus (refine Or.inl ⟨by rfl, ?_⟩; intro w hSw; (try dsimp only at hSw); (first | (go_simp; done) | (go_simp; with_reducible rfl)))); (try simp only [Act.put, List.setIfInBounds_toArray, List.set_cons_zero, List.set_cons_succ])); (refine wpAnyE_take (i := 5) (oi := ?_) (v := ?_) ?_ (by kernel_rfl) ?_ ?_ (by assumption) ?_; rotate_left 2; (focus ((simp only [List.getElem?_toArray, List.getElem?_cons_succ, List.getElem?_cons_zero]; exact rfl))); (focus (exact fun _ _ _ h => h)); (focus (refine Or.inl ⟨by rfl, ?_⟩; intro w hSw; (try dsimp only at hSw); (first | (go_simp; done) | (go_simp; with_reducible rfl)))); (try simp only [Act.put, List.setIfInBounds_toArray, List.set_cons_zero, List.set_cons_succ])); (refine wpAnyE_take (i := 6) (oi := ?_) (v := ?_) ?_ (by kernel_rfl) ?_ ?_ (by assumption) ?_; rotate_left 2; (focus ((simp only [List.getElem?_toArray, List.getElem?_cons_succ, List.getElem?_cons_zero]; exact rfl))); (focus (exact fun _ _ _ h => h)); (focus (refine Or.inl ⟨by rfl, ?_⟩; intro w hSw; (try dsimp only at hSw); (first | (go_simp; done) | (go_simp; with_reducible rfl)))); (try simp only [Act.put, List.setIfInBounds_toArray, List.set_cons_zero, List.set_cons_succ])); (refine wpAnyE_take (i := 7) (oi := ?_) (v := ?_) ?_ (by kernel_rfl) ?_ ?_ (by assumption) ?_; rotate_left 2; (focus ((simp only [List.getElem?_toArray, List.getElem?_cons_succ, List.getElem?_cons_zero]; exact rfl))); (focus (exact fun _ _ _ h => h)); (focus (refine Or.inl ⟨by rfl, ?_⟩; intro w hSw; (try dsimp only at hSw); (first | (go_simp; done) | (go_simp; with_reducible rfl)))); (try simp only [Act.put, List.setIfInBounds_toArray, List.set_cons_zero, List.set_cons_succ])); (refine wpAnyE_take (i := 8) (oi := ?_) (v := ?_) ?_ (by kernel_rfl) ?_ ?_ (by assumption) ?_; rotate_left 2; (focus ((simp only [List.getElem?_toArray, List.getElem?_cons_succ, List.getElem?_cons_zero]; exact rfl))); (focus (exact fun _ _ _ h => h)); (focus (refine Or.inl ⟨by rfl, ?_⟩; intro w hSw; (try dsimp only at hSw); (first | (go_simp; done) | (go_simp; with_reducible rfl)))); (try simp only [Act.put, List.setIfInBounds_toArray, List.set_cons_zero, List.set_cons_succ])); (refine wpAnyE_take (i := 9) (oi := ?_) (v := ?_) ?_ (by kernel_rfl) ?_ ?_ (by assumption) ?_; rotate_left 2; (focus ((simp only [List.getElem?_toArray, List.getElem?_cons_succ, List.getElem?_cons_zero]; exact rfl))); (focus (exact fun _ _ _ h => h)); (focus (refine Or.inl ⟨by rfl, ?_⟩; intro w hSw; (try dsimp only at hSw); (first | (go_simp; done) | (go_simp; with_reducible rfl)))); (try simp only [Act.put, List.setIfInBounds_toArray, List.set_cons_zero, List.set_cons_succ])); (refine wpAnyE_take (i := 10) (oi := ?_) (v := ?_) ?_ (by kernel_rfl) ?_ ?_ (by assumption) ?_; rotate_left 2; (focus ((simp only [List.getElem?_toArray, List.getElem?_cons_succ, List.getElem?_cons_zero]; exact rfl))); (focus (exact fun _ _ _ h => h)); (focus (refine Or.inl ⟨by rfl, ?_⟩; intro w hSw; (try dsimp only at hSw); (first | (go_simp; done) | (go_simp; with_reducible rfl)))); (try simp only [Act.put, List.setIfInBounds_toArray, List.set_cons_zero, List.set_cons_succ])); (refine wpAnyE_take (i := 11) (oi := ?_) (v := ?_) ?_ (by kernel_rfl) ?_ ?_ (by assumption) ?_; rotate_left 2; (focus ((simp only [List.getElem?_toArray, List.getElem?_cons_succ, List.getElem?_cons_zero]; exact rfl))); (focus (exact fun _ _ _ h => h)); (focus (refine Or.inl ⟨by rfl, ?_⟩; intro w hSw; (try dsimp only at hSw); (first | (go_simp; done) | (go_simp; with_reducible rfl)))); (try simp only [Act.put, List.setIfInBounds_toArray, List.set_cons_zero, List.set_cons_succ])))
  clear u1 u2 u3 u4 u5 u6 hne hmodi m1 m2 m3 m4
  (refine wpAnyE_take (i := 12) (oi := ?_) (v := ?_) ?_ (by kernel_rfl) ?_ ?_ (by assumption) ?_; rotate_left 2; (focus ((simp only [List.getElem?_toArray, List.getElem?_cons_succ, List.getElem?_cons_zero]; exact rfl))); (focus (exact fun _ _ _ h => h)); (focus (refine Or.inl ⟨by rfl, ?_⟩; intro w hSw; (try dsimp only at hSw); (first | (go_simp; done) | (go_simp; with_reducible rfl)))); (try simp only [Act.put, List.setIfInBounds_toArray, List.set_cons_zero, List.set_cons_succ]))
  have F1 : Ext W (W.alloc (.cells #[.slice none 0 0, .int .i64 0] 87)) := (by repeat (first | with_reducible exact Ext.refl _ | with_reducible assumption | with_reducible apply Ext.drewN | with_reducible apply Ext.drew | with_reducible apply Ext.alloc | ((with_reducible refine Ext.set ?_ ?_ _); rotate_left; first | omega | (simp; omega)) | (with_reducible refine Ext.trans ?_ (by with_reducible assumption))))
  (refine wpAnyE_one (i := 13) (o := ?_) ?_ (by kernel_rfl) (fun K hK => ?_); rotate_left; (focus ((simp only [List.getElem?_toArray, List.getElem?_cons_succ, List.getElem?_cons_zero]; exact rfl))); go_simp; refine hK.out _ _ ?_ (fun hHeld => ?_); rotate_left; clear hK K; (try simp only [Act.put, List.setIfInBounds_toArray, List.set_cons_zero, List.set_cons_succ]))
  rotate_left
  · exact ⟨F1.cell hS.1, F1.cell hS.2.1, F1.cell hS.2.2⟩
  clear hHeld
  have x0 : (W.alloc (.cells #[.slice none 0 0, .int .i64 0] 87)).cell? ⟨W.heap.size, 0, none⟩ = some (.slice none 0 0) := by go_simp
  have x1 : (W.alloc (.cells #[.slice none 0 0, .int .i64 0] 87)).cell? ⟨W.heap.size, 1, none⟩ = some (.int .i64 0) := by go_simp
  have xf0 : (W.alloc (.cells #[.slice none 0 0, .int .i64 0] 87)).frozen? ⟨W.heap.size, 0, none⟩ = false := by go_simp
  have xf1 : (W.alloc (.cells #[.slice none 0 0, .int .i64 0] 87)).frozen? ⟨W.heap.size, 1, none⟩ = false := by go_simp
  generalize W.alloc (.cells #[.slice none 0 0, .int .i64 0] 87) = W1 at F1 x0 x1 xf0 xf1 ⊢
  obtain ⟨o, ho⟩ : ∃ o, o = W.heap.size := ⟨_, rfl⟩
  rw [← ho] at x0 x1 xf0 xf1 ⊢
  have hoW : W.heap.size ≤ o := Nat.le_of_eq ho.symm
  have zt : w.heap.size + 1 + 1 < o := by rw [ho]; exact cell_lt t0
  have HO := Lib.hid ho
  clear ho
  have F2 : Ext W ((W1.setCell ⟨o, 0, none⟩ (.slice none 0 0)).setCell ⟨o, 1, none⟩ (.int .i64 wa)) := (F1.set hoW _).set hoW _
  (refine wpAnyE_one (i := 14) (o := ?_) ?_ (by kernel_rfl) (fun K hK => ?_); rotate_left; (focus ((simp only [List.getElem?_toArray, List.getElem?_cons_succ, List.getElem?_cons_zero]; exact rfl))); go_simp; refine hK.out _ _ ?_ (fun hHeld => ?_); rotate_left; clear hK K; (try simp only [Act.put, List.setIfInBounds_toArray, List.set_cons_zero, List.set_cons_succ]))
  rotate_left
  · exact ⟨F2.cell hS.1, F2.cell hS.2.1, F2.cell hS.2.2⟩
  refine wpAnyE_done (by kernel_rfl) ?_ _
  have y0 : ((W1.setCell ⟨o, 0, none⟩ (.slice none 0 0)).setCell ⟨o, 1, none⟩ (.int .i64 wa)).cell? ⟨o, 0, none⟩ = some (.slice none 0 0) := by go_simp
  have y1 : ((W1.setCell ⟨o, 0, none⟩ (.slice none 0 0)).setCell ⟨o, 1, none⟩ (.int .i64 wa)).cell? ⟨o, 1, none⟩ = some (.int .i64 wa) := by go_simp
  have yf : ((W1.setCell ⟨o, 0, none⟩ (.slice none 0 0)).setCell ⟨o, 1, none⟩ (.int .i64 wa)).frozen? ⟨o, 0, none⟩ = false := by rw [World.frozen?_setCell, World.frozen?_setCell]; exact xf0
  generalize (W1.setCell ⟨o, 0, none⟩ (.slice none 0 0)).setCell ⟨o, 1, none⟩ (.int .i64 wa) = V at F2 y0 y1 yf ⊢
  have t0 := F2.cell t0
  have rf0 := (Below.frozen (p := ⟨w.heap.size + 1, 0, none⟩) F2 (cell_lt r0)).trans rf0
  have rf1 := (Below.frozen (p := ⟨w.heap.size + 1, 1, none⟩) F2 (cell_lt r1)).trans rf1
  have r0 := F2.cell r0
  have r1 := F2.cell r1
  have EV := E1.trans F2
  clear x0 x1 xf0 xf1 F1 F2 hS hHeld e1 e2 p1 p3 q3
  go_wp2
  obtain ⟨i0, hi0, hiz, his, hib⟩ := info_parts infoStk
  have zV : o < V.heap.size := cell_lt y0
  have M0 : Hid (BkSt o wa V V (flipAll (st.take 0))) := ⟨Below.refl _ _, y1, yf, _, y0, OwnsK.nil _, fun b hb => by cases hb⟩
  have hst40 : st.length ≤ 40 := by have := (HF.out j hjl).2; rw [← HST.out] at this; exact this
  go_loopw [35] (fun ix wr => ∃ t : Nat, t ≤ st.length ∧ ix = .int .i64 t ∧ Hid (BkSt o wa V wr (flipAll (st.take t)))) (fun ix _ => st.length - (intOf ix).toNat)
  case atStart => exact ⟨0, Nat.zero_le _, rfl, M0⟩
  case round =>
    obtain ⟨t, ht, rfl, M⟩ := hrel
    clear M0
    have hbe := M.out.be
    have E2 : Ext w wr := EV.trans' hbe (by omega)
    have hsz := hbe.size
    by_cases hlt : t < st.length
    · obtain ⟨kb, ko, ha, s1, s2⟩ := PC.out.ext E2 t hlt
      subst ha
      have HFL := Lib.hid (flipAll_succ st hlt)
      have hfl : (flipAll (st.take t)).length = t := by rw [flipAll_len, List.length_take]; omega
      generalize st.getD t stk0 = z at s1 s2 HFL
      obtain ⟨za, zo⟩ := z
      dsimp only at s1 s2 HFL
      obtain ⟨vv, mv, mO, mB⟩ := M.out.v
      have mf := M.out.f0
      have mc := M.out.c1
      have HMO := Lib.hid mO
      have HMB := Lib.hid mB
      obtain ⟨P, hP⟩ : ∃ P, P = flipAll (st.take t) := ⟨_, rfl⟩
      rw [← hP] at HMO HFL hfl
      have zs := cell_lt s1
      have zo2 : o < wr.heap.size := by omega
      dsimp only at zs
      clear mO mB M hP
      have EB : Ext wr ((wr.alloc (.cells #[.int .i64 za, .bool (!zo)] 73)).alloc (.cells #[.int .i64 za, .bool (!zo)] 73)) := (by repeat (first | with_reducible exact Ext.refl _ | with_reducible assumption | with_reducible apply Ext.drewN | with_reducible apply Ext.drew | with_reducible apply Ext.alloc | ((with_reducible refine Ext.set ?_ ?_ _); rotate_left; first | omega | (simp; omega)) | (with_reducible refine Ext.trans ?_ (by with_reducible assumption))))
      have mv2 := EB.cell mv
      have mc2 := EB.cell mc
      have mf2 := (Below.frozen (p := ⟨o, 0, none⟩) EB (cell_lt mv)).trans mf
      go_wp2_with (at_builtin; refine wpList_append1 _ rfl _ _ 66 rfl 73 i0 (.agg #[.int .i64 0, .bool false]) 2 16 Tryz.underlying66 hi0 hiz his hib rfl (by decide) vv P.length (flatK P) rfl ?ho ⟨wr.heap.size + 1, 0, none⟩ 1 1 (by decide) [.int .i64 za, .bool (!zo)] rfl rfl ?hn ?c1 ?c2 ?c3 ?c4)
      case ho => exact HMO.out.ext EB
      case hn =>
        have h := cells_one (wr.alloc (.cells #[.int .i64 za, .bool (!zo)] 73)) [.int .i64 za, .bool (!zo)] 73
        rw [show (wr.alloc (.cells #[.int .i64 za, .bool (!zo)] 73)).heap.size = wr.heap.size + 1 from by show (wr.heap.push _).size = _; exact Array.size_push _] at h
        exact h
      case c1 => intro u hu; simp at hu; rcases hu with rfl | rfl <;> rfl
      case c2 => unfold maxLen; omega
      case c3 => omega
      case c4 =>
        intro v' w5 hown5 hend5
        rw [← hfl] at hown5
        have O5 : Hid (OwnsK w5 v' (flipAll (st.take (t + 1)))) := by show OwnsK _ _ _; rw [HFL.out]; exact ownsK_succ (x := (za, !zo)) hown5
        have hgr := hend5.chg
        have hB5 := hend5.below (n := o) (by have := EB.size; omega) (fun b' hb' => Nat.le_of_lt (HMB.out b' hb'))
        have OB5 : Hid (∀ b', v'.ownBlock = some b' → o < b') := hend5.ge (n := o + 1) (by have := EB.size; omega) HMB.out
        have h1 := hgr.1 o (by have := EB.size; omega) (fun e => by have := HMB.out _ e; omega)
        have mv5 := (World.cell?_of_block (a := ⟨o, 0, none⟩) h1).trans mv2
        have mc5 := (World.cell?_of_block (a := ⟨o, 1, none⟩) h1).trans mc2
        have mf5 := (World.frozen?_of_block (a := ⟨o, 0, none⟩) h1).trans mf2
        have hbe5 : Below o V w5 := (hbe.trans (EB.mono (by omega))).trans hB5
        clear hown5 hend5 hgr hB5 h1 HMO mv2 mf2
        have hlen : (flipAll (st.take (t + 1))).length = t + 1 := by rw [flipAll_len, List.length_take]; omega
        obtain ⟨u5, c5, hv5, _, _⟩ := O5.out.reads
        rw [hlen] at hv5
        subst hv5
        clear hlen
        go_wp2
        have hne5 : ∀ b', (Value.slice u5 (t + 1) c5).ownBlock = some b' → (w5.setCell ⟨o, 0, none⟩ (.slice u5 (t + 1) c5)).heap[b']? = w5.heap[b']? := fun b' hb' => by
          have h9 := OB5.out b' hb'
          refine Below.heap_setCell _ _ _ _ (fun e => ?_)
          dsimp only at e
          omega
        have MN : Hid (BkSt o wa V (w5.setCell ⟨o, 0, none⟩ (.slice u5 (t + 1) c5)) (flipAll (st.take (t + 1)))) :=
          ⟨hbe5.setCell (p := ⟨o, 0, none⟩) (Nat.le_refl _) _, by rw [World.cell?_setCell_other _ _ _ _ (fun h => by simp only [Addr.mk.injEq] at h; omega)]; exact mc5, by rw [World.frozen?_setCell]; exact mf5, _, World.cell?_setCell_same _ _ _ mv5, rowSame O5.out hne5, OB5.out⟩
        exact ⟨⟨t + 1, by omega, by go_num, MN⟩, by simp [intOf]; omega⟩
    · have hte : t = st.length := by omega
      subst hte
      obtain ⟨vv, mv, mO, mB⟩ := M.out.v
      have mc := M.out.c1
      have hlen : (flipAll (st.take st.length)).length = st.length := by rw [flipAll_len, List.take_length]
      obtain ⟨u5, c5, hv5, _, _, hoff⟩ := mO.reads
      rw [hlen] at hv5
      subst hv5
      have HMO := Lib.hid mO
      have HMB := Lib.hid mB
      have HOFF := Lib.hid hoff
      have r0 := cellB hbe (p := ⟨w.heap.size + 1, 0, none⟩) (by show w.heap.size + 1 < _; omega) r0
      have r1 := cellB hbe (p := ⟨w.heap.size + 1, 1, none⟩) (by show w.heap.size + 1 < _; omega) r1
      have rf0 := (Below.frozen (p := ⟨w.heap.size + 1, 0, none⟩) hbe (by show w.heap.size + 1 < _; omega)).trans rf0
      have rf1 := (Below.frozen (p := ⟨w.heap.size + 1, 1, none⟩) hbe (by show w.heap.size + 1 < _; omega)).trans rf1
      clear mO mB hoff M hlen
      have EF : Ext w ((wr.setCell ⟨w.heap.size + 1, 0, none⟩ (.slice u5 st.length c5)).setCell ⟨w.heap.size + 1, 1, none⟩ (.int .i64 wa)) := (E2.set (by omega) _).set (by omega) _
      go_wp2
      refine bodyPost_ret (v := .agg #[.slice u5 st.length c5, .int .i64 wa]) (by rw [results_cell1 rfl]; go_simp) rfl ?_
      have hye : y = (flipAll st, wa) := by
        rw [HY.out, HST.out, HWA.out, HJ.out, HI.out]
        rfl
      rw [hye]
      have hO2 : OwnsK ((wr.setCell ⟨w.heap.size + 1, 0, none⟩ (.slice u5 st.length c5)).setCell ⟨w.heap.size + 1, 1, none⟩ (.int .i64 wa)) (.slice u5 st.length c5) (flipAll st) := by
        have h0 := HMO.out
        rw [List.take_length] at h0
        refine rowSame h0 (fun b' hb' => ?_)
        have h9 := HMB.out b' hb'
        rw [Below.heap_setCell _ _ _ _ (fun e => by dsimp only at e; omega), Below.heap_setCell _ _ _ _ (fun e => by dsimp only at e; omega)]
      have hfl2 := flipAll_len st
      have hst0 : 0 < st.length := by have := (HF.out j hjl).1; rw [← HST.out] at this; exact this
      refine ⟨_, rfl, hO2.slice, fun b' hb' => .inr (by have := HMB.out b' hb'; omega), ⟨u5, c5, by rw [hfl2], fun b' off' hb' => ?_⟩, fun n' hn' _ => EF.mono hn'⟩
      have h0 := HOFF.out b' off' hb' (by rw [List.take_length]; intro h; rw [h] at hfl2; simp at hfl2; omega)
      exact h0.1
end Go.Proofs.YtnhbogmihnnpjaaGreat
/- variant.Backwards. -/
namespace Go.Proofs.YtnhbogmihnnpjaaGreat
open Go.RowKit

set_option maxHeartbeats 8000000 in
set_option maxRecDepth 100000 in
theorem Backwards_any (n : Int) (l : List Stp) (a : Option Addr) (cap : Nat) (w : World) (hl : l.length ≤ maxLen) (hc : CellsP w a l) :
    Calls Tryz.prog 23 #[.agg #[.int .i64 n, .slice a l.length cap]] w (SeqErr (if ckSeq (n, l) = 0 then backwards (n, l) else sq0) (ckSeq (n, l)) w) := by
  have HC := Lib.hid hc
  have HL := Lib.hid hl
  obtain ⟨er, her⟩ : ∃ er, er = ckSeq (n, l) := ⟨_, rfl⟩
  obtain ⟨s, hs⟩ : ∃ s, s = if er = 0 then backwards (n, l) else sq0 := ⟨_, rfl⟩
  rw [← her, ← hs]
  have HER := Lib.hid her
  have HS := Lib.hid hs
  unfold maxLen at hl
  have hzs : ∀ w, (zeroValue 24).run Tryz.prog w = .ok (.agg #[.int .i64 0, .slice none 0 0]) w := fun _ => by kernel_rfl
  clear hc her hs
  go_enter Tryz.func23, Tryz.ntmps23
  go_wp2_with fail
  have E1 : Ext w ((w.alloc (.cells #[.int .i64 n, .slice a l.length cap] 24)).alloc (.cells #[.int .i64 0, .slice none 0 0] 24)) := (by repeat (first | with_reducible exact Ext.refl _ | with_reducible assumption | with_reducible apply Ext.drewN | with_reducible apply Ext.drew | with_reducible apply Ext.alloc | ((with_reducible refine Ext.set ?_ ?_ _); rotate_left; first | omega | (simp; omega)) | (with_reducible refine Ext.trans ?_ (by with_reducible assumption))))
  have c0 : ((w.alloc (.cells #[.int .i64 n, .slice a l.length cap] 24)).alloc (.cells #[.int .i64 0, .slice none 0 0] 24)).cell? ⟨w.heap.size, 0, none⟩ = some (.int .i64 n) := by go_simp
  have c1 : ((w.alloc (.cells #[.int .i64 n, .slice a l.length cap] 24)).alloc (.cells #[.int .i64 0, .slice none 0 0] 24)).cell? ⟨w.heap.size, 1, none⟩ = some (.slice a l.length cap) := by go_simp
  have c2 : ((w.alloc (.cells #[.int .i64 n, .slice a l.length cap] 24)).alloc (.cells #[.int .i64 0, .slice none 0 0] 24)).cell? ⟨w.heap.size + 1, 0, none⟩ = some (.int .i64 0) := by go_simp
  have c3 : ((w.alloc (.cells #[.int .i64 n, .slice a l.length cap] 24)).alloc (.cells #[.int .i64 0, .slice none 0 0] 24)).cell? ⟨w.heap.size + 1, 1, none⟩ = some (.slice none 0 0) := by go_simp
  have d2 : ((w.alloc (.cells #[.int .i64 n, .slice a l.length cap] 24)).alloc (.cells #[.int .i64 0, .slice none 0 0] 24)).frozen? ⟨w.heap.size + 1, 0, none⟩ = false := by go_simp
  have d3 : ((w.alloc (.cells #[.int .i64 n, .slice a l.length cap] 24)).alloc (.cells #[.int .i64 0, .slice none 0 0] 24)).frozen? ⟨w.heap.size + 1, 1, none⟩ = false := by go_simp
  generalize ((w.alloc (.cells #[.int .i64 n, .slice a l.length cap] 24)).alloc (.cells #[.int .i64 0, .slice none 0 0] 24)) = W at E1 c0 c1 c2 c3 d2 d3 ⊢
  refine (Check_any n l a cap _ HL.out (HC.out.ext E1)).mono ?_
  rintro e w1 ⟨rfl, hE⟩
  rw [← HER.out]
  have E2 := E1.trans hE
  have d2 := (Below.frozen (p := ⟨w.heap.size + 1, 0, none⟩) hE (cell_lt c2)).trans d2
  have d3 := (Below.frozen (p := ⟨w.heap.size + 1, 1, none⟩) hE (cell_lt c3)).trans d3
  have c0 := hE.cell c0
  have c1 := hE.cell c1
  have c2 := hE.cell c2
  have c3 := hE.cell c3
  clear hE
  by_cases h0 : er = 0
  · subst h0
    have hck := HER.out.symm
    have hl64 := (ckSeq_zero hck).2.2.2.1
    have HFU := Lib.hid (ckSeq_full hck)
    have hs := HS.out
    rw [if_pos rfl] at hs
    have HS2 := Lib.hid hs
    have zw := cell_lt c0
    dsimp only at zw
    clear hck hs HS
    go_wp2_with fail
    have EN : Ext w1 (w1.alloc (.cells #[.int .i64 (l.length : Int)] 3)) := (by repeat (first | with_reducible exact Ext.refl _ | with_reducible assumption | with_reducible apply Ext.drewN | with_reducible apply Ext.drew | with_reducible apply Ext.alloc | ((with_reducible refine Ext.set ?_ ?_ _); rotate_left; first | omega | (simp; omega)) | (with_reducible refine Ext.trans ?_ (by with_reducible assumption))))
    have n0 : (w1.alloc (.cells #[.int .i64 (l.length : Int)] 3)).cell? ⟨w1.heap.size, 0, none⟩ = some (.int .i64 (l.length : Int)) := by go_simp
    have f0 := EN.cell c1
    generalize w1.alloc (.cells #[.int .i64 (l.length : Int)] 3) = w2 at EN n0 f0 ⊢
    refine (mapped_own n l a cap w2 63 #[.pointer (some ⟨w.heap.size, 0, none⟩), .pointer (some ⟨w1.heap.size, 0, none⟩)] (fun k _ => backStep (n, l) k) (by omega) HFU.out (HC.out.ext (E2.trans EN)) (enters_of Tryz.func63 (by kernel_rfl) rfl) (fun k v w' hk hE ho _ => back1_any n l k v _ a cap w.heap.size w1.heap.size w' hl64 hk HFU.out (HC.out.ext ((E2.trans EN).trans hE)) (hE.cell f0) (hE.cell n0))).mono ?_
    rintro e w3 ⟨o, ov, ho, rfl, hv, hob, hE⟩
    obtain ⟨ML, hML⟩ : ∃ ML, ML = mapK (fun k _ => backStep (n, l) k) l l.length := ⟨_, rfl⟩
    dsimp only at hv ⊢
    rw [← hML] at hv
    obtain ⟨ua, uc, rfl, _, _⟩ := hv.reads
    have HV := Lib.hid hv
    have HOB := Lib.hid hob
    have HML := Lib.hid hML
    have E3 := EN.trans hE
    have d2 := (Below.frozen (p := ⟨w.heap.size + 1, 0, none⟩) E3 (cell_lt c2)).trans d2
    have d3 := (Below.frozen (p := ⟨w.heap.size + 1, 1, none⟩) E3 (cell_lt c3)).trans d3
    have z2 : w.heap.size + 1 < w2.heap.size := cell_lt (EN.cell c2)
    have c2 := E3.cell c2
    have c3 := E3.cell c3
    clear hv hob hML
    have EF : Ext w ((w3.setCell ⟨w.heap.size + 1, 0, none⟩ (.int .i64 n)).setCell ⟨w.heap.size + 1, 1, none⟩ (.slice ua ML.length uc)) := ((E2.trans E3).set (by omega) _).set (by omega) _
    have HSV : Hid (SeqV ((w3.setCell ⟨w.heap.size + 1, 0, none⟩ (.int .i64 n)).setCell ⟨w.heap.size + 1, 1, none⟩ (.slice ua ML.length uc)) (.agg #[.int .i64 n, .slice ua ML.length uc]) s) := by
      have cc : Chg (fun b => b ≤ o) w3 ((w3.setCell ⟨w.heap.size + 1, 0, none⟩ (.int .i64 n)).setCell ⟨w.heap.size + 1, 1, none⟩ (.slice ua ML.length uc)) :=
        (Chg.setCell (B := fun b => b ≤ o) ⟨w.heap.size + 1, 0, none⟩ _ (by show w.heap.size + 1 ≤ o; omega)).trans (Chg.setCell (B := fun b => b ≤ o) ⟨w.heap.size + 1, 1, none⟩ _ (by show w.heap.size + 1 ≤ o; omega))
      have h1 := (HV.out.chg cc (fun b' hb' e => by have := HOB.out b' hb'; omega)).reads
      show SeqV _ _ _
      rw [HS2.out, show backwards (n, l) = (n, ML) from by rw [HML.out]; rfl]
      exact ⟨_, rfl, h1⟩
    go_wp2
    exact bodyPost_ret (v := .tuple #[.agg #[.int .i64 n, .slice ua ML.length uc], .int .i64 0]) (by rw [results_cell_tmp1 rfl]; go_simp) rfl ⟨_, rfl, HSV.out, EF⟩
  · have hn : (er != 0) = true := by simp [h0]
    have hs := HS.out
    rw [if_neg h0] at hs
    subst hs
    have EF : Ext w ((w1.setCell ⟨w.heap.size + 1, 0, none⟩ (.int .i64 0)).setCell ⟨w.heap.size + 1, 1, none⟩ (.slice none 0 0)) := (E2.set (by omega) _).set (by omega) _
    clear h0 HS
    go_wp2
    exact bodyPost_ret (v := .tuple #[.agg #[.int .i64 0, .slice none 0 0], .int .i64 er]) (by rw [results_cell_tmp1 rfl]; go_simp) rfl ⟨_, rfl, seqV_zero _, EF⟩
end Go.Proofs.YtnhbogmihnnpjaaGreat
/- variant.letters: the map of a list. -/
namespace Go.Proofs.YtnhbogmihnnpjaaGreat
open Go.RowKit
open Go.Maps

/-- block b holds a map from ints to ints that says f at every number from 0 on -/
def MapAt (w : World) (b m : Nat) (f : Int → Int) : Prop :=
  ∃ D : DataW Unit, w.ownsMap Tryz.prog 3 (plainElem Tryz.prog 3) b m D ∧ IsMap D ∧ ∀ a : Int, D.atKey (.int .i64 a) (.lit (.int .i64 0)) = .lit (.int .i64 (f a))
theorem listFn_take (l : List Int) (k : Nat) (_h : k < l.length) (a : Int) : listFn (l.take (k + 1)) a = if a = (k : Int) then l.getD k 0 else listFn (l.take k) a := by
  unfold listFn
  by_cases h0 : a < 0
  · rw [if_pos h0, if_pos h0, if_neg (by omega)]
  · rw [if_neg h0, if_neg h0]
    by_cases h1 : a = (k : Int)
    · rw [if_pos h1, List.getD_eq_getElem?_getD, List.getElem?_take, if_pos (by omega), List.getD_eq_getElem?_getD, show a.toNat = k by omega]
    · rw [if_neg h1, List.getD_eq_getElem?_getD, List.getElem?_take, List.getD_eq_getElem?_getD (l := l.take k), List.getElem?_take]
      by_cases h2 : a.toNat < k
      · rw [if_pos (by omega), if_pos h2]
      · rw [if_neg (by omega), if_neg h2]
theorem wfInt (x : Int) (h : 0 ≤ x ∧ x < 1000) : (Lit.int .i64 x).wf = true := by
  have h1 : IntKind.i64.min = -9223372036854775808 := by decide
  have h2 : IntKind.i64.max = 9223372036854775807 := by decide
  simp [Lit.wf, h1, h2]; omega
theorem plainInt (x : Int) (h : 0 ≤ x ∧ x < 1000) : plainElem (H := Unit) Tryz.prog 3 (.int .i64 x) = some (.lit (.int .i64 x), []) := by
  simp [plainElem, Tryz.underlying3, wfInt x h]
theorem keyInt (x : Int) (h : 0 ≤ x ∧ x < 1000) : keyOf Tryz.prog 3 (.int .i64 x) = some (.int .i64 x) := by simp [keyOf, mapKey, Tryz.underlying3, wfInt x h]
theorem isKeyInt (x : Int) : WideAt.IsKeyLit (.int .i64 x) := by trivial
theorem MapAt.new (w : World) : MapAt (w.alloc (.map #[] 0)) w.heap.size 0 (listFn []) :=
  ⟨.map [], World.ownsMap_made w _ _ _, ⟨[], rfl⟩, fun a => by
    have : listFn [] a = 0 := by unfold listFn; simp
    rw [this]; rfl⟩
theorem grown_below {w w' : World} {b B : Nat} (h : w.grownBy w' (some b)) (hb : B ≤ b) (hB : B ≤ w.heap.size) : Below B w w' :=
  ⟨h.os, h.tape, h.output, h.size, fun k hk => h.block k (Nat.lt_of_lt_of_le hk hB) (fun e => by injection e with e; omega)⟩

set_option maxHeartbeats 4000000 in
set_option maxRecDepth 100000 in
theorem letters_any (l : List Int) (a : Option Addr) (cap : Nat) (w : World) (hl : l.length ≤ 100) (hc : CellsI w a l) (hx : ∀ k, k < l.length → 0 ≤ l.getD k 0 ∧ l.getD k 0 < 1000) :
    Calls Tryz.prog 71 #[.slice a l.length cap] w fun r w' => ∃ b, r = .returned (.map (some b)) ∧ MapAt w' b l.length (listFn l) ∧ w.heap.size ≤ b ∧ Ext w w' := by
  have HC := Lib.hid hc
  have HX := Lib.hid hx
  clear hc hx
  have hmm : ∀ (t : TypeId) (w : World), (Instr.makeMap t none).run Tryz.prog w = .ok (.map (some w.heap.size)) (w.alloc (.map #[] 0)) := fun _ _ => rfl
  go_enter Tryz.func71, Tryz.ntmps71
  go_wp2
  have M0 : Hid (MapAt (w.alloc (.map #[] 0)) w.heap.size 0 (listFn (l.take 0))) := MapAt.new w
  have E1 : Ext w (w.alloc (.map #[] 0)) := (by repeat (first | with_reducible exact Ext.refl _ | with_reducible assumption | with_reducible apply Ext.drewN | with_reducible apply Ext.drew | with_reducible apply Ext.alloc | ((with_reducible refine Ext.set ?_ ?_ _); rotate_left; first | omega | (simp; omega)) | (with_reducible refine Ext.trans ?_ (by with_reducible assumption))))
  have hz1 : w.heap.size < (w.alloc (.map #[] 0)).heap.size := by show _ < (w.heap.push _).size; rw [Array.size_push]; omega
  obtain ⟨b, hb⟩ : ∃ b, b = w.heap.size := ⟨_, rfl⟩
  rw [← hb] at M0 hz1 ⊢
  have HB := Lib.hid hb
  clear hb
  generalize w.alloc (.map #[] 0) = W at M0 E1 hz1 ⊢
  go_loopw [9] (fun i wr => ∃ k : Nat, k ≤ l.length ∧ i = .int .i64 k ∧ Hid (MapAt wr b k (listFn (l.take k))) ∧ Ext w wr ∧ b < wr.heap.size) (fun i _ => l.length - (intOf i).toNat)
  case atStart => exact ⟨0, Nat.zero_le _, rfl, M0, E1, hz1⟩
  case round =>
    obtain ⟨k, hk, rfl, M, he, hbz⟩ := hrel
    by_cases hlt : k < l.length
    · obtain ⟨kb, ko, ha, c1⟩ := HC.out k hlt
      subst ha
      have c1 := he.cell c1
      have HXK := Lib.hid (HX.out k hlt)
      have HFN := Lib.hid (listFn_take l k hlt)
      generalize l.getD k 0 = x at c1 HXK HFN
      obtain ⟨D, hown, hm, hat⟩ := M.out
      have HOWN := Lib.hid hown
      have HM := Lib.hid hm
      have HAT := Lib.hid hat
      clear hown hm hat M
      go_wp2_with (first | (at_mapUpdate; refine wpList_mapUpdate_own _ rfl _ _ _ 107 rfl 3 3 (int_keyed Tryz.underlying3) Tryz.underlying107 _ b k D rfl HOWN.out (by unfold maxLen; omega) _ _ (.int .i64 k) rfl rfl (keyInt _ (by omega)) (.lit (.int .i64 x)) [] (plainInt _ HXK.out) ?_; intro w5 hown5 hgr5) | fail)
      have MN : Hid (MapAt w5 b (k + 1) (listFn (l.take (k + 1)))) := by
        refine ⟨_, hown5, HM.out.put _ _, fun z => ?_⟩
        rw [HFN.out z]
        by_cases hz : z = (k : Int)
        · subst hz
          rw [if_pos rfl]
          exact atKey_put_same HM.out (isKeyInt _) _ _
        · rw [if_neg hz, atKey_put_other (by intro h; injection h with _ h; exact hz h)]
          exact HAT.out z
      have he5 : Ext w w5 := he.trans' (grown_below hgr5 (Nat.le_refl b) (Nat.le_of_lt hbz)) (Nat.le_of_eq HB.out.symm)
      have hbz5 : b < w5.heap.size := Nat.lt_of_lt_of_le hbz hgr5.size
      clear hown5 hgr5 HOWN HM HAT
      go_wp2
      refine ⟨⟨k + 1, by omega, by go_num, MN, he5, hbz5⟩, by simp [intOf]; omega⟩
    · have hke : k = l.length := by omega
      subst hke
      go_wp2
      go_ret
      exact ⟨b, rfl, by have := M.out; rwa [List.take_length] at this, Nat.le_of_eq HB.out.symm, he⟩
end Go.Proofs.YtnhbogmihnnpjaaGreat
/- variant.renamed: its closure. -/
namespace Go.Proofs.YtnhbogmihnnpjaaGreat
open Go.RowKit
open Go.Maps

/-- the first k strokes have their new letters -/
def renTo (f : Int → Int) (st : List Stk) (k : Nat) : List Stk := (st.take k).map (fun y => (f y.1, y.2)) ++ st.drop k
theorem renTo_zero (f : Int → Int) (st : List Stk) : renTo f st 0 = st := by simp [renTo]
theorem renTo_end (f : Int → Int) (st : List Stk) : renTo f st st.length = st.map (fun y => (f y.1, y.2)) := by simp [renTo]
theorem renTo_len (f : Int → Int) (st : List Stk) (k : Nat) : (renTo f st k).length = st.length := by
  unfold renTo
  rw [List.length_append, List.length_map, List.length_take, List.length_drop]; omega
theorem renTo_at (f : Int → Int) (st : List Stk) {k : Nat} (h : k < st.length) : (renTo f st k).getD k stk0 = st.getD k stk0 := by
  unfold renTo
  rw [List.getD_eq_getElem?_getD, List.getElem?_append_right (by simp; omega), List.getD_eq_getElem?_getD, List.getElem?_drop]
  congr 2
  simp
  omega
theorem renTo_succ (f : Int → Int) (st : List Stk) {k : Nat} (h : k < st.length) : renTo f st (k + 1) = (renTo f st k).set k (f (st.getD k stk0).1, (st.getD k stk0).2) := by
  unfold renTo
  rw [List.set_append, if_neg (by simp; omega), drop_cons st stk0 h]
  have : k - ((st.take k).map (fun y : Stk => (f y.1, y.2))).length = 0 := by simp; omega
  rw [this, List.set_cons_zero, List.take_succ_eq_append_getElem h, List.map_append, List.append_assoc]
  congr 1
  rw [List.getD_eq_getElem?_getD, List.getElem?_eq_getElem h]
  rfl
theorem MapAt.same {A B : World} {b m : Nat} {f : Int → Int} (h : MapAt A b m f) (e : B.heap[b]? = A.heap[b]?) : MapAt B b m f := by
  obtain ⟨D, ⟨es, ck, h1, h2, h3, h4⟩, h5, h6⟩ := h
  exact ⟨D, ⟨es, ck, e.trans h1, h2, h3, h4⟩, h5, h6⟩
theorem MapAt.lt {A : World} {b m : Nat} {f : Int → Int} (h : MapAt A b m f) : b < A.heap.size := by
  obtain ⟨D, h1, _⟩ := h
  exact h1.lt
theorem MapAt.ext {A B : World} {b m : Nat} {f : Int → Int} (h : MapAt A b m f) (k : Ext A B) : MapAt B b m f := h.same (Below.block k b h.lt)
/-- what happens to the older memory while the strokes in block b change -/
theorem Own1.cell {n : Nat} {A B : World} (h : Own1 n A B) {p : Addr} {v : Value} (hp : p.block ≠ n) (hc : A.cell? p = some v) : B.cell? p = some v :=
  (World.cell?_of_block (h.2 p.block (cell_lt hc) hp)).trans hc
theorem Own1.frozen {n : Nat} {A B : World} (h : Own1 n A B) {p : Addr} {v : Value} (hp : p.block ≠ n) (hc : A.cell? p = some v) : B.frozen? p = A.frozen? p :=
  World.frozen?_of_block (h.2 p.block (cell_lt hc) hp)
theorem StksAt.set1 {w : World} {b : Nat} {d : List Stk} (h : StksAt w b d) {i : Nat} (hi : i < d.length) (x : Int) : StksAt (w.setCell ⟨b, i * 2, none⟩ (.int .i64 x)) b (d.set i (x, (d.getD i stk0).2)) := fun j hj => by
  rw [List.length_set] at hj
  obtain ⟨⟨h1, h2⟩, h3, h4⟩ := h j hj
  have g2 : (w.setCell ⟨b, i * 2, none⟩ (.int .i64 x)).cell? ⟨b, j * 2 + 1, none⟩ = some (.bool (d.getD j stk0).2) := by
    rw [World.cell?_setCell_other _ _ _ _ (fun h => by simp only [Addr.mk.injEq] at h; omega)]; exact h2
  refine ⟨?_, by rw [World.frozen?_setCell]; exact h3, by rw [World.frozen?_setCell]; exact h4⟩
  by_cases hij : j = i
  · subst hij
    have e : (d.set j (x, (d.getD j stk0).2)).getD j stk0 = (x, (d.getD j stk0).2) := by simp [List.getD_eq_getElem?_getD, hi]
    rw [e]
    exact ⟨World.cell?_setCell_same _ _ _ h1, g2⟩
  · have e : (d.set i (x, (d.getD i stk0).2)).getD j stk0 = d.getD j stk0 := by simp [List.getD_eq_getElem?_getD, Ne.symm hij]
    rw [e]
    exact ⟨by rw [World.cell?_setCell_other _ _ _ _ (fun h => by simp only [Addr.mk.injEq] at h; omega)]; exact h1, g2⟩

set_option maxHeartbeats 8000000 in
set_option maxRecDepth 100000 in
theorem renamed1_any (st : List Stk) (wait : Int) (k0 : Nat) (v : Value) (pb mb m : Nat) (f : Int → Int) (w : World) (h0 : 0 < st.length) (h12 : st.length ≤ 12) (_hm : m ≤ 1000) (ho : OwnsK w v st)
    (hp : w.cell? ⟨pb, 0, none⟩ = some (.map (some mb))) (hM : MapAt w mb m f) (hpb : ∀ b, v.ownBlock = some b → b ≠ pb ∧ b ≠ mb)
    (hx : ∀ i, i < st.length → 0 ≤ (st.getD i stk0).1 ∧ (st.getD i stk0).1 < 6) (hd : Diff (st.map fun y => (f y.1, y.2))) (hf : ∀ y ∈ st, 0 ≤ f y.1 ∧ f y.1 < 6) :
    Calls Tryz.prog 104 #[.int .i64 (k0 : Int), .agg #[v, .int .i64 wait], .pointer (some ⟨pb, 0, none⟩)] w (ChPost (renStep f (st, wait)) v w) := by
  obtain ⟨b, cap, rfl, hst, hvb⟩ := ho.stksAt h0
  obtain ⟨hb1, hb2⟩ := hpb b hvb
  have hb : b < w.heap.size := rowLt ho hvb
  have hml : st.length ≤ maxLen := by unfold maxLen; omega
  have HX := Lib.hid hx
  have HMM := Lib.hid hM
  have HE : Hid (isortK (renTo f st st.length) = (renStep f (st, wait)).1) := by
    show _ = _
    rw [renTo_end]
    exact isortK_ordered hd (fun y hy => by obtain ⟨z, hz, rfl⟩ := List.mem_map.1 hy; exact hf z hz)
  have HW : Hid ((renStep f (st, wait)).2 = wait) := rfl
  obtain ⟨q, hq⟩ : ∃ q, q = renStep f (st, wait) := ⟨_, rfl⟩
  rw [← hq] at HE HW ⊢
  clear hq hd hf hx hpb ho hM
  have zp := cell_lt hp
  dsimp only at zp
  go_enter Tryz.func104, Tryz.ntmps104
  go_wp2
  have E1 : Ext w ((w.alloc (.cells #[.slice (some ⟨b, 0, none⟩) st.length cap, .int .i64 wait] 87)).alloc (.cells #[.slice none 0 0, .int .i64 0] 87)) := (by repeat (first | with_reducible exact Ext.refl _ | with_reducible assumption | with_reducible apply Ext.drewN | with_reducible apply Ext.drew | with_reducible apply Ext.alloc | ((with_reducible refine Ext.set ?_ ?_ _); rotate_left; first | omega | (simp; omega)) | (with_reducible refine Ext.trans ?_ (by with_reducible assumption))))
  have c0 : ((w.alloc (.cells #[.slice (some ⟨b, 0, none⟩) st.length cap, .int .i64 wait] 87)).alloc (.cells #[.slice none 0 0, .int .i64 0] 87)).cell? ⟨w.heap.size, 0, none⟩ = some (.slice (some ⟨b, 0, none⟩) st.length cap) := by go_simp
  have c1 : ((w.alloc (.cells #[.slice (some ⟨b, 0, none⟩) st.length cap, .int .i64 wait] 87)).alloc (.cells #[.slice none 0 0, .int .i64 0] 87)).cell? ⟨w.heap.size, 1, none⟩ = some (.int .i64 wait) := by go_simp
  have c2 : ((w.alloc (.cells #[.slice (some ⟨b, 0, none⟩) st.length cap, .int .i64 wait] 87)).alloc (.cells #[.slice none 0 0, .int .i64 0] 87)).cell? ⟨w.heap.size + 1, 0, none⟩ = some (.slice none 0 0) := by go_simp
  have c3 : ((w.alloc (.cells #[.slice (some ⟨b, 0, none⟩) st.length cap, .int .i64 wait] 87)).alloc (.cells #[.slice none 0 0, .int .i64 0] 87)).cell? ⟨w.heap.size + 1, 1, none⟩ = some (.int .i64 0) := by go_simp
  have f0 : ((w.alloc (.cells #[.slice (some ⟨b, 0, none⟩) st.length cap, .int .i64 wait] 87)).alloc (.cells #[.slice none 0 0, .int .i64 0] 87)).frozen? ⟨w.heap.size, 0, none⟩ = false := by go_simp
  have f2 : ((w.alloc (.cells #[.slice (some ⟨b, 0, none⟩) st.length cap, .int .i64 wait] 87)).alloc (.cells #[.slice none 0 0, .int .i64 0] 87)).frozen? ⟨w.heap.size + 1, 0, none⟩ = false := by go_simp
  have f3 : ((w.alloc (.cells #[.slice (some ⟨b, 0, none⟩) st.length cap, .int .i64 wait] 87)).alloc (.cells #[.slice none 0 0, .int .i64 0] 87)).frozen? ⟨w.heap.size + 1, 1, none⟩ = false := by go_simp
  generalize ((w.alloc (.cells #[.slice (some ⟨b, 0, none⟩) st.length cap, .int .i64 wait] 87)).alloc (.cells #[.slice none 0 0, .int .i64 0] 87)) = W at E1 c0 c1 c2 c3 f0 f2 f3 ⊢
  have hp := E1.cell hp
  have MW := Lib.hid (HMM.out.ext E1)
  have hbW := E1.size_lt hb
  have M0 : Hid (SoSt b W W (renTo f st 0)) := ⟨by rw [renTo_zero]; exact hst.ext E1, Own1.ext (Ext.refl _) (Nat.le_of_lt hbW)⟩
  clear hst
  go_loopw [11] (fun i wr => ∃ k : Nat, k ≤ st.length ∧ i = .int .i64 k ∧ Hid (SoSt b W wr (renTo f st k))) (fun i _ => st.length - (intOf i).toNat)
  case atStart => exact ⟨0, Nat.zero_le _, rfl, M0⟩
  case round =>
    obtain ⟨k, hk, rfl, M⟩ := hrel
    clear M0
    have hO := M.out.own
    have zb : b < wr.heap.size := Nat.lt_of_lt_of_le hbW hO.1.size
    have c0r := hO.cell (p := ⟨w.heap.size, 0, none⟩) (by show w.heap.size ≠ b; omega) c0
    have c1r := hO.cell (p := ⟨w.heap.size, 1, none⟩) (by show w.heap.size ≠ b; omega) c1
    have c2r := hO.cell (p := ⟨w.heap.size + 1, 0, none⟩) (by show w.heap.size + 1 ≠ b; omega) c2
    have c3r := hO.cell (p := ⟨w.heap.size + 1, 1, none⟩) (by show w.heap.size + 1 ≠ b; omega) c3
    have f0r := (hO.frozen (p := ⟨w.heap.size, 0, none⟩) (by show w.heap.size ≠ b; omega) c0).trans f0
    have f2r := (hO.frozen (p := ⟨w.heap.size + 1, 0, none⟩) (by show w.heap.size + 1 ≠ b; omega) c2).trans f2
    have f3r := (hO.frozen (p := ⟨w.heap.size + 1, 1, none⟩) (by show w.heap.size + 1 ≠ b; omega) c3).trans f3
    have hpr := hO.cell (p := ⟨pb, 0, none⟩) (by show pb ≠ b; omega) hp
    have MR := Lib.hid (MW.out.same (hO.2 mb MW.out.lt (by omega)))
    by_cases hlt : k < st.length
    · have hren := renTo_len f st k
      obtain ⟨⟨s1, s2⟩, s3, s4⟩ := M.out.at_ k (by omega)
      rw [renTo_at f st hlt] at s1 s2
      have HXK := Lib.hid (HX.out k hlt)
      have HSE : Hid (∀ A, StksAt A b (renTo f st k) → StksAt (A.setCell ⟨b, k * 2, none⟩ (.int .i64 (f (st.getD k stk0).1))) b (renTo f st (k + 1))) := fun A hA => by
        rw [renTo_succ f st hlt]
        have h9 := hA.set1 (i := k) (by omega) (f (st.getD k stk0).1)
        rw [renTo_at f st hlt] at h9
        exact h9
      generalize st.getD k stk0 = y at s1 s2 HXK HSE
      obtain ⟨ya, yo⟩ := y
      dsimp only at s1 s2 HXK HSE
      obtain ⟨D, hown, hmm, hat⟩ := MR.out
      have HOWN := Lib.hid hown
      have HAT := Lib.hid hat
      have zz := cell_lt c0r
      have zp2 := cell_lt hpr
      have EA : Ext wr (wr.alloc (.cells #[.int .i64 ya, .bool yo] 73)) := (by repeat (first | with_reducible exact Ext.refl _ | with_reducible assumption | with_reducible apply Ext.drewN | with_reducible apply Ext.drew | with_reducible apply Ext.alloc | ((with_reducible refine Ext.set ?_ ?_ _); rotate_left; first | omega | (simp; omega)) | (with_reducible refine Ext.trans ?_ (by with_reducible assumption))))
      clear hown hat hmm
      go_wp2_with (first | (at_lookup; refine wpList_lookup_own_int _ rfl _ _ 107 rfl 3 3 .i64 (int_keyed Tryz.underlying3) Tryz.underlying107 Tryz.underlying3 rfl mb m D rfl (HOWN.out.alloc _) _ (.int .i64 ya) rfl (keyInt _ (by have := HXK.out; omega)) ?_; intro c hat hwc) | fail)
      have hca : c = f ya := by
        have h9 := HAT.out ya
        rw [hat] at h9
        injection h9 with h9
        injection h9
      subst hca
      clear hat hwc
      go_wp2
      have MN : Hid (SoSt b W ((wr.setCell ⟨b, k * 2, none⟩ (.int .i64 (f ya))).alloc (.cells #[.int .i64 ya, .bool yo] 73)) (renTo f st (k + 1))) := by
        have h9 : SoSt b W (wr.setCell ⟨b, k * 2, none⟩ (.int .i64 (f ya))) (renTo f st (k + 1)) := ⟨HSE.out _ M.out.at_, M.out.own.trans (Own1.setCell _ _)⟩
        exact h9.ext (by repeat (first | with_reducible exact Ext.refl _ | with_reducible assumption | with_reducible apply Ext.drewN | with_reducible apply Ext.drew | with_reducible apply Ext.alloc | ((with_reducible refine Ext.set ?_ ?_ _); rotate_left; first | omega | (simp; omega)) | (with_reducible refine Ext.trans ?_ (by with_reducible assumption)))) (Nat.lt_of_lt_of_le hbW h9.own.1.size)
      refine ⟨⟨k + 1, by omega, by go_num, MN⟩, by simp [intOf]; omega⟩
    · have hke : k = st.length := by omega
      subst hke
      have hren := renTo_len f st st.length
      have HSO := Lib.hid (sorted_any (renTo f st st.length) b cap wr (by omega) M.out.at_ zb)
      rw [hren] at HSO
      rw [HE.out] at HSO
      go_wp2_with fail
      refine (HSO.out).mono ?_
      rintro e w5 ⟨rfl, hS⟩
      have HS := Lib.hid hS
      have c0 := hS.own.cell (p := ⟨w.heap.size, 0, none⟩) (by show w.heap.size ≠ b; omega) c0r
      have c1 := hS.own.cell (p := ⟨w.heap.size, 1, none⟩) (by show w.heap.size ≠ b; omega) c1r
      have c2 := hS.own.cell (p := ⟨w.heap.size + 1, 0, none⟩) (by show w.heap.size + 1 ≠ b; omega) c2r
      have c3 := hS.own.cell (p := ⟨w.heap.size + 1, 1, none⟩) (by show w.heap.size + 1 ≠ b; omega) c3r
      have f0 := (hS.own.frozen (p := ⟨w.heap.size, 0, none⟩) (by show w.heap.size ≠ b; omega) c0r).trans f0r
      have f2 := (hS.own.frozen (p := ⟨w.heap.size + 1, 0, none⟩) (by show w.heap.size + 1 ≠ b; omega) c2r).trans f2r
      have f3 := (hS.own.frozen (p := ⟨w.heap.size + 1, 1, none⟩) (by show w.heap.size + 1 ≠ b; omega) c3r).trans f3r
      have B5 : Below b w w5 := (((E1.mono (Nat.le_of_lt hb)).trans hO.1).trans hS.own.1)
      clear hS c0r c1r c2r c3r f0r f2r f3r
      go_wp2
      have hl5 : q.1.length = st.length := by rw [← HE.out, isortK_length]; exact hren
      have S5 : StksAt (((w5.setCell ⟨w.heap.size, 0, none⟩ (.slice (some ⟨b, 0, none⟩) st.length cap)).setCell ⟨w.heap.size + 1, 0, none⟩ (.slice (some ⟨b, 0, none⟩) st.length cap)).setCell ⟨w.heap.size + 1, 1, none⟩ (.int .i64 wait)) b q.1 := fun i hi => by
        obtain ⟨⟨g1, g2⟩, g3, g4⟩ := HS.out.at_ i hi
        refine ⟨⟨?_, ?_⟩, ?_, ?_⟩
        · rw [World.cell?_setCell_other _ _ _ _ (fun h => by simp only [Addr.mk.injEq] at h; omega), World.cell?_setCell_other _ _ _ _ (fun h => by simp only [Addr.mk.injEq] at h; omega), World.cell?_setCell_other _ _ _ _ (fun h => by simp only [Addr.mk.injEq] at h; omega)]; exact g1
        · rw [World.cell?_setCell_other _ _ _ _ (fun h => by simp only [Addr.mk.injEq] at h; omega), World.cell?_setCell_other _ _ _ _ (fun h => by simp only [Addr.mk.injEq] at h; omega), World.cell?_setCell_other _ _ _ _ (fun h => by simp only [Addr.mk.injEq] at h; omega)]; exact g2
        · rw [World.frozen?_setCell, World.frozen?_setCell, World.frozen?_setCell]; exact g3
        · rw [World.frozen?_setCell, World.frozen?_setCell, World.frozen?_setCell]; exact g4
      refine bodyPost_ret (v := .agg #[.slice (some ⟨b, 0, none⟩) st.length cap, .int .i64 wait]) (by rw [results_cell1 rfl]; go_simp) rfl ?_
      refine ⟨.slice (some ⟨b, 0, none⟩) st.length cap, by rw [HW.out], by have h9 := S5.slice (cap := cap) (by rw [hl5]; exact hml); rw [hl5] at h9; exact h9, fun b' hb' => .inl hb', ⟨_, cap, by rw [hl5], fun b' off' h => by cases h; rfl⟩, fun n hn hv => ?_⟩
      have hnb := hv b rfl
      exact (((B5.mono hnb).setCell (p := ⟨w.heap.size, 0, none⟩) hn _).setCell (p := ⟨w.heap.size + 1, 0, none⟩) (by show n ≤ w.heap.size + 1; omega) _).setCell (p := ⟨w.heap.size + 1, 1, none⟩) (by show n ≤ w.heap.size + 1; omega) _
end Go.Proofs.YtnhbogmihnnpjaaGreat
/- variant.renamed. -/
namespace Go.Proofs.YtnhbogmihnnpjaaGreat
open Go.RowKit
open Go.Maps

/-- a renaming of these steps keeps the strokes of each step apart -/
def RenOk (f : Int → Int) (l : List Stp) : Prop := ∀ k, k < l.length → 0 < (l.getD k stp0).1.length ∧ (l.getD k stp0).1.length ≤ 12 ∧
  (∀ i, i < (l.getD k stp0).1.length → 0 ≤ ((l.getD k stp0).1.getD i stk0).1 ∧ ((l.getD k stp0).1.getD i stk0).1 < 6) ∧ Diff ((l.getD k stp0).1.map fun y => (f y.1, y.2)) ∧ ∀ y ∈ (l.getD k stp0).1, 0 ≤ f y.1 ∧ f y.1 < 6
theorem RenOk.full {f : Int → Int} {l : List Stp} (h : RenOk f l) : Full l := fun k hk => by
  obtain ⟨h1, h2, _⟩ := h k hk
  exact ⟨h1, by omega⟩
theorem mapK_ren (f : Int → Int) (l : List Stp) : mapK (fun _ x => renStep f x) l l.length = l.map (renStep f) := by
  unfold mapK
  apply list_ext_getD stp0 (by simp)
  intro j hj
  have : j < l.length := by simpa using hj
  simp [List.getD, this]

theorem renamed_own (n : Int) (l : List Stp) (a : Option Addr) (cap mb m : Nat) (f : Int → Int) (w : World) (hl : l.length ≤ 200) (hr : RenOk f l) (hc : CellsP w a l) (hm : m ≤ 1000) (hM : MapAt w mb m f) :
    Calls Tryz.prog 70 #[.agg #[.int .i64 n, .slice a l.length cap], .map (some mb)] w (OwnPost (ren f (n, l)) w) := by
  have HC := Lib.hid hc
  have HR := Lib.hid hr
  have HL := Lib.hid hl
  have HM := Lib.hid hM
  have hren : Hid (ren f (n, l) = (n, mapK (fun _ x => renStep f x) l l.length)) := by show _ = _; rw [mapK_ren]; rfl
  clear hc hr hl hM
  obtain ⟨q, hq⟩ : ∃ q, q = ren f (n, l) := ⟨_, rfl⟩
  rw [← hq] at hren ⊢
  clear hq
  go_enter Tryz.func70, Tryz.ntmps70
  go_wp2_with fail
  have E1 : Ext w (((w.alloc (.cells #[.int .i64 n, .slice a l.length cap] 24)).alloc (.cells #[.map (some mb)] 107)).alloc (.cells #[.int .i64 0, .slice none 0 0] 24)) := (by repeat (first | with_reducible exact Ext.refl _ | with_reducible assumption | with_reducible apply Ext.drewN | with_reducible apply Ext.drew | with_reducible apply Ext.alloc | ((with_reducible refine Ext.set ?_ ?_ _); rotate_left; first | omega | (simp; omega)) | (with_reducible refine Ext.trans ?_ (by with_reducible assumption))))
  have c0 : (((w.alloc (.cells #[.int .i64 n, .slice a l.length cap] 24)).alloc (.cells #[.map (some mb)] 107)).alloc (.cells #[.int .i64 0, .slice none 0 0] 24)).cell? ⟨w.heap.size + 1, 0, none⟩ = some (.map (some mb)) := by go_simp
  have c1 : (((w.alloc (.cells #[.int .i64 n, .slice a l.length cap] 24)).alloc (.cells #[.map (some mb)] 107)).alloc (.cells #[.int .i64 0, .slice none 0 0] 24)).cell? ⟨w.heap.size + 1 + 1, 0, none⟩ = some (.int .i64 0) := by go_simp
  have c2 : (((w.alloc (.cells #[.int .i64 n, .slice a l.length cap] 24)).alloc (.cells #[.map (some mb)] 107)).alloc (.cells #[.int .i64 0, .slice none 0 0] 24)).cell? ⟨w.heap.size + 1 + 1, 1, none⟩ = some (.slice none 0 0) := by go_simp
  have f1 : (((w.alloc (.cells #[.int .i64 n, .slice a l.length cap] 24)).alloc (.cells #[.map (some mb)] 107)).alloc (.cells #[.int .i64 0, .slice none 0 0] 24)).frozen? ⟨w.heap.size + 1 + 1, 0, none⟩ = false := by go_simp
  have f2 : (((w.alloc (.cells #[.int .i64 n, .slice a l.length cap] 24)).alloc (.cells #[.map (some mb)] 107)).alloc (.cells #[.int .i64 0, .slice none 0 0] 24)).frozen? ⟨w.heap.size + 1 + 1, 1, none⟩ = false := by go_simp
  generalize (((w.alloc (.cells #[.int .i64 n, .slice a l.length cap] 24)).alloc (.cells #[.map (some mb)] 107)).alloc (.cells #[.int .i64 0, .slice none 0 0] 24)) = W at E1 c0 c1 c2 f1 f2 ⊢
  have MW := Lib.hid (HM.out.ext E1)
  have hlt1 := cell_lt c0
  dsimp only at hlt1
  refine (mapped_own n l a cap W 104 #[.pointer (some ⟨w.heap.size + 1, 0, none⟩)] (fun _ x => renStep f x) HL.out HR.out.full (HC.out.ext E1) (enters_of Tryz.func104 (by kernel_rfl) rfl) (fun k v w' hk hE ho hb => ?_)).mono ?_
  · obtain ⟨r1, r2, r3, r4, r5⟩ := HR.out k hk
    exact renamed1_any _ _ k v (w.heap.size + 1) mb m f w' r1 r2 hm ho (hE.cell c0) (MW.out.ext hE) (fun b h => ⟨fun e => by have := hb b h; omega, fun e => by have := hb b h; have := MW.out.lt; omega⟩) r3 r4 r5
  rintro e w2 ⟨o, v, ho, rfl, hv, hob, hE⟩
  dsimp only at hv
  have HV := Lib.hid hv
  have HOB := Lib.hid hob
  have hz1 : w.heap.size + 1 + 1 < W.heap.size := cell_lt c1
  obtain ⟨ua, uc, rfl, _, _⟩ := hv.reads
  have g1 := (Below.frozen (p := ⟨w.heap.size + 1 + 1, 0, none⟩) hE (cell_lt c1)).trans f1
  have g2 := (Below.frozen (p := ⟨w.heap.size + 1 + 1, 1, none⟩) hE (cell_lt c2)).trans f2
  have c1 := hE.cell c1
  have c2 := hE.cell c2
  clear hv hob
  dsimp only
  generalize hP : mapK (fun _ x => renStep f x) l l.length = P at HV HOB hren ⊢
  clear hP
  go_wp2
  have EF : Ext w ((w2.setCell ⟨w.heap.size + 1 + 1, 0, none⟩ (.int .i64 n)).setCell ⟨w.heap.size + 1 + 1, 1, none⟩ (.slice ua P.length uc)) := (by repeat (first | with_reducible exact Ext.refl _ | with_reducible assumption | with_reducible apply Ext.drewN | with_reducible apply Ext.drew | with_reducible apply Ext.alloc | ((with_reducible refine Ext.set ?_ ?_ _); rotate_left; first | omega | (simp; omega)) | (with_reducible refine Ext.trans ?_ (by with_reducible assumption))))
  have hc : Chg (fun b => b ≤ o) w2 ((w2.setCell ⟨w.heap.size + 1 + 1, 0, none⟩ (.int .i64 n)).setCell ⟨w.heap.size + 1 + 1, 1, none⟩ (.slice ua P.length uc)) :=
    (Chg.setCell (B := fun b => b ≤ o) ⟨w.heap.size + 1 + 1, 0, none⟩ _ (by show w.heap.size + 1 + 1 ≤ o; omega)).trans (Chg.setCell (B := fun b => b ≤ o) ⟨w.heap.size + 1 + 1, 1, none⟩ _ (by show w.heap.size + 1 + 1 ≤ o; omega))
  refine bodyPost_ret (v := .agg #[.int .i64 n, .slice ua P.length uc]) (by rw [results_cell1 rfl]; go_simp) rfl ?_
  rw [hren.out]
  exact ⟨o, _, by omega, rfl, HV.out.chg hc (fun b hb e => by have := HOB.out b hb; omega), HOB.out, EF⟩
end Go.Proofs.YtnhbogmihnnpjaaGreat
/- variant.Standard. -/
namespace Go.Proofs.YtnhbogmihnnpjaaGreat
open Go.RowKit
open Go.Maps

theorem ckStrokes_diff {x : Stp} (h : ckStep x = 0) : Diff x.1 := (ckStrokes_asc (ckStep_strokes h).1).1.diff
/-- a renaming that keeps the actuators of a sequence apart keeps those of each step apart -/
theorem renOk_inj {f : Int → Int} {n : Int} {l : List Stp} (h : Fine n l) (hi : ∀ a b, 0 ≤ a ∧ a < n → 0 ≤ b ∧ b < n → f a = f b → a = b) (hr : ∀ a, 0 ≤ a ∧ a < n → 0 ≤ f a ∧ f a < 6) : RenOk f l := fun k hk => by
  obtain ⟨h1, h2⟩ := h k hk
  have h3 := ckStep_strokes h1
  have hm : ∀ y ∈ (l.getD k stp0).1, 0 ≤ y.1 ∧ y.1 < n := fun y hy => by
    obtain ⟨j, hj, e⟩ := List.mem_iff_getElem.1 hy
    have := h2 j hj
    rw [List.getD_eq_getElem?_getD (l := (l.getD k stp0).1), List.getElem?_eq_getElem hj] at this
    rw [← e]; exact this
  refine ⟨h3.2.2.1, by omega, ckStep_known h1, ?_, fun y hy => hr _ (hm y hy)⟩
  unfold Diff
  rw [List.pairwise_map]
  refine List.Pairwise.imp_of_mem (fun {a b} ha hb hab e => hab (hi _ _ (hm a ha) (hm b hb) e)) (ckStrokes_diff h1)
theorem listFn_letters (n : Int) (l : List Stp) {a : Int} (h : 0 ≤ a ∧ a < n) : listFn (lettersOf (n, l)) a = letterOf (n, l) a := by
  obtain ⟨k, rfl⟩ := Int.eq_ofNat_of_zero_le h.1
  unfold listFn
  rw [if_neg (by omega)]
  exact lettersOf_getD n l h.2
theorem renOk_letters {n : Int} {l : List Stp} (h : Fine n l) (hn : n ≤ 6) : RenOk (listFn (lettersOf (n, l))) l :=
  renOk_inj h (fun a b ha hb e => by rw [listFn_letters n l ha, listFn_letters n l hb] at e; exact letterOf_inj n l ha hb e)
    (fun a ha => by rw [listFn_letters n l ha]; have := letterOf_rng n l ha; omega)
theorem letters_small {n : Int} {l : List Stp} (h0 : 0 ≤ n) (hn : n ≤ 6) : ∀ k, k < (lettersOf (n, l)).length → 0 ≤ (lettersOf (n, l)).getD k 0 ∧ (lettersOf (n, l)).getD k 0 < 1000 := fun k hk => by
  rw [lettersOf_len] at hk
  rw [lettersOf_getD n l (by omega)]
  have := letterOf_rng n l (a := (k : Int)) (by omega)
  omega
theorem makeInts (n : Nat) (hn : n ≤ 64) (w : World) : (Instr.makeSlice 27 (.int .i64 (n : Int)) (.int .i64 (n : Int))).run Tryz.prog w = .ok (.slice (some ⟨w.heap.size, 0, none⟩) n n) (w.alloc (.cells (madeCells #[.int .i64 0] n) 3)) :=
  run_make_row' _ _ (.int .i64 0) 8 Tryz.underlying27 infoInt rfl _ _ n (by omega) (by omega) w
theorem madeInts (w : World) (n : Nat) (t : TypeId) {p : Nat} (hp : w.heap.size = p) : IntsAt (w.alloc (.cells (madeCells #[.int .i64 0] n) t)) p (List.replicate n 0) := fun k hk => by
  subst hp
  rw [List.length_replicate] at hk
  refine ⟨?_, by simp [go_sem]⟩
  rw [World.cell?_alloc_new]
  simp [madeCells, hk, Nat.mod_one]
theorem IntsAt.cells {A : World} {b : Nat} {l : List Int} (h : IntsAt A b l) : CellsI A (some ⟨b, 0, none⟩) l := fun i hi => ⟨b, 0, rfl, by rw [Nat.zero_add]; exact (h i hi).1⟩
theorem OwnsI.intsAt {A : World} {v : Value} {l : List Int} (h : OwnsI A v l) (h0 : 0 < l.length) : ∃ b cap, v = .slice (some ⟨b, 0, none⟩) l.length cap ∧ IntsAt A b l ∧ v.ownBlock = some b := by
  obtain ⟨a, cap, hv, _, hr⟩ := rowReads h
  have hg : ∀ i, i < l.length → (l.map (Value.int .i64))[i]? = some (.int .i64 (l.getD i 0)) := fun i hi => by
    rw [List.getElem?_map, List.getElem?_eq_getElem hi, List.getD_eq_getElem?_getD, List.getElem?_eq_getElem hi]; rfl
  obtain ⟨b, ha, hb, _⟩ := hr 0 _ (hg 0 h0)
  refine ⟨b, cap, by rw [hv, ha], fun i hi => ?_, hb⟩
  obtain ⟨b', ha', _, h1, h2⟩ := hr i _ (hg i hi)
  rw [ha] at ha'
  cases ha'
  exact ⟨h1, h2⟩
theorem IntsAt.own1 {n b : Nat} {A B : World} {d : List Int} (h : IntsAt A b d) (k : Own1 n A B) (hb : b ≠ n) : IntsAt B b d := fun i hi => by
  obtain ⟨h1, h2⟩ := h i hi
  exact ⟨k.cell (p := ⟨b, i, none⟩) hb h1, (k.frozen (p := ⟨b, i, none⟩) hb h1).trans h2⟩
/-- a sequence and a list of ints are returned -/
def StdPost (s : Sq) (m : List Int) (err : Int) (w : World) (e : Ending) (w' : World) : Prop :=
  ∃ v a c, e = .returned (.tuple #[v, .slice a m.length c, .int .i64 err]) ∧ SeqV w' v s ∧ CellsI w' a m ∧ m.length ≤ maxLen ∧ Ext w w'
theorem results_cell_tmp2s {fn : Func} {p u z : Tmp} {ty : TypeId} (h : fn.results = #[.cell p ty, .tmp u, .tmp z]) (tmps : Array Value) (P : Program) (w : World) :
    (results fn tmps).run P w = ((asAddr (tmps.getD p undef)).run P w).andThen fun a w₁ => ((loadVar ty a).run P w₁).andThen fun x w₂ => .ok (.tuple #[x, tmps.getD u undef, tmps.getD z undef]) w₂ := by
  simp only [results, h]
  simp [Sem.run_bind, Result.andThen]

set_option maxHeartbeats 8000000 in
set_option maxRecDepth 100000 in
theorem Standard_any (n : Int) (l : List Stp) (a : Option Addr) (cap : Nat) (w : World) (hl : l.length ≤ maxLen) (hc : CellsP w a l) :
    Calls Tryz.prog 34 #[.agg #[.int .i64 n, .slice a l.length cap]] w (StdPost (if ckSeq (n, l) = 0 then standard (n, l) else sq0) (if ckSeq (n, l) = 0 then lettersOf (n, l) else []) (ckSeq (n, l)) w) := by
  have HC := Lib.hid hc
  have HL := Lib.hid hl
  obtain ⟨er, her⟩ : ∃ er, er = ckSeq (n, l) := ⟨_, rfl⟩
  obtain ⟨s, hs⟩ : ∃ s, s = if er = 0 then standard (n, l) else sq0 := ⟨_, rfl⟩
  obtain ⟨m, hm⟩ : ∃ m, m = if er = 0 then lettersOf (n, l) else [] := ⟨_, rfl⟩
  rw [← her, ← hs, ← hm]
  have HER := Lib.hid her
  have HS := Lib.hid hs
  have HM := Lib.hid hm
  unfold maxLen at hl
  have hzs : ∀ w, (zeroValue 24).run Tryz.prog w = .ok (.agg #[.int .i64 0, .slice none 0 0]) w := fun _ => by kernel_rfl
  clear hc her hs hm
  go_enter Tryz.func34, Tryz.ntmps34
  go_wp2_with fail
  have E1 : Ext w ((w.alloc (.cells #[.int .i64 n, .slice a l.length cap] 24)).alloc (.cells #[.int .i64 0, .slice none 0 0] 24)) := (by repeat (first | with_reducible exact Ext.refl _ | with_reducible assumption | with_reducible apply Ext.drewN | with_reducible apply Ext.drew | with_reducible apply Ext.alloc | ((with_reducible refine Ext.set ?_ ?_ _); rotate_left; first | omega | (simp; omega)) | (with_reducible refine Ext.trans ?_ (by with_reducible assumption))))
  have c0 : ((w.alloc (.cells #[.int .i64 n, .slice a l.length cap] 24)).alloc (.cells #[.int .i64 0, .slice none 0 0] 24)).cell? ⟨w.heap.size, 0, none⟩ = some (.int .i64 n) := by go_simp
  have c1 : ((w.alloc (.cells #[.int .i64 n, .slice a l.length cap] 24)).alloc (.cells #[.int .i64 0, .slice none 0 0] 24)).cell? ⟨w.heap.size, 1, none⟩ = some (.slice a l.length cap) := by go_simp
  have c2 : ((w.alloc (.cells #[.int .i64 n, .slice a l.length cap] 24)).alloc (.cells #[.int .i64 0, .slice none 0 0] 24)).cell? ⟨w.heap.size + 1, 0, none⟩ = some (.int .i64 0) := by go_simp
  have c3 : ((w.alloc (.cells #[.int .i64 n, .slice a l.length cap] 24)).alloc (.cells #[.int .i64 0, .slice none 0 0] 24)).cell? ⟨w.heap.size + 1, 1, none⟩ = some (.slice none 0 0) := by go_simp
  have d2 : ((w.alloc (.cells #[.int .i64 n, .slice a l.length cap] 24)).alloc (.cells #[.int .i64 0, .slice none 0 0] 24)).frozen? ⟨w.heap.size + 1, 0, none⟩ = false := by go_simp
  have d3 : ((w.alloc (.cells #[.int .i64 n, .slice a l.length cap] 24)).alloc (.cells #[.int .i64 0, .slice none 0 0] 24)).frozen? ⟨w.heap.size + 1, 1, none⟩ = false := by go_simp
  generalize ((w.alloc (.cells #[.int .i64 n, .slice a l.length cap] 24)).alloc (.cells #[.int .i64 0, .slice none 0 0] 24)) = W at E1 c0 c1 c2 c3 d2 d3 ⊢
  refine (Check_any n l a cap _ HL.out (HC.out.ext E1)).mono ?_
  rintro e w1 ⟨rfl, hE⟩
  rw [← HER.out]
  have E2 := E1.trans hE
  have d2 := (Below.frozen (p := ⟨w.heap.size + 1, 0, none⟩) hE (cell_lt c2)).trans d2
  have d3 := (Below.frozen (p := ⟨w.heap.size + 1, 1, none⟩) hE (cell_lt c3)).trans d3
  have c0 := hE.cell c0
  have c1 := hE.cell c1
  have c2 := hE.cell c2
  have c3 := hE.cell c3
  clear hE
  by_cases h0 : er = 0
  · subst h0
    have hck := HER.out.symm
    obtain ⟨hN1, hN6, hl0, hl64, hwk, _, _⟩ := ckSeq_zero hck
    obtain ⟨N, rfl⟩ := Int.eq_ofNat_of_zero_le (show 0 ≤ n by omega)
    have HFI := Lib.hid (ckWalk_fine hwk)
    have hs := HS.out
    rw [if_pos rfl] at hs
    have HS2 := Lib.hid hs
    have hm := HM.out
    rw [if_pos rfl] at hm
    have HM2 := Lib.hid hm
    have zw1 := cell_lt c2
    have zw := cell_lt c0
    dsimp only at zw zw1
    obtain ⟨i0, hi, hi0, hi1, hi2⟩ := info_parts infoInt
    clear hck hs HS hm HM hwk
    go_wp2
    go_loopw [19, 6] (fun i v wr => ∃ k : Nat, k ≤ N ∧ i = .int .i64 k ∧ (∃ vv, v = vv ∧ Hid (OwnsI wr vv (ints (k : Int)) ∧ ∀ b, vv.ownBlock = some b → w1.heap.size ≤ b)) ∧ Ext w1 wr) (fun i _ _ => N - (intOf i).toNat)
    case atStart => exact ⟨0, Nat.zero_le _, rfl, ⟨_, rfl, OwnsI.nil _, fun b hb => by cases hb⟩, Ext.refl _⟩
    case round =>
      obtain ⟨k, hk, rfl, ⟨vv, hvv, hO⟩, he⟩ := hrel
      obtain rfl := hvv.symm
      have hsz := he.size
      by_cases hlt : k < N
      · have O2 := Lib.hid hO.out.1
        have OB := Lib.hid hO.out.2
        have HSU := Lib.hid (ints_succ k)
        have hPl : (ints (k : Int)).length ≤ k := by rw [ints_length]; omega
        clear hO
        generalize ints (k : Int) = P at O2 HSU hPl
        go_wp2_with (at_builtin; refine wpList_append1 _ rfl _ _ 27 rfl 3 i0 (.int .i64 0) 1 8 Tryz.underlying27 hi hi0 hi1 hi2 rfl (by decide) vv P.length (P.map (Value.int .i64)) rfl ?ho ⟨wr.heap.size, 0, none⟩ 1 1 (by decide) [.int .i64 (k : Int)] rfl rfl ?hn ?c1 ?c2 ?c3 ?c4)
        case ho => exact O2.out.ext ((Ext.refl _).alloc _)
        case c1 => rfl
        case c2 => unfold maxLen; omega
        case c3 => omega
        case c4 =>
          intro v' w5 hown5 hend5
          have O5 : Hid (OwnsI w5 v' (ints ((k + 1 : Nat) : Int))) := by show OwnsI _ _ _; rw [HSU.out]; exact ownsI_succ hown5
          have B5 : Ext w1 w5 := (he.trans ((Ext.refl _).alloc _)).trans' (hend5.below (n := w1.heap.size) (by simp; omega) OB.out) (Nat.le_refl _)
          have OB5 : Hid (∀ b, v'.ownBlock = some b → w1.heap.size ≤ b) := hend5.ge (n := w1.heap.size) (by simp; omega) OB.out
          clear hown5 hend5 O2 OB HSU
          go_wp2
          refine ⟨⟨k + 1, by omega, by go_num, ⟨v', rfl, O5.out, OB5.out⟩, B5⟩, by simp [intOf]; omega⟩
      · have hke : k = N := by omega
        subst hke
        obtain ⟨hO1, hO2⟩ := hO.out
        have hil := ints_length (k : Int)
        obtain ⟨g, oc, rfl, hIA, hgb⟩ := hO1.intsAt (by rw [hil]; omega)
        have hgg := hO2 g hgb
        have hgr : g < wr.heap.size := cell_lt (hIA 0 (by rw [hil]; omega)).1
        have HIA := Lib.hid hIA
        have hil2 : (ints (k : Int)).length = k := by rw [hil]; omega
        have E4 := E2.trans he
        have c0r := he.cell c0
        have c1r := he.cell c1
        have hlen9 := isortI_len (k : Int) l
        have hrng := Lib.hid (fun j hj => isortI_rng (k : Int) l (j := j) hj)
        have hine := Lib.hid (fun i j hi hj => isortI_ne (k : Int) l (i := i) (j := j) hi hj)
        have hlop := Lib.hid (letters_of_places (k : Int) l)
        have HSS := Lib.hid (SortStable_any (cmpM l) (ints (k : Int)) g oc w.heap.size wr (by omega) HIA.out hgr (fun x y A hA => std1_any (.int .i64 (k : Int)) l x y a cap w.heap.size A (by omega) (HC.out.ext (E4.trans' hA.1 (by have := E2.size; omega))) (hA.cell (p := ⟨w.heap.size, 0, none⟩) (by show w.heap.size ≠ g; omega) c0r) (hA.cell (p := ⟨w.heap.size, 1, none⟩) (by show w.heap.size ≠ g; omega) c1r) rfl))
        rw [hil2] at HSS ⊢
        clear hO1 hO2 HIA hgb hO hil hil2
        generalize isortI (cmpM l) (ints (k : Int)) = d at HSS hrng hine hlop hlen9
        have hdl : d.length = k := by omega
        clear hlen9
        go_wp2_with fail
        refine HSS.out.mono ?_
        rintro e w5 ⟨rfl, hso⟩
        have HSO := Lib.hid hso
        have F5 : Ext w1 w5 := he.trans' hso.own.1 hgg
        clear hso HSS c0r c1r
        have hmk := makeInts k (by omega) w5
        have d2 := (Below.frozen (p := ⟨w.heap.size + 1, 0, none⟩) F5 (cell_lt c2)).trans d2
        have d3 := (Below.frozen (p := ⟨w.heap.size + 1, 1, none⟩) F5 (cell_lt c3)).trans d3
        have c0 := F5.cell c0
        have c1 := F5.cell c1
        have c2 := F5.cell c2
        have c3 := F5.cell c3
        go_wp2
        have EM : Ext w5 (w5.alloc (.cells (madeCells #[.int .i64 0] k) 3)) := (by repeat (first | with_reducible exact Ext.refl _ | with_reducible assumption | with_reducible apply Ext.drewN | with_reducible apply Ext.drew | with_reducible apply Ext.alloc | ((with_reducible refine Ext.set ?_ ?_ _); rotate_left; first | omega | (simp; omega)) | (with_reducible refine Ext.trans ?_ (by with_reducible assumption))))
        have hT0 := madeInts w5 k 3 rfl
        obtain ⟨tb, htb⟩ : ∃ tb, tb = w5.heap.size := ⟨_, rfl⟩
        have hg5 : g < tb := by rw [htb]; exact Nat.lt_of_lt_of_le hgr HSO.out.own.1.size
        have hD0 := Lib.hid (HSO.out.at_.ext EM)
        have F6 := F5.trans EM
        have d2 := (Below.frozen (p := ⟨w.heap.size + 1, 0, none⟩) EM (cell_lt c2)).trans d2
        have d3 := (Below.frozen (p := ⟨w.heap.size + 1, 1, none⟩) EM (cell_lt c3)).trans d3
        have c0 := EM.cell c0
        have c1 := EM.cell c1
        have c2 := EM.cell c2
        have c3 := EM.cell c3
        rw [← htb] at hT0 ⊢
        have hb6 : tb < (w5.alloc (.cells (madeCells #[.int .i64 0] k) 3)).heap.size := by rw [htb]; show _ < (w5.heap.push _).size; rw [Array.size_push]; omega
        clear hmk
        generalize w5.alloc (.cells (madeCells #[.int .i64 0] k) 3) = W6 at EM hT0 hD0 F6 d2 d3 c0 c1 c2 c3 hb6 ⊢
        have HTB := Lib.hid htb
        clear htb EM HSO
        have M0 : Hid (IntsAt W6 tb (List.replicate k 0) ∧ Own1 tb W6 W6 ∧ ∀ j, j < 0 → (List.replicate k (0 : Int)).getD (d.getD j 0).toNat 0 = (j : Int)) := ⟨hT0, Own1.ext (Ext.refl _) (Nat.le_of_lt hb6), fun j hj => by omega⟩
        clear hT0
        obtain ⟨wo, rfl⟩ : ∃ wo : World, wo = wr := ⟨_, rfl⟩
        go_loopw [35] (fun i wx => ∃ q : Nat, q ≤ k ∧ i = .int .i64 q ∧ ∃ t : List Int, t.length = k ∧ Hid (IntsAt wx tb t ∧ Own1 tb W6 wx ∧ ∀ j, j < q → t.getD (d.getD j 0).toNat 0 = (j : Int))) (fun i _ => k - (intOf i).toNat)
        case atStart => exact ⟨0, Nat.zero_le _, rfl, List.replicate k 0, List.length_replicate, M0⟩
        case round =>
          obtain ⟨q, hq, rfl, t, htl, M⟩ := hrel
          clear M0
          by_cases hqt : q < k
          · obtain ⟨e1, _⟩ := hD0.out q (by omega)
            have e1 := M.out.2.1.cell (p := ⟨g, q, none⟩) (by show g ≠ tb; omega) e1
            obtain ⟨hx0, hx1⟩ := hrng.out q (by omega)
            have HNE : Hid (∀ j, j < q → (d.getD j 0).toNat ≠ (d.getD q 0).toNat) := fun j hj e => by
              have h1 := hine.out j q (by omega) (by omega) (by omega)
              have h2 := hrng.out j (by omega)
              omega
            have HNX : Hid (∀ t : List Int, (∀ j, j < q → t.getD (d.getD j 0).toNat 0 = (j : Int)) → t.length = k → ∀ j, j < q + 1 → (t.set (d.getD q 0).toNat (q : Int)).getD (d.getD j 0).toNat 0 = (j : Int)) := fun t ht hl j hj => by
              by_cases hjq : j = q
              · subst hjq
                have h2 := hrng.out j (by omega)
                rw [List.getD_eq_getElem?_getD, List.getElem?_set, if_pos rfl, if_pos (by omega)]; rfl
              · have h1 := HNE.out j (by omega)
                have h2 := ht j (by omega)
                rw [List.getD_eq_getElem?_getD, List.getElem?_set, if_neg (Ne.symm h1), ← List.getD_eq_getElem?_getD]
                exact h2
            generalize d.getD q 0 = x at e1 hx0 hx1 HNX
            obtain ⟨xn, rfl⟩ := Int.eq_ofNat_of_zero_le hx0
            have hxn : xn < k := by omega
            have e2 := (M.out.1 xn (by omega)).1
            have e3 := (M.out.1 xn (by omega)).2
            have zg : g < wr.heap.size := cell_lt e1
            clear HNE hx0 hx1
            go_wp2
            have MN : Hid (IntsAt (wr.setCell ⟨tb, xn, none⟩ (.int .i64 (q : Int))) tb (t.set xn (q : Int)) ∧ Own1 tb W6 (wr.setCell ⟨tb, xn, none⟩ (.int .i64 (q : Int))) ∧ ∀ j, j < q + 1 → (t.set xn (q : Int)).getD (d.getD j 0).toNat 0 = (j : Int)) :=
              ⟨M.out.1.set (by omega) _, M.out.2.1.trans (Own1.setCell _ _), HNX.out t M.out.2.2 htl⟩
            refine ⟨⟨q + 1, by omega, by go_num, _, by rw [List.length_set]; exact htl, MN⟩, by simp [intOf]; omega⟩
          · have hqk : q = k := by omega
            subst hqk
            have hte := hlop.out t (by omega) (fun j hj => M.out.2.2 j (by omega))
            have HTE := Lib.hid hte
            have HIT := Lib.hid M.out.1
            have F7 : Ext w1 wr := F6.trans' M.out.2.1.1 (by have := F5.size; have := HTB.out; omega)
            have z6 : w.heap.size + 1 < tb := by have := F5.size; have := HTB.out; omega
            have OW := Lib.hid M.out.2.1
            have d2 := (OW.out.frozen (p := ⟨w.heap.size + 1, 0, none⟩) (by show w.heap.size + 1 ≠ tb; omega) c2).trans d2
            have d3 := (OW.out.frozen (p := ⟨w.heap.size + 1, 1, none⟩) (by show w.heap.size + 1 ≠ tb; omega) c3).trans d3
            have c0 := OW.out.cell (p := ⟨w.heap.size, 0, none⟩) (by show w.heap.size ≠ tb; omega) c0
            have c1 := OW.out.cell (p := ⟨w.heap.size, 1, none⟩) (by show w.heap.size ≠ tb; omega) c1
            have c2 := OW.out.cell (p := ⟨w.heap.size + 1, 0, none⟩) (by show w.heap.size + 1 ≠ tb; omega) c2
            have c3 := OW.out.cell (p := ⟨w.heap.size + 1, 1, none⟩) (by show w.heap.size + 1 ≠ tb; omega) c3
            have E7 := E2.trans F7
            clear hte M OW hrng hine hlop hD0
            go_wp2
            refine wp_region_heldE 5 (fun w' => w'.cell? ⟨w.heap.size, 0, none⟩ = some (.int .i64 (q : Int)) ∧ w'.cell? ⟨w.heap.size, 1, none⟩ = some (.slice a l.length cap)) (by kernel_rfl) ?_
            have ED : Ext wr wr.drew := (by repeat (first | with_reducible exact Ext.refl _ | with_reducible assumption | with_reducible apply Ext.drewN | with_reducible apply Ext.drew | with_reducible apply Ext.alloc | ((with_reducible refine Ext.set ?_ ?_ _); rotate_left; first | omega | (simp; omega)) | (with_reducible refine Ext.trans ?_ (by with_reducible assumption))))
            have d2 := (Below.frozen (p := ⟨w.heap.size + 1, 0, none⟩) ED (cell_lt c2)).trans d2
            have d3 := (Below.frozen (p := ⟨w.heap.size + 1, 1, none⟩) ED (cell_lt c3)).trans d3
            have c0 := ED.cell c0
            have c1 := ED.cell c1
            have c2 := ED.cell c2
            have c3 := ED.cell c3
            have E8 := E7.trans ED
            have HIT8 := Lib.hid (HIT.out.ext ED)
            clear HIT
            generalize wr.drew = W8 at E8 c0 c1 c2 c3 d2 d3 HIT8 ⊢
            have hS : W8.cell? ⟨w.heap.size, 0, none⟩ = some (.int .i64 (q : Int)) ∧ W8.cell? ⟨w.heap.size, 1, none⟩ = some (.slice a l.length cap) := ⟨c0, c1⟩
            have hc2 := c2
            have hc3 := c3
            have HLE := Lib.hid (letters_any t (some ⟨tb, 0, none⟩) q W8 (by omega) HIT8.out.cells (by rw [HTE.out]; exact letters_small (by omega) hN6))
            rw [htl] at HLE
            ((refine wpAnyE_take (i := 0) (oi := ?_) (v := ?_) ?_ (by kernel_rfl) ?_ ?_ (by assumption) ?_; rotate_left 2; (focus ((simp only [List.getElem?_toArray, List.getElem?_cons_zero]; exact rfl))); (focus (exact fun _ _ _ h => h)); (focus (refine Or.inl ⟨by rfl, ?_⟩; intro w hSw; (try dsimp only at hSw); (first | (go_simp; done) | (go_simp; with_reducible rfl)))); (try simp only [Act.put, List.setIfInBounds_toArray, List.set_cons_zero, List.set_cons_succ])); (refine wpAnyE_take (i := 1) (oi := ?_) (v := ?_) ?_ (by kernel_rfl) ?_ ?_ (by assumption) ?_; rotate_left 2; (focus ((simp only [List.getElem?_toArray, List.getElem?_cons_succ, List.getElem?_cons_zero]; exact rfl))); (focus (exact fun _ _ _ h => h)); (focus (refine Or.inl ⟨by rfl, ?_⟩; intro w hSw; (try dsimp only at hSw); (first | (go_simp; done) | (go_simp; with_reducible rfl)))); (try simp only [Act.put, List.setIfInBounds_toArray, List.set_cons_zero, List.set_cons_succ]))); (refine wpAnyE_pure (i := 4) (oi := ?_) (v := ?_) ?_ (by kernel_rfl) ?_ ?_ ?_ ?_; rotate_left 2; (focus ((simp only [List.getElem?_toArray, List.getElem?_cons_succ, List.getElem?_cons_zero]; exact rfl))); (focus (exact fun _ _ _ h => h)); (focus (refine Or.inl ⟨by rfl, ?_⟩; intro w hSw; clear hSw; (first | (go_simp; done) | (go_simp; with_reducible rfl)))); (focus (first | exact (fun _ => by assumption) | (intro hlst; exact absurd hlst (by kernel_rfl)) | (intro hlst; cases hlst))); (try simp only [Act.put, List.setIfInBounds_toArray, List.set_cons_zero, List.set_cons_succ]))
            (refine wpAnyE_one (i := 2) (o := ?_) ?_ (by kernel_rfl) (fun K hK => ?_); rotate_left; (focus ((simp only [List.getElem?_toArray, List.getElem?_cons_succ, List.getElem?_cons_zero]; exact rfl))); go_simp; refine HLE.out.mono ?_; rintro e w9 ⟨mb, rfl, hma, hmz, hE⟩; have HMA := Lib.hid hma; clear hma; go_wp2_with fail; refine hK.out _ _ ?_ (fun hHeld => ?_); rotate_left; clear hK K; (try simp only [Act.put, List.setIfInBounds_toArray, List.set_cons_zero, List.set_cons_succ]))
            rotate_left
            · exact ⟨hE.cell hS.1, hE.cell hS.2⟩
            clear hHeld HLE
            have c2 := hE.cell c2
            have c3 := hE.cell c3
            have HRN := Lib.hid (renamed_own (q : Int) l a cap mb q (listFn t) w9 (by omega) (by rw [HTE.out]; exact renOk_letters HFI.out hN6) (HC.out.ext (E8.trans hE)) (by omega) HMA.out)
            obtain ⟨P, hP⟩ : ∃ P, P = l.map (renStep (listFn t)) := ⟨_, rfl⟩
            have hren : ren (listFn t) ((q : Int), l) = ((q : Int), P) := by rw [hP]; rfl
            rw [hren] at HRN
            have HREN := Lib.hid hren
            clear hP hren
            (refine wpAnyE_one (i := 3) (o := ?_) ?_ (by kernel_rfl) (fun K hK => ?_); rotate_left; (focus ((simp only [List.getElem?_toArray, List.getElem?_cons_succ, List.getElem?_cons_zero]; exact rfl))); go_simp; refine HRN.out.mono ?_; rintro e w10 ⟨o, ov, ho, rfl, hO, hob, hE2⟩; dsimp only at hO; have HO := Lib.hid hO; have HOB := Lib.hid hob; obtain ⟨ua, uc, rfl, _, _⟩ := hO.reads; clear hO hob; go_wp2_with fail; refine hK.out _ _ ?_ (fun hHeld => ?_); rotate_left; clear hK K; (try simp only [Act.put, List.setIfInBounds_toArray, List.set_cons_zero, List.set_cons_succ]))
            rotate_left
            · exact ⟨hE2.cell (hE.cell hS.1), hE2.cell (hE.cell hS.2)⟩
            clear hHeld HRN
            have z8 : w.heap.size + 1 < W8.heap.size := cell_lt hc2
            have z10 := hE.size
            have d2 := (Below.frozen (p := ⟨w.heap.size + 1, 0, none⟩) (hE.trans hE2) (cell_lt hc2)).trans d2
            have d3 := (Below.frozen (p := ⟨w.heap.size + 1, 1, none⟩) (hE.trans hE2) (cell_lt hc3)).trans d3
            have c2 := hE2.cell c2
            have c3 := hE2.cell c3
            have E10 := (E8.trans hE).trans hE2
            have HIT10 := Lib.hid (HIT8.out.ext (hE.trans hE2))
            clear HIT8 hE hE2
            (refine wpAnyE_free (i := 5) (o := ?_) ?_ (by kernel_rfl) (by kernel_rfl) (fun K hK => ?_); rotate_left; (focus ((simp only [List.getElem?_toArray, List.getElem?_cons_succ, List.getElem?_cons_zero]; exact rfl))); go_simp; refine hK.out _ _ ?_; clear hK K; (try simp only [Act.put, List.setIfInBounds_toArray, List.set_cons_zero, List.set_cons_succ]))
            ((refine wpAnyE_pure (i := 6) (oi := ?_) (v := ?_) ?_ (by kernel_rfl) ?_ ?_ ?_ ?_; rotate_left 2; (focus ((simp only [List.getElem?_toArray, List.getElem?_cons_succ, List.getElem?_cons_zero]; exact rfl))); (focus (exact fun _ _ _ h => h)); (focus (refine Or.inl ⟨by rfl, ?_⟩; intro w hSw; clear hSw; (first | (go_simp; done) | (go_simp; with_reducible rfl)))); (focus (first | exact (fun _ => by assumption) | (intro hlst; exact absurd hlst (by kernel_rfl)) | (intro hlst; cases hlst))); (try simp only [Act.put, List.setIfInBounds_toArray, List.set_cons_zero, List.set_cons_succ])); (refine wpAnyE_pure (i := 7) (oi := ?_) (v := ?_) ?_ (by kernel_rfl) ?_ ?_ ?_ ?_; rotate_left 2; (focus ((simp only [List.getElem?_toArray, List.getElem?_cons_succ, List.getElem?_cons_zero]; exact rfl))); (focus (exact fun _ _ _ h => h)); (focus (refine Or.inl ⟨by rfl, ?_⟩; intro w hSw; clear hSw; (first | (go_simp; done) | (go_simp; with_reducible rfl)))); (focus (first | exact (fun _ => by assumption) | (intro hlst; exact absurd hlst (by kernel_rfl)) | (intro hlst; cases hlst))); (try simp only [Act.put, List.setIfInBounds_toArray, List.set_cons_zero, List.set_cons_succ])))
            refine wpAnyE_done (by kernel_rfl) ?_ _
            have EF : Ext w ((w10.setCell ⟨w.heap.size + 1, 0, none⟩ (.int .i64 (q : Int))).setCell ⟨w.heap.size + 1, 1, none⟩ (.slice ua P.length uc)) := (E10.set (by omega) _).set (by omega) _
            have HSV : Hid (SeqV ((w10.setCell ⟨w.heap.size + 1, 0, none⟩ (.int .i64 (q : Int))).setCell ⟨w.heap.size + 1, 1, none⟩ (.slice ua P.length uc)) (.agg #[.int .i64 (q : Int), .slice ua P.length uc]) s) := by
              have cc : Chg (fun b => b ≤ o) w10 ((w10.setCell ⟨w.heap.size + 1, 0, none⟩ (.int .i64 (q : Int))).setCell ⟨w.heap.size + 1, 1, none⟩ (.slice ua P.length uc)) :=
                (Chg.setCell (B := fun b => b ≤ o) ⟨w.heap.size + 1, 0, none⟩ _ (by show w.heap.size + 1 ≤ o; omega)).trans (Chg.setCell (B := fun b => b ≤ o) ⟨w.heap.size + 1, 1, none⟩ _ (by show w.heap.size + 1 ≤ o; omega))
              have h1 := (HO.out.chg cc (fun b' hb' e => by have := HOB.out b' hb'; omega)).reads
              show SeqV _ _ _
              rw [HS2.out, show standard ((q : Int), l) = ((q : Int), P) from by rw [← HREN.out, HTE.out]; rfl]
              exact ⟨_, rfl, h1⟩
            have HCF : Hid (CellsI ((w10.setCell ⟨w.heap.size + 1, 0, none⟩ (.int .i64 (q : Int))).setCell ⟨w.heap.size + 1, 1, none⟩ (.slice ua P.length uc)) (some ⟨tb, 0, none⟩) m) := by
              show CellsI _ _ _
              rw [HM2.out, ← HTE.out]
              exact ((HIT10.out.own1 (Own1.setCell _ _) (by omega)).own1 (Own1.setCell _ _) (by omega)).cells
            have hml : m.length = q := by rw [HM2.out, ← HTE.out]; exact htl
            have HML := Lib.hid hml
            clear hml
            go_wp2
            exact bodyPost_ret (v := .tuple #[.agg #[.int .i64 (q : Int), .slice ua P.length uc], .slice (some ⟨tb, 0, none⟩) q q, .int .i64 0]) (by rw [results_cell_tmp2s rfl]; go_simp) rfl ⟨_, _, q, by rw [HML.out], HSV.out, HCF.out, by rw [HML.out]; unfold maxLen; omega, EF⟩
  · have hn : (er != 0) = true := by simp [h0]
    have hs := HS.out
    rw [if_neg h0] at hs
    subst hs
    have hm := HM.out
    rw [if_neg h0] at hm
    subst hm
    have EF : Ext w ((w1.setCell ⟨w.heap.size + 1, 0, none⟩ (.int .i64 0)).setCell ⟨w.heap.size + 1, 1, none⟩ (.slice none 0 0)) := (E2.set (by omega) _).set (by omega) _
    clear h0 HS HM
    go_wp2
    exact bodyPost_ret (v := .tuple #[.agg #[.int .i64 0, .slice none 0 0], .slice none 0 0, .int .i64 er]) (by rw [results_cell_tmp2s rfl]; go_simp) rfl ⟨_, none, 0, rfl, seqV_zero _, CellsI.nil _ _, by simp, EF⟩
end Go.Proofs.YtnhbogmihnnpjaaGreat
