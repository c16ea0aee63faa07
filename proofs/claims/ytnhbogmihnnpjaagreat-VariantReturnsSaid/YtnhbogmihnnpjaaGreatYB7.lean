/- Steps of the proof: QMergeR, QJoinR. No conditions. -/
import Derived.Deep.DeepCutAuto
import Derived.Test.YtnhbogmihnnpjaaGreatYB1
import Derived.Test.YtnhbogmihnnpjaaGreatYB2
import Derived.Test.YtnhbogmihnnpjaaGreatYB3
import Derived.Test.YtnhbogmihnnpjaaGreatYB4
import Derived.Test.YtnhbogmihnnpjaaGreatYB5
import Derived.Test.YtnhbogmihnnpjaaGreatYB6
/- The reference's Merge. -/
namespace Go.Proofs.YtnhbogmihnnpjaaGreat
open Go.RowKit

set_option maxHeartbeats 8000000 in
set_option maxRecDepth 100000 in
theorem MergeR_in (n : Int) (l : List Stp) (k : Nat) (a : Option Addr) (cap : Nat) (w : World) (hl : l.length ≤ maxLen) (hc : CellsP w a l) (hroom : Room a l.length cap) (hck : ckSeq (n, l) = 0) (hk : k + 1 < l.length) (s : Sq) (er : Int) (hs : er = (if apart (l.getD k stp0) (l.getD (k + 1) stp0) && (l.getD k stp0).2 == 0 then 0 else 14) ∧ s = if er = 0 then merged (n, l) k else sq0) :
    Calls Tryz.prog 20 #[.agg #[.int .i64 n, .slice a l.length cap], .int .i64 (k : Int)] w (SeqErr s er w) := by
  have HS := Lib.hid hs
  clear hs
  have HC := Lib.hid hc
  have HL := Lib.hid hl
  have HCK := Lib.hid hck
  have hl64 := (ckSeq_zero hck).2.2.2.1
  have hF := ckWalk_fine (ckSeq_zero hck).2.2.2.2.1
  have HF := Lib.hid hF
  have hzs : ∀ w, (zeroValue 24).run Tryz.prog w = .ok (.agg #[.int .i64 0, .slice none 0 0]) w := fun _ => by kernel_rfl
  have hrm1 := hroom.1
  have hrm2 := hroom.2.1
  clear hc hl hck hF hroom
  go_enter Tryz.func20, Tryz.ntmps20
  go_wp2_with fail
  have E1 : Ext w ((w.alloc (.cells #[.int .i64 n, .slice a l.length cap] 24)).alloc (.cells #[.int .i64 0, .slice none 0 0] 24)) := (by repeat (first | with_reducible exact Ext.refl _ | with_reducible assumption | with_reducible apply Ext.drewN | with_reducible apply Ext.drew | with_reducible apply Ext.alloc | ((with_reducible refine Ext.set ?_ ?_ _); rotate_left; first | omega | (simp; omega)) | (with_reducible refine Ext.trans ?_ (by with_reducible assumption))))
  have c0 : ((w.alloc (.cells #[.int .i64 n, .slice a l.length cap] 24)).alloc (.cells #[.int .i64 0, .slice none 0 0] 24)).cell? ⟨w.heap.size, 0, none⟩ = some (.int .i64 n) := by go_simp
  have c1 : ((w.alloc (.cells #[.int .i64 n, .slice a l.length cap] 24)).alloc (.cells #[.int .i64 0, .slice none 0 0] 24)).cell? ⟨w.heap.size, 1, none⟩ = some (.slice a l.length cap) := by go_simp
  have c2 : ((w.alloc (.cells #[.int .i64 n, .slice a l.length cap] 24)).alloc (.cells #[.int .i64 0, .slice none 0 0] 24)).cell? ⟨w.heap.size + 1, 0, none⟩ = some (.int .i64 0) := by go_simp
  have c3 : ((w.alloc (.cells #[.int .i64 n, .slice a l.length cap] 24)).alloc (.cells #[.int .i64 0, .slice none 0 0] 24)).cell? ⟨w.heap.size + 1, 1, none⟩ = some (.slice none 0 0) := by go_simp
  have d2 : ((w.alloc (.cells #[.int .i64 n, .slice a l.length cap] 24)).alloc (.cells #[.int .i64 0, .slice none 0 0] 24)).frozen? ⟨w.heap.size + 1, 0, none⟩ = false := by go_simp
  have d3 : ((w.alloc (.cells #[.int .i64 n, .slice a l.length cap] 24)).alloc (.cells #[.int .i64 0, .slice none 0 0] 24)).frozen? ⟨w.heap.size + 1, 1, none⟩ = false := by go_simp
  generalize ((w.alloc (.cells #[.int .i64 n, .slice a l.length cap] 24)).alloc (.cells #[.int .i64 0, .slice none 0 0] 24)) = W at E1 c0 c1 c2 c3 d2 d3 ⊢
  refine (CheckR_any n l a cap _ HL.out (HC.out.ext E1)).mono ?_
  rintro e w1 ⟨rfl, hE⟩
  rw [HCK.out]
  have E2 := E1.trans hE
  have d2 := (Below.frozen (p := ⟨w.heap.size + 1, 0, none⟩) hE (cell_lt c2)).trans d2
  have d3 := (Below.frozen (p := ⟨w.heap.size + 1, 1, none⟩) hE (cell_lt c3)).trans d3
  have c0 := hE.cell c0
  have c1 := hE.cell c1
  have c2 := hE.cell c2
  have c3 := hE.cell c3
  clear hE
  obtain ⟨b, off, va, rfl, p1, p2, p3⟩ := HC.out.ext E2 k (by omega)
  obtain ⟨_, _, vb, e0, q1, q2, q3⟩ := HC.out.ext E2 (k + 1) hk
  cases e0
  have HFA := Lib.hid (HF.out k (by omega))
  have HFB := Lib.hid (HF.out (k + 1) hk)
  have g1 : ¬ ((k : Int) < 0) := by omega
  have g2 : IntKind.i64.wrap ((l.length : Int) - 1) = (l.length : Int) - 1 := IntWalk.i64_in _ (by omega)
  have g3 : ¬ ((l.length : Int) - 1 ≤ (k : Int)) := by omega
  have g4 : (0 : Int) ≤ (k : Int) := by omega
  have g5 : (k : Int) < (l.length : Int) := by omega
  have g6 : IntKind.i64.wrap ((k : Int) + 1) = (k : Int) + 1 := IntWalk.i64_in _ (by omega)
  have g7 : (0 : Int) ≤ (k : Int) + 1 := by omega
  have g8 : (k : Int) + 1 < (l.length : Int) := by omega
  obtain ⟨A, hA⟩ : ∃ A, A = l.getD k stp0 := ⟨_, rfl⟩
  obtain ⟨B, hB⟩ : ∃ B, B = l.getD (k + 1) stp0 := ⟨_, rfl⟩
  rw [← hA] at p2 p3 HFA HS
  rw [← hB] at q2 q3 HFB HS
  have HA := Lib.hid hA
  have HB := Lib.hid hB
  clear hA hB
  obtain ⟨sa, wa⟩ := A
  obtain ⟨sb, wb⟩ := B
  obtain ⟨aa, ca, rfl, pa, pl⟩ := p2
  obtain ⟨ab, cb, rfl, qa, ql⟩ := q2
  have PA := Lib.hid pa
  have PL := Lib.hid pl
  have QA := Lib.hid qa
  have QL := Lib.hid ql
  clear pa pl qa ql
  dsimp only at p1 p3 q1 q3 HFA HFB PA PL QA QL HS
  go_wp2
  go_cut [7, 8] (fun x y wx => ∃ pb qb, x = .pointer (some ⟨pb, 0, none⟩) ∧ y = .pointer (some ⟨qb, 0, none⟩) ∧ wx.cell? ⟨pb, 0, none⟩ = some (.slice aa sa.length ca) ∧ wx.cell? ⟨pb, 1, none⟩ = some (.int .i64 wa) ∧ wx.cell? ⟨qb, 0, none⟩ = some (.slice ab sb.length cb) ∧ wx.cell? ⟨qb, 1, none⟩ = some (.int .i64 wb) ∧ Ext w1 wx)
  case first =>
    refine wp_region_heldE 99 (fun w' => w'.cell? ⟨w.heap.size, 1, none⟩ = some (.slice (some ⟨b, off, none⟩) l.length cap) ∧ w'.cell? ⟨b, off + k * 2, none⟩ = some (.slice aa sa.length ca) ∧ w'.cell? ⟨b, off + k * 2 + 1, none⟩ = some (.int .i64 wa) ∧ w'.cell? ⟨b, off + (k + 1) * 2, none⟩ = some (.slice ab sb.length cb) ∧ w'.cell? ⟨b, off + (k + 1) * 2 + 1, none⟩ = some (.int .i64 wb)) (by kernel_rfl) ?_
    have ED : Ext w1 w1.drew := (by repeat (first | with_reducible exact Ext.refl _ | with_reducible assumption | with_reducible apply Ext.drewN | with_reducible apply Ext.drew | with_reducible apply Ext.alloc | ((with_reducible refine Ext.set ?_ ?_ _); rotate_left; first | omega | (simp; omega)) | (with_reducible refine Ext.trans ?_ (by with_reducible assumption))))
    have hS : w1.drew.cell? ⟨w.heap.size, 1, none⟩ = some (.slice (some ⟨b, off, none⟩) l.length cap) ∧ w1.drew.cell? ⟨b, off + k * 2, none⟩ = some (.slice aa sa.length ca) ∧ w1.drew.cell? ⟨b, off + k * 2 + 1, none⟩ = some (.int .i64 wa) ∧ w1.drew.cell? ⟨b, off + (k + 1) * 2, none⟩ = some (.slice ab sb.length cb) ∧ w1.drew.cell? ⟨b, off + (k + 1) * 2 + 1, none⟩ = some (.int .i64 wb) := ⟨ED.cell c1, ED.cell p1, ED.cell p3, ED.cell q1, ED.cell q3⟩
    clear c0 c1 c2 c3 d2 d3 p1 p3 q1 q3 PA QA
    generalize w1.drew = W2 at ED hS ⊢
    ((refine wpAnyE_take (i := 0) (oi := ?_) (v := ?_) ?_ (by kernel_rfl) ?_ ?_ (by assumption) ?_; rotate_left 2; (focus ((simp only [List.getElem?_toArray, List.getElem?_cons_zero]; exact rfl))); (focus (exact fun _ _ _ h => h)); (focus (refine Or.inl ⟨by rfl, ?_⟩; intro w hSw; (try dsimp only at hSw); (first | (go_simp; done) | (go_simp; with_reducible rfl)))); (try simp only [Act.put, List.setIfInBounds_toArray, List.set_cons_zero, List.set_cons_succ])); (refine wpAnyE_take (i := 1) (oi := ?_) (v := ?_) ?_ (by kernel_rfl) ?_ ?_ (by assumption) ?_; rotate_left 2; (focus ((simp only [List.getElem?_toArray, List.getElem?_cons_succ, List.getElem?_cons_zero]; exact rfl))); (focus (exact fun _ _ _ h => h)); (focus (refine Or.inl ⟨by rfl, ?_⟩; intro w hSw; (try dsimp only at hSw); (first | (go_simp; done) | (go_simp; with_reducible rfl)))); (try simp only [Act.put, List.setIfInBounds_toArray, List.set_cons_zero, List.set_cons_succ])); (refine wpAnyE_take (i := 2) (oi := ?_) (v := ?_) ?_ (by kernel_rfl) ?_ ?_ (by assumption) ?_; rotate_left 2; (focus ((simp only [List.getElem?_toArray, List.getElem?_cons_succ, List.getElem?_cons_zero]; exact rfl))); (focus (exact fun _ _ _ h => h)); (focus (refine Or.inl ⟨by rfl, ?_⟩; intro w hSw; (try dsimp only at hSw); (first | (go_simp; done) | (go_simp; with_reducible rfl)))); (try simp only [Act.put, List.setIfInBounds_toArray, List.set_cons_zero, List.set_cons_succ])); (refine wpAnyE_take (i := 3) (oi := ?_) (v := ?_) ?_ (by kernel_rfl) ?_ ?_ (by assumption) ?_; rotate_left 2; (focus ((simp only [List.getElem?_toArray, List.getElem?_cons_succ, List.getElem?_cons_zero]; exact rfl))); (focus (exact fun _ _ _ h => h)); (focus (refine Or.inl ⟨by rfl, ?_⟩; intro w hSw; (try dsimp only at hSw); (first | (go_simp; done) | (go_simp; with_reducible rfl)))); (try simp only [Act.put, List.setIfInBounds_toArray, List.set_cons_zero, List.set_cons_succ])); (refine wpAnyE_take (i := 4) (oi := ?_) (v := ?_) ?_ (by kernel_rfl) ?_ ?_ (by assumption) ?_; rotate_left 2; (focus ((simp only [List.getElem?_toArray, List.getElem?_cons_succ, List.getElem?_cons_zero]; exact rfl))); (focus (exact fun _ _ _ h => h)); (focus (refine Or.inl ⟨by rfl, ?_⟩; intro w hSw; (try dsimp only at hSw); (first | (go_simp; done) | (go_simp; with_reducible rfl)))); (try simp only [Act.put, List.setIfInBounds_toArray, List.set_cons_zero, List.set_cons_succ])); (refine wpAnyE_take (i := 5) (oi := ?_) (v := ?_) ?_ (by kernel_rfl) ?_ ?_ (by assumption) ?_; rotate_left 2; (focus ((simp only [List.getElem?_toArray, List.getElem?_cons_succ, List.getElem?_cons_zero]; exact rfl))); (focus (exact fun _ _ _ h => h)); (focus (refine Or.inl ⟨by rfl, ?_⟩; intro w hSw; (try dsimp only at hSw); (first | (go_simp; done) | (go_simp; with_reducible rfl)))); (try simp only [Act.put, List.setIfInBounds_toArray, List.set_cons_zero, List.set_cons_succ])); (refine wpAnyE_take (i := 6) (oi := ?_) (v := ?_) ?_ (by kernel_rfl) ?_ ?_ (by assumption) ?_; rotate_left 2; (focus ((simp only [List.getElem?_toArray, List.getElem?_cons_succ, List.getElem?_cons_zero]; exact rfl))); (focus (exact fun _ _ _ h => h)); (focus (refine Or.inl ⟨by rfl, ?_⟩; intro w hSw; (try dsimp only at hSw); (first | (go_simp; done) | (go_simp; with_reducible rfl)))); (try simp only [Act.put, List.setIfInBounds_toArray, List.set_cons_zero, List.set_cons_succ])); (refine wpAnyE_take (i := 7) (oi := ?_) (v := ?_) ?_ (by kernel_rfl) ?_ ?_ (by assumption) ?_; rotate_left 2; (focus ((simp only [List.getElem?_toArray, List.getElem?_cons_succ, List.getElem?_cons_zero]; exact rfl))); (focus (exact fun _ _ _ h => h)); (focus (refine Or.inl ⟨by rfl, ?_⟩; intro w hSw; (try dsimp only at hSw); (first | (go_simp; done) | (go_simp; with_reducible rfl)))); (try simp only [Act.put, List.setIfInBounds_toArray, List.set_cons_zero, List.set_cons_succ])); (refine wpAnyE_take (i := 8) (oi := ?_) (v := ?_) ?_ (by kernel_rfl) ?_ ?_ (by assumption) ?_; rotate_left 2; (focus ((simp only [List.getElem?_toArray, List.getElem?_cons_succ, List.getElem?_cons_zero]; exact rfl))); (focus (exact fun _ _ _ h => h)); (focus (refine Or.inl ⟨by rfl, ?_⟩; intro w hSw; (try dsimp only at hSw); (first | (go_simp; done) | (go_simp; with_reducible rfl)))); (try simp only [Act.put, List.setIfInBounds_toArray, List.set_cons_zero, List.set_cons_succ])); (refine wpAnyE_take (i := 9) (oi := ?_) (v := ?_) ?_ (by kernel_rfl) ?_ ?_ (by assumption) ?_; rotate_left 2; (focus ((simp only [List.getElem?_toArray, List.getElem?_cons_succ, List.getElem?_cons_zero]; exact rfl))); (focus (exact fun _ _ _ h => h)); (focus (refine Or.inl ⟨by rfl, ?_⟩; intro w hSw; (try dsimp only at hSw); (first | (go_simp; done) | (go_simp; with_reducible rfl)))); (try simp only [Act.put, List.setIfInBounds_toArray, List.set_cons_zero, List.set_cons_succ])); (refine wpAnyE_take (i := 10) (oi := ?_) (v := ?_) ?_ (by kernel_rfl) ?_ ?_ (by assumption) ?_; rotate_left 2; (focus ((simp only [List.getElem?_toArray, List.getElem?_cons_succ, List.getElem?_cons_zero]; exact rfl))); (focus (exact fun _ _ _ h => h)); (focus (refine Or.inl ⟨by rfl, ?_⟩; intro w hSw; (try dsimp only at hSw); (first | (go_simp; done) | (go_simp; with_reducible rfl)))); (try simp only [Act.put, List.setIfInBounds_toArray, List.set_cons_zero, List.set_cons_succ])))
    refine wpAnyE_two (i := 11) (j := 12) (o := ?_) (p := ?_) ?_ ?_ (by kernel_rfl) (fun K hK => ?_) (fun K hK => ?_)
    rotate_left 2
    · simp only [List.getElem?_toArray, List.getElem?_cons_succ, List.getElem?_cons_zero]; exact rfl
    · simp only [List.getElem?_toArray, List.getElem?_cons_succ, List.getElem?_cons_zero]; exact rfl
    · go_simp
      have X1 : Ext W2 (W2.alloc (.cells #[.slice none 0 0, .int .i64 0] 87)) := (by repeat (first | with_reducible exact Ext.refl _ | with_reducible assumption | with_reducible apply Ext.drewN | with_reducible apply Ext.drew | with_reducible apply Ext.alloc | ((with_reducible refine Ext.set ?_ ?_ _); rotate_left; first | omega | (simp; omega)) | (with_reducible refine Ext.trans ?_ (by with_reducible assumption))))
      refine hK.out _ _ ⟨X1.cell hS.1, X1.cell hS.2.1, X1.cell hS.2.2.1, X1.cell hS.2.2.2.1, X1.cell hS.2.2.2.2⟩ (fun hHeld => ?_)
      clear hK K
      (try simp only [Act.put, List.setIfInBounds_toArray, List.set_cons_zero, List.set_cons_succ])
      have X2 : Ext W2 ((W2.alloc (.cells #[.slice none 0 0, .int .i64 0] 87)).alloc (.cells #[.slice none 0 0, .int .i64 0] 87)) := (by repeat (first | with_reducible exact Ext.refl _ | with_reducible assumption | with_reducible apply Ext.drewN | with_reducible apply Ext.drew | with_reducible apply Ext.alloc | ((with_reducible refine Ext.set ?_ ?_ _); rotate_left; first | omega | (simp; omega)) | (with_reducible refine Ext.trans ?_ (by with_reducible assumption))))
      (refine wpAnyE_one (i := 12) (o := ?_) ?_ (by kernel_rfl) (fun K hK => ?_); rotate_left; (focus ((simp only [List.getElem?_toArray, List.getElem?_cons_succ, List.getElem?_cons_zero]; exact rfl))); go_simp; refine hK.out _ _ ?_ (fun hHeld => ?_); rotate_left; clear hK K; (try simp only [Act.put, List.setIfInBounds_toArray, List.set_cons_zero, List.set_cons_succ]))
      rotate_left
      · exact ⟨X2.cell hS.1, X2.cell hS.2.1, X2.cell hS.2.2.1, X2.cell hS.2.2.2.1, X2.cell hS.2.2.2.2⟩
      have m0 : ((W2.alloc (.cells #[.slice none 0 0, .int .i64 0] 87)).alloc (.cells #[.slice none 0 0, .int .i64 0] 87)).cell? ⟨W2.heap.size, 0, none⟩ = some (.slice none 0 0) := by go_simp
      have m1 : ((W2.alloc (.cells #[.slice none 0 0, .int .i64 0] 87)).alloc (.cells #[.slice none 0 0, .int .i64 0] 87)).cell? ⟨W2.heap.size, 1, none⟩ = some (.int .i64 0) := by go_simp
      have m2 : ((W2.alloc (.cells #[.slice none 0 0, .int .i64 0] 87)).alloc (.cells #[.slice none 0 0, .int .i64 0] 87)).cell? ⟨W2.heap.size + 1, 0, none⟩ = some (.slice none 0 0) := by go_simp
      have m3 : ((W2.alloc (.cells #[.slice none 0 0, .int .i64 0] 87)).alloc (.cells #[.slice none 0 0, .int .i64 0] 87)).cell? ⟨W2.heap.size + 1, 1, none⟩ = some (.int .i64 0) := by go_simp
      have n0 : ((W2.alloc (.cells #[.slice none 0 0, .int .i64 0] 87)).alloc (.cells #[.slice none 0 0, .int .i64 0] 87)).frozen? ⟨W2.heap.size, 0, none⟩ = false := by go_simp
      have n1 : ((W2.alloc (.cells #[.slice none 0 0, .int .i64 0] 87)).alloc (.cells #[.slice none 0 0, .int .i64 0] 87)).frozen? ⟨W2.heap.size, 1, none⟩ = false := by go_simp
      have n2 : ((W2.alloc (.cells #[.slice none 0 0, .int .i64 0] 87)).alloc (.cells #[.slice none 0 0, .int .i64 0] 87)).frozen? ⟨W2.heap.size + 1, 0, none⟩ = false := by go_simp
      have n3 : ((W2.alloc (.cells #[.slice none 0 0, .int .i64 0] 87)).alloc (.cells #[.slice none 0 0, .int .i64 0] 87)).frozen? ⟨W2.heap.size + 1, 1, none⟩ = false := by go_simp
      clear hHeld X1
      generalize (W2.alloc (.cells #[.slice none 0 0, .int .i64 0] 87)).alloc (.cells #[.slice none 0 0, .int .i64 0] 87) = W3 at X2 m0 m1 m2 m3 n0 n1 n2 n3 ⊢
      obtain ⟨xb, hxb, hxl⟩ : ∃ xb, xb = W2.heap.size ∧ W2.heap.size ≤ xb := ⟨_, rfl, Nat.le_refl _⟩
      rw [← hxb] at m0 m1 m2 m3 n0 n1 n2 n3 ⊢
      clear hxb
      have X3 : Ext W2 ((W3.setCell ⟨xb, 0, none⟩ (.slice aa sa.length ca)).setCell ⟨xb, 1, none⟩ (.int .i64 wa)) := (X2.set (by omega) _).set (by omega) _
      have X4 : Ext W2 ((((W3.setCell ⟨xb, 0, none⟩ (.slice aa sa.length ca)).setCell ⟨xb, 1, none⟩ (.int .i64 wa)).setCell ⟨(xb + 1), 0, none⟩ (.slice ab sb.length cb)).setCell ⟨(xb + 1), 1, none⟩ (.int .i64 wb)) := (X3.set (by omega) _).set (by omega) _
      (refine wpAnyE_one (i := 13) (o := ?_) ?_ (by kernel_rfl) (fun K hK => ?_); rotate_left; (focus ((simp only [List.getElem?_toArray, List.getElem?_cons_succ, List.getElem?_cons_zero]; exact rfl))); go_simp; refine hK.out _ _ ?_ (fun hHeld => ?_); rotate_left; clear hK K; (try simp only [Act.put, List.setIfInBounds_toArray, List.set_cons_zero, List.set_cons_succ]))
      rotate_left
      · exact ⟨X3.cell hS.1, X3.cell hS.2.1, X3.cell hS.2.2.1, X3.cell hS.2.2.2.1, X3.cell hS.2.2.2.2⟩
      clear hHeld
      (refine wpAnyE_one (i := 14) (o := ?_) ?_ (by kernel_rfl) (fun K hK => ?_); rotate_left; (focus ((simp only [List.getElem?_toArray, List.getElem?_cons_succ, List.getElem?_cons_zero]; exact rfl))); go_simp; refine hK.out _ _ ?_ (fun hHeld => ?_); rotate_left; clear hK K; (try simp only [Act.put, List.setIfInBounds_toArray, List.set_cons_zero, List.set_cons_succ]))
      rotate_left
      · exact ⟨X4.cell hS.1, X4.cell hS.2.1, X4.cell hS.2.2.1, X4.cell hS.2.2.2.1, X4.cell hS.2.2.2.2⟩
      clear hHeld
      refine wpAnyE_done (by kernel_rfl) ?_ _
      go_wp2_with fail
      go_meet
      refine ⟨xb, (xb + 1), rfl, rfl, ?_, ?_, ?_, ?_, ED.trans X4⟩
      all_goals go_simp
    · go_simp
      have X1 : Ext W2 (W2.alloc (.cells #[.slice none 0 0, .int .i64 0] 87)) := (by repeat (first | with_reducible exact Ext.refl _ | with_reducible assumption | with_reducible apply Ext.drewN | with_reducible apply Ext.drew | with_reducible apply Ext.alloc | ((with_reducible refine Ext.set ?_ ?_ _); rotate_left; first | omega | (simp; omega)) | (with_reducible refine Ext.trans ?_ (by with_reducible assumption))))
      refine hK.out _ _ ⟨X1.cell hS.1, X1.cell hS.2.1, X1.cell hS.2.2.1, X1.cell hS.2.2.2.1, X1.cell hS.2.2.2.2⟩ (fun hHeld => ?_)
      clear hK K
      (try simp only [Act.put, List.setIfInBounds_toArray, List.set_cons_zero, List.set_cons_succ])
      have X2 : Ext W2 ((W2.alloc (.cells #[.slice none 0 0, .int .i64 0] 87)).alloc (.cells #[.slice none 0 0, .int .i64 0] 87)) := (by repeat (first | with_reducible exact Ext.refl _ | with_reducible assumption | with_reducible apply Ext.drewN | with_reducible apply Ext.drew | with_reducible apply Ext.alloc | ((with_reducible refine Ext.set ?_ ?_ _); rotate_left; first | omega | (simp; omega)) | (with_reducible refine Ext.trans ?_ (by with_reducible assumption))))
      (refine wpAnyE_one (i := 11) (o := ?_) ?_ (by kernel_rfl) (fun K hK => ?_); rotate_left; (focus ((simp only [List.getElem?_toArray, List.getElem?_cons_succ, List.getElem?_cons_zero]; exact rfl))); go_simp; refine hK.out _ _ ?_ (fun hHeld => ?_); rotate_left; clear hK K; (try simp only [Act.put, List.setIfInBounds_toArray, List.set_cons_zero, List.set_cons_succ]))
      rotate_left
      · exact ⟨X2.cell hS.1, X2.cell hS.2.1, X2.cell hS.2.2.1, X2.cell hS.2.2.2.1, X2.cell hS.2.2.2.2⟩
      have m0 : ((W2.alloc (.cells #[.slice none 0 0, .int .i64 0] 87)).alloc (.cells #[.slice none 0 0, .int .i64 0] 87)).cell? ⟨W2.heap.size, 0, none⟩ = some (.slice none 0 0) := by go_simp
      have m1 : ((W2.alloc (.cells #[.slice none 0 0, .int .i64 0] 87)).alloc (.cells #[.slice none 0 0, .int .i64 0] 87)).cell? ⟨W2.heap.size, 1, none⟩ = some (.int .i64 0) := by go_simp
      have m2 : ((W2.alloc (.cells #[.slice none 0 0, .int .i64 0] 87)).alloc (.cells #[.slice none 0 0, .int .i64 0] 87)).cell? ⟨W2.heap.size + 1, 0, none⟩ = some (.slice none 0 0) := by go_simp
      have m3 : ((W2.alloc (.cells #[.slice none 0 0, .int .i64 0] 87)).alloc (.cells #[.slice none 0 0, .int .i64 0] 87)).cell? ⟨W2.heap.size + 1, 1, none⟩ = some (.int .i64 0) := by go_simp
      have n0 : ((W2.alloc (.cells #[.slice none 0 0, .int .i64 0] 87)).alloc (.cells #[.slice none 0 0, .int .i64 0] 87)).frozen? ⟨W2.heap.size, 0, none⟩ = false := by go_simp
      have n1 : ((W2.alloc (.cells #[.slice none 0 0, .int .i64 0] 87)).alloc (.cells #[.slice none 0 0, .int .i64 0] 87)).frozen? ⟨W2.heap.size, 1, none⟩ = false := by go_simp
      have n2 : ((W2.alloc (.cells #[.slice none 0 0, .int .i64 0] 87)).alloc (.cells #[.slice none 0 0, .int .i64 0] 87)).frozen? ⟨W2.heap.size + 1, 0, none⟩ = false := by go_simp
      have n3 : ((W2.alloc (.cells #[.slice none 0 0, .int .i64 0] 87)).alloc (.cells #[.slice none 0 0, .int .i64 0] 87)).frozen? ⟨W2.heap.size + 1, 1, none⟩ = false := by go_simp
      clear hHeld X1
      generalize (W2.alloc (.cells #[.slice none 0 0, .int .i64 0] 87)).alloc (.cells #[.slice none 0 0, .int .i64 0] 87) = W3 at X2 m0 m1 m2 m3 n0 n1 n2 n3 ⊢
      obtain ⟨xb, hxb, hxl⟩ : ∃ xb, xb = W2.heap.size ∧ W2.heap.size ≤ xb := ⟨_, rfl, Nat.le_refl _⟩
      rw [← hxb] at m0 m1 m2 m3 n0 n1 n2 n3 ⊢
      clear hxb
      have X3 : Ext W2 ((W3.setCell ⟨(xb + 1), 0, none⟩ (.slice aa sa.length ca)).setCell ⟨(xb + 1), 1, none⟩ (.int .i64 wa)) := (X2.set (by omega) _).set (by omega) _
      have X4 : Ext W2 ((((W3.setCell ⟨(xb + 1), 0, none⟩ (.slice aa sa.length ca)).setCell ⟨(xb + 1), 1, none⟩ (.int .i64 wa)).setCell ⟨xb, 0, none⟩ (.slice ab sb.length cb)).setCell ⟨xb, 1, none⟩ (.int .i64 wb)) := (X3.set (by omega) _).set (by omega) _
      (refine wpAnyE_one (i := 13) (o := ?_) ?_ (by kernel_rfl) (fun K hK => ?_); rotate_left; (focus ((simp only [List.getElem?_toArray, List.getElem?_cons_succ, List.getElem?_cons_zero]; exact rfl))); go_simp; refine hK.out _ _ ?_ (fun hHeld => ?_); rotate_left; clear hK K; (try simp only [Act.put, List.setIfInBounds_toArray, List.set_cons_zero, List.set_cons_succ]))
      rotate_left
      · exact ⟨X3.cell hS.1, X3.cell hS.2.1, X3.cell hS.2.2.1, X3.cell hS.2.2.2.1, X3.cell hS.2.2.2.2⟩
      clear hHeld
      (refine wpAnyE_one (i := 14) (o := ?_) ?_ (by kernel_rfl) (fun K hK => ?_); rotate_left; (focus ((simp only [List.getElem?_toArray, List.getElem?_cons_succ, List.getElem?_cons_zero]; exact rfl))); go_simp; refine hK.out _ _ ?_ (fun hHeld => ?_); rotate_left; clear hK K; (try simp only [Act.put, List.setIfInBounds_toArray, List.set_cons_zero, List.set_cons_succ]))
      rotate_left
      · exact ⟨X4.cell hS.1, X4.cell hS.2.1, X4.cell hS.2.2.1, X4.cell hS.2.2.2.1, X4.cell hS.2.2.2.2⟩
      clear hHeld
      refine wpAnyE_done (by kernel_rfl) ?_ _
      go_wp2_with fail
      go_meet
      refine ⟨(xb + 1), xb, rfl, rfl, ?_, ?_, ?_, ?_, ED.trans X4⟩
      all_goals go_simp
  case rest =>
    obtain ⟨pb, qb, rfl, rfl, a0, a1, b0, b1, EX⟩ := hcut
    have E3 := E2.trans EX
    have PA : Hid (CellsK wc aa sa) := PA.out.ext EX
    have QA : Hid (CellsK wc ab sb) := QA.out.ext EX
    have d2 := (Below.frozen (p := ⟨w.heap.size + 1, 0, none⟩) EX (cell_lt c2)).trans d2
    have d3 := (Below.frozen (p := ⟨w.heap.size + 1, 1, none⟩) EX (cell_lt c3)).trans d3
    have c0 := EX.cell c0
    have c1 := EX.cell c1
    have c2 := EX.cell c2
    have c3 := EX.cell c3
    clear EX p1 p3 q1 q3
    have hap := apartR_any sa sb wa wb aa ab ca cb wc PL.out PA.out QL.out QA.out
    have HS2 := HS.out
    generalize hv : apart (sa, wa) (sb, wb) = v at hap HS2
    have HAPR := Lib.hid hap
    have HV := Lib.hid hv
    have HS3 := Lib.hid HS2
    clear hap HS HS2 hv
    cases v
    · have her : er = 14 := by rw [HS3.out.1]; rfl
      have hsq : s = sq0 := by rw [HS3.out.2, her]; rfl
      subst her
      subst hsq
      clear HS3
      go_wp2_with fail
      refine HAPR.out.mono ?_
      rintro e w5 ⟨rfl, hE⟩
      have d2 := (Below.frozen (p := ⟨w.heap.size + 1, 0, none⟩) hE (cell_lt c2)).trans d2
      have d3 := (Below.frozen (p := ⟨w.heap.size + 1, 1, none⟩) hE (cell_lt c3)).trans d3
      have c2 := hE.cell c2
      have c3 := hE.cell c3
      have EF : Ext w ((w5.setCell ⟨w.heap.size + 1, 0, none⟩ (.int .i64 0)).setCell ⟨w.heap.size + 1, 1, none⟩ (.slice none 0 0)) := ((E3.trans hE).set (by omega) _).set (by omega) _
      go_wp2
      exact bodyPost_ret (v := .tuple #[.agg #[.int .i64 0, .slice none 0 0], .int .i64 14]) (by rw [results_cell_tmp1 rfl]; go_simp) rfl ⟨_, rfl, seqV_zero _, EF⟩
    · have HS2 := HS3.out
      rw [Bool.true_and] at HS2
      clear HS3
      by_cases hw0 : wa = 0
      · subst hw0
        have her : er = 0 := by rw [HS2.1]; rfl
        have hsq : s = merged (n, l) k := by rw [HS2.2, her]; rfl
        subst her
        have HSQ := Lib.hid hsq
        clear HS2 hsq
        go_wp2_with fail
        refine HAPR.out.mono ?_
        rintro e w5 ⟨rfl, hE⟩
        have d2 := (Below.frozen (p := ⟨w.heap.size + 1, 0, none⟩) hE (cell_lt c2)).trans d2
        have d3 := (Below.frozen (p := ⟨w.heap.size + 1, 1, none⟩) hE (cell_lt c3)).trans d3
        have c0 := hE.cell c0
        have c1 := hE.cell c1
        have c2 := hE.cell c2
        have c3 := hE.cell c3
        have a0 := hE.cell a0
        have a1 := hE.cell a1
        have b0 := hE.cell b0
        have b1 := hE.cell b1
        have PA : Hid (CellsK w5 aa sa) := PA.out.ext hE
        have QA : Hid (CellsK w5 ab sb) := QA.out.ext hE
        have E4 := E3.trans hE
        clear hE HAPR
        obtain ⟨ps, hps, hpa⟩ := HC.out.pairsAt
        have HPS := Lib.hid hps
        have HPA := Lib.hid hpa
        have hpl : ps.length = l.length := by rw [← hps]; simp
        have HPL := Lib.hid hpl
        have zw := cell_lt c0
        have z3 := cell_lt c2
        have zp := cell_lt a0
        have zq := cell_lt b0
        dsimp only at zw z3 zp zq
        have hkcap : k ≤ cap := by omega
        clear hps hpa hpl
        go_wp2
        have EX : Ext w5 (w5.alloc (.cells #[.int .i64 n, .slice none 0 0] 24)).drew := (by repeat (first | with_reducible exact Ext.refl _ | with_reducible assumption | with_reducible apply Ext.drewN | with_reducible apply Ext.drew | with_reducible apply Ext.alloc | ((with_reducible refine Ext.set ?_ ?_ _); rotate_left; first | omega | (simp; omega)) | (with_reducible refine Ext.trans ?_ (by with_reducible assumption))))
        have x0 : (w5.alloc (.cells #[.int .i64 n, .slice none 0 0] 24)).drew.cell? ⟨w5.heap.size, 0, none⟩ = some (.int .i64 n) := by go_simp
        have x1 : (w5.alloc (.cells #[.int .i64 n, .slice none 0 0] 24)).drew.cell? ⟨w5.heap.size, 1, none⟩ = some (.slice none 0 0) := by go_simp
        have xf : (w5.alloc (.cells #[.int .i64 n, .slice none 0 0] 24)).drew.frozen? ⟨w5.heap.size, 1, none⟩ = false := by go_simp
        obtain ⟨xb, hxb⟩ : ∃ xb, xb = w5.heap.size := ⟨_, rfl⟩
        rw [← hxb] at x0 x1 xf zw z3 zp zq ⊢
        have HXB := Lib.hid hxb
        clear hxb
        refine wp_region_heldE 8 (fun w' => w'.cell? ⟨xb, 1, none⟩ = some (.slice none 0 0) ∧ w'.cell? ⟨w.heap.size, 1, none⟩ = some (.slice (some ⟨b, off, none⟩) l.length cap)) (by kernel_rfl) ?_
        generalize (w5.alloc (.cells #[.int .i64 n, .slice none 0 0] 24)).drew = W6 at EX x0 x1 xf ⊢
        have hz6 : xb < W6.heap.size := cell_lt x0
        have EW6 := E4.trans EX
        have hS : W6.cell? ⟨xb, 1, none⟩ = some (.slice none 0 0) ∧ W6.cell? ⟨w.heap.size, 1, none⟩ = some (.slice (some ⟨b, off, none⟩) l.length cap) := ⟨x1, EX.cell c1⟩
        ((refine wpAnyE_take (i := 0) (oi := ?_) (v := ?_) ?_ (by kernel_rfl) ?_ ?_ (by assumption) ?_; rotate_left 2; (focus ((simp only [List.getElem?_toArray, List.getElem?_cons_zero]; exact rfl))); (focus (exact fun _ _ _ h => h)); (focus (refine Or.inl ⟨by rfl, ?_⟩; intro w hSw; (try dsimp only at hSw); (first | (go_simp; done) | (go_simp; with_reducible rfl)))); (try simp only [Act.put, List.setIfInBounds_toArray, List.set_cons_zero, List.set_cons_succ])); (refine wpAnyE_take (i := 1) (oi := ?_) (v := ?_) ?_ (by kernel_rfl) ?_ ?_ (by assumption) ?_; rotate_left 2; (focus ((simp only [List.getElem?_toArray, List.getElem?_cons_succ, List.getElem?_cons_zero]; exact rfl))); (focus (exact fun _ _ _ h => h)); (focus (refine Or.inl ⟨by rfl, ?_⟩; intro w hSw; (try dsimp only at hSw); (first | (go_simp; done) | (go_simp; with_reducible rfl)))); (try simp only [Act.put, List.setIfInBounds_toArray, List.set_cons_zero, List.set_cons_succ])); (refine wpAnyE_take (i := 2) (oi := ?_) (v := ?_) ?_ (by kernel_rfl) ?_ ?_ (by assumption) ?_; rotate_left 2; (focus ((simp only [List.getElem?_toArray, List.getElem?_cons_succ, List.getElem?_cons_zero]; exact rfl))); (focus (exact fun _ _ _ h => h)); (focus (refine Or.inl ⟨by rfl, ?_⟩; intro w hSw; (try dsimp only at hSw); (first | (go_simp; done) | (go_simp; with_reducible rfl)))); (try simp only [Act.put, List.setIfInBounds_toArray, List.set_cons_zero, List.set_cons_succ])); (refine wpAnyE_take (i := 3) (oi := ?_) (v := ?_) ?_ (by kernel_rfl) ?_ ?_ (by assumption) ?_; rotate_left 2; (focus ((simp only [List.getElem?_toArray, List.getElem?_cons_succ, List.getElem?_cons_zero]; exact rfl))); (focus (exact fun _ _ _ h => h)); (focus (refine Or.inl ⟨by rfl, ?_⟩; intro w hSw; (try dsimp only at hSw); (first | (go_simp; done) | (go_simp; with_reducible rfl)))); (try simp only [Act.put, List.setIfInBounds_toArray, List.set_cons_zero, List.set_cons_succ])); (refine wpAnyE_take (i := 4) (oi := ?_) (v := ?_) ?_ (by kernel_rfl) ?_ ?_ (by assumption) ?_; rotate_left 2; (focus ((simp only [List.getElem?_toArray, List.getElem?_cons_succ, List.getElem?_cons_zero]; exact rfl))); (focus (exact fun _ _ _ h => h)); (focus (refine Or.inl ⟨by rfl, ?_⟩; intro w hSw; (try dsimp only at hSw); (first | (go_simp; done) | (go_simp; with_reducible rfl)))); (try simp only [Act.put, List.setIfInBounds_toArray, List.set_cons_zero, List.set_cons_succ])); (refine wpAnyE_take (i := 5) (oi := ?_) (v := ?_) ?_ (by kernel_rfl) ?_ ?_ (by assumption) ?_; rotate_left 2; (focus ((simp only [List.getElem?_toArray, List.getElem?_cons_succ, List.getElem?_cons_zero]; exact rfl))); (focus (exact fun _ _ _ h => h)); (focus (refine Or.inl ⟨by rfl, ?_⟩; intro w hSw; (try dsimp only at hSw); (first | (go_simp; done) | (go_simp; with_reducible rfl)))); (try simp only [Act.put, List.setIfInBounds_toArray, List.set_cons_zero, List.set_cons_succ])))
        have hrun := (OwnsP.nil (fun b => b = xb ∨ b = w.heap.size + 1) W6).run_app cap k ((HPA.out.ext EW6).take k) (fun p hp => (HPA.out.2.1 p (List.mem_of_mem_take hp)).oldX.chgX (Chg.ext EW6) (fun b' _ hb' => by rcases hb' with (hb' | hb') | hb' <;> first | omega | cases hb')) (by rw [List.length_take, HPL.out]; omega) (by rw [List.length_take, HPL.out]; simp; omega) (fun b' hb' => by omega)
        obtain ⟨v7, w7, hr7, hO7, hC7, hB7, hL7⟩ := hrun
        have E57 : Ext w5 w7 := EX.trans' (hL7 xb (by omega) (fun b' hb' => by cases hb')) (Nat.le_of_eq HXB.out.symm)
        rw [List.nil_append, List.map_take, HPS.out] at hO7
        obtain ⟨u7, s7, hv7, _, _⟩ := hO7.reads
        rw [List.length_take, Nat.min_eq_left (by omega)] at hv7
        subst hv7
        have HR7 := Lib.hid hr7
        have HO7 := Lib.hid hO7
        have HC7 : Hid (Chg (fun _ => False) W6 w7) := hC7.mono fun b' hb' => by cases hb'
        have HB7 : Hid (∀ g, (Value.slice u7 k s7).ownBlock = some g → xb < g) := fun g hg => by
          rcases hB7 with h | ⟨g', h, h2⟩
          · rw [h] at hg; cases hg
          · rw [h] at hg; cases hg; omega
        clear hr7 hO7 hC7 hB7 hL7
        (refine wpAnyE_one (i := 6) (o := ?_) ?_ (by kernel_rfl) (fun K hK => ?_); rotate_left; (focus ((simp only [List.getElem?_toArray, List.getElem?_cons_succ, List.getElem?_cons_zero]; exact rfl))); refine step_append_run rfl _ _ 22 22 rfl (.slice none 0 0) (.slice (some ⟨b, off, none⟩) k cap) rfl rfl _ _ HR7.out ?_; refine hK.out _ _ ?_ (fun hHeld => ?_); rotate_left; clear hK K; (try simp only [Act.put, List.setIfInBounds_toArray, List.set_cons_zero, List.set_cons_succ]))
        rotate_left
        · exact ⟨HC7.out.cell (fun h => h) hS.1, HC7.out.cell (fun h => h) hS.2⟩
        (refine wpAnyE_take (i := 7) (oi := ?_) (v := ?_) ?_ (by kernel_rfl) ?_ ?_ (by assumption) ?_; rotate_left 2; (focus ((simp only [List.getElem?_toArray, List.getElem?_cons_succ, List.getElem?_cons_zero]; exact rfl))); (focus (exact fun _ _ _ h => h)); (focus (refine Or.inl ⟨by rfl, ?_⟩; intro w hSw; (try dsimp only at hSw); (first | (go_simp; done) | (go_simp; with_reducible rfl)))); (try simp only [Act.put, List.setIfInBounds_toArray, List.set_cons_zero, List.set_cons_succ]))
        have x17 := HC7.out.cell (fun h => h) x1
        have x07 := HC7.out.cell (fun h => h) x0
        have xf7 := (HC7.out.frozen (fun h => h) x1).trans xf
        (refine wpAnyE_free (i := 8) (o := ?_) ?_ (by kernel_rfl) (by kernel_rfl) (fun K hK => ?_); rotate_left; (focus ((simp only [List.getElem?_toArray, List.getElem?_cons_succ, List.getElem?_cons_zero]; exact rfl))); go_simp; refine hK.out _ _ ?_; clear hK K; (try simp only [Act.put, List.setIfInBounds_toArray, List.set_cons_zero, List.set_cons_succ]))
        refine wpAnyE_done (by kernel_rfl) ?_ _
        have xA0 : (w7.setCell ⟨xb, 1, none⟩ (.slice u7 k s7)).cell? ⟨xb, 0, none⟩ = some (.int .i64 n) := by go_simp
        have xA1 : (w7.setCell ⟨xb, 1, none⟩ (.slice u7 k s7)).cell? ⟨xb, 1, none⟩ = some (.slice u7 k s7) := by go_simp
        have xAf : (w7.setCell ⟨xb, 1, none⟩ (.slice u7 k s7)).frozen? ⟨xb, 1, none⟩ = false := by rw [World.frozen?_setCell]; exact xf7
        have EA : Ext w5 (w7.setCell ⟨xb, 1, none⟩ (.slice u7 k s7)) := E57.set (Nat.le_of_eq HXB.out.symm) _
        have OA : Hid (OwnsP (fun b => b = xb ∨ b = w.heap.size + 1) (w7.setCell ⟨xb, 1, none⟩ (.slice u7 k s7)) (.slice u7 k s7) (l.take k)) := HO7.out.chg (Chg.setCell (B := fun b => b = xb ∨ b = w.heap.size + 1) ⟨xb, 1, none⟩ _ (.inl rfl)) (fun b' hb' e => by have := HB7.out b' hb'; omega)
        have hzA : xb < (w7.setCell ⟨xb, 1, none⟩ (.slice u7 k s7)).heap.size := cell_lt xA0
        generalize w7.setCell ⟨xb, 1, none⟩ (.slice u7 k s7) = A at xA0 xA1 xAf EA OA hzA ⊢
        have HZA := Lib.hid hzA
        clear x17 x07 xf7 hHeld hS E57 HO7 HC7 HR7 x0 x1 xf EX hz6 EW6 hzA
        go_wp2
        refine wp_region_heldE 16 (fun w' => w'.cell? ⟨xb, 1, none⟩ = some (.slice u7 k s7) ∧ w'.cell? ⟨pb, 0, none⟩ = some (.slice aa sa.length ca) ∧ w'.cell? ⟨qb, 0, none⟩ = some (.slice ab sb.length cb) ∧ w'.cell? ⟨qb, 1, none⟩ = some (.int .i64 wb)) (by kernel_rfl) ?_
        have ED : Ext A A.drew := (by repeat (first | with_reducible exact Ext.refl _ | with_reducible assumption | with_reducible apply Ext.drewN | with_reducible apply Ext.drew | with_reducible apply Ext.alloc | ((with_reducible refine Ext.set ?_ ?_ _); rotate_left; first | omega | (simp; omega)) | (with_reducible refine Ext.trans ?_ (by with_reducible assumption))))
        have xA0 := ED.cell xA0
        have xAf := (Below.frozen (p := ⟨xb, 1, none⟩) ED (cell_lt xA1)).trans xAf
        have xA1 := ED.cell xA1
        have EA := EA.trans ED
        have OA : Hid (OwnsP (fun b => b = xb ∨ b = w.heap.size + 1) A.drew (.slice u7 k s7) (l.take k)) := OA.out.chg (Chg.ext ED) (fun b' hb' e => by have := HB7.out b' hb'; omega)
        have HZA : Hid (xb < A.drew.heap.size) := Nat.lt_of_lt_of_le HZA.out ED.size
        generalize A.drew = A2 at xA0 xA1 xAf EA OA HZA ⊢
        clear ED
        have hS : A2.cell? ⟨xb, 1, none⟩ = some (.slice u7 k s7) ∧ A2.cell? ⟨pb, 0, none⟩ = some (.slice aa sa.length ca) ∧ A2.cell? ⟨qb, 0, none⟩ = some (.slice ab sb.length cb) ∧ A2.cell? ⟨qb, 1, none⟩ = some (.int .i64 wb) := ⟨xA1, EA.cell a0, EA.cell b0, EA.cell b1⟩
        ((refine wpAnyE_take (i := 0) (oi := ?_) (v := ?_) ?_ (by kernel_rfl) ?_ ?_ (by assumption) ?_; rotate_left 2; (focus ((simp only [List.getElem?_toArray, List.getElem?_cons_zero]; exact rfl))); (focus (exact fun _ _ _ h => h)); (focus (refine Or.inl ⟨by rfl, ?_⟩; intro w hSw; (try dsimp only at hSw); (first | (go_simp; done) | (go_simp; with_reducible rfl)))); (try simp only [Act.put, List.setIfInBounds_toArray, List.set_cons_zero, List.set_cons_succ])); (refine wpAnyE_take (i := 1) (oi := ?_) (v := ?_) ?_ (by kernel_rfl) ?_ ?_ (by assumption) ?_; rotate_left 2; (focus ((simp only [List.getElem?_toArray, List.getElem?_cons_succ, List.getElem?_cons_zero]; exact rfl))); (focus (exact fun _ _ _ h => h)); (focus (refine Or.inl ⟨by rfl, ?_⟩; intro w hSw; (try dsimp only at hSw); (first | (go_simp; done) | (go_simp; with_reducible rfl)))); (try simp only [Act.put, List.setIfInBounds_toArray, List.set_cons_zero, List.set_cons_succ])); (refine wpAnyE_take (i := 3) (oi := ?_) (v := ?_) ?_ (by kernel_rfl) ?_ ?_ (by assumption) ?_; rotate_left 2; (focus ((simp only [List.getElem?_toArray, List.getElem?_cons_succ, List.getElem?_cons_zero]; exact rfl))); (focus (exact fun _ _ _ h => h)); (focus (refine Or.inl ⟨by rfl, ?_⟩; intro w hSw; (try dsimp only at hSw); (first | (go_simp; done) | (go_simp; with_reducible rfl)))); (try simp only [Act.put, List.setIfInBounds_toArray, List.set_cons_zero, List.set_cons_succ])); (refine wpAnyE_take (i := 4) (oi := ?_) (v := ?_) ?_ (by kernel_rfl) ?_ ?_ (by assumption) ?_; rotate_left 2; (focus ((simp only [List.getElem?_toArray, List.getElem?_cons_succ, List.getElem?_cons_zero]; exact rfl))); (focus (exact fun _ _ _ h => h)); (focus (refine Or.inl ⟨by rfl, ?_⟩; intro w hSw; (try dsimp only at hSw); (first | (go_simp; done) | (go_simp; with_reducible rfl)))); (try simp only [Act.put, List.setIfInBounds_toArray, List.set_cons_zero, List.set_cons_succ])); (refine wpAnyE_take (i := 6) (oi := ?_) (v := ?_) ?_ (by kernel_rfl) ?_ ?_ (by assumption) ?_; rotate_left 2; (focus ((simp only [List.getElem?_toArray, List.getElem?_cons_succ, List.getElem?_cons_zero]; exact rfl))); (focus (exact fun _ _ _ h => h)); (focus (refine Or.inl ⟨by rfl, ?_⟩; intro w hSw; (try dsimp only at hSw); (first | (go_simp; done) | (go_simp; with_reducible rfl)))); (try simp only [Act.put, List.setIfInBounds_toArray, List.set_cons_zero, List.set_cons_succ])); (refine wpAnyE_take (i := 7) (oi := ?_) (v := ?_) ?_ (by kernel_rfl) ?_ ?_ (by assumption) ?_; rotate_left 2; (focus ((simp only [List.getElem?_toArray, List.getElem?_cons_succ, List.getElem?_cons_zero]; exact rfl))); (focus (exact fun _ _ _ h => h)); (focus (refine Or.inl ⟨by rfl, ?_⟩; intro w hSw; (try dsimp only at hSw); (first | (go_simp; done) | (go_simp; with_reducible rfl)))); (try simp only [Act.put, List.setIfInBounds_toArray, List.set_cons_zero, List.set_cons_succ])); (refine wpAnyE_take (i := 10) (oi := ?_) (v := ?_) ?_ (by kernel_rfl) ?_ ?_ (by assumption) ?_; rotate_left 2; (focus ((simp only [List.getElem?_toArray, List.getElem?_cons_succ, List.getElem?_cons_zero]; exact rfl))); (focus (exact fun _ _ _ h => h)); (focus (refine Or.inl ⟨by rfl, ?_⟩; intro w hSw; (try dsimp only at hSw); (first | (go_simp; done) | (go_simp; with_reducible rfl)))); (try simp only [Act.put, List.setIfInBounds_toArray, List.set_cons_zero, List.set_cons_succ])); (refine wpAnyE_take (i := 11) (oi := ?_) (v := ?_) ?_ (by kernel_rfl) ?_ ?_ (by assumption) ?_; rotate_left 2; (focus ((simp only [List.getElem?_toArray, List.getElem?_cons_succ, List.getElem?_cons_zero]; exact rfl))); (focus (exact fun _ _ _ h => h)); (focus (refine Or.inl ⟨by rfl, ?_⟩; intro w hSw; (try dsimp only at hSw); (first | (go_simp; done) | (go_simp; with_reducible rfl)))); (try simp only [Act.put, List.setIfInBounds_toArray, List.set_cons_zero, List.set_cons_succ])))
        have F1 : Ext A2 (A2.alloc (.cells #[] 73)) := (by repeat (first | with_reducible exact Ext.refl _ | with_reducible assumption | with_reducible apply Ext.drewN | with_reducible apply Ext.drew | with_reducible apply Ext.alloc | ((with_reducible refine Ext.set ?_ ?_ _); rotate_left; first | omega | (simp; omega)) | (with_reducible refine Ext.trans ?_ (by with_reducible assumption))))
        (refine wpAnyE_one (i := 2) (o := ?_) ?_ (by kernel_rfl) (fun K hK => ?_); rotate_left; (focus ((simp only [List.getElem?_toArray, List.getElem?_cons_succ, List.getElem?_cons_zero]; exact rfl))); go_simp; refine hK.out _ _ ?_ (fun hHeld => ?_); rotate_left; clear hK K; (try simp only [Act.put, List.setIfInBounds_toArray, List.set_cons_zero, List.set_cons_succ]))
        rotate_left
        · exact ⟨F1.cell hS.1, F1.cell hS.2.1, F1.cell hS.2.2.1, F1.cell hS.2.2.2⟩
        have hown0 : OwnsKB A2.heap.size (A2.alloc (.cells #[] 73)) (.slice (some ⟨A2.heap.size, 0, none⟩) 0 0) [] := ⟨World.ownsRow_lit A2 #[] 0 (Nat.zero_le _) (Nat.zero_le _) rfl, _, rfl, Nat.le_refl _⟩
        have HW0 := Lib.hid hown0
        clear hown0 hHeld
        have hz1 := F1.size
        have hsa := ckStep_strokes HFA.out.1
        have hsb := ckStep_strokes HFB.out.1
        dsimp only at hsa hsb
        generalize A2.alloc (.cells #[] 73) = A3 at F1 HW0 hz1 ⊢
        obtain ⟨v4, w4, hr4, hO4, hL4⟩ := run_appK ca sa.length HW0.out (PA.out.ext (EA.trans F1)) rfl hsa.2.2.1 (by simp; omega) hz1
        have F2 : Ext A2 w4 := F1.trans' hL4 (Nat.le_refl _)
        have HR4 := Lib.hid hr4
        have HO4 := Lib.hid hO4
        clear hr4 hO4 hL4
        (refine wpAnyE_one (i := 5) (o := ?_) ?_ (by kernel_rfl) (fun K hK => ?_); rotate_left; (focus ((simp only [List.getElem?_toArray, List.getElem?_cons_succ, List.getElem?_cons_zero]; exact rfl))); refine step_append_run rfl _ _ 66 66 rfl (.slice (some ⟨A2.heap.size, 0, none⟩) 0 0) (.slice aa sa.length ca) rfl rfl _ _ HR4.out ?_; refine hK.out _ _ ?_ (fun hHeld => ?_); rotate_left; clear hK K; (try simp only [Act.put, List.setIfInBounds_toArray, List.set_cons_zero, List.set_cons_succ]))
        rotate_left
        · exact ⟨F2.cell hS.1, F2.cell hS.2.1, F2.cell hS.2.2.1, F2.cell hS.2.2.2⟩
        clear hHeld HR4
        obtain ⟨v5, w6, hr5, hO5, hL5⟩ := run_appK cb sb.length HO4.out (QA.out.ext (EA.trans F2)) rfl hsb.2.2.1 (by simp; omega) F2.size
        have F3 : Ext A2 w6 := F2.trans' hL5 (Nat.le_refl _)
        rw [List.nil_append] at hO5
        obtain ⟨L, hLL⟩ : ∃ L, L = sa ++ sb := ⟨_, rfl⟩
        have hL12 : L.length ≤ 12 := by rw [hLL, List.length_append]; omega
        rw [← hLL] at hO5
        obtain ⟨ua, uc, rfl, hcu, _, _⟩ := hO5.1.reads
        have HCU := Lib.hid hcu
        have HLL := Lib.hid hLL
        have HR5 := Lib.hid hr5
        clear hr5 hO5 hL5 hcu hLL
        (refine wpAnyE_one (i := 8) (o := ?_) ?_ (by kernel_rfl) (fun K hK => ?_); rotate_left; (focus ((simp only [List.getElem?_toArray, List.getElem?_cons_succ, List.getElem?_cons_zero]; exact rfl))); refine step_append_run rfl _ _ 66 66 rfl v4 (.slice ab sb.length cb) rfl rfl _ _ HR5.out ?_; refine hK.out _ _ ?_ (fun hHeld => ?_); rotate_left; clear hK K; (try simp only [Act.put, List.setIfInBounds_toArray, List.set_cons_zero, List.set_cons_succ]))
        rotate_left
        · exact ⟨F3.cell hS.1, F3.cell hS.2.1, F3.cell hS.2.2.1, F3.cell hS.2.2.2⟩
        clear hHeld HR5
        have HORD := Lib.hid (orderedR_any L ua uc w6 (by omega) HCU.out)
        obtain ⟨OL, hOL⟩ : ∃ OL, OL = ordered L := ⟨_, rfl⟩
        rw [← hOL] at HORD
        have HOL := Lib.hid hOL
        have hzF := F3.size
        clear hOL HCU
        (refine wpAnyE_one (i := 9) (o := ?_) ?_ (by kernel_rfl) (fun K hK => ?_); rotate_left; (focus ((simp only [List.getElem?_toArray, List.getElem?_cons_succ, List.getElem?_cons_zero]; exact rfl))); go_simp; refine HORD.out.mono ?_; rintro e w8 ⟨v8, rfl, hO8, hB8, hE8⟩; obtain ⟨a8, c8, rfl, hc8, hm8, _⟩ := hO8.reads; have HC8 := Lib.hid hc8; have HM8 := Lib.hid hm8; have HB8 := Lib.hid hB8; clear hO8 hB8 hc8 hm8; go_wp2_with fail; refine hK.out _ _ ?_ (fun hHeld => ?_); rotate_left; clear hK K; (try simp only [Act.put, List.setIfInBounds_toArray, List.set_cons_zero, List.set_cons_succ]))
        rotate_left
        · have F4 := F3.trans hE8
          exact ⟨F4.cell hS.1, F4.cell hS.2.1, F4.cell hS.2.2.1, F4.cell hS.2.2.2⟩
        have F4 := F3.trans hE8
        clear HORD hsa hsb hz1
        have HHF := Lib.hid hzF
        clear hzF
        have hzp : ∀ w, (zeroValue 87).run Tryz.prog w = .ok (.agg #[.slice none 0 0, .int .i64 0]) w := fun _ => by kernel_rfl
        (refine wpAnyE_take (i := 12) (oi := ?_) (v := .agg #[.slice a8 OL.length c8, .int .i64 wb]) ?_ (by kernel_rfl) ?_ ?_ (by assumption) ?_; rotate_left; (focus ((simp only [List.getElem?_toArray, List.getElem?_cons_succ, List.getElem?_cons_zero]; exact rfl))); (focus (exact fun _ _ _ h => h)); (focus (refine Or.inl ⟨by rfl, ?_⟩; intro w hSw; exact exec_buildStp _ _ _ _ rfl _ _ _ _ rfl rfl w)); (try simp only [Act.put, List.setIfInBounds_toArray, List.set_cons_zero, List.set_cons_succ]))
        clear hHeld
        have F5 : Ext A2 (w8.alloc (.cells #[.slice a8 OL.length c8, .int .i64 wb] 87)) := (by repeat (first | with_reducible exact Ext.refl _ | with_reducible assumption | with_reducible apply Ext.drewN | with_reducible apply Ext.drew | with_reducible apply Ext.alloc | ((with_reducible refine Ext.set ?_ ?_ _); rotate_left; first | omega | (simp; omega)) | (with_reducible refine Ext.trans ?_ (by with_reducible assumption))))
        (refine wpAnyE_one (i := 13) (o := ?_) ?_ (by kernel_rfl) (fun K hK => ?_); rotate_left; (focus ((simp only [List.getElem?_toArray, List.getElem?_cons_succ, List.getElem?_cons_zero]; exact rfl))); refine step_run rfl _ _ (exec_buildStps _ _ _ rfl a8 OL.length c8 wb rfl _) ?_; refine hK.out _ _ ?_ (fun hHeld => ?_); rotate_left; clear hK K; (try simp only [Act.put, List.setIfInBounds_toArray, List.set_cons_zero, List.set_cons_succ]))
        rotate_left
        · exact ⟨F5.cell hS.1, F5.cell hS.2.1, F5.cell hS.2.2.1, F5.cell hS.2.2.2⟩
        clear hHeld
        have F58 : Ext w8 (w8.alloc (.cells #[.slice a8 OL.length c8, .int .i64 wb] 87)) := (by repeat (first | with_reducible exact Ext.refl _ | with_reducible assumption | with_reducible apply Ext.drewN | with_reducible apply Ext.drew | with_reducible apply Ext.alloc | ((with_reducible refine Ext.set ?_ ?_ _); rotate_left; first | omega | (simp; omega)) | (with_reducible refine Ext.trans ?_ (by with_reducible assumption))))
        have hv8 := hE8.size
        have hlt7 : ∀ g, (Value.slice u7 k s7).ownBlock = some g → g < A2.heap.size := fun g hg => by
          obtain ⟨_, _, h2, _⟩ := OA.out
          exact rowLt h2 hg
        have hsx : SliceKX (fun b => (b = xb ∨ b = w.heap.size + 1) ∨ (Value.slice u7 k s7).ownBlock = some b) (w8.alloc (.cells #[.slice a8 OL.length c8, .int .i64 wb] 87)) (.slice a8 OL.length c8) OL := by
          refine ⟨a8, c8, rfl, HC8.out.ext F58, HM8.out, fun b' off' hb' hne hX => ?_⟩
          subst hb'
          have h1 := HB8.out b' rfl
          have h2 := HZA.out
          have hzF := HHF.out
          rcases hX with (hX | hX) | hX
          · omega
          · omega
          · have := hlt7 b' hX; omega
        have hrun2 := OwnsP.run_app (OA.out.chg (Chg.ext F5) (fun b' hb' e => by have := HB7.out b' hb'; omega)) (q := [(.slice a8 OL.length c8, (OL, wb))]) (a := some ⟨w8.heap.size, 0, none⟩) 1 1
          ⟨.inr ⟨w8.heap.size, 0, rfl, cells_one _ _ _⟩, fun p hp => by rcases List.mem_singleton.1 hp with rfl; exact hsx.slice, by intro u hu; simp [pairP, flat2] at hu; rcases hu with rfl | rfl <;> rfl⟩
          (fun p hp => by rcases List.mem_singleton.1 hp with rfl; exact hsx) rfl (by simp; omega) (fun b' hb' => by have := HZA.out; have := F5.size; omega)
        obtain ⟨v9, w9, hr9, hO9, hC9, hB9, hL9⟩ := hrun2
        have E9 : Ext w5 w9 := (EA.trans F5).trans' (hL9 xb (by have := HZA.out; have := F5.size; omega) (fun b' hb' => Nat.le_of_lt (HB7.out b' hb'))) (Nat.le_of_eq HXB.out.symm)
        have hnx : ¬ (Value.slice u7 k s7).ownBlock = some xb := fun e => by have := HB7.out xb e; omega
        obtain ⟨u9, s9, hv9, _, _⟩ := hO9.reads
        rw [List.map_cons, List.map_nil, List.length_append, List.length_take, Nat.min_eq_left (by omega), List.length_singleton] at hv9
        subst hv9
        have HR9 := Lib.hid hr9
        have HO9 := Lib.hid hO9
        have HC9 := Lib.hid hC9
        have HB9 : Hid (∀ g, (Value.slice u9 (k + 1) s9).ownBlock = some g → xb < g) := fun g hg => by
          rcases hB9 with h | ⟨g', h, h2⟩
          · rw [h] at hg; exact HB7.out g hg
          · rw [h] at hg; cases hg; have := HZA.out; have := F5.size; omega
        have x19 := hC9.cell (p := ⟨xb, 1, none⟩) hnx (F5.cell xA1)
        have x09 := hC9.cell (p := ⟨xb, 0, none⟩) hnx (F5.cell xA0)
        have xf9 := (hC9.frozen (p := ⟨xb, 1, none⟩) hnx (F5.cell xA1)).trans ((Below.frozen (p := ⟨xb, 1, none⟩) F5 (cell_lt xA1)).trans xAf)
        clear hr9 hO9 hC9 hB9 hL9 hnx hsx hlt7
        (refine wpAnyE_one (i := 14) (o := ?_) ?_ (by kernel_rfl) (fun K hK => ?_); rotate_left; (focus ((simp only [List.getElem?_toArray, List.getElem?_cons_succ, List.getElem?_cons_zero]; exact rfl))); refine step_append_run rfl _ _ 22 22 rfl (.slice u7 k s7) (.slice (some ⟨w8.heap.size, 0, none⟩) 1 1) rfl rfl _ _ HR9.out ?_; refine hK.out _ _ ?_ (fun hHeld => ?_); rotate_left; clear hK K; (try simp only [Act.put, List.setIfInBounds_toArray, List.set_cons_zero, List.set_cons_succ]))
        rotate_left
        · exact ⟨x19, E9.cell a0, E9.cell b0, E9.cell b1⟩
        (refine wpAnyE_take (i := 15) (oi := ?_) (v := ?_) ?_ (by kernel_rfl) ?_ ?_ (by assumption) ?_; rotate_left 2; (focus ((simp only [List.getElem?_toArray, List.getElem?_cons_succ, List.getElem?_cons_zero]; exact rfl))); (focus (exact fun _ _ _ h => h)); (focus (refine Or.inl ⟨by rfl, ?_⟩; intro w hSw; (try dsimp only at hSw); (first | (go_simp; done) | (go_simp; with_reducible rfl)))); (try simp only [Act.put, List.setIfInBounds_toArray, List.set_cons_zero, List.set_cons_succ]))
        (refine wpAnyE_free (i := 16) (o := ?_) ?_ (by kernel_rfl) (by kernel_rfl) (fun K hK => ?_); rotate_left; (focus ((simp only [List.getElem?_toArray, List.getElem?_cons_succ, List.getElem?_cons_zero]; exact rfl))); go_simp; refine hK.out _ _ ?_; clear hK K; (try simp only [Act.put, List.setIfInBounds_toArray, List.set_cons_zero, List.set_cons_succ]))
        refine wpAnyE_done (by kernel_rfl) ?_ _
        have xC0 : (w9.setCell ⟨xb, 1, none⟩ (.slice u9 (k + 1) s9)).cell? ⟨xb, 0, none⟩ = some (.int .i64 n) := by go_simp
        have xC1 : (w9.setCell ⟨xb, 1, none⟩ (.slice u9 (k + 1) s9)).cell? ⟨xb, 1, none⟩ = some (.slice u9 (k + 1) s9) := by go_simp
        have xCf : (w9.setCell ⟨xb, 1, none⟩ (.slice u9 (k + 1) s9)).frozen? ⟨xb, 1, none⟩ = false := by rw [World.frozen?_setCell]; exact xf9
        have EC : Ext w5 (w9.setCell ⟨xb, 1, none⟩ (.slice u9 (k + 1) s9)) := E9.set (Nat.le_of_eq HXB.out.symm) _
        have OC : Hid (OwnsP (fun b => b = xb ∨ b = w.heap.size + 1) (w9.setCell ⟨xb, 1, none⟩ (.slice u9 (k + 1) s9)) (.slice u9 (k + 1) s9) (l.take k ++ [(OL, wb)])) := HO9.out.chg (Chg.setCell (B := fun b => b = xb ∨ b = w.heap.size + 1) ⟨xb, 1, none⟩ _ (.inl rfl)) (fun b' hb' e => by have := HB9.out b' hb'; omega)
        have hzC : xb < (w9.setCell ⟨xb, 1, none⟩ (.slice u9 (k + 1) s9)).heap.size := cell_lt xC0
        have HZC := Lib.hid hzC
        clear hHeld hS hzC x19 x09 xf9 HO9 HC9 HR9 xA0 xA1 xAf OA HW0 HO4 HB8 HC8 HM8 F1 F2 F3 F4 F5 F58 E9 hv8
        generalize w9.setCell ⟨xb, 1, none⟩ (.slice u9 (k + 1) s9) = C at xC0 xC1 xCf EC OC HZC ⊢
        have g10 : IntKind.i64.wrap ((k : Int) + 2) = (k : Int) + 2 := IntWalk.i64_in _ (by omega)
        have g11 : ((k : Int) + 2).toNat = k + 2 := by omega
        have g12 : (0 : Int) ≤ (k : Int) + 2 := by omega
        have g13 : (k : Int) + 2 ≤ (l.length : Int) := by omega
        have g14 : k + 2 ≤ l.length := by omega
        have g15 : k + 2 ≤ cap := by omega
        obtain ⟨AA, hAA, hPQ⟩ : ∃ AA : Addr, (if cap = k + 2 then (some ⟨b, off, none⟩ : Option Addr) else some ⟨b, off + (k + 2) * 2, none⟩) = some AA ∧ Hid (PairsAt w (some AA) (ps.drop (k + 2))) := by
          by_cases hck2 : cap = k + 2
          · refine ⟨⟨b, off, none⟩, by rw [if_pos hck2], ?_⟩
            rw [List.drop_eq_nil_of_le (by rw [HPL.out]; omega)]
            exact PairsAt.nil _ _
          · exact ⟨⟨b, off + (k + 2) * 2, none⟩, by rw [if_neg hck2], HPA.out.drop (k + 2)⟩
        go_wp2
        refine wp_region_heldE 9 (fun w' => w'.cell? ⟨xb, 1, none⟩ = some (.slice u9 (k + 1) s9) ∧ w'.cell? ⟨w.heap.size, 1, none⟩ = some (.slice (some ⟨b, off, none⟩) l.length cap)) (by kernel_rfl) ?_
        have ED : Ext C C.drew := (by repeat (first | with_reducible exact Ext.refl _ | with_reducible assumption | with_reducible apply Ext.drewN | with_reducible apply Ext.drew | with_reducible apply Ext.alloc | ((with_reducible refine Ext.set ?_ ?_ _); rotate_left; first | omega | (simp; omega)) | (with_reducible refine Ext.trans ?_ (by with_reducible assumption))))
        have xC0 := ED.cell xC0
        have xCf := (Below.frozen (p := ⟨xb, 1, none⟩) ED (cell_lt xC1)).trans xCf
        have xC1 := ED.cell xC1
        have EC := EC.trans ED
        have OC : Hid (OwnsP (fun b => b = xb ∨ b = w.heap.size + 1) C.drew (.slice u9 (k + 1) s9) (l.take k ++ [(OL, wb)])) := OC.out.chg (Chg.ext ED) (fun b' hb' e => by have := HB9.out b' hb'; omega)
        have HZC : Hid (xb < C.drew.heap.size) := Nat.lt_of_lt_of_le HZC.out ED.size
        generalize C.drew = C2 at xC0 xC1 xCf EC OC HZC ⊢
        clear ED
        have hS : C2.cell? ⟨xb, 1, none⟩ = some (.slice u9 (k + 1) s9) ∧ C2.cell? ⟨w.heap.size, 1, none⟩ = some (.slice (some ⟨b, off, none⟩) l.length cap) := ⟨xC1, EC.cell c1⟩
        ((refine wpAnyE_take (i := 0) (oi := ?_) (v := ?_) ?_ (by kernel_rfl) ?_ ?_ (by assumption) ?_; rotate_left 2; (focus ((simp only [List.getElem?_toArray, List.getElem?_cons_zero]; exact rfl))); (focus (exact fun _ _ _ h => h)); (focus (refine Or.inl ⟨by rfl, ?_⟩; intro w hSw; (try dsimp only at hSw); (first | (go_simp; done) | (go_simp; with_reducible rfl)))); (try simp only [Act.put, List.setIfInBounds_toArray, List.set_cons_zero, List.set_cons_succ])); (refine wpAnyE_take (i := 1) (oi := ?_) (v := ?_) ?_ (by kernel_rfl) ?_ ?_ (by assumption) ?_; rotate_left 2; (focus ((simp only [List.getElem?_toArray, List.getElem?_cons_succ, List.getElem?_cons_zero]; exact rfl))); (focus (exact fun _ _ _ h => h)); (focus (refine Or.inl ⟨by rfl, ?_⟩; intro w hSw; (try dsimp only at hSw); (first | (go_simp; done) | (go_simp; with_reducible rfl)))); (try simp only [Act.put, List.setIfInBounds_toArray, List.set_cons_zero, List.set_cons_succ])); (refine wpAnyE_take (i := 2) (oi := ?_) (v := ?_) ?_ (by kernel_rfl) ?_ ?_ (by assumption) ?_; rotate_left 2; (focus ((simp only [List.getElem?_toArray, List.getElem?_cons_succ, List.getElem?_cons_zero]; exact rfl))); (focus (exact fun _ _ _ h => h)); (focus (refine Or.inl ⟨by rfl, ?_⟩; intro w hSw; (try dsimp only at hSw); (first | (go_simp; done) | (go_simp; with_reducible rfl)))); (try simp only [Act.put, List.setIfInBounds_toArray, List.set_cons_zero, List.set_cons_succ])); (refine wpAnyE_take (i := 3) (oi := ?_) (v := ?_) ?_ (by kernel_rfl) ?_ ?_ (by assumption) ?_; rotate_left 2; (focus ((simp only [List.getElem?_toArray, List.getElem?_cons_succ, List.getElem?_cons_zero]; exact rfl))); (focus (exact fun _ _ _ h => h)); (focus (refine Or.inl ⟨by rfl, ?_⟩; intro w hSw; (try dsimp only at hSw); (first | (go_simp; done) | (go_simp; with_reducible rfl)))); (try simp only [Act.put, List.setIfInBounds_toArray, List.set_cons_zero, List.set_cons_succ])); (refine wpAnyE_take (i := 4) (oi := ?_) (v := ?_) ?_ (by kernel_rfl) ?_ ?_ (by assumption) ?_; rotate_left 2; (focus ((simp only [List.getElem?_toArray, List.getElem?_cons_succ, List.getElem?_cons_zero]; exact rfl))); (focus (exact fun _ _ _ h => h)); (focus (refine Or.inl ⟨by rfl, ?_⟩; intro w hSw; (try dsimp only at hSw); (first | (go_simp; done) | (go_simp; with_reducible rfl)))); (try simp only [Act.put, List.setIfInBounds_toArray, List.set_cons_zero, List.set_cons_succ])); (refine wpAnyE_take (i := 5) (oi := ?_) (v := ?_) ?_ (by kernel_rfl) ?_ ?_ (by assumption) ?_; rotate_left 2; (focus ((simp only [List.getElem?_toArray, List.getElem?_cons_succ, List.getElem?_cons_zero]; exact rfl))); (focus (exact fun _ _ _ h => h)); (focus (refine Or.inl ⟨by rfl, ?_⟩; intro w hSw; (try dsimp only at hSw); (first | (go_simp; done) | (go_simp; with_reducible rfl)))); (try simp only [Act.put, List.setIfInBounds_toArray, List.set_cons_zero, List.set_cons_succ])); (refine wpAnyE_take (i := 6) (oi := ?_) (v := ?_) ?_ (by kernel_rfl) ?_ ?_ (by assumption) ?_; rotate_left 2; (focus ((simp only [List.getElem?_toArray, List.getElem?_cons_succ, List.getElem?_cons_zero]; exact rfl))); (focus (exact fun _ _ _ h => h)); (focus (refine Or.inl ⟨by rfl, ?_⟩; intro w hSw; (try dsimp only at hSw); (first | (go_simp; done) | (go_simp; with_reducible rfl)))); (try simp only [Act.put, List.setIfInBounds_toArray, List.set_cons_zero, List.set_cons_succ])))
        have EWC := E4.trans EC
        have hrun3 := OC.out.run_app (cap - (k + 2)) (l.length - (k + 2)) (a := some AA) (hPQ.out.ext EWC) (fun p hp => (HPA.out.2.1 p (List.mem_of_mem_drop hp)).oldX.chgX (Chg.ext EWC) (fun b' _ hb' => by
          rcases hb' with (hb' | hb') | hb'
          · omega
          · omega
          · have := HB9.out b' hb'; omega)) (by rw [List.length_drop, HPL.out]) (by rw [List.length_append, List.length_take, List.length_singleton, List.length_drop, HPL.out]; omega) (fun b' hb' => by have := HZC.out; omega)
        obtain ⟨v10, w10, hr10, hO10, hC10, hB10, hL10⟩ := hrun3
        rw [List.map_drop, HPS.out] at hO10
        have E10 : Ext w5 w10 := EC.trans' (hL10 xb (Nat.le_of_lt HZC.out) (fun b' hb' => Nat.le_of_lt (HB9.out b' hb'))) (Nat.le_of_eq HXB.out.symm)
        have hnx : ¬ (Value.slice u9 (k + 1) s9).ownBlock = some xb := fun e => by have := HB9.out xb e; omega
        obtain ⟨ML, hML⟩ : ∃ ML, ML = (l.take k ++ [(OL, wb)]) ++ l.drop (k + 2) := ⟨_, rfl⟩
        rw [← hML] at hO10
        have HML := Lib.hid hML
        clear hML
        obtain ⟨uA, sA, rfl, _, _⟩ := hO10.reads
        have HRA := Lib.hid hr10
        have HOA := Lib.hid hO10
        have hBA : ∀ g, (Value.slice uA ML.length sA).ownBlock = some g → xb < g := fun g hg => by
          rcases hB10 with h | ⟨g', h, h2⟩
          · rw [h] at hg; exact HB9.out g hg
          · rw [h] at hg; cases hg; have := HZC.out; omega
        have HBA := Lib.hid hBA
        have xD1 := hC10.cell (p := ⟨xb, 1, none⟩) hnx xC1
        have xD0 := hC10.cell (p := ⟨xb, 0, none⟩) hnx xC0
        have xDf := (hC10.frozen (p := ⟨xb, 1, none⟩) hnx xC1).trans xCf
        clear hr10 hO10 hC10 hB10 hL10 hnx hBA
        (refine wpAnyE_one (i := 7) (o := ?_) ?_ (by kernel_rfl) (fun K hK => ?_); rotate_left; (focus ((simp only [List.getElem?_toArray, List.getElem?_cons_succ, List.getElem?_cons_zero]; exact rfl))); refine step_append_run rfl _ _ 22 22 rfl (.slice u9 (k + 1) s9) (.slice (some AA) (l.length - (k + 2)) (cap - (k + 2))) rfl rfl _ _ HRA.out ?_; refine hK.out _ _ ?_ (fun hHeld => ?_); rotate_left; clear hK K; (try simp only [Act.put, List.setIfInBounds_toArray, List.set_cons_zero, List.set_cons_succ]))
        rotate_left
        · exact ⟨xD1, E10.cell c1⟩
        (refine wpAnyE_take (i := 8) (oi := ?_) (v := ?_) ?_ (by kernel_rfl) ?_ ?_ (by assumption) ?_; rotate_left 2; (focus ((simp only [List.getElem?_toArray, List.getElem?_cons_succ, List.getElem?_cons_zero]; exact rfl))); (focus (exact fun _ _ _ h => h)); (focus (refine Or.inl ⟨by rfl, ?_⟩; intro w hSw; (try dsimp only at hSw); (first | (go_simp; done) | (go_simp; with_reducible rfl)))); (try simp only [Act.put, List.setIfInBounds_toArray, List.set_cons_zero, List.set_cons_succ]))
        (refine wpAnyE_free (i := 9) (o := ?_) ?_ (by kernel_rfl) (by kernel_rfl) (fun K hK => ?_); rotate_left; (focus ((simp only [List.getElem?_toArray, List.getElem?_cons_succ, List.getElem?_cons_zero]; exact rfl))); go_simp; refine hK.out _ _ ?_; clear hK K; (try simp only [Act.put, List.setIfInBounds_toArray, List.set_cons_zero, List.set_cons_succ]))
        refine wpAnyE_done (by kernel_rfl) ?_ _
        have d2 := (Below.frozen (p := ⟨w.heap.size + 1, 0, none⟩) E10 (cell_lt c2)).trans d2
        have d3 := (Below.frozen (p := ⟨w.heap.size + 1, 1, none⟩) E10 (cell_lt c3)).trans d3
        have c2 := E10.cell c2
        have c3 := E10.cell c3
        have hxw : w.heap.size + 1 ≠ xb := by omega
        have EF : Ext w (((w10.setCell ⟨xb, 1, none⟩ (.slice uA ML.length sA)).setCell ⟨w.heap.size + 1, 0, none⟩ (.int .i64 n)).setCell ⟨w.heap.size + 1, 1, none⟩ (.slice uA ML.length sA)) := (((E4.trans E10).set (by omega) _).set (by omega) _).set (by omega) _
        have HSEQ : Hid (SeqV (((w10.setCell ⟨xb, 1, none⟩ (.slice uA ML.length sA)).setCell ⟨w.heap.size + 1, 0, none⟩ (.int .i64 n)).setCell ⟨w.heap.size + 1, 1, none⟩ (.slice uA ML.length sA)) (.agg #[.int .i64 n, .slice uA ML.length sA]) s) := by
          have c10 : Chg (fun b => b = xb ∨ b = w.heap.size + 1) w10 (((w10.setCell ⟨xb, 1, none⟩ (.slice uA ML.length sA)).setCell ⟨w.heap.size + 1, 0, none⟩ (.int .i64 n)).setCell ⟨w.heap.size + 1, 1, none⟩ (.slice uA ML.length sA)) :=
            ((Chg.setCell (B := fun b => b = xb ∨ b = w.heap.size + 1) ⟨xb, 1, none⟩ _ (.inl rfl)).trans (Chg.setCell (B := fun b => b = xb ∨ b = w.heap.size + 1) ⟨w.heap.size + 1, 0, none⟩ _ (.inr rfl))).trans (Chg.setCell (B := fun b => b = xb ∨ b = w.heap.size + 1) ⟨w.heap.size + 1, 1, none⟩ _ (.inr rfl))
          have h1 := (HOA.out.chg c10 (fun b' hb' e => by have := HBA.out b' hb'; omega)).reads
          have hs : s = (n, ML) := by
            have hA : (sa, (0 : Int)) = l.getD k ([], 0) := HA.out
            have hB : (sb, wb) = l.getD (k + 1) ([], 0) := HB.out
            rw [HSQ.out, HML.out, HOL.out, HLL.out]
            unfold merged
            dsimp only
            rw [← hA, ← hB, List.append_assoc]
            rfl
          show SeqV _ _ _
          rw [hs]
          exact ⟨_, rfl, h1⟩
        clear HOA HRA hHeld hS
        go_wp2
        exact bodyPost_ret (v := .tuple #[.agg #[.int .i64 n, .slice uA ML.length sA], .int .i64 0]) (by rw [results_cell_tmp1 rfl]; go_simp) rfl ⟨_, rfl, HSEQ.out, EF⟩
      · have hwb : (wa == 0) = false := by simpa using hw0
        have her : er = 14 := by rw [HS2.1, hwb]; rfl
        have hsq : s = sq0 := by rw [HS2.2, her]; rfl
        subst her
        subst hsq
        clear HS2
        go_wp2_with fail
        refine HAPR.out.mono ?_
        rintro e w5 ⟨rfl, hE⟩
        have d2 := (Below.frozen (p := ⟨w.heap.size + 1, 0, none⟩) hE (cell_lt c2)).trans d2
        have d3 := (Below.frozen (p := ⟨w.heap.size + 1, 1, none⟩) hE (cell_lt c3)).trans d3
        have c2 := hE.cell c2
        have c3 := hE.cell c3
        have a1 := hE.cell a1
        have EF : Ext w ((w5.setCell ⟨w.heap.size + 1, 0, none⟩ (.int .i64 0)).setCell ⟨w.heap.size + 1, 1, none⟩ (.slice none 0 0)) := ((E3.trans hE).set (by omega) _).set (by omega) _
        go_wp2
        exact bodyPost_ret (v := .tuple #[.agg #[.int .i64 0, .slice none 0 0], .int .i64 14]) (by rw [results_cell_tmp1 rfl]; go_simp) rfl ⟨_, rfl, seqV_zero _, EF⟩
set_option maxHeartbeats 8000000 in
set_option maxRecDepth 100000 in
theorem MergeR_any (n : Int) (l : List Stp) (k : Int) (a : Option Addr) (cap : Nat) (w : World) (hl : l.length ≤ maxLen) (hc : CellsP w a l) (hroom : Room a l.length cap) :
    Calls Tryz.prog 20 #[.agg #[.int .i64 n, .slice a l.length cap], .int .i64 k] w (SeqErr (if mergeE (n, l) k = 0 then merged (n, l) k.toNat else sq0) (mergeE (n, l) k) w) := by
  by_cases hin : ckSeq (n, l) = 0 ∧ 0 ≤ k ∧ k + 1 < l.length
  · obtain ⟨h1, h2, h3⟩ := hin
    obtain ⟨K, rfl⟩ := Int.eq_ofNat_of_zero_le h2
    rw [mergeE_in h1 (by omega), Int.toNat_natCast]
    exact MergeR_in n l K a cap w hl hc hroom h1 (by omega) _ _ ⟨rfl, rfl⟩
  · obtain ⟨er, hs, hr⟩ : ∃ er, mergeE (n, l) k = er ∧ ((ckSeq (n, l) ≠ 0 ∧ er = ckSeq (n, l)) ∨ (ckSeq (n, l) = 0 ∧ er = 2 ∧ (k < 0 ∨ (l.length : Int) - 2 < k))) := by
      by_cases h1 : ckSeq (n, l) = 0
      · have h2 : k < 0 ∨ (l.length : Int) - 2 < k := by
          by_cases h2 : 0 ≤ k
          · right
            have : ¬ (k + 1 < l.length) := fun h3 => hin ⟨h1, h2, h3⟩
            omega
          · left; omega
        exact ⟨_, mergeE_out h1 h2, .inr ⟨h1, rfl, h2⟩⟩
      · exact ⟨_, mergeE_bad h1, .inl ⟨h1, rfl⟩⟩
    have hne : er ≠ 0 := by
      rcases hr with ⟨h1, h2⟩ | ⟨_, h2, _⟩
      · rw [h2]; exact h1
      · rw [h2]; decide
    rw [hs, if_neg hne]
    have HC := Lib.hid hc
    have HL := Lib.hid hl
    have hl' := hl
    unfold maxLen at hl'
    clear hc hl hs hin hne hroom
    have hzs : ∀ w, (zeroValue 24).run Tryz.prog w = .ok (.agg #[.int .i64 0, .slice none 0 0]) w := fun _ => by kernel_rfl
    have HR := Lib.hid hr
    clear hr
    go_enter Tryz.func20, Tryz.ntmps20
    go_wp2_with fail
    have E1 : Ext w ((w.alloc (.cells #[.int .i64 n, .slice a l.length cap] 24)).alloc (.cells #[.int .i64 0, .slice none 0 0] 24)) := (by repeat (first | with_reducible exact Ext.refl _ | with_reducible assumption | with_reducible apply Ext.drewN | with_reducible apply Ext.drew | with_reducible apply Ext.alloc | ((with_reducible refine Ext.set ?_ ?_ _); rotate_left; first | omega | (simp; omega)) | (with_reducible refine Ext.trans ?_ (by with_reducible assumption))))
    have c1 : ((w.alloc (.cells #[.int .i64 n, .slice a l.length cap] 24)).alloc (.cells #[.int .i64 0, .slice none 0 0] 24)).cell? ⟨w.heap.size, 1, none⟩ = some (.slice a l.length cap) := by go_simp
    have c2 : ((w.alloc (.cells #[.int .i64 n, .slice a l.length cap] 24)).alloc (.cells #[.int .i64 0, .slice none 0 0] 24)).cell? ⟨w.heap.size + 1, 0, none⟩ = some (.int .i64 0) := by go_simp
    have c3 : ((w.alloc (.cells #[.int .i64 n, .slice a l.length cap] 24)).alloc (.cells #[.int .i64 0, .slice none 0 0] 24)).cell? ⟨w.heap.size + 1, 1, none⟩ = some (.slice none 0 0) := by go_simp
    have d2 : ((w.alloc (.cells #[.int .i64 n, .slice a l.length cap] 24)).alloc (.cells #[.int .i64 0, .slice none 0 0] 24)).frozen? ⟨w.heap.size + 1, 0, none⟩ = false := by go_simp
    have d3 : ((w.alloc (.cells #[.int .i64 n, .slice a l.length cap] 24)).alloc (.cells #[.int .i64 0, .slice none 0 0] 24)).frozen? ⟨w.heap.size + 1, 1, none⟩ = false := by go_simp
    generalize ((w.alloc (.cells #[.int .i64 n, .slice a l.length cap] 24)).alloc (.cells #[.int .i64 0, .slice none 0 0] 24)) = W at E1 c1 c2 c3 d2 d3 ⊢
    refine (CheckR_any n l a cap _ HL.out (HC.out.ext E1)).mono ?_
    rintro e w1 ⟨rfl, hE⟩
    have E2 := E1.trans hE
    have d2 := (Below.frozen (p := ⟨w.heap.size + 1, 0, none⟩) hE (cell_lt c2)).trans d2
    have d3 := (Below.frozen (p := ⟨w.heap.size + 1, 1, none⟩) hE (cell_lt c3)).trans d3
    have c1 := hE.cell c1
    have c2 := hE.cell c2
    have c3 := hE.cell c3
    have EF : Ext w ((w1.setCell ⟨w.heap.size + 1, 0, none⟩ (.int .i64 0)).setCell ⟨w.heap.size + 1, 1, none⟩ (.slice none 0 0)) := (E2.set (by omega) _).set (by omega) _
    clear hE
    rcases HR.out with ⟨h1, h2⟩ | ⟨h1, rfl, h2⟩
    · have hn : (er != 0) = true := by rw [h2]; simp [h1]
      rw [← h2]
      clear h1 h2 HR
      go_wp2
      exact bodyPost_ret (v := .tuple #[.agg #[.int .i64 0, .slice none 0 0], .int .i64 er]) (by rw [results_cell_tmp1 rfl]; go_simp) rfl ⟨_, rfl, seqV_zero _, EF⟩
    · rw [h1]
      have g2 : IntKind.i64.wrap ((l.length : Int) - 1) = (l.length : Int) - 1 := IntWalk.i64_in _ (by omega)
      clear h1 HR
      by_cases h3 : k < 0
      · clear h2
        go_wp2
        exact bodyPost_ret (v := .tuple #[.agg #[.int .i64 0, .slice none 0 0], .int .i64 2]) (by rw [results_cell_tmp1 rfl]; go_simp) rfl ⟨_, rfl, seqV_zero _, EF⟩
      · have h4 : (l.length : Int) - 1 ≤ k := by omega
        clear h2
        go_wp2
        exact bodyPost_ret (v := .tuple #[.agg #[.int .i64 0, .slice none 0 0], .int .i64 2]) (by rw [results_cell_tmp1 rfl]; go_simp) rfl ⟨_, rfl, seqV_zero _, EF⟩
end Go.Proofs.YtnhbogmihnnpjaaGreat
/- The reference's Join. -/
namespace Go.Proofs.YtnhbogmihnnpjaaGreat
open Go.RowKit

set_option maxHeartbeats 8000000 in
set_option maxRecDepth 100000 in
theorem JoinR_ok (n m : Int) (l q : List Stp) (a b : Option Addr) (ca cb : Nat) (w : World) (hl : l.length ≤ maxLen) (hc : CellsP w a l) (hq : q.length ≤ maxLen) (hd : CellsP w b q) (h1 : ckSeq (n, l) = 0) (h2 : ckSeq (m, q) = 0) (h3 : l.length + q.length ≤ 64) :
    Calls Tryz.prog 31 #[.agg #[.int .i64 n, .slice a l.length ca], .agg #[.int .i64 m, .slice b q.length cb]] w (SeqErr (joined2 (n, l) (m, q)) 0 w) := by
  have HC := Lib.hid hc
  have HL := Lib.hid hl
  have HD := Lib.hid hd
  have HQ := Lib.hid hq
  have H1 := Lib.hid h1
  have H2 := Lib.hid h2
  obtain ⟨s, hs⟩ : ∃ s, s = joined2 (n, l) (m, q) := ⟨_, rfl⟩
  rw [← hs]
  have HS := Lib.hid hs
  clear hs hc hd hl hq h1 h2
  obtain ⟨i0, hi, hi0, hi1, hi2⟩ := info_parts infoStp
  go_enter Tryz.func31, Tryz.ntmps31
  go_wp2_with fail
  have E1 : Ext w (((w.alloc (.cells #[.int .i64 n, .slice a l.length ca] 24)).alloc (.cells #[.int .i64 m, .slice b q.length cb] 24)).alloc (.cells #[.int .i64 0, .slice none 0 0] 24)) := (by repeat (first | with_reducible exact Ext.refl _ | with_reducible assumption | with_reducible apply Ext.drewN | with_reducible apply Ext.drew | with_reducible apply Ext.alloc | ((with_reducible refine Ext.set ?_ ?_ _); rotate_left; first | omega | (simp; omega)) | (with_reducible refine Ext.trans ?_ (by with_reducible assumption))))
  have a0 : (((w.alloc (.cells #[.int .i64 n, .slice a l.length ca] 24)).alloc (.cells #[.int .i64 m, .slice b q.length cb] 24)).alloc (.cells #[.int .i64 0, .slice none 0 0] 24)).cell? ⟨w.heap.size, 0, none⟩ = some (.int .i64 n) := by go_simp
  have a1 : (((w.alloc (.cells #[.int .i64 n, .slice a l.length ca] 24)).alloc (.cells #[.int .i64 m, .slice b q.length cb] 24)).alloc (.cells #[.int .i64 0, .slice none 0 0] 24)).cell? ⟨w.heap.size, 1, none⟩ = some (.slice a l.length ca) := by go_simp
  have b0 : (((w.alloc (.cells #[.int .i64 n, .slice a l.length ca] 24)).alloc (.cells #[.int .i64 m, .slice b q.length cb] 24)).alloc (.cells #[.int .i64 0, .slice none 0 0] 24)).cell? ⟨w.heap.size + 1, 0, none⟩ = some (.int .i64 m) := by go_simp
  have b1 : (((w.alloc (.cells #[.int .i64 n, .slice a l.length ca] 24)).alloc (.cells #[.int .i64 m, .slice b q.length cb] 24)).alloc (.cells #[.int .i64 0, .slice none 0 0] 24)).cell? ⟨w.heap.size + 1, 1, none⟩ = some (.slice b q.length cb) := by go_simp
  have c2 : (((w.alloc (.cells #[.int .i64 n, .slice a l.length ca] 24)).alloc (.cells #[.int .i64 m, .slice b q.length cb] 24)).alloc (.cells #[.int .i64 0, .slice none 0 0] 24)).cell? ⟨w.heap.size + 1 + 1, 0, none⟩ = some (.int .i64 0) := by go_simp
  have c3 : (((w.alloc (.cells #[.int .i64 n, .slice a l.length ca] 24)).alloc (.cells #[.int .i64 m, .slice b q.length cb] 24)).alloc (.cells #[.int .i64 0, .slice none 0 0] 24)).cell? ⟨w.heap.size + 1 + 1, 1, none⟩ = some (.slice none 0 0) := by go_simp
  have d2 : (((w.alloc (.cells #[.int .i64 n, .slice a l.length ca] 24)).alloc (.cells #[.int .i64 m, .slice b q.length cb] 24)).alloc (.cells #[.int .i64 0, .slice none 0 0] 24)).frozen? ⟨w.heap.size + 1 + 1, 0, none⟩ = false := by go_simp
  have d3 : (((w.alloc (.cells #[.int .i64 n, .slice a l.length ca] 24)).alloc (.cells #[.int .i64 m, .slice b q.length cb] 24)).alloc (.cells #[.int .i64 0, .slice none 0 0] 24)).frozen? ⟨w.heap.size + 1 + 1, 1, none⟩ = false := by go_simp
  generalize (((w.alloc (.cells #[.int .i64 n, .slice a l.length ca] 24)).alloc (.cells #[.int .i64 m, .slice b q.length cb] 24)).alloc (.cells #[.int .i64 0, .slice none 0 0] 24)) = W at E1 a0 a1 b0 b1 c2 c3 d2 d3 ⊢
  refine (CheckR_any n l a ca _ HL.out (HC.out.ext E1)).mono ?_
  rintro e w1 ⟨rfl, hE⟩
  rw [H1.out]
  have E2 := E1.trans hE
  have d2 := (Below.frozen (p := ⟨w.heap.size + 1 + 1, 0, none⟩) hE (cell_lt c2)).trans d2
  have d3 := (Below.frozen (p := ⟨w.heap.size + 1 + 1, 1, none⟩) hE (cell_lt c3)).trans d3
  have a0 := hE.cell a0
  have a1 := hE.cell a1
  have b0 := hE.cell b0
  have b1 := hE.cell b1
  have c2 := hE.cell c2
  have c3 := hE.cell c3
  clear hE
  go_wp2_with fail
  refine (CheckR_any m q b cb _ HQ.out (HD.out.ext E2)).mono ?_
  rintro e w2 ⟨rfl, hE⟩
  rw [H2.out]
  have E3 := E2.trans hE
  have d2 := (Below.frozen (p := ⟨w.heap.size + 1 + 1, 0, none⟩) hE (cell_lt c2)).trans d2
  have d3 := (Below.frozen (p := ⟨w.heap.size + 1 + 1, 1, none⟩) hE (cell_lt c3)).trans d3
  have a0 := hE.cell a0
  have a1 := hE.cell a1
  have b0 := hE.cell b0
  have b1 := hE.cell b1
  have c2 := hE.cell c2
  have c3 := hE.cell c3
  clear hE
  have g1 : IntKind.i64.wrap ((l.length : Int) + (q.length : Int)) = (l.length : Int) + (q.length : Int) := IntWalk.i64_in _ (by omega)
  have g2 : ¬ ((64 : Int) < (l.length : Int) + (q.length : Int)) := by omega
  go_wp2
  refine wp_region_heldE 99 (fun w' => w'.cell? ⟨w.heap.size, 0, none⟩ = some (.int .i64 n) ∧ w'.cell? ⟨w.heap.size, 1, none⟩ = some (.slice a l.length ca) ∧ w'.cell? ⟨w.heap.size + 1, 0, none⟩ = some (.int .i64 m) ∧ w'.cell? ⟨w.heap.size + 1, 1, none⟩ = some (.slice b q.length cb)) (by kernel_rfl) ?_
  have ED : Ext w2 w2.drew := (by repeat (first | with_reducible exact Ext.refl _ | with_reducible assumption | with_reducible apply Ext.drewN | with_reducible apply Ext.drew | with_reducible apply Ext.alloc | ((with_reducible refine Ext.set ?_ ?_ _); rotate_left; first | omega | (simp; omega)) | (with_reducible refine Ext.trans ?_ (by with_reducible assumption))))
  have E4 := E3.trans ED
  have hS : w2.drew.cell? ⟨w.heap.size, 0, none⟩ = some (.int .i64 n) ∧ w2.drew.cell? ⟨w.heap.size, 1, none⟩ = some (.slice a l.length ca) ∧ w2.drew.cell? ⟨w.heap.size + 1, 0, none⟩ = some (.int .i64 m) ∧ w2.drew.cell? ⟨w.heap.size + 1, 1, none⟩ = some (.slice b q.length cb) := ⟨ED.cell a0, ED.cell a1, ED.cell b0, ED.cell b1⟩
  have d2 := (Below.frozen (p := ⟨w.heap.size + 1 + 1, 0, none⟩) ED (cell_lt c2)).trans d2
  have d3 := (Below.frozen (p := ⟨w.heap.size + 1 + 1, 1, none⟩) ED (cell_lt c3)).trans d3
  have c2 := ED.cell c2
  have c3 := ED.cell c3
  clear a0 a1 b0 b1
  generalize w2.drew = W3 at E4 hS c2 c3 d2 d3 ⊢
  clear ED
  have hz3 : w.heap.size + 1 + 1 < W3.heap.size := cell_lt c2
  ((refine wpAnyE_take (i := 0) (oi := ?_) (v := ?_) ?_ (by kernel_rfl) ?_ ?_ (by assumption) ?_; rotate_left 2; (focus ((simp only [List.getElem?_toArray, List.getElem?_cons_zero]; exact rfl))); (focus (exact fun _ _ _ h => h)); (focus (refine Or.inl ⟨by rfl, ?_⟩; intro w hSw; (try dsimp only at hSw); (first | (go_simp; done) | (go_simp; with_reducible rfl)))); (try simp only [Act.put, List.setIfInBounds_toArray, List.set_cons_zero, List.set_cons_succ])); (refine wpAnyE_take (i := 1) (oi := ?_) (v := ?_) ?_ (by kernel_rfl) ?_ ?_ (by assumption) ?_; rotate_left 2; (focus ((simp only [List.getElem?_toArray, List.getElem?_cons_succ, List.getElem?_cons_zero]; exact rfl))); (focus (exact fun _ _ _ h => h)); (focus (refine Or.inl ⟨by rfl, ?_⟩; intro w hSw; (try dsimp only at hSw); (first | (go_simp; done) | (go_simp; with_reducible rfl)))); (try simp only [Act.put, List.setIfInBounds_toArray, List.set_cons_zero, List.set_cons_succ])); (refine wpAnyE_take (i := 2) (oi := ?_) (v := ?_) ?_ (by kernel_rfl) ?_ ?_ (by assumption) ?_; rotate_left 2; (focus ((simp only [List.getElem?_toArray, List.getElem?_cons_succ, List.getElem?_cons_zero]; exact rfl))); (focus (exact fun _ _ _ h => h)); (focus (refine Or.inl ⟨by rfl, ?_⟩; intro w hSw; (try dsimp only at hSw); (first | (go_simp; done) | (go_simp; with_reducible rfl)))); (try simp only [Act.put, List.setIfInBounds_toArray, List.set_cons_zero, List.set_cons_succ])); (refine wpAnyE_take (i := 3) (oi := ?_) (v := ?_) ?_ (by kernel_rfl) ?_ ?_ (by assumption) ?_; rotate_left 2; (focus ((simp only [List.getElem?_toArray, List.getElem?_cons_succ, List.getElem?_cons_zero]; exact rfl))); (focus (exact fun _ _ _ h => h)); (focus (refine Or.inl ⟨by rfl, ?_⟩; intro w hSw; (try dsimp only at hSw); (first | (go_simp; done) | (go_simp; with_reducible rfl)))); (try simp only [Act.put, List.setIfInBounds_toArray, List.set_cons_zero, List.set_cons_succ])); (refine wpAnyE_take (i := 4) (oi := ?_) (v := ?_) ?_ (by kernel_rfl) ?_ ?_ (by assumption) ?_; rotate_left 2; (focus ((simp only [List.getElem?_toArray, List.getElem?_cons_succ, List.getElem?_cons_zero]; exact rfl))); (focus (exact fun _ _ _ h => h)); (focus (refine Or.inl ⟨by rfl, ?_⟩; intro w hSw; (try dsimp only at hSw); (first | (go_simp; done) | (go_simp; with_reducible rfl)))); (try simp only [Act.put, List.setIfInBounds_toArray, List.set_cons_zero, List.set_cons_succ])); (refine wpAnyE_take (i := 6) (oi := ?_) (v := ?_) ?_ (by kernel_rfl) ?_ ?_ (by assumption) ?_; rotate_left 2; (focus ((simp only [List.getElem?_toArray, List.getElem?_cons_succ, List.getElem?_cons_zero]; exact rfl))); (focus (exact fun _ _ _ h => h)); (focus (refine Or.inl ⟨by rfl, ?_⟩; intro w hSw; (try dsimp only at hSw); (first | (go_simp; done) | (go_simp; with_reducible rfl)))); (try simp only [Act.put, List.setIfInBounds_toArray, List.set_cons_zero, List.set_cons_succ])); (refine wpAnyE_take (i := 7) (oi := ?_) (v := ?_) ?_ (by kernel_rfl) ?_ ?_ (by assumption) ?_; rotate_left 2; (focus ((simp only [List.getElem?_toArray, List.getElem?_cons_succ, List.getElem?_cons_zero]; exact rfl))); (focus (exact fun _ _ _ h => h)); (focus (refine Or.inl ⟨by rfl, ?_⟩; intro w hSw; (try dsimp only at hSw); (first | (go_simp; done) | (go_simp; with_reducible rfl)))); (try simp only [Act.put, List.setIfInBounds_toArray, List.set_cons_zero, List.set_cons_succ])); (refine wpAnyE_take (i := 9) (oi := ?_) (v := ?_) ?_ (by kernel_rfl) ?_ ?_ (by assumption) ?_; rotate_left 2; (focus ((simp only [List.getElem?_toArray, List.getElem?_cons_succ, List.getElem?_cons_zero]; exact rfl))); (focus (exact fun _ _ _ h => h)); (focus (refine Or.inl ⟨by rfl, ?_⟩; intro w hSw; (try dsimp only at hSw); (first | (go_simp; done) | (go_simp; with_reducible rfl)))); (try simp only [Act.put, List.setIfInBounds_toArray, List.set_cons_zero, List.set_cons_succ])); (refine wpAnyE_take (i := 10) (oi := ?_) (v := ?_) ?_ (by kernel_rfl) ?_ ?_ (by assumption) ?_; rotate_left 2; (focus ((simp only [List.getElem?_toArray, List.getElem?_cons_succ, List.getElem?_cons_zero]; exact rfl))); (focus (exact fun _ _ _ h => h)); (focus (refine Or.inl ⟨by rfl, ?_⟩; intro w hSw; (try dsimp only at hSw); (first | (go_simp; done) | (go_simp; with_reducible rfl)))); (try simp only [Act.put, List.setIfInBounds_toArray, List.set_cons_zero, List.set_cons_succ])))
  obtain ⟨ps, hps, hpa⟩ := HC.out.pairsAt
  obtain ⟨qs, hqs, hqa⟩ := HD.out.pairsAt
  have hpl : ps.length = l.length := by rw [← hps]; simp
  have hql : qs.length = q.length := by rw [← hqs]; simp
  have HPA := Lib.hid hpa
  have HQA := Lib.hid hqa
  have HPS := Lib.hid hps
  have HQS := Lib.hid hqs
  have HPL := Lib.hid hpl
  have HQL := Lib.hid hql
  clear hps hqs hpa hqa hpl hql
  have F1 : Ext W3 (W3.alloc (.cells #[] 87)) := (by repeat (first | with_reducible exact Ext.refl _ | with_reducible assumption | with_reducible apply Ext.drewN | with_reducible apply Ext.drew | with_reducible apply Ext.alloc | ((with_reducible refine Ext.set ?_ ?_ _); rotate_left; first | omega | (simp; omega)) | (with_reducible refine Ext.trans ?_ (by with_reducible assumption))))
  (refine wpAnyE_one (i := 5) (o := ?_) ?_ (by kernel_rfl) (fun K hK => ?_); rotate_left; (focus ((simp only [List.getElem?_toArray, List.getElem?_cons_succ, List.getElem?_cons_zero]; exact rfl))); go_simp; refine hK.out _ _ ?_ (fun hHeld => ?_); rotate_left; clear hK K; (try simp only [Act.put, List.setIfInBounds_toArray, List.set_cons_zero, List.set_cons_succ]))
  rotate_left
  · exact ⟨F1.cell hS.1, F1.cell hS.2.1, F1.cell hS.2.2.1, F1.cell hS.2.2.2⟩
  have HO0 : Hid (OwnsP (fun b => b = w.heap.size + 1 + 1) (W3.alloc (.cells #[] 87)) (.slice (some ⟨W3.heap.size, 0, none⟩) 0 0) []) := ⟨[], rfl, World.ownsRow_lit W3 #[] 0 (Nat.zero_le _) (Nat.zero_le _) rfl, fun p hp => by cases hp⟩
  clear hHeld
  have hz4 := F1.size
  generalize W3.alloc (.cells #[] 87) = W4 at F1 HO0 hz4 ⊢
  have hrun := HO0.out.run_app ca l.length (a := a) (HPA.out.ext (E4.trans F1)) (fun p hp => (HPA.out.2.1 p hp).oldX.chgX (Chg.ext (E4.trans F1)) (fun b' _ hb' => by
    have := E4.size
    rcases hb' with hb' | hb'
    · omega
    · have e : W3.heap.size = b' := Option.some.inj hb'
      omega)) HPL.out.symm (by rw [HPL.out]; simp; omega) (fun b' hb' => by omega)
  obtain ⟨v5, w5, hr5, hO5, hC5, hB5, hL5⟩ := hrun
  rw [List.nil_append, HPS.out] at hO5
  have hown5 : ∀ g, v5.ownBlock = some g → W3.heap.size ≤ g := fun g hg => by
    rcases hB5 with h | ⟨g', h, h2⟩
    · rw [h] at hg; have e : W3.heap.size = g := Option.some.inj hg; omega
    · rw [h] at hg; cases hg; omega
  have F5 : Ext W3 w5 := F1.trans' (hL5 W3.heap.size hz4 (fun b' hb' => by have e : W3.heap.size = b' := Option.some.inj hb'; omega)) (Nat.le_refl _)
  have HR5 := Lib.hid hr5
  have HO5 := Lib.hid hO5
  have HW5 := Lib.hid hown5
  clear hr5 hO5 hC5 hB5 hL5 hown5 HO0
  (refine wpAnyE_one (i := 8) (o := ?_) ?_ (by kernel_rfl) (fun K hK => ?_); rotate_left; (focus ((simp only [List.getElem?_toArray, List.getElem?_cons_succ, List.getElem?_cons_zero]; exact rfl))); refine step_append_run rfl _ _ 22 22 rfl (.slice (some ⟨W3.heap.size, 0, none⟩) 0 0) (.slice a l.length ca) rfl rfl _ _ HR5.out ?_; refine hK.out _ _ ?_ (fun hHeld => ?_); rotate_left; clear hK K; (try simp only [Act.put, List.setIfInBounds_toArray, List.set_cons_zero, List.set_cons_succ]))
  rotate_left
  · exact ⟨F5.cell hS.1, F5.cell hS.2.1, F5.cell hS.2.2.1, F5.cell hS.2.2.2⟩
  clear hHeld HR5
  have hz5 := F5.size
  have hrun := HO5.out.run_app cb q.length (a := b) (HQA.out.ext (E4.trans F5)) (fun p hp => (HQA.out.2.1 p hp).oldX.chgX (Chg.ext (E4.trans F5)) (fun b' _ hb' => by
    have := E4.size
    rcases hb' with hb' | hb'
    · omega
    · have := HW5.out b' hb'; omega)) HQL.out.symm (by rw [HQL.out]; omega) (fun b' hb' => by omega)
  obtain ⟨v6, w6, hr6, hO6, hC6, hB6, hL6⟩ := hrun
  rw [HQS.out] at hO6
  have hown6 : ∀ g, v6.ownBlock = some g → W3.heap.size ≤ g := fun g hg => by
    rcases hB6 with h | ⟨g', h, h2⟩
    · rw [h] at hg; exact HW5.out g hg
    · rw [h] at hg; cases hg; omega
  have F6 : Ext W3 w6 := F5.trans' (hL6 W3.heap.size hz5 (fun b' hb' => HW5.out b' hb')) (Nat.le_refl _)
  obtain ⟨ML, hML⟩ : ∃ ML, ML = l ++ q := ⟨_, rfl⟩
  rw [← hML] at hO6
  obtain ⟨u6, s6, rfl, _, _⟩ := hO6.reads
  have HML := Lib.hid hML
  have HR6 := Lib.hid hr6
  have HO6 := Lib.hid hO6
  have HW6 := Lib.hid hown6
  clear hr6 hO6 hC6 hB6 hL6 hown6 HO5 hML
  (refine wpAnyE_one (i := 11) (o := ?_) ?_ (by kernel_rfl) (fun K hK => ?_); rotate_left; (focus ((simp only [List.getElem?_toArray, List.getElem?_cons_succ, List.getElem?_cons_zero]; exact rfl))); refine step_append_run rfl _ _ 22 22 rfl v5 (.slice b q.length cb) rfl rfl _ _ HR6.out ?_; refine hK.out _ _ ?_ (fun hHeld => ?_); rotate_left; clear hK K; (try simp only [Act.put, List.setIfInBounds_toArray, List.set_cons_zero, List.set_cons_succ]))
  rotate_left
  · exact ⟨F6.cell hS.1, F6.cell hS.2.1, F6.cell hS.2.2.1, F6.cell hS.2.2.2⟩
  clear HR6
  have d2 := (Below.frozen (p := ⟨w.heap.size + 1 + 1, 0, none⟩) F6 (cell_lt c2)).trans d2
  have d3 := (Below.frozen (p := ⟨w.heap.size + 1 + 1, 1, none⟩) F6 (cell_lt c3)).trans d3
  have c2 := F6.cell c2
  have c3 := F6.cell c3
  obtain ⟨mx, hmx⟩ : ∃ mx, mx = (if n < m then m else n) := ⟨_, rfl⟩
  have HMX : Hid (s = (mx, ML)) := by
    show _ = _
    rw [HS.out, hmx, HML.out]
    unfold joined2
    dsimp only
    rw [show max n m = if n < m then m else n from by split <;> omega]
  rw [← hmx]
  clear hmx
  (refine wpAnyE_take (i := 12) (oi := ?_) (v := ?_) ?_ (by kernel_rfl) ?_ ?_ (by assumption) ?_; rotate_left 2; (focus ((simp only [List.getElem?_toArray, List.getElem?_cons_succ, List.getElem?_cons_zero]; exact rfl))); (focus (exact fun _ _ _ h => h)); (focus (refine Or.inl ⟨by rfl, ?_⟩; intro w hSw; (try dsimp only at hSw); (first | (go_simp; done) | (go_simp; with_reducible rfl)))); (try simp only [Act.put, List.setIfInBounds_toArray, List.set_cons_zero, List.set_cons_succ]))
  have EF : Ext w ((w6.setCell ⟨w.heap.size + 1 + 1, 0, none⟩ (.int .i64 mx)).setCell ⟨w.heap.size + 1 + 1, 1, none⟩ (.slice u6 ML.length s6)) := ((E4.trans F6).set (by omega) _).set (by omega) _
  have hW3 := E4.size
  have HSV : Hid (SeqV ((w6.setCell ⟨w.heap.size + 1 + 1, 0, none⟩ (.int .i64 mx)).setCell ⟨w.heap.size + 1 + 1, 1, none⟩ (.slice u6 ML.length s6)) (.agg #[.int .i64 mx, .slice u6 ML.length s6]) s) := by
    have cc : Chg (fun b => b = w.heap.size + 1 + 1) w6 ((w6.setCell ⟨w.heap.size + 1 + 1, 0, none⟩ (.int .i64 mx)).setCell ⟨w.heap.size + 1 + 1, 1, none⟩ (.slice u6 ML.length s6)) :=
      (Chg.setCell (B := fun b => b = w.heap.size + 1 + 1) ⟨w.heap.size + 1 + 1, 0, none⟩ _ rfl).trans (Chg.setCell (B := fun b => b = w.heap.size + 1 + 1) ⟨w.heap.size + 1 + 1, 1, none⟩ _ rfl)
    have h1 := (HO6.out.chg cc (fun b' hb' e => by have := HW6.out b' hb'; omega)).reads
    show SeqV _ _ _
    rw [HMX.out]
    exact ⟨_, rfl, h1⟩
  (refine wpAnyE_one (i := 13) (o := ?_) ?_ (by kernel_rfl) (fun K hK => ?_); rotate_left; (focus ((simp only [List.getElem?_toArray, List.getElem?_cons_succ, List.getElem?_cons_zero]; exact rfl))); go_simp; refine hK.out _ _ ?_ (fun hHeld => ?_); rotate_left; clear hK K; (try simp only [Act.put, List.setIfInBounds_toArray, List.set_cons_zero, List.set_cons_succ]))
  rotate_left
  · refine ⟨?_, ?_, ?_, ?_⟩
    all_goals rw [World.cell?_setCell_other _ _ _ _ (fun h => by simp only [Addr.mk.injEq] at h; omega), World.cell?_setCell_other _ _ _ _ (fun h => by simp only [Addr.mk.injEq] at h; omega)]
    · exact F6.cell hS.1
    · exact F6.cell hS.2.1
    · exact F6.cell hS.2.2.1
    · exact F6.cell hS.2.2.2
  (refine wpAnyE_take (i := 14) (oi := ?_) (v := ?_) ?_ (by kernel_rfl) ?_ ?_ (by assumption) ?_; rotate_left 2; (focus ((simp only [List.getElem?_toArray, List.getElem?_cons_succ, List.getElem?_cons_zero]; exact rfl))); (focus (exact fun _ _ _ h => h)); (focus (refine Or.inl ⟨by rfl, ?_⟩; intro w hSw; (try dsimp only at hSw); (first | (go_simp; done) | (go_simp; with_reducible rfl)))); (try simp only [Act.put, List.setIfInBounds_toArray, List.set_cons_zero, List.set_cons_succ]))
  refine wpAnyE_done (by kernel_rfl) ?_ _
  clear hHeld hS
  go_wp2
  exact bodyPost_ret (v := .tuple #[.agg #[.int .i64 mx, .slice u6 ML.length s6], .int .i64 0]) (by rw [results_cell_tmp1 rfl]; go_simp) rfl ⟨_, rfl, HSV.out, EF⟩
set_option maxHeartbeats 8000000 in
set_option maxRecDepth 100000 in
theorem JoinR_any (n m : Int) (l q : List Stp) (a b : Option Addr) (ca cb : Nat) (w : World) (hl : l.length ≤ maxLen) (hc : CellsP w a l) (hq : q.length ≤ maxLen) (hd : CellsP w b q) :
    Calls Tryz.prog 31 #[.agg #[.int .i64 n, .slice a l.length ca], .agg #[.int .i64 m, .slice b q.length cb]] w (SeqErr (if joinE (n, l) (m, q) = 0 then joined2 (n, l) (m, q) else sq0) (joinE (n, l) (m, q)) w) := by
  by_cases hin : ckSeq (n, l) = 0 ∧ ckSeq (m, q) = 0 ∧ l.length + q.length ≤ 64
  · obtain ⟨h1, h2, h3⟩ := hin
    have hj : joinE (n, l) (m, q) = 0 := by unfold joinE; rw [if_neg (by simp [h1]), if_neg (by simp [h2]), if_neg (by dsimp only; omega)]
    rw [hj, if_pos rfl]
    exact JoinR_ok n m l q a b ca cb w hl hc hq hd h1 h2 h3
  · obtain ⟨er, hs, hne, hr⟩ : ∃ er, joinE (n, l) (m, q) = er ∧ er ≠ 0 ∧ ((ckSeq (n, l) ≠ 0 ∧ er = ckSeq (n, l)) ∨ (ckSeq (n, l) = 0 ∧ ((ckSeq (m, q) ≠ 0 ∧ er = ckSeq (m, q)) ∨ (ckSeq (m, q) = 0 ∧ er = 5 ∧ 64 < l.length + q.length)))) := by
      by_cases h1 : ckSeq (n, l) = 0
      · by_cases h2 : ckSeq (m, q) = 0
        · have h3 : 64 < l.length + q.length := by
            by_cases h3 : l.length + q.length ≤ 64
            · exact absurd ⟨h1, h2, h3⟩ hin
            · omega
          exact ⟨5, by unfold joinE; rw [if_neg (by simp [h1]), if_neg (by simp [h2]), if_pos (by dsimp only; omega)], by decide, .inr ⟨h1, .inr ⟨h2, rfl, h3⟩⟩⟩
        · exact ⟨_, by unfold joinE; rw [if_neg (by simp [h1]), if_pos h2], h2, .inr ⟨h1, .inl ⟨h2, rfl⟩⟩⟩
      · exact ⟨_, by unfold joinE; rw [if_pos h1], h1, .inl ⟨h1, rfl⟩⟩
    rw [hs, if_neg hne]
    have HC := Lib.hid hc
    have HL := Lib.hid hl
    have HD := Lib.hid hd
    have HQ := Lib.hid hq
    have HR := Lib.hid hr
    have HNE := Lib.hid hne
    clear hc hd hl hq hs hne hr hin
    have hzs : ∀ w, (zeroValue 24).run Tryz.prog w = .ok (.agg #[.int .i64 0, .slice none 0 0]) w := fun _ => by kernel_rfl
    go_enter Tryz.func31, Tryz.ntmps31
    go_wp2_with fail
    have E1 : Ext w (((w.alloc (.cells #[.int .i64 n, .slice a l.length ca] 24)).alloc (.cells #[.int .i64 m, .slice b q.length cb] 24)).alloc (.cells #[.int .i64 0, .slice none 0 0] 24)) := (by repeat (first | with_reducible exact Ext.refl _ | with_reducible assumption | with_reducible apply Ext.drewN | with_reducible apply Ext.drew | with_reducible apply Ext.alloc | ((with_reducible refine Ext.set ?_ ?_ _); rotate_left; first | omega | (simp; omega)) | (with_reducible refine Ext.trans ?_ (by with_reducible assumption))))
    have a0 : (((w.alloc (.cells #[.int .i64 n, .slice a l.length ca] 24)).alloc (.cells #[.int .i64 m, .slice b q.length cb] 24)).alloc (.cells #[.int .i64 0, .slice none 0 0] 24)).cell? ⟨w.heap.size, 0, none⟩ = some (.int .i64 n) := by go_simp
    have a1 : (((w.alloc (.cells #[.int .i64 n, .slice a l.length ca] 24)).alloc (.cells #[.int .i64 m, .slice b q.length cb] 24)).alloc (.cells #[.int .i64 0, .slice none 0 0] 24)).cell? ⟨w.heap.size, 1, none⟩ = some (.slice a l.length ca) := by go_simp
    have b0 : (((w.alloc (.cells #[.int .i64 n, .slice a l.length ca] 24)).alloc (.cells #[.int .i64 m, .slice b q.length cb] 24)).alloc (.cells #[.int .i64 0, .slice none 0 0] 24)).cell? ⟨w.heap.size + 1, 0, none⟩ = some (.int .i64 m) := by go_simp
    have b1 : (((w.alloc (.cells #[.int .i64 n, .slice a l.length ca] 24)).alloc (.cells #[.int .i64 m, .slice b q.length cb] 24)).alloc (.cells #[.int .i64 0, .slice none 0 0] 24)).cell? ⟨w.heap.size + 1, 1, none⟩ = some (.slice b q.length cb) := by go_simp
    have c2 : (((w.alloc (.cells #[.int .i64 n, .slice a l.length ca] 24)).alloc (.cells #[.int .i64 m, .slice b q.length cb] 24)).alloc (.cells #[.int .i64 0, .slice none 0 0] 24)).cell? ⟨w.heap.size + 1 + 1, 0, none⟩ = some (.int .i64 0) := by go_simp
    have c3 : (((w.alloc (.cells #[.int .i64 n, .slice a l.length ca] 24)).alloc (.cells #[.int .i64 m, .slice b q.length cb] 24)).alloc (.cells #[.int .i64 0, .slice none 0 0] 24)).cell? ⟨w.heap.size + 1 + 1, 1, none⟩ = some (.slice none 0 0) := by go_simp
    have d2 : (((w.alloc (.cells #[.int .i64 n, .slice a l.length ca] 24)).alloc (.cells #[.int .i64 m, .slice b q.length cb] 24)).alloc (.cells #[.int .i64 0, .slice none 0 0] 24)).frozen? ⟨w.heap.size + 1 + 1, 0, none⟩ = false := by go_simp
    have d3 : (((w.alloc (.cells #[.int .i64 n, .slice a l.length ca] 24)).alloc (.cells #[.int .i64 m, .slice b q.length cb] 24)).alloc (.cells #[.int .i64 0, .slice none 0 0] 24)).frozen? ⟨w.heap.size + 1 + 1, 1, none⟩ = false := by go_simp
    generalize (((w.alloc (.cells #[.int .i64 n, .slice a l.length ca] 24)).alloc (.cells #[.int .i64 m, .slice b q.length cb] 24)).alloc (.cells #[.int .i64 0, .slice none 0 0] 24)) = W at E1 a0 a1 b0 b1 c2 c3 d2 d3 ⊢
    refine (CheckR_any n l a ca _ HL.out (HC.out.ext E1)).mono ?_
    rintro e w1 ⟨rfl, hE⟩
    have E2 := E1.trans hE
    have d2 := (Below.frozen (p := ⟨w.heap.size + 1 + 1, 0, none⟩) hE (cell_lt c2)).trans d2
    have d3 := (Below.frozen (p := ⟨w.heap.size + 1 + 1, 1, none⟩) hE (cell_lt c3)).trans d3
    have a0 := hE.cell a0
    have a1 := hE.cell a1
    have b0 := hE.cell b0
    have b1 := hE.cell b1
    have c2 := hE.cell c2
    have c3 := hE.cell c3
    have EF : Ext w ((w1.setCell ⟨w.heap.size + 1 + 1, 0, none⟩ (.int .i64 0)).setCell ⟨w.heap.size + 1 + 1, 1, none⟩ (.slice none 0 0)) := (E2.set (by omega) _).set (by omega) _
    clear hE
    rcases HR.out with ⟨h1, h2⟩ | ⟨h1, hr⟩
    · have hn : (er != 0) = true := by rw [h2]; simp [h1]
      rw [← h2]
      clear h1 h2 HR
      go_wp2
      exact bodyPost_ret (v := .tuple #[.agg #[.int .i64 0, .slice none 0 0], .int .i64 er]) (by rw [results_cell_tmp1 rfl]; go_simp) rfl ⟨_, rfl, seqV_zero _, EF⟩
    · rw [h1]
      have hl64 := (ckSeq_zero h1).2.2.2.1
      have HR2 := Lib.hid hr
      clear h1 hr HR EF
      go_wp2_with fail
      refine (CheckR_any m q b cb _ HQ.out (HD.out.ext E2)).mono ?_
      rintro e w2 ⟨rfl, hE⟩
      have E3 := E2.trans hE
      have d2 := (Below.frozen (p := ⟨w.heap.size + 1 + 1, 0, none⟩) hE (cell_lt c2)).trans d2
      have d3 := (Below.frozen (p := ⟨w.heap.size + 1 + 1, 1, none⟩) hE (cell_lt c3)).trans d3
      have a0 := hE.cell a0
      have a1 := hE.cell a1
      have b0 := hE.cell b0
      have b1 := hE.cell b1
      have c2 := hE.cell c2
      have c3 := hE.cell c3
      have EF : Ext w ((w2.setCell ⟨w.heap.size + 1 + 1, 0, none⟩ (.int .i64 0)).setCell ⟨w.heap.size + 1 + 1, 1, none⟩ (.slice none 0 0)) := (E3.set (by omega) _).set (by omega) _
      clear hE
      rcases HR2.out with ⟨h1, h2⟩ | ⟨h1, rfl, h3⟩
      · have hn : (er != 0) = true := by rw [h2]; simp [h1]
        rw [← h2]
        clear h1 h2 HR2
        go_wp2
        exact bodyPost_ret (v := .tuple #[.agg #[.int .i64 0, .slice none 0 0], .int .i64 er]) (by rw [results_cell_tmp1 rfl]; go_simp) rfl ⟨_, rfl, seqV_zero _, EF⟩
      · rw [h1]
        have hq64 := (ckSeq_zero h1).2.2.2.1
        have g1 : IntKind.i64.wrap ((l.length : Int) + (q.length : Int)) = (l.length : Int) + (q.length : Int) := IntWalk.i64_in _ (by omega)
        have g2 : (64 : Int) < (l.length : Int) + (q.length : Int) := by omega
        clear h1 HR2
        go_wp2
        exact bodyPost_ret (v := .tuple #[.agg #[.int .i64 0, .slice none 0 0], .int .i64 5]) (by rw [results_cell_tmp1 rfl]; go_simp) rfl ⟨_, rfl, seqV_zero _, EF⟩
end Go.Proofs.YtnhbogmihnnpjaaGreat
