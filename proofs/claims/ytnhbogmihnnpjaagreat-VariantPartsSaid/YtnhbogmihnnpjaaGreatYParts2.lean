/- Steps of the proof: QBackR, QLPar, QOpen. No conditions. -/
import Derived.ProofKit
import Derived.OpenShut
import Derived.Lib.SmallJoins
import Derived.Deep.Slices
import Derived.Test.YtnhbogmihnnpjaaGreatYB1
import Derived.Test.YtnhbogmihnnpjaaGreatYB2
import Derived.Test.YtnhbogmihnnpjaaGreatYB3
import Derived.Test.YtnhbogmihnnpjaaGreatYB4
import Derived.Test.YtnhbogmihnnpjaaGreatYB5
import Derived.Test.YtnhbogmihnnpjaaGreatYB6
import Derived.Test.YtnhbogmihnnpjaaGreatYB7
import Derived.Test.YtnhbogmihnnpjaaGreatYB8
import Derived.Test.YtnhbogmihnnpjaaGreatYB9
import Derived.Test.YtnhbogmihnnpjaaGreatYB10
import Derived.Test.YtnhbogmihnnpjaaGreatYParts1
/- The reference's Backwards. -/
namespace Go.Proofs.YtnhbogmihnnpjaaGreat
open Go.RowKit

def backK (s : Sq) (k : Nat) : List Stp := (List.range k).map (backStep s)
theorem backK_succ (s : Sq) (k : Nat) : backK s (k + 1) = backK s k ++ [backStep s k] := by unfold backK; rw [List.range_succ, List.map_append]; rfl
theorem backK_len (s : Sq) (k : Nat) : (backK s k).length = k := by simp [backK]
def flipP (st : List Stk) (j : Nat) : List Stk := flipAll (st.take j)
theorem flipP_len (st : List Stk) (j : Nat) : (flipP st j).length ≤ st.length := by unfold flipP; rw [flipAll_len]; exact List.length_take_le' ..

set_option maxHeartbeats 8000000 in
set_option maxRecDepth 100000 in
theorem BackwardsR_any (n : Int) (l : List Stp) (a : Option Addr) (cap : Nat) (w : World) (hl : l.length ≤ maxLen) (hc : CellsP w a l) :
    Calls Tryz.prog 24 #[.agg #[.int .i64 n, .slice a l.length cap]] w (SeqErr (if ckSeq (n, l) = 0 then backwards (n, l) else sq0) (ckSeq (n, l)) w) := by
  have HC := Lib.hid hc
  have HL := Lib.hid hl
  obtain ⟨er, her⟩ : ∃ er, er = ckSeq (n, l) := ⟨_, rfl⟩
  obtain ⟨s, hs⟩ : ∃ s, s = if er = 0 then backwards (n, l) else sq0 := ⟨_, rfl⟩
  rw [← her, ← hs]
  have HER := Lib.hid her
  have HS := Lib.hid hs
  unfold maxLen at hl
  clear hc her hs
  go_enter Tryz.func24, Tryz.ntmps24
  go_wp2_with fail
  have E1 : Ext w ((w.alloc (.cells #[.int .i64 n, .slice a l.length cap] 24)).alloc (.cells #[.int .i64 0, .slice none 0 0] 24)) := (by repeat (first | with_reducible exact Ext.refl _ | with_reducible assumption | with_reducible apply Ext.drewN | with_reducible apply Ext.drew | with_reducible apply Ext.alloc | ((with_reducible refine Ext.set ?_ ?_ _); rotate_left; first | omega | (simp; omega)) | (with_reducible refine Ext.trans ?_ (by with_reducible assumption))))
  have c0 : (((w.alloc (.cells #[.int .i64 n, .slice a l.length cap] 24)).alloc (.cells #[.int .i64 0, .slice none 0 0] 24))).cell? ⟨w.heap.size, 0, none⟩ = some (.int .i64 n) := by go_simp
  have c1 : (((w.alloc (.cells #[.int .i64 n, .slice a l.length cap] 24)).alloc (.cells #[.int .i64 0, .slice none 0 0] 24))).cell? ⟨w.heap.size, 1, none⟩ = some (.slice a l.length cap) := by go_simp
  have c2 : (((w.alloc (.cells #[.int .i64 n, .slice a l.length cap] 24)).alloc (.cells #[.int .i64 0, .slice none 0 0] 24))).cell? ⟨w.heap.size + 1, 0, none⟩ = some (.int .i64 0) := by go_simp
  have c3 : (((w.alloc (.cells #[.int .i64 n, .slice a l.length cap] 24)).alloc (.cells #[.int .i64 0, .slice none 0 0] 24))).cell? ⟨w.heap.size + 1, 1, none⟩ = some (.slice none 0 0) := by go_simp
  have d2 : (((w.alloc (.cells #[.int .i64 n, .slice a l.length cap] 24)).alloc (.cells #[.int .i64 0, .slice none 0 0] 24))).frozen? ⟨w.heap.size + 1, 0, none⟩ = false := by go_simp
  have d3 : (((w.alloc (.cells #[.int .i64 n, .slice a l.length cap] 24)).alloc (.cells #[.int .i64 0, .slice none 0 0] 24))).frozen? ⟨w.heap.size + 1, 1, none⟩ = false := by go_simp
  generalize ((w.alloc (.cells #[.int .i64 n, .slice a l.length cap] 24)).alloc (.cells #[.int .i64 0, .slice none 0 0] 24)) = W at E1 c0 c1 c2 c3 d2 d3 ⊢
  refine (CheckR_any n l a cap _ HL.out (HC.out.ext E1)).mono ?_
  rintro e w1 ⟨rfl, hE⟩
  rw [← HER.out]
  have E2 := E1.trans hE
  have d2 := (Below.frozen (p := ⟨w.heap.size + 1, 0, none⟩) hE (cell_lt c2)).trans d2
  have d3 := (Below.frozen (p := ⟨w.heap.size + 1, 1, none⟩) hE (cell_lt c3)).trans d3
  have c0 := (hE).cell c0
  have c1 := (hE).cell c1
  have c2 := (hE).cell c2
  have c3 := (hE).cell c3
  clear hE
  by_cases h0 : er = 0
  · subst h0
    have hck := HER.out.symm
    obtain ⟨hN1, hN6, hl0, hl64, hwk, _, _⟩ := ckSeq_zero hck
    have HFI := Lib.hid (ckWalk_fine hwk)
    have hs := HS.out
    rw [if_pos rfl] at hs
    have HR2 : Hid (backK (n, l) l.length = s.2) := by show _ = _; rw [hs]; rfl
    have HR1 : Hid (s.1 = n) := by show _ = _; rw [hs]; rfl
    obtain ⟨i0, hi, hi0, hi1, hi2⟩ := info_parts infoStk
    obtain ⟨j0, hj, hj0, hj1, hj2⟩ := info_parts infoStp
    have zw := cell_lt c2
    have zw0 := cell_lt c0
    dsimp only at zw zw0
    have hsub : IntKind.i64.wrap ((l.length : Int) - 1) = (l.length : Int) - 1 := IntWalk.i64_in _ (by omega)
    clear hck hwk HER HS hs
    go_wp2
    have EO : Ext w1 (w1.alloc (.cells #[.int .i64 n, .slice none 0 0] 24)) := (by repeat (first | with_reducible exact Ext.refl _ | with_reducible assumption | with_reducible apply Ext.drewN | with_reducible apply Ext.drew | with_reducible apply Ext.alloc | ((with_reducible refine Ext.set ?_ ?_ _); rotate_left; first | omega | (simp; omega)) | (with_reducible refine Ext.trans ?_ (by with_reducible assumption))))
    have c4 : (w1.alloc (.cells #[.int .i64 n, .slice none 0 0] 24)).cell? ⟨w1.heap.size, 0, none⟩ = some (.int .i64 n) := by go_simp
    have c5 : (w1.alloc (.cells #[.int .i64 n, .slice none 0 0] 24)).cell? ⟨w1.heap.size, 1, none⟩ = some (.slice none 0 0) := by go_simp
    have f5 : (w1.alloc (.cells #[.int .i64 n, .slice none 0 0] 24)).frozen? ⟨w1.heap.size, 1, none⟩ = false := by go_simp
    have d2 := (Below.frozen (p := ⟨w.heap.size + 1, 0, none⟩) EO (cell_lt c2)).trans d2
    have d3 := (Below.frozen (p := ⟨w.heap.size + 1, 1, none⟩) EO (cell_lt c3)).trans d3
    have c0 := (EO).cell c0
    have c1 := (EO).cell c1
    have c2 := (EO).cell c2
    have c3 := (EO).cell c3
    have E3 := E2.trans EO
    generalize (w1.alloc (.cells #[.int .i64 n, .slice none 0 0] 24)) = W2 at EO E3 c0 c1 c2 c3 c4 c5 f5 d2 d3 ⊢
    obtain ⟨o, ho⟩ : ∃ o, o = w1.heap.size := ⟨_, rfl⟩
    have ho1 : w.heap.size + 1 < o := by omega
    have hoW : o < W2.heap.size := by rw [ho]; exact cell_lt c4
    rw [← ho] at c4 c5 f5 ⊢
    have M0 : Hid (TrSt (fun b => b ≤ o) o W2 W2 n (backK (n, l) 0)) := ⟨Below.refl _ _, c4, f5, _, c5, OwnsP.nil _ _, fun b hb => by cases hb⟩
    clear c4 c5 f5 ho
    go_loopw [7] (fun i wr => ∃ (z : Int) (k : Nat), k ≤ l.length ∧ i = .int .i64 z ∧ Hid (z = (l.length : Int) - 1 - (k : Int)) ∧ Hid (TrSt (fun b => b ≤ o) o W2 wr n (backK (n, l) k))) (fun i _ => (intOf i + 1).toNat)
    case atStart => exact ⟨_, 0, Nat.zero_le _, rfl, by show _ = _; omega, M0⟩
    case round =>
      obtain ⟨z, k, hk, rfl, hz, M⟩ := hrel
      clear M0
      obtain ⟨wo, hwo⟩ : ∃ wo : World, wo = wr := ⟨_, rfl⟩
      subst hwo
      have hbe := M.out.be
      have E4 : Ext w wo := E3.trans' hbe (by omega)
      have hsz := hbe.size
      have how : o < wo.heap.size := by omega
      have x0 := cellB hbe (p := ⟨w.heap.size, 0, none⟩) (by show w.heap.size < _; omega) c0
      have x1 := cellB hbe (p := ⟨w.heap.size, 1, none⟩) (by show w.heap.size < _; omega) c1
      by_cases hlt : 0 ≤ z
      · obtain ⟨zn, rfl⟩ := Int.eq_ofNat_of_zero_le hlt
        have hzk : zn + 1 + k = l.length := by have := hz.out; omega
        have hzl : zn < l.length := by omega
        obtain ⟨i, hii⟩ : ∃ i, i = (2 * l.length - 2 - k) % l.length := ⟨_, rfl⟩
        have hil : i < l.length := by rw [hii]; exact Nat.mod_lt _ (by omega)
        have hmod : ((zn : Int) + (l.length : Int) - 1).tmod (l.length : Int) = (i : Int) := by
          rw [Int.tmod_eq_emod_of_nonneg (by omega)]
          rw [hii, show (zn : Int) + (l.length : Int) - 1 = ((2 * l.length - 2 - k : Nat) : Int) from by omega]
          rfl
        have u1 : IntKind.i64.wrap ((zn : Int) + (l.length : Int)) = (zn : Int) + (l.length : Int) := IntWalk.i64_in _ (by omega)
        have u2 : IntKind.i64.wrap ((zn : Int) + (l.length : Int) - 1) = (zn : Int) + (l.length : Int) - 1 := IntWalk.i64_in _ (by omega)
        have u3 : IntKind.i64.wrap (i : Int) = (i : Int) := IntWalk.i64_in _ (by omega)
        have u4 : IntKind.i64.wrap ((zn : Int) - 1) = (zn : Int) - 1 := IntWalk.i64_in _ (by omega)
        have u5 : ((l.length : Int) == 0) = false := beq_eq_false_iff_ne.2 (by omega)
        have u6 : ¬ (l = []) := fun h => by rw [h] at hzl; simp at hzl
        obtain ⟨b, off, v, ha, p1, hv, p2⟩ := HC.out zn hzl
        subst ha
        obtain ⟨_, _, vi, e0, q1, q2, q3⟩ := HC.out i hil
        cases e0
        have hst40 : (l.getD zn stp0).1.length ≤ 6 := (ckStep_strokes (HFI.out zn hzl).1).2.1
        have hbs : backStep (n, l) k = (flipAll (l.getD zn stp0).1, (l.getD i stp0).2) := by
          unfold backStep
          rw [← hii, show l.length - 1 - k = zn from by omega]; rfl
        have HBS := Lib.hid hbs
        have HII := Lib.hid hii
        have HMS := Lib.hid (backK_succ (n, l) k)
        obtain ⟨sa, sc, rfl, hcs, hls⟩ := hv
        have zb := cell_lt p1
        dsimp only at zb
        have HP1 := Lib.hid (E4.cell p1)
        have p1 := E4.cell p1
        have q3 := E4.cell q3
        generalize l.getD zn stp0 = x at p1 p2 HP1 hcs hls HBS hst40
        generalize (l.getD i stp0).2 = wait at q3 HBS
        obtain ⟨st, wj⟩ := x
        dsimp only at p1 p2 HP1 hcs hls HBS hst40
        have HCS := Lib.hid hcs
        have HLS := Lib.hid hls
        have X0 := Lib.hid x0
        have X1 := Lib.hid x1
        have m3 : (0 : Int) ≤ (i : Int) := by omega
        have m4 : (i : Int) < (l.length : Int) := by omega
        clear hcs hls hii hbs q1 q2
        go_wp2
        refine wp_region_heldE 13 (fun w' => w'.cell? ⟨w.heap.size, 1, none⟩ = some (.slice (some ⟨b, off, none⟩) l.length cap) ∧ w'.cell? ⟨b, off + i * 2 + 1, none⟩ = some (.int .i64 wait)) (by kernel_rfl) ?_
        have ED : Ext wo wo.drew := (by repeat (first | with_reducible exact Ext.refl _ | with_reducible assumption | with_reducible apply Ext.drewN | with_reducible apply Ext.drew | with_reducible apply Ext.alloc | ((with_reducible refine Ext.set ?_ ?_ _); rotate_left; first | omega | (simp; omega)) | (with_reducible refine Ext.trans ?_ (by with_reducible assumption))))
        have hS : wo.drew.cell? ⟨w.heap.size, 1, none⟩ = some (.slice (some ⟨b, off, none⟩) l.length cap) ∧ wo.drew.cell? ⟨b, off + i * 2 + 1, none⟩ = some (.int .i64 wait) := ⟨ED.cell x1, ED.cell q3⟩
        ((refine wpAnyE_take (i := 0) (oi := ?_) (v := ?_) ?_ (by kernel_rfl) ?_ ?_ (by assumption) ?_; rotate_left 2; (focus ((simp only [List.getElem?_toArray, List.getElem?_cons_zero]; exact rfl))); (focus (exact fun _ _ _ h => h)); (focus (refine Or.inl ⟨by rfl, ?_⟩; intro w hSw; (try dsimp only at hSw); (first | (go_simp; done) | (go_simp; with_reducible rfl)))); (try simp only [Act.put, List.setIfInBounds_toArray, List.set_cons_zero, List.set_cons_succ])); (refine wpAnyE_take (i := 1) (oi := ?_) (v := ?_) ?_ (by kernel_rfl) ?_ ?_ (by assumption) ?_; rotate_left 2; (focus ((simp only [List.getElem?_toArray, List.getElem?_cons_succ, List.getElem?_cons_zero]; exact rfl))); (focus (exact fun _ _ _ h => h)); (focus (refine Or.inl ⟨by rfl, ?_⟩; intro w hSw; (try dsimp only at hSw); (first | (go_simp; done) | (go_simp; with_reducible rfl)))); (try simp only [Act.put, List.setIfInBounds_toArray, List.set_cons_zero, List.set_cons_succ])); (refine wpAnyE_take (i := 2) (oi := ?_) (v := ?_) ?_ (by kernel_rfl) ?_ ?_ (by assumption) ?_; rotate_left 2; (focus ((simp only [List.getElem?_toArray, List.getElem?_cons_succ, List.getElem?_cons_zero]; exact rfl))); (focus (exact fun _ _ _ h => h)); (focus (refine Or.inl ⟨by rfl, ?_⟩; intro w hSw; (try dsimp only at hSw); (first | (go_simp; done) | (go_simp; with_reducible rfl)))); (try simp only [Act.put, List.setIfInBounds_toArray, List.set_cons_zero, List.set_cons_succ])); (refine wpAnyE_take (i := 3) (oi := ?_) (v := ?_) ?_ (by kernel_rfl) ?_ ?_ (by assumption) ?_; rotate_left 2; (focus ((simp only [List.getElem?_toArray, List.getElem?_cons_succ, List.getElem?_cons_zero]; exact rfl))); (focus (exact fun _ _ _ h => h)); (focus (refine Or.inl ⟨by rfl, ?_⟩; intro w hSw; (try dsimp only at hSw); (first | (go_simp; done) | (go_simp; with_reducible rfl)))); (try simp only [Act.put, List.setIfInBounds_toArray, List.set_cons_zero, List.set_cons_succ])); (refine wpAnyE_take (i := 4) (oi := ?_) (v := ?_) ?_ (by kernel_rfl) ?_ ?_ (by assumption) ?_; rotate_left 2; (focus ((simp only [List.getElem?_toArray, List.getElem?_cons_succ, List.getElem?_cons_zero]; exact rfl))); (focus (exact fun _ _ _ h => h)); (focus (refine Or.inl ⟨by rfl, ?_⟩; intro w hSw; (try dsimp only at hSw); (first | (go_simp; done) | (go_simp; with_reducible rfl)))); (try simp only [Act.put, List.setIfInBounds_toArray, List.set_cons_zero, List.set_cons_succ])); (refine wpAnyE_take (i := 5) (oi := ?_) (v := ?_) ?_ (by kernel_rfl) ?_ ?_ (by assumption) ?_; rotate_left 2; (focus ((simp only [List.getElem?_toArray, List.getElem?_cons_succ, List.getElem?_cons_zero]; exact rfl))); (focus (exact fun _ _ _ h => h)); (focus (refine Or.inl ⟨by rfl, ?_⟩; intro w hSw; (try dsimp only at hSw); (first | (go_simp; done) | (go_simp; with_reducible rfl)))); (try simp only [Act.put, List.setIfInBounds_toArray, List.set_cons_zero, List.set_cons_succ])); (refine wpAnyE_take (i := 6) (oi := ?_) (v := ?_) ?_ (by kernel_rfl) ?_ ?_ (by assumption) ?_; rotate_left 2; (focus ((simp only [List.getElem?_toArray, List.getElem?_cons_succ, List.getElem?_cons_zero]; exact rfl))); (focus (exact fun _ _ _ h => h)); (focus (refine Or.inl ⟨by rfl, ?_⟩; intro w hSw; (try dsimp only at hSw); (first | (go_simp; done) | (go_simp; with_reducible rfl)))); (try simp only [Act.put, List.setIfInBounds_toArray, List.set_cons_zero, List.set_cons_succ])); (refine wpAnyE_take (i := 7) (oi := ?_) (v := ?_) ?_ (by kernel_rfl) ?_ ?_ (by assumption) ?_; rotate_left 2; (focus ((simp only [List.getElem?_toArray, List.getElem?_cons_succ, List.getElem?_cons_zero]; exact rfl))); (focus (exact fun _ _ _ h => h)); (focus (refine Or.inl ⟨by rfl, ?_⟩; intro w hSw; (try dsimp only at hSw); (first | (go_simp; done) | (go_simp; with_reducible rfl)))); (try simp only [Act.put, List.setIfInBounds_toArray, List.set_cons_zero, List.set_cons_succ])); (refine wpAnyE_take (i := 8) (oi := ?_) (v := ?_) ?_ (by kernel_rfl) ?_ ?_ (by assumption) ?_; rotate_left 2; (focus ((simp only [List.getElem?_toArray, List.getElem?_cons_succ, List.getElem?_cons_zero]; exact rfl))); (focus (exact fun _ _ _ h => h)); (focus (refine Or.inl ⟨by rfl, ?_⟩; intro w hSw; (try dsimp only at hSw); (first | (go_simp; done) | (go_simp; with_reducible rfl)))); (try simp only [Act.put, List.setIfInBounds_toArray, List.set_cons_zero, List.set_cons_succ])); (refine wpAnyE_take (i := 9) (oi := ?_) (v := ?_) ?_ (by kernel_rfl) ?_ ?_ (by assumption) ?_; rotate_left 2; (focus ((simp only [List.getElem?_toArray, List.getElem?_cons_succ, List.getElem?_cons_zero]; exact rfl))); (focus (exact fun _ _ _ h => h)); (focus (refine Or.inl ⟨by rfl, ?_⟩; intro w hSw; (try dsimp only at hSw); (first | (go_simp; done) | (go_simp; with_reducible rfl)))); (try simp only [Act.put, List.setIfInBounds_toArray, List.set_cons_zero, List.set_cons_succ])); (refine wpAnyE_take (i := 10) (oi := ?_) (v := ?_) ?_ (by kernel_rfl) ?_ ?_ (by assumption) ?_; rotate_left 2; (focus ((simp only [List.getElem?_toArray, List.getElem?_cons_succ, List.getElem?_cons_zero]; exact rfl))); (focus (exact fun _ _ _ h => h)); (focus (refine Or.inl ⟨by rfl, ?_⟩; intro w hSw; (try dsimp only at hSw); (first | (go_simp; done) | (go_simp; with_reducible rfl)))); (try simp only [Act.put, List.setIfInBounds_toArray, List.set_cons_zero, List.set_cons_succ])); (refine wpAnyE_take (i := 11) (oi := ?_) (v := ?_) ?_ (by kernel_rfl) ?_ ?_ (by assumption) ?_; rotate_left 2; (focus ((simp only [List.getElem?_toArray, List.getElem?_cons_succ, List.getElem?_cons_zero]; exact rfl))); (focus (exact fun _ _ _ h => h)); (focus (refine Or.inl ⟨by rfl, ?_⟩; intro w hSw; (try dsimp only at hSw); (first | (go_simp; done) | (go_simp; with_reducible rfl)))); (try simp only [Act.put, List.setIfInBounds_toArray, List.set_cons_zero, List.set_cons_succ])))
        have EA : Ext wo (wo.drew.alloc (.cells #[.slice none 0 0, .int .i64 0] 87)) := (by repeat (first | with_reducible exact Ext.refl _ | with_reducible assumption | with_reducible apply Ext.drewN | with_reducible apply Ext.drew | with_reducible apply Ext.alloc | ((with_reducible refine Ext.set ?_ ?_ _); rotate_left; first | omega | (simp; omega)) | (with_reducible refine Ext.trans ?_ (by with_reducible assumption))))
        (refine wpAnyE_one (i := 12) (o := ?_) ?_ (by kernel_rfl) (fun K hK => ?_); rotate_left; (focus ((simp only [List.getElem?_toArray, List.getElem?_cons_succ, List.getElem?_cons_zero]; exact rfl))); go_simp; refine hK.out _ _ ?_ (fun hHeld => ?_); rotate_left; clear hK K; (try simp only [Act.put, List.setIfInBounds_toArray, List.set_cons_zero, List.set_cons_succ]))
        rotate_left
        · exact ⟨EA.cell x1, EA.cell q3⟩
        (refine wpAnyE_free (i := 13) (o := ?_) ?_ (by kernel_rfl) (by kernel_rfl) (fun K hK => ?_); rotate_left; (focus ((simp only [List.getElem?_toArray, List.getElem?_cons_succ, List.getElem?_cons_zero]; exact rfl))); go_simp; refine hK.out _ _ ?_; clear hK K; (try simp only [Act.put, List.setIfInBounds_toArray, List.set_cons_zero, List.set_cons_succ]))
        refine wpAnyE_done (by kernel_rfl) ?_ _
        have EP : Ext wo (wo.alloc (.cells #[.slice none 0 0, .int .i64 wait] 87)).drew := (by repeat (first | with_reducible exact Ext.refl _ | with_reducible assumption | with_reducible apply Ext.drewN | with_reducible apply Ext.drew | with_reducible apply Ext.alloc | ((with_reducible refine Ext.set ?_ ?_ _); rotate_left; first | omega | (simp; omega)) | (with_reducible refine Ext.trans ?_ (by with_reducible assumption))))
        have hps : (wo.alloc (.cells #[.slice none 0 0, .int .i64 wait] 87)).drew.heap.size = wo.heap.size + 1 := by go_simp
        have N0 : Hid (BkSt wo.heap.size wait (wo.alloc (.cells #[.slice none 0 0, .int .i64 wait] 87)).drew (wo.alloc (.cells #[.slice none 0 0, .int .i64 wait] 87)).drew (flipP st 0)) := ⟨Below.refl _ _, by go_simp, by go_simp, _, by go_simp, OwnsK.nil _, fun b hb => by cases hb⟩
        clear hHeld hS ED EA
        generalize (wo.alloc (.cells #[.slice none 0 0, .int .i64 wait] 87)).drew = W1 at EP hps N0 ⊢
        obtain ⟨p, hp⟩ : ∃ p, p = wo.heap.size := ⟨_, rfl⟩
        have how2 : o < p := by omega
        have zbp : b < p := by have := E4.size; omega
        have zwp : w.heap.size < p := by omega
        rw [← hp] at hps N0 ⊢
        have hps1 : p + 1 ≤ W1.heap.size := by omega
        have HPP := Lib.hid hp
        have hpE : w.heap.size ≤ p := by omega
        clear p1 p2 q3 x0 x1 hp hps
        go_wp2
        go_loopw [9] (fun i wr => ∃ j : Nat, j ≤ st.length ∧ i = .int .i64 j ∧ Hid (BkSt p wait W1 wr (flipP st j))) (fun i _ => st.length - (intOf i).toNat)
        case atStart => exact ⟨0, by omega, rfl, N0⟩
        case round =>
          obtain ⟨j, hj', rfl, N⟩ := hrel
          clear N0
          have hbn := N.out.be
          have hsn := hbn.size
          have d5 := cellB hbn (p := ⟨w.heap.size, 1, none⟩) (by show w.heap.size < _; omega) (EP.cell X1.out)
          have p1 := cellB hbn (p := ⟨b, off + zn * 2, none⟩) (by show b < _; omega) (EP.cell HP1.out)
          by_cases hjl : j < st.length
          · obtain ⟨kb, ko, ha, r1, r2⟩ := HCS.out j hjl
            subst ha
            have hkz := cell_lt r1
            dsimp only at hkz
            have EW1 : Ext w W1 := E4.trans EP
            have r1 := cellB hbn (p := ⟨kb, ko + j * 2, none⟩) (by show kb < _; omega) (EW1.cell r1)
            have r2 := cellB hbn (p := ⟨kb, ko + j * 2 + 1, none⟩) (by show kb < _; omega) (EW1.cell r2)
            have HPS : Hid (flipP st (j + 1) = flipP st j ++ [((st.getD j stk0).1, !(st.getD j stk0).2)]) := flipAll_succ st hjl
            have hpl := flipP_len st j
            generalize st.getD j stk0 = y at r1 r2 HPS
            obtain ⟨ya, yo⟩ := y
            dsimp only at r1 r2 HPS
            obtain ⟨u, m1, m2, m3⟩ := N.out.v
            have m0 := N.out.c1
            have mf := N.out.f0
            have HUM : Hid (∀ b, u.ownBlock = some b → b < wr.heap.size) := fun b hb => rowLt m2 hb
            have HM2 := Lib.hid m2
            have HM3 := Lib.hid m3
            clear m2 m3 N
            generalize flipP st j = P at HM2 HPS hpl
            go_wp2
            refine wp_region_heldE 15 (fun w' => w'.cell? ⟨p, 0, none⟩ = some u ∧ w'.cell? ⟨w.heap.size, 1, none⟩ = some (.slice (some ⟨b, off, none⟩) l.length cap) ∧ w'.cell? ⟨b, off + zn * 2, none⟩ = some (.slice (some ⟨kb, ko, none⟩) st.length sc) ∧ w'.cell? ⟨kb, ko + j * 2, none⟩ = some (.int .i64 ya) ∧ w'.cell? ⟨kb, ko + j * 2 + 1, none⟩ = some (.bool yo)) (by kernel_rfl) ?_
            have EX : Ext wr wr.drew := (by repeat (first | with_reducible exact Ext.refl _ | with_reducible assumption | with_reducible apply Ext.drewN | with_reducible apply Ext.drew | with_reducible apply Ext.alloc | ((with_reducible refine Ext.set ?_ ?_ _); rotate_left; first | omega | (simp; omega)) | (with_reducible refine Ext.trans ?_ (by with_reducible assumption))))
            generalize wr.drew = W2 at EX ⊢
            have q1 := EX.cell m1
            have q0 := EX.cell m0
            have qf := (Below.frozen (p := ⟨p, 0, none⟩) EX (cell_lt m1)).trans mf
            have hS : W2.cell? ⟨p, 0, none⟩ = some u ∧ W2.cell? ⟨w.heap.size, 1, none⟩ = some (.slice (some ⟨b, off, none⟩) l.length cap) ∧ W2.cell? ⟨b, off + zn * 2, none⟩ = some (.slice (some ⟨kb, ko, none⟩) st.length sc) ∧ W2.cell? ⟨kb, ko + j * 2, none⟩ = some (.int .i64 ya) ∧ W2.cell? ⟨kb, ko + j * 2 + 1, none⟩ = some (.bool yo) := ⟨q1, EX.cell d5, EX.cell p1, EX.cell r1, EX.cell r2⟩
            ((refine wpAnyE_take (i := 0) (oi := ?_) (v := ?_) ?_ (by kernel_rfl) ?_ ?_ (by assumption) ?_; rotate_left 2; (focus ((simp only [List.getElem?_toArray, List.getElem?_cons_zero]; exact rfl))); (focus (exact fun _ _ _ h => h)); (focus (refine Or.inl ⟨by rfl, ?_⟩; intro w hSw; (try dsimp only at hSw); (first | (go_simp; done) | (go_simp; with_reducible rfl)))); (try simp only [Act.put, List.setIfInBounds_toArray, List.set_cons_zero, List.set_cons_succ])); (refine wpAnyE_take (i := 1) (oi := ?_) (v := ?_) ?_ (by kernel_rfl) ?_ ?_ (by assumption) ?_; rotate_left 2; (focus ((simp only [List.getElem?_toArray, List.getElem?_cons_succ, List.getElem?_cons_zero]; exact rfl))); (focus (exact fun _ _ _ h => h)); (focus (refine Or.inl ⟨by rfl, ?_⟩; intro w hSw; (try dsimp only at hSw); (first | (go_simp; done) | (go_simp; with_reducible rfl)))); (try simp only [Act.put, List.setIfInBounds_toArray, List.set_cons_zero, List.set_cons_succ])); (refine wpAnyE_take (i := 2) (oi := ?_) (v := ?_) ?_ (by kernel_rfl) ?_ ?_ (by assumption) ?_; rotate_left 2; (focus ((simp only [List.getElem?_toArray, List.getElem?_cons_succ, List.getElem?_cons_zero]; exact rfl))); (focus (exact fun _ _ _ h => h)); (focus (refine Or.inl ⟨by rfl, ?_⟩; intro w hSw; (try dsimp only at hSw); (first | (go_simp; done) | (go_simp; with_reducible rfl)))); (try simp only [Act.put, List.setIfInBounds_toArray, List.set_cons_zero, List.set_cons_succ])); (refine wpAnyE_take (i := 3) (oi := ?_) (v := ?_) ?_ (by kernel_rfl) ?_ ?_ (by assumption) ?_; rotate_left 2; (focus ((simp only [List.getElem?_toArray, List.getElem?_cons_succ, List.getElem?_cons_zero]; exact rfl))); (focus (exact fun _ _ _ h => h)); (focus (refine Or.inl ⟨by rfl, ?_⟩; intro w hSw; (try dsimp only at hSw); (first | (go_simp; done) | (go_simp; with_reducible rfl)))); (try simp only [Act.put, List.setIfInBounds_toArray, List.set_cons_zero, List.set_cons_succ])); (refine wpAnyE_take (i := 4) (oi := ?_) (v := ?_) ?_ (by kernel_rfl) ?_ ?_ (by assumption) ?_; rotate_left 2; (focus ((simp only [List.getElem?_toArray, List.getElem?_cons_succ, List.getElem?_cons_zero]; exact rfl))); (focus (exact fun _ _ _ h => h)); (focus (refine Or.inl ⟨by rfl, ?_⟩; intro w hSw; (try dsimp only at hSw); (first | (go_simp; done) | (go_simp; with_reducible rfl)))); (try simp only [Act.put, List.setIfInBounds_toArray, List.set_cons_zero, List.set_cons_succ])); (refine wpAnyE_take (i := 5) (oi := ?_) (v := ?_) ?_ (by kernel_rfl) ?_ ?_ (by assumption) ?_; rotate_left 2; (focus ((simp only [List.getElem?_toArray, List.getElem?_cons_succ, List.getElem?_cons_zero]; exact rfl))); (focus (exact fun _ _ _ h => h)); (focus (refine Or.inl ⟨by rfl, ?_⟩; intro w hSw; (try dsimp only at hSw); (first | (go_simp; done) | (go_simp; with_reducible rfl)))); (try simp only [Act.put, List.setIfInBounds_toArray, List.set_cons_zero, List.set_cons_succ])); (refine wpAnyE_take (i := 6) (oi := ?_) (v := ?_) ?_ (by kernel_rfl) ?_ ?_ (by assumption) ?_; rotate_left 2; (focus ((simp only [List.getElem?_toArray, List.getElem?_cons_succ, List.getElem?_cons_zero]; exact rfl))); (focus (exact fun _ _ _ h => h)); (focus (refine Or.inl ⟨by rfl, ?_⟩; intro w hSw; (try dsimp only at hSw); (first | (go_simp; done) | (go_simp; with_reducible rfl)))); (try simp only [Act.put, List.setIfInBounds_toArray, List.set_cons_zero, List.set_cons_succ])); (refine wpAnyE_take (i := 7) (oi := ?_) (v := ?_) ?_ (by kernel_rfl) ?_ ?_ (by assumption) ?_; rotate_left 2; (focus ((simp only [List.getElem?_toArray, List.getElem?_cons_succ, List.getElem?_cons_zero]; exact rfl))); (focus (exact fun _ _ _ h => h)); (focus (refine Or.inl ⟨by rfl, ?_⟩; intro w hSw; (try dsimp only at hSw); (first | (go_simp; done) | (go_simp; with_reducible rfl)))); (try simp only [Act.put, List.setIfInBounds_toArray, List.set_cons_zero, List.set_cons_succ])); (refine wpAnyE_take (i := 8) (oi := ?_) (v := ?_) ?_ (by kernel_rfl) ?_ ?_ (by assumption) ?_; rotate_left 2; (focus ((simp only [List.getElem?_toArray, List.getElem?_cons_succ, List.getElem?_cons_zero]; exact rfl))); (focus (exact fun _ _ _ h => h)); (focus (refine Or.inl ⟨by rfl, ?_⟩; intro w hSw; (try dsimp only at hSw); (first | (go_simp; done) | (go_simp; with_reducible rfl)))); (try simp only [Act.put, List.setIfInBounds_toArray, List.set_cons_zero, List.set_cons_succ])); (refine wpAnyE_take (i := 9) (oi := ?_) (v := ?_) ?_ (by kernel_rfl) ?_ ?_ (by assumption) ?_; rotate_left 2; (focus ((simp only [List.getElem?_toArray, List.getElem?_cons_succ, List.getElem?_cons_zero]; exact rfl))); (focus (exact fun _ _ _ h => h)); (focus (refine Or.inl ⟨by rfl, ?_⟩; intro w hSw; (try dsimp only at hSw); (first | (go_simp; done) | (go_simp; with_reducible rfl)))); (try simp only [Act.put, List.setIfInBounds_toArray, List.set_cons_zero, List.set_cons_succ])); (refine wpAnyE_take (i := 10) (oi := ?_) (v := ?_) ?_ (by kernel_rfl) ?_ ?_ (by assumption) ?_; rotate_left 2; (focus ((simp only [List.getElem?_toArray, List.getElem?_cons_succ, List.getElem?_cons_zero]; exact rfl))); (focus (exact fun _ _ _ h => h)); (focus (refine Or.inl ⟨by rfl, ?_⟩; intro w hSw; (try dsimp only at hSw); (first | (go_simp; done) | (go_simp; with_reducible rfl)))); (try simp only [Act.put, List.setIfInBounds_toArray, List.set_cons_zero, List.set_cons_succ])))
            (refine wpAnyE_one (i := 11) (o := ?_) ?_ (by kernel_rfl) (fun K hK => ?_); rotate_left; (focus ((simp only [List.getElem?_toArray, List.getElem?_cons_succ, List.getElem?_cons_zero]; exact rfl))); go_simp; refine (TurnedS_any (ya, yo) _).mono ?_; rintro e w5 ⟨rfl, hE5⟩; go_wp2_with fail; refine hK.out _ _ ?_ (fun hHeld => ?_); rotate_left; clear hK K; (try simp only [Act.put, List.setIfInBounds_toArray, List.set_cons_zero, List.set_cons_succ]))
            rotate_left
            · exact ⟨hE5.cell hS.1, hE5.cell hS.2.1, hE5.cell hS.2.2.1, hE5.cell hS.2.2.2.1, hE5.cell hS.2.2.2.2⟩
            clear hHeld
            have E6 : Ext w5 (w5.alloc (.cells #[.int .i64 ya, .bool (!yo)] 73)) := (by repeat (first | with_reducible exact Ext.refl _ | with_reducible assumption | with_reducible apply Ext.drewN | with_reducible apply Ext.drew | with_reducible apply Ext.alloc | ((with_reducible refine Ext.set ?_ ?_ _); rotate_left; first | omega | (simp; omega)) | (with_reducible refine Ext.trans ?_ (by with_reducible assumption))))
            have E56 := hE5.trans E6
            (refine wpAnyE_one (i := 12) (o := ?_) ?_ (by kernel_rfl) (fun K hK => ?_); rotate_left; (focus ((simp only [List.getElem?_toArray, List.getElem?_cons_succ, List.getElem?_cons_zero]; exact rfl))); go_simp; refine hK.out _ _ ?_ (fun hHeld => ?_); rotate_left; clear hK K; (try simp only [Act.put, List.setIfInBounds_toArray, List.set_cons_zero, List.set_cons_succ]))
            rotate_left
            · exact ⟨E56.cell hS.1, E56.cell hS.2.1, E56.cell hS.2.2.1, E56.cell hS.2.2.2.1, E56.cell hS.2.2.2.2⟩
            have ho6 : OwnsK (w5.alloc (.cells #[.int .i64 ya, .bool (!yo)] 73)) u P := HM2.out.ext (EX.trans E56)
            have hs6 := E56.size
            have hsX := EX.size
            refine wpAnyE_one (i := 13) (o := ?_) ?_ (by kernel_rfl) (fun K hK => ?_)
            rotate_left
            · simp only [List.getElem?_toArray, List.getElem?_cons_succ, List.getElem?_cons_zero]; exact rfl
            refine step_append1 rfl _ _ 66 rfl 73 i0 (.agg #[.int .i64 0, .bool false]) 2 16 Tryz.underlying66 hi hi0 hi1 hi2 rfl (by decide) u P.length (flatK P) rfl ho6 ⟨w5.heap.size, 0, none⟩ 1 1 (by decide) [.int .i64 ya, .bool (!yo)] rfl rfl (cells_one _ _ _) (by intro u hu; simp at hu; rcases hu with rfl | rfl <;> rfl) (by unfold maxLen; omega) (by omega) (fun v' w7 hown7 hend7 => ?_)
            have O7 : OwnsK w7 v' (P ++ [(ya, !yo)]) := ownsK_succ hown7
            have hgr := hend7.chg
            have B7 : Below p (w5.alloc (.cells #[.int .i64 ya, .bool (!yo)] 73)) w7 := hend7.below (n := p) (by omega) (fun b hb => by have := HM3.out b hb; omega)
            have V7 := hend7.ge (n := p + 1) (by omega) (fun b hb => HM3.out b hb)
            have same7 : ∀ (c : Addr) (v : Value), u.ownBlock ≠ some c.block → (w5.alloc (.cells #[.int .i64 ya, .bool (!yo)] 73)).cell? c = some v → w7.cell? c = some v ∧ w7.frozen? c = (w5.alloc (.cells #[.int .i64 ya, .bool (!yo)] 73)).frozen? c := fun c v hp hc => by
              have h1 := hgr.1 c.block (cell_lt hc) hp
              exact ⟨(World.cell?_of_block (w := w5.alloc (.cells #[.int .i64 ya, .bool (!yo)] 73)) h1).trans hc, World.frozen?_of_block (w := w5.alloc (.cells #[.int .i64 ya, .bool (!yo)] 73)) h1⟩
            have hnp : u.ownBlock ≠ some p := fun e => by have := HM3.out _ e; omega
            refine hK.out _ _ ⟨(same7 ⟨p, 0, none⟩ _ hnp hHeld.1).1, cellB B7 (by show w.heap.size < _; omega) hHeld.2.1, cellB B7 (by show b < _; omega) hHeld.2.2.1, cellB B7 (by show kb < _; omega) hHeld.2.2.2.1, cellB B7 (by show kb < _; omega) hHeld.2.2.2.2⟩ (fun hHeld => ?_)
            clear hK K
            (try simp only [Act.put, List.setIfInBounds_toArray, List.set_cons_zero, List.set_cons_succ])
            (refine wpAnyE_take (i := 14) (oi := ?_) (v := ?_) ?_ (by kernel_rfl) ?_ ?_ (by assumption) ?_; rotate_left 2; (focus ((simp only [List.getElem?_toArray, List.getElem?_cons_succ, List.getElem?_cons_zero]; exact rfl))); (focus (exact fun _ _ _ h => h)); (focus (refine Or.inl ⟨by rfl, ?_⟩; intro w hSw; (try dsimp only at hSw); (first | (go_simp; done) | (go_simp; with_reducible rfl)))); (try simp only [Act.put, List.setIfInBounds_toArray, List.set_cons_zero, List.set_cons_succ]))
            obtain ⟨va, vc, hvv, _, _⟩ := O7.reads
            have hlen : (P ++ [(ya, !yo)]).length = P.length + 1 := by rw [List.length_append]; rfl
            rw [hlen] at hvv
            subst hvv
            have HO7 := Lib.hid O7
            have HV7 := Lib.hid V7
            obtain ⟨r1', rf0⟩ := same7 ⟨p, 0, none⟩ _ hnp (E56.cell q1)
            have r0 := (same7 ⟨p, 1, none⟩ _ hnp (E56.cell q0)).1
            have rf := (rf0.trans (Below.frozen (p := ⟨p, 0, none⟩) E56 (cell_lt q1))).trans qf
            have BB : Below p W1 w7 := (hbn.trans ((EX.trans E56).mono (by omega))).trans B7
            clear O7 V7 hown7 hend7 hgr hlen rf0 hHeld same7
            (refine wpAnyE_free (i := 15) (o := ?_) ?_ (by kernel_rfl) (by kernel_rfl) (fun K hK => ?_); rotate_left; (focus ((simp only [List.getElem?_toArray, List.getElem?_cons_succ, List.getElem?_cons_zero]; exact rfl))); go_simp; refine hK.out _ _ ?_; clear hK K; (try simp only [Act.put, List.setIfInBounds_toArray, List.set_cons_zero, List.set_cons_succ]))
            refine wpAnyE_done (by kernel_rfl) ?_ _
            have MN : Hid (BkSt p wait W1 (w7.setCell ⟨p, 0, none⟩ (.slice va (P.length + 1) vc)) (flipP st (j + 1))) := by
              show BkSt _ _ _ _ _
              rw [HPS.out]
              refine ⟨BB.setCell (p := ⟨p, 0, none⟩) (Nat.le_refl _) _, ?_, by rw [World.frozen?_setCell]; exact rf, ⟨_, World.cell?_setCell_same _ _ _ r1', ?_, fun b hb => by have := HV7.out b hb; omega⟩⟩
              · rw [World.cell?_setCell_other _ _ _ _ (fun h => by simp only [Addr.mk.injEq] at h; omega)]
                exact r0
              · exact rowSame HO7.out (fun b hb => Below.heap_setCell _ _ _ _ (fun e => by have := HV7.out b hb; dsimp only at e; omega))
            generalize w7.setCell ⟨p, 0, none⟩ (.slice va (P.length + 1) vc) = w8 at MN ⊢
            go_wp2
            refine ⟨⟨j + 1, by omega, by go_num, MN⟩, by simp [intOf]; omega⟩
          · have hje : j = st.length := by omega
            have hpe : flipP st j = flipAll st := by unfold flipP; rw [hje, List.take_length]
            obtain ⟨u, m1, m2, m3⟩ := N.out.v
            have m0 := N.out.c1
            rw [hpe] at m2
            obtain ⟨Q, hQ⟩ : ∃ Q, Q = flipAll st := ⟨_, rfl⟩
            have HQS : Hid (backStep (n, l) k = (Q, wait)) := by show _ = _; rw [HBS.out, hQ]
            rw [← hQ] at m2
            obtain ⟨oa, oc, rfl, hoc, hol, hobk⟩ := m2.reads
            have HOC := Lib.hid hoc
            have hm3 := m3
            have HOX : Hid (∀ b off, oa = some ⟨b, off, none⟩ → Q ≠ [] → p < b) := fun b off hb hne => by
              have := hm3 b (hobk b off hb hne).2.1; omega
            have HOL := Lib.hid hol
            have EW : Ext wo wr := EP.trans' hbn (by have := HPP.out; omega)
            have zp := cell_lt m1
            dsimp only at zp
            obtain ⟨ov, n1, n2, n3⟩ := M.out.v
            have n0 := EW.cell M.out.c0
            have nf := (Below.frozen (p := ⟨o, 1, none⟩) EW (cell_lt n1)).trans M.out.f1
            have HON : Hid (∀ b, ov.ownBlock = some b → b < p) := fun b hb => by have := n2.lt hb; have := HPP.out; omega
            have n1 := EW.cell n1
            have E67 : Ext wr (wr.alloc (.cells #[.slice oa Q.length oc, .int .i64 wait] 87)) := (by repeat (first | with_reducible exact Ext.refl _ | with_reducible assumption | with_reducible apply Ext.drewN | with_reducible apply Ext.drew | with_reducible apply Ext.alloc | ((with_reducible refine Ext.set ?_ ?_ _); rotate_left; first | omega | (simp; omega)) | (with_reducible refine Ext.trans ?_ (by with_reducible assumption))))
            have E6 := EW.trans E67
            have hs6 := E6.size
            have hs7 : (wr.alloc (.cells #[.slice oa Q.length oc, .int .i64 wait] 87)).heap.size = wr.heap.size + 1 := by go_simp
            obtain ⟨ps, hp1, hp2, hp3⟩ := n2.chg (Chg.ext E6) (fun b hb h => by have := n3 b hb; omega)
            have HN3 := Lib.hid n3
            have HP3 := Lib.hid hp3
            have HPS1 := Lib.hid hp1
            obtain ⟨F, hF⟩ : ∃ F, F = flat2 (pairP ps) := ⟨_, rfl⟩
            rw [← hF] at hp2
            have HFF := Lib.hid hF
            have HP2 := Lib.hid hp2
            have hYl := Nat.le_of_eq (backK_len (n, l) k)
            have MB := Lib.hid hbe
            clear hp1 hp2 hp3 hF n2 n3 M m2 m3 hm3 N hoc hol hobk hbe hpe hQ
            generalize backK (n, l) k = Y at HMS HPS1 HP2 hYl
            have zo2 : o < wr.heap.size := by have := EW.size; omega
            go_wp2_with (at_builtin; refine wpList_append1 _ rfl _ _ 22 rfl 87 j0 (.agg #[.slice none 0 0, .int .i64 0]) 2 32 Tryz.underlying22 hj hj0 hj1 hj2 rfl (by decide) ov Y.length F rfl HP2.out ⟨wr.heap.size, 0, none⟩ 1 1 (by decide) [.slice oa Q.length oc, .int .i64 wait] rfl rfl ?hn ?c1 ?c2 ?c3 ?c4)
            case c1 => exact ⟨rfl, rfl⟩
            case c2 => unfold maxLen; omega
            case c3 => omega
            case c4 =>
              intro v' w7 hown7 hend7
              rw [HFF.out] at hown7
              have O7 : OwnsP (fun b => b ≤ o) w7 v' (Y ++ [(Q, wait)]) := by
                refine OwnsP.app2 (u := .slice oa Q.length oc) (y := (Q, wait)) HPS1.out HP3.out ?_ (fun b hb => by omega) hown7 hend7
                refine ⟨oa, oc, rfl, (HOC.out.ext E67), HOL.out, fun b off hb hne hx => ?_⟩
                have h1 := HOX.out b off hb hne
                rcases hx with hx | hx
                · omega
                · have h2 := HON.out b hx
                  omega
              have hgr := hend7.chg
              have B7 : Below o W2 w7 := (MB.out.trans (E6.mono (by omega))).trans (hend7.below (n := o) (by omega) (fun b hb => by have := HN3.out b hb; omega))
              have V7 := hend7.ge (n := o + 1) (by omega) (fun b hb => HN3.out b hb)
              have same7 : ∀ (c : Addr) (v : Value), c.block = o → wr.cell? c = some v → w7.cell? c = some v ∧ w7.frozen? c = wr.frozen? c := fun c v hp hc => by
                have h1 := hgr.1 c.block (cell_lt (E67.cell hc)) (fun e => by have := HN3.out _ e; omega)
                exact ⟨(World.cell?_of_block (w := (wr.alloc (.cells #[.slice oa Q.length oc, .int .i64 wait] 87))) h1).trans (E67.cell hc), (World.frozen?_of_block (w := (wr.alloc (.cells #[.slice oa Q.length oc, .int .i64 wait] 87))) h1).trans (Below.frozen (p := c) E67 (cell_lt hc))⟩
              obtain ⟨r1, rf0⟩ := same7 ⟨o, 1, none⟩ _ rfl n1
              have r0 := (same7 ⟨o, 0, none⟩ _ rfl n0).1
              have rf := rf0.trans nf
              obtain ⟨va, vc, hvv, _, _⟩ := O7.reads
              have hlen : (Y ++ [(Q, wait)]).length = Y.length + 1 := by rw [List.length_append]; rfl
              rw [hlen] at hvv
              subst hvv
              have HO7 := Lib.hid O7
              have HV7 := Lib.hid V7
              have MN : Hid (TrSt (fun b => b ≤ o) o W2 (w7.setCell ⟨o, 1, none⟩ (.slice va (Y.length + 1) vc)) n (backK (n, l) (k + 1))) := by
                show TrSt _ _ _ _ _ _
                rw [HMS.out, HQS.out]
                refine ⟨B7.setCell (p := ⟨o, 1, none⟩) (Nat.le_refl _) _, ?_, by rw [World.frozen?_setCell]; exact rf, _, World.cell?_setCell_same _ _ _ r1, HO7.out.chg (Chg.setCell (B := fun b => b ≤ o) ⟨o, 1, none⟩ _ (Nat.le_refl _)) (fun b hb e => by have := HV7.out b hb; omega), fun b hb => by have := HV7.out b hb; omega⟩
                rw [World.cell?_setCell_other _ _ _ _ (fun h => by simp only [Addr.mk.injEq] at h; omega)]
                exact r0
              have rf1 : w7.frozen? ⟨o, 1, none⟩ = false := rf
              have hzz : Hid ((zn : Int) - 1 = (l.length : Int) - 1 - ((k + 1 : Nat) : Int)) := by show _ = _; omega
              clear hown7 hend7 hgr hlen rf0 same7 O7 V7 HPS1 HP2 HP3 HFF MB E67 E6 B7
              go_wp2
              refine ⟨⟨_, k + 1, by omega, rfl, hzz, MN⟩, by simp [intOf]⟩
      · have hke : k = l.length := by have := hz.out; omega
        subst hke
        obtain ⟨v, m1, m2, m3⟩ := M.out.v
        have m0 := M.out.c0
        rw [HR2.out] at m2
        obtain ⟨va, vc, rfl, _, _⟩ := m2.reads
        have y2 := cellB hbe (p := ⟨w.heap.size + 1, 0, none⟩) (by show w.heap.size + 1 < _; omega) c2
        have y3 := cellB hbe (p := ⟨w.heap.size + 1, 1, none⟩) (by show w.heap.size + 1 < _; omega) c3
        have g2 := (Below.frozen (p := ⟨w.heap.size + 1, 0, none⟩) hbe (by show w.heap.size + 1 < _; omega)).trans d2
        have g3 := (Below.frozen (p := ⟨w.heap.size + 1, 1, none⟩) hbe (by show w.heap.size + 1 < _; omega)).trans d3
        have hc : Chg (fun b => b ≤ o) wo ((wo.setCell ⟨w.heap.size + 1, 0, none⟩ (.int .i64 n)).setCell ⟨w.heap.size + 1, 1, none⟩ (.slice va s.2.length vc)) :=
          (Chg.setCell (B := fun b => b ≤ o) ⟨w.heap.size + 1, 0, none⟩ (.int .i64 n) (by show w.heap.size + 1 ≤ o; omega)).trans (Chg.setCell (B := fun b => b ≤ o) ⟨w.heap.size + 1, 1, none⟩ (.slice va s.2.length vc) (by show w.heap.size + 1 ≤ o; omega))
        have hsq : Hid (SeqV ((wo.setCell ⟨w.heap.size + 1, 0, none⟩ (.int .i64 n)).setCell ⟨w.heap.size + 1, 1, none⟩ (.slice va s.2.length vc)) (.agg #[.int .i64 n, .slice va s.2.length vc]) s) := ⟨_, by rw [HR1.out], (m2.chg hc (fun b hb e => by have := m3 b hb; omega)).reads⟩
        have EF : Ext w ((wo.setCell ⟨w.heap.size + 1, 0, none⟩ (.int .i64 n)).setCell ⟨w.heap.size + 1, 1, none⟩ (.slice va s.2.length vc)) := (E4.set (by omega) _).set (by omega) _
        clear m2 m3 M hc hbe HR2
        go_wp2
        exact bodyPost_ret (v := .tuple #[.agg #[.int .i64 n, .slice va s.2.length vc], .int .i64 0]) (by rw [results_cell_tmp1 rfl]; go_simp) rfl ⟨_, rfl, hsq.out, EF⟩
  · have hn : (er != 0) = true := by simp [h0]
    have hs := HS.out
    rw [if_neg h0] at hs
    subst hs
    have EF : Ext w ((w1.setCell ⟨w.heap.size + 1, 0, none⟩ (.int .i64 0)).setCell ⟨w.heap.size + 1, 1, none⟩ (.slice none 0 0)) := (E2.set (by omega) _).set (by omega) _
    clear h0 HS HER
    go_wp2
    exact bodyPost_ret (v := .tuple #[.agg #[.int .i64 0, .slice none 0 0], .int .i64 er]) (by rw [results_cell_tmp1 rfl]; go_simp) rfl ⟨_, rfl, seqV_zero _, EF⟩
end Go.Proofs.YtnhbogmihnnpjaaGreat
/- The law VariantParts: its walk. -/
namespace Go.Proofs.YtnhbogmihnnpjaaGreat
open Go.RowKit

set_option maxHeartbeats 8000000 in
set_option maxRecDepth 100000 in
theorem VariantParts_any (n : Int) (l : List Stp) (a : Option Addr) (cap : Nat) (w : World) (hc : CellsP w a l) (hr : Room a l.length cap) :
    Calls Tryz.prog 4 #[.agg #[.int .i64 n, .slice a l.length cap]] w fun e w' => e = .returned (.bool true) ∧ Ext w w' := by
  have HC := Lib.hid hc
  have HR := Lib.hid hr
  clear hc hr
  have E0 : Ext w (w.alloc (.cells #[.int .i64 n, .slice a l.length cap] 24)) := (by repeat (first | with_reducible exact Ext.refl _ | with_reducible assumption | with_reducible apply Ext.drewN | with_reducible apply Ext.drew | with_reducible apply Ext.alloc | ((with_reducible refine Ext.set ?_ ?_ _); rotate_left; first | omega | (simp; omega)) | (with_reducible refine Ext.trans ?_ (by with_reducible assumption))))
  have c0 : ((w.alloc (.cells #[.int .i64 n, .slice a l.length cap] 24))).cell? ⟨w.heap.size, 0, none⟩ = some (.int .i64 n) := by go_simp
  have c1 : ((w.alloc (.cells #[.int .i64 n, .slice a l.length cap] 24))).cell? ⟨w.heap.size, 1, none⟩ = some (.slice a l.length cap) := by go_simp
  go_enter Tryz.func4, Tryz.ntmps4
  go_wp2_with fail
  have E1 : Ext (w.alloc (.cells #[.int .i64 n, .slice a l.length cap] 24)) (((w.alloc (.cells #[.int .i64 n, .slice a l.length cap] 24))).alloc (.cells #[.int .i64 n, .slice a l.length cap] 24)) := (by repeat (first | with_reducible exact Ext.refl _ | with_reducible assumption | with_reducible apply Ext.drewN | with_reducible apply Ext.drew | with_reducible apply Ext.alloc | ((with_reducible refine Ext.set ?_ ?_ _); rotate_left; first | omega | (simp; omega)) | (with_reducible refine Ext.trans ?_ (by with_reducible assumption))))
  have E2 := E0.trans E1
  have c0 := (E1).cell c0
  have c1 := (E1).cell c1
  have hq := cellsQ_one (n := n) (c := cap) HR.out (HC.out.ext E0)
  have HQ := Lib.hid hq
  clear hq
  refine (few_any [(n, l)] _ 1 _ (by unfold maxLen; simp) (by simpa using HQ.out)).mono ?_
  rintro e w1 ⟨rfl, hE⟩
  have F1 := E2.trans hE
  have c0 := (hE).cell c0
  have c1 := (hE).cell c1
  clear hE E1 E0 E2 HQ
  generalize hb : (!([(n, l)] : List Sq).any badQ) = fw
  clear hb
  obtain ⟨bs, hbs⟩ : ∃ bs, bs = w.heap.size := ⟨_, rfl⟩
  rw [← hbs] at c0 c1 ⊢
  clear hbs
  cases fw
  · go_wp2_with fail
    refine (awake_any _).mono ?_
    rintro e w2 ⟨rfl, hE⟩
    go_wp2
    go_ret
    exact ⟨rfl, F1.trans hE⟩
  obtain ⟨er, her⟩ : ∃ er, er = ckSeq (n, l) := ⟨_, rfl⟩
  obtain ⟨ps, hps⟩ : ∃ ps, ps = (if ckSeq (n, l) = 0 then partsOf (n, l) else []) := ⟨_, rfl⟩
  obtain ⟨bs2, hbs2⟩ : ∃ bs2, bs2 = (if ckSeq (n, l) = 0 then backwards (n, l) else sq0) := ⟨_, rfl⟩
  have H1 := Lib.hid (And.intro hps (And.intro her hbs2))
  clear her hps hbs2
  go_wp2_with fail
  refine (Parts_any n l a cap _ HR.out (HC.out.ext F1) HR.out).mono ?_
  rintro e w2 h
  rw [← H1.out.1, ← H1.out.2.1] at h
  obtain ⟨pa, pc, rfl, hf, hfl, hE⟩ := h
  have X := Lib.hid hf
  have XL := Lib.hid hfl
  have F2 := F1.trans hE
  have c0 := (hE).cell c0
  have c1 := (hE).cell c1
  clear hf hfl hE F1
  go_wp2_with fail
  refine (PartsR_any n l a cap _ HR.out (HC.out.ext F2) HR.out).mono ?_
  rintro e w3 h
  rw [← H1.out.1, ← H1.out.2.1] at h
  obtain ⟨qa', qc', rfl, hf, _, hE⟩ := h
  have Y := Lib.hid hf
  have X := Lib.hid (X.out.ext hE)
  have F3 := F2.trans hE
  have c0 := (hE).cell c0
  have c1 := (hE).cell c1
  clear hf hE F2
  go_wp2_with fail
  refine (Backwards_any n l a cap _ HR.out (HC.out.ext F3)).mono ?_
  rintro e w4 h
  rw [← H1.out.2.2, ← H1.out.2.1] at h
  obtain ⟨ua, uc, rfl, hf, hfl, hE⟩ := h.at
  have U := Lib.hid hf
  have UL := Lib.hid hfl
  have X := Lib.hid (X.out.ext hE)
  have Y := Lib.hid (Y.out.ext hE)
  have F4 := F3.trans hE
  have c0 := (hE).cell c0
  have c1 := (hE).cell c1
  have z4 := cell_lt c0
  dsimp only at z4
  clear hf hfl hE F3 h
  go_wp2_with fail
  have E5 : Ext w4 (w4.alloc (.cells #[.int .i64 bs2.1, .slice ua bs2.2.length uc] 24)) := (by repeat (first | with_reducible exact Ext.refl _ | with_reducible assumption | with_reducible apply Ext.drewN | with_reducible apply Ext.drew | with_reducible apply Ext.alloc | ((with_reducible refine Ext.set ?_ ?_ _); rotate_left; first | omega | (simp; omega)) | (with_reducible refine Ext.trans ?_ (by with_reducible assumption))))
  have BU := Lib.hid (Box.new w4 bs2.1 ua bs2.2.length uc)
  have X := Lib.hid (X.out.ext E5)
  have Y := Lib.hid (Y.out.ext E5)
  have U := Lib.hid (U.out.ext E5)
  have F5 := F4.trans E5
  obtain ⟨b1, hb1⟩ : ∃ b, b = w4.heap.size := ⟨_, rfl⟩
  rw [← hb1] at BU z4 ⊢
  clear hb1 E5 F4 z4 c0 c1
  generalize (w4.alloc (.cells #[.int .i64 bs2.1, .slice ua bs2.2.length uc] 24)) = W5 at BU X Y U F5 ⊢
  refine (BackwardsR_any n l a cap _ HR.out (HC.out.ext F5)).mono ?_
  rintro e w6 h
  rw [← H1.out.2.2, ← H1.out.2.1] at h
  obtain ⟨va, vc, rfl, hf, hfl, hE⟩ := h.at
  have V := Lib.hid hf
  have VL := Lib.hid hfl
  have X := Lib.hid (X.out.ext hE)
  have Y := Lib.hid (Y.out.ext hE)
  have U := Lib.hid (U.out.ext hE)
  have F6 := F5.trans hE
  have BU := Lib.hid (BU.out.ext hE)
  have p0 := BU.out.c0
  have z4 := cell_lt p0
  dsimp only at z4
  clear hf hfl hE F5 h p0
  go_wp2_with fail
  have E5 : Ext w6 (w6.alloc (.cells #[.int .i64 bs2.1, .slice va bs2.2.length vc] 24)) := (by repeat (first | with_reducible exact Ext.refl _ | with_reducible assumption | with_reducible apply Ext.drewN | with_reducible apply Ext.drew | with_reducible apply Ext.alloc | ((with_reducible refine Ext.set ?_ ?_ _); rotate_left; first | omega | (simp; omega)) | (with_reducible refine Ext.trans ?_ (by with_reducible assumption))))
  have BV := Lib.hid (Box.new w6 bs2.1 va bs2.2.length vc)
  have X := Lib.hid (X.out.ext E5)
  have Y := Lib.hid (Y.out.ext E5)
  have U := Lib.hid (U.out.ext E5)
  have V := Lib.hid (V.out.ext E5)
  have BU := Lib.hid (BU.out.ext E5)
  have F7 := F6.trans E5
  obtain ⟨b2, hb2⟩ : ∃ b, b = w6.heap.size := ⟨_, rfl⟩
  rw [← hb2] at BV z4 ⊢
  clear hb2 E5 F6 z4
  generalize (w6.alloc (.cells #[.int .i64 bs2.1, .slice va bs2.2.length vc] 24)) = W7 at BU BV X Y U V F7 ⊢
  refine (SameAll_any ps ps pa qa' pc qc' _ XL.out X.out XL.out Y.out).mono ?_
  rintro e w8 ⟨rfl, hE⟩
  rw [show decide (ps = ps) = true from by simp]
  have U := Lib.hid (U.out.ext hE)
  have V := Lib.hid (V.out.ext hE)
  have BU := Lib.hid (BU.out.ext hE)
  have BV := Lib.hid (BV.out.ext hE)
  have F8 := F7.trans hE
  have p0 := BU.out.c0
  have p1 := BU.out.c1
  have p2 := BV.out.c0
  have p3 := BV.out.c1
  clear hE F7 X Y
  go_wp2_with fail
  clear p0 p1 p2 p3
  refine (SameQ_any bs2.1 bs2.1 bs2.2 bs2.2 ua va uc vc _ UL.out U.out VL.out V.out).mono ?_
  rintro e w9 ⟨rfl, hE⟩
  rw [show decide ((bs2.1, bs2.2) = (bs2.1, bs2.2)) = true from by simp]
  have F9 := F8.trans hE
  clear hE F8 U V BU BV
  go_wp2_with fail
  refine (awake_any _).mono ?_
  rintro e w10 ⟨rfl, hE⟩
  go_wp2
  go_ret
  exact ⟨rfl, F9.trans hE⟩
end Go.Proofs.YtnhbogmihnnpjaaGreat
/- The arguments of the laws of sequences, opened. -/
namespace Go.Proofs.YtnhbogmihnnpjaaGreat
open Go.RowKit Go.ChangeShapes Go.WideShapes Go.Joins Go.Deep

theorem list2 {α : Type} {l : List α} (h : l.length = 2) : ∃ a b, l = [a, b] := by
  match l, h with
  | [a, b], _ => exact ⟨a, b, rfl⟩
theorem laidOut : laidOutB Tryz.prog = true := by kernel_rfl
theorem cellsOfStk : Tryz.prog.cellsOf 73 = 2 := by kernel_rfl
theorem cellsOfStp : Tryz.prog.cellsOf 87 = 2 := by kernel_rfl
theorem cellsOfInt : Tryz.prog.cellsOf 3 = 1 := by kernel_rfl
theorem cellsOfBool : Tryz.prog.cellsOf 4 = 1 := by kernel_rfl
theorem cellsOfSlk : Tryz.prog.cellsOf 66 = 1 := by kernel_rfl

section
variable {H : Type} {enc : TypeId × Value → H} {w : World} {base : Nat} {spare : Nat → Bool} {held : Bool}
theorem open_stk {fuel : Nat} {cs : List Value} {x : DataW H × List MemPlace} (h : DataW.trod enc Tryz.prog w base spare held fuel 73 cs = some x) : ∃ y : Stk, cs = [.int .i64 y.1, .bool y.2] := by
  obtain ⟨y0, y1, n, _, hl, h0, h1⟩ := trod_struct2 Tryz.underlying73 h
  rw [cellsOfStk] at hl
  obtain ⟨a, b, rfl⟩ := list2 hl
  rw [cellsOfInt] at h0
  rw [cellsOfBool] at h1
  obtain ⟨i, e0, _, w0⟩ := DataW.trod_int Tryz.underlying3 h0
  obtain ⟨j, e1, _⟩ := DataW.trod_bool Tryz.underlying4 h1
  simp at e0 e1
  subst e0; subst e1
  exact ⟨(i, j), rfl⟩
theorem open_stks {a : Addr} {len : Nat} (h : ∀ i, i < len → ∃ cs' n x, w.cells? base (a.add (i * 2)) 2 = some cs' ∧ DataW.trod enc Tryz.prog w base spare held n 73 cs' = some x) : ∃ l : List Stk, l.length = len ∧ CellsK w (some a) l := by
  have key : ∀ i, i < len → ∃ y : Stk, w.cell? (a.add (i * 2)) = some (.int .i64 y.1) ∧ w.cell? ((a.add (i * 2)).add 1) = some (.bool y.2) := fun i hi => by
    obtain ⟨cs', n, x, h1, h2⟩ := h i hi
    obtain ⟨y, rfl⟩ := open_stk h2
    obtain ⟨_, _, hc⟩ := World.cells?_some h1
    have c0 := hc 0 (by omega)
    have c1 := hc 1 (by omega)
    refine ⟨y, ?_, c1⟩
    have e : (a.add (i * 2)).add 0 = a.add (i * 2) := by simp [Addr.add]
    rw [e] at c0
    exact c0
  obtain ⟨f, hf⟩ := choose_lt (α := Stk) key
  refine ⟨(List.range len).map f, by simp, fun i hi => ?_⟩
  have hi' : i < len := by simpa using hi
  obtain ⟨h1, h2⟩ := hf i hi'
  have hp : ((List.range len).map f).getD i stk0 = f i := by simp [List.getD, hi']
  rw [hp]
  obtain ⟨b, off, spot⟩ := a
  have hs : spot = none := by
    have h0 := World.cell?_spot (hf 0 (by omega)).1
    simpa [Addr.add] using h0
  subst hs
  rw [Addr.add_lit] at h1 h2
  rw [Addr.add_lit] at h2
  exact ⟨b, off, rfl, h1, h2⟩
theorem open_slk {fuel : Nat} {v : Value} {x : DataW H × List MemPlace} (h : DataW.trod enc Tryz.prog w base spare held fuel 66 [v] = some x) : ∃ l : List Stk, SliceK w v l := by
  rcases open_slice Tryz.underlying66 h with ⟨h1, _⟩ | ⟨a, len, cap, m, n, D, Pl, h1, hb, hl, hm, hmm, _, hx⟩
  · simp at h1
    exact ⟨[], none, 0, h1, fun i hi => by simp at hi, by simp⟩
  · simp at h1
    rw [cellsOfStk] at hx
    have hlm : len ≤ m := by rw [hmm]; split <;> omega
    obtain ⟨l, hll, hc⟩ := open_stks (enc := enc) (spare := spare) (held := held) (w := w) (base := base) (a := a) (len := len) (fun i hi => by
      obtain ⟨cs', h2, h3⟩ := hx i (by omega)
      exact ⟨cs', n, _, h2, h3⟩)
    exact ⟨l, some a, cap, by rw [h1, hll], hc, by rw [hll]; omega⟩
theorem open_stp {fuel : Nat} {cs : List Value} {x : DataW H × List MemPlace} (h : DataW.trod enc Tryz.prog w base spare held fuel 87 cs = some x) : ∃ (v : Value) (y : Stp), cs = [v, .int .i64 y.2] ∧ SliceK w v y.1 := by
  obtain ⟨y0, y1, n, _, hl, h0, h1⟩ := trod_struct2 Tryz.underlying87 h
  rw [cellsOfStp] at hl
  obtain ⟨a, b, rfl⟩ := list2 hl
  rw [cellsOfInt] at h1
  rw [cellsOfSlk] at h0
  obtain ⟨i, e1, _, w0⟩ := DataW.trod_int Tryz.underlying3 h1
  obtain ⟨l, hv⟩ := open_slk (v := a) (by simpa using h0)
  simp at e1
  subst e1
  exact ⟨a, (l, i), rfl, hv⟩
theorem open_stps {a : Addr} {len : Nat} (h : ∀ i, i < len → ∃ cs' n x, w.cells? base (a.add (i * 2)) 2 = some cs' ∧ DataW.trod enc Tryz.prog w base spare held n 87 cs' = some x) : ∃ l : List Stp, l.length = len ∧ CellsP w (some a) l ∧ (0 < len → a.spot = none) := by
  have key : ∀ i, i < len → ∃ y : Value × Stp, w.cell? (a.add (i * 2)) = some y.1 ∧ w.cell? ((a.add (i * 2)).add 1) = some (.int .i64 y.2.2) ∧ SliceK w y.1 y.2.1 := fun i hi => by
    obtain ⟨cs', n, x, h1, h2⟩ := h i hi
    obtain ⟨v, y, rfl, hv⟩ := open_stp h2
    obtain ⟨_, _, hc⟩ := World.cells?_some h1
    have c0 := hc 0 (by omega)
    have c1 := hc 1 (by omega)
    refine ⟨(v, y), ?_, c1, hv⟩
    have e : (a.add (i * 2)).add 0 = a.add (i * 2) := by simp [Addr.add]
    rw [e] at c0
    exact c0
  obtain ⟨f, hf⟩ := choose_lt (α := Value × Stp) key
  have hs : 0 < len → a.spot = none := fun h0 => by
    have h0 := World.cell?_spot (hf 0 h0).1
    simpa [Addr.add] using h0
  refine ⟨(List.range len).map fun i => (f i).2, by simp, fun i hi => ?_, hs⟩
  have hi' : i < len := by simpa using hi
  obtain ⟨h1, h2, h3⟩ := hf i hi'
  have hp : ((List.range len).map fun i => (f i).2).getD i stp0 = (f i).2 := by simp [List.getD, hi']
  rw [hp]
  obtain ⟨b, off, spot⟩ := a
  have hs := hs (by omega)
  dsimp only at hs
  subst hs
  rw [Addr.add_lit] at h1 h2
  rw [Addr.add_lit] at h2
  exact ⟨b, off, _, rfl, h1, h3, h2⟩
theorem open_slp {fuel : Nat} {v : Value} {x : DataW H × List MemPlace} (h : DataW.trod enc Tryz.prog w base spare held fuel 22 [v] = some x) :
    ∃ (l : List Stp) (a : Option Addr) (cap : Nat), v = .slice a l.length cap ∧ CellsP w a l ∧ l.length ≤ maxLen ∧ Room a l.length cap := by
  rcases open_slice Tryz.underlying22 h with ⟨h1, _⟩ | ⟨a, len, cap, m, n, D, Pl, h1, hb, hl, hm, hmm, _, hx⟩
  · simp at h1
    exact ⟨[], none, 0, h1, fun i hi => by simp at hi, by simp, by simp, by simp, fun h0 => by simp at h0⟩
  · simp at h1
    rw [cellsOfStp] at hx
    have hlm : len ≤ m := by rw [hmm]; split <;> omega
    obtain ⟨l, hll, hc, hs⟩ := open_stps (enc := enc) (spare := spare) (held := held) (w := w) (base := base) (a := a) (len := len) (fun i hi => by
      obtain ⟨cs', h2, h3⟩ := hx i (by omega)
      exact ⟨cs', n, _, h2, h3⟩)
    refine ⟨l, some a, cap, by rw [h1, hll], hc, by rw [hll]; omega, by rw [hll]; exact hl, hm, fun h0 => ?_⟩
    obtain ⟨b, off, spot⟩ := a
    have := hs (by omega)
    dsimp only at this
    subst this
    exact ⟨b, off, rfl⟩
set_option maxRecDepth 100000 in
theorem open_seq {r : Reach} {b0 : Nat} {v : Value} {d : DataW H} {p : List MemPlace} (hv : Value.okWide Tryz.prog w r b0 24 v) (h : DataW.Trod enc Tryz.prog w base spare held 24 v d p) :
    ∃ (n : Int) (l : List Stp) (a : Option Addr) (cap : Nat), v = .agg #[.int .i64 n, .slice a l.length cap] ∧ CellsP w a l ∧ l.length ≤ maxLen ∧ Room a l.length cap ∧ (Lit.int .i64 n).wf = true := by
  obtain ⟨c0, c1, y0, y1, n, rfl, _, _, h0, h1⟩ := open_agg2 Tryz.underlying24 (by kernel_rfl) (by kernel_rfl) hv h
  obtain ⟨i, e0, _, w0⟩ := DataW.trod_int Tryz.underlying3 h0
  obtain ⟨l, a, cap, e1, hc, hl, hr⟩ := open_slp h1
  simp at e0
  subst e0; subst e1
  exact ⟨i, l, a, cap, rfl, hc, hl, hr, w0⟩
end
end Go.Proofs.YtnhbogmihnnpjaaGreat
