/- Steps of the proof: QRenR, QLetR, QStdR, QPartR, QPartsR. No conditions. -/
import Derived.Test.YtnhbogmihnnpjaaGreatYB1
import Derived.Test.YtnhbogmihnnpjaaGreatYB2
import Derived.Test.YtnhbogmihnnpjaaGreatYB3
import Derived.Test.YtnhbogmihnnpjaaGreatYB4
import Derived.Test.YtnhbogmihnnpjaaGreatYB5
import Derived.Test.YtnhbogmihnnpjaaGreatYB6
import Derived.Test.YtnhbogmihnnpjaaGreatYB7
import Derived.Test.YtnhbogmihnnpjaaGreatYB8
import Derived.Test.YtnhbogmihnnpjaaGreatYB9
import Derived.Test.YtnhbogmihnnpjaaGreatYB10
/- The reference's Renamed. -/
namespace Go.Proofs.YtnhbogmihnnpjaaGreat
open Go.RowKit

structure RnSt (p : Nat) (W1 wr : World) (P : List Stk) (wt : Int) : Prop where
  be : Below p W1 wr
  v : ∃ u, wr.cell? ⟨p, 0, none⟩ = some u ∧ OwnsK wr u P ∧ ∀ b, u.ownBlock = some b → p < b
  c1 : wr.cell? ⟨p, 1, none⟩ = some (.int .i64 wt)
  f0 : wr.frozen? ⟨p, 0, none⟩ = false
def renP (f : Int → Int) (st : List Stk) (j : Nat) : List Stk := (st.take j).map fun y => (f y.1, y.2)
theorem renP_succ (f : Int → Int) (st : List Stk) {j : Nat} (h : j < st.length) : renP f st (j + 1) = renP f st j ++ [(f (st.getD j stk0).1, (st.getD j stk0).2)] := by
  unfold renP
  rw [List.take_succ_eq_append_getElem h, List.map_append, List.getD_eq_getElem?_getD, List.getElem?_eq_getElem h]; rfl
theorem renP_len (f : Int → Int) (st : List Stk) (j : Nat) : (renP f st j).length ≤ st.length := by
  unfold renP; rw [List.length_map]; exact List.length_take_le' ..
def renK (f : Int → Int) (l : List Stp) (k : Nat) : List Stp := (l.take k).map (renStep f)
theorem renK_succ (f : Int → Int) (l : List Stp) {k : Nat} (h : k < l.length) : renK f l (k + 1) = renK f l k ++ [renStep f (l.getD k stp0)] := by
  unfold renK
  rw [List.take_succ_eq_append_getElem h, List.map_append, List.getD_eq_getElem?_getD, List.getElem?_eq_getElem h]; rfl
theorem renK_len (f : Int → Int) (l : List Stp) (k : Nat) : (renK f l k).length ≤ k := by
  unfold renK; rw [List.length_map]; exact List.length_take_le ..

set_option maxHeartbeats 8000000 in
set_option maxRecDepth 100000 in
theorem RenamedR_any (n : Int) (l : List Stp) (a : Option Addr) (cap : Nat) (fs : List Int) (fa : Option Addr) (fc : Nat) (w : World) (hl : l.length ≤ 200) (hc : CellsP w a l) (hfi : CellsI w fa fs) (_hfl : fs.length ≤ 1000)
    (hok : ∀ k, k < l.length → (l.getD k stp0).1.length ≤ 40 ∧ ∀ j, j < (l.getD k stp0).1.length → 0 ≤ ((l.getD k stp0).1.getD j stk0).1 ∧ ((l.getD k stp0).1.getD j stk0).1 < (fs.length : Int)) :
    Calls Tryz.prog 68 #[.agg #[.int .i64 n, .slice a l.length cap], .slice fa fs.length fc] w (OwnPost (ren (listFn fs) (n, l)) w) := by
  have HC := Lib.hid hc
  have HFI := Lib.hid hfi
  have HOK := Lib.hid hok
  have HRE : Hid (renK (listFn fs) l l.length = (ren (listFn fs) (n, l)).2) := by show _ = _; unfold renK ren; rw [List.take_length]
  have HR1 : Hid ((ren (listFn fs) (n, l)).1 = n) := rfl
  clear hc hfi hok
  obtain ⟨R, hR⟩ : ∃ R, R = ren (listFn fs) (n, l) := ⟨_, rfl⟩
  rw [← hR] at HRE HR1 ⊢
  clear hR
  obtain ⟨f, hf⟩ : ∃ f, f = listFn fs := ⟨_, rfl⟩
  have HF := Lib.hid hf
  rw [← hf] at HRE
  clear hf
  obtain ⟨i0, hi, hi0, hi1, hi2⟩ := info_parts infoStk
  obtain ⟨j0, hj, hj0, hj1, hj2⟩ := info_parts infoStp
  go_enter Tryz.func68, Tryz.ntmps68
  go_wp2
  have E1 : Ext w (((w.alloc (.cells #[.int .i64 n, .slice a l.length cap] 24)).alloc (.cells #[.int .i64 0, .slice none 0 0] 24)).alloc (.cells #[.int .i64 n, .slice none 0 0] 24)) := (by repeat (first | with_reducible exact Ext.refl _ | with_reducible assumption | with_reducible apply Ext.drewN | with_reducible apply Ext.drew | with_reducible apply Ext.alloc | ((with_reducible refine Ext.set ?_ ?_ _); rotate_left; first | omega | (simp; omega)) | (with_reducible refine Ext.trans ?_ (by with_reducible assumption))))
  have c1 : (((w.alloc (.cells #[.int .i64 n, .slice a l.length cap] 24)).alloc (.cells #[.int .i64 0, .slice none 0 0] 24)).alloc (.cells #[.int .i64 n, .slice none 0 0] 24)).cell? ⟨w.heap.size + 1, 0, none⟩ = some (.int .i64 0) := by go_simp
  have c2 : (((w.alloc (.cells #[.int .i64 n, .slice a l.length cap] 24)).alloc (.cells #[.int .i64 0, .slice none 0 0] 24)).alloc (.cells #[.int .i64 n, .slice none 0 0] 24)).cell? ⟨w.heap.size + 1, 1, none⟩ = some (.slice none 0 0) := by go_simp
  have c3 : (((w.alloc (.cells #[.int .i64 n, .slice a l.length cap] 24)).alloc (.cells #[.int .i64 0, .slice none 0 0] 24)).alloc (.cells #[.int .i64 n, .slice none 0 0] 24)).cell? ⟨w.heap.size + 1 + 1, 0, none⟩ = some (.int .i64 n) := by go_simp
  have c4 : (((w.alloc (.cells #[.int .i64 n, .slice a l.length cap] 24)).alloc (.cells #[.int .i64 0, .slice none 0 0] 24)).alloc (.cells #[.int .i64 n, .slice none 0 0] 24)).cell? ⟨w.heap.size + 1 + 1, 1, none⟩ = some (.slice none 0 0) := by go_simp
  have c5 : (((w.alloc (.cells #[.int .i64 n, .slice a l.length cap] 24)).alloc (.cells #[.int .i64 0, .slice none 0 0] 24)).alloc (.cells #[.int .i64 n, .slice none 0 0] 24)).cell? ⟨w.heap.size, 1, none⟩ = some (.slice a l.length cap) := by go_simp
  have f1 : (((w.alloc (.cells #[.int .i64 n, .slice a l.length cap] 24)).alloc (.cells #[.int .i64 0, .slice none 0 0] 24)).alloc (.cells #[.int .i64 n, .slice none 0 0] 24)).frozen? ⟨w.heap.size + 1, 0, none⟩ = false := by go_simp
  have f2 : (((w.alloc (.cells #[.int .i64 n, .slice a l.length cap] 24)).alloc (.cells #[.int .i64 0, .slice none 0 0] 24)).alloc (.cells #[.int .i64 n, .slice none 0 0] 24)).frozen? ⟨w.heap.size + 1, 1, none⟩ = false := by go_simp
  have f4 : (((w.alloc (.cells #[.int .i64 n, .slice a l.length cap] 24)).alloc (.cells #[.int .i64 0, .slice none 0 0] 24)).alloc (.cells #[.int .i64 n, .slice none 0 0] 24)).frozen? ⟨w.heap.size + 1 + 1, 1, none⟩ = false := by go_simp
  generalize (((w.alloc (.cells #[.int .i64 n, .slice a l.length cap] 24)).alloc (.cells #[.int .i64 0, .slice none 0 0] 24)).alloc (.cells #[.int .i64 n, .slice none 0 0] 24)) = W at E1 c1 c2 c3 c4 c5 f1 f2 f4 ⊢
  obtain ⟨o, ho⟩ : ∃ o, o = w.heap.size + 1 + 1 := ⟨_, rfl⟩
  have ho1 : w.heap.size + 1 < o := by omega
  have hoW : o < W.heap.size := by rw [ho]; exact cell_lt c3
  rw [← ho] at c3 c4 f4 ⊢
  have M0 : Hid (TrSt (fun b => b ≤ o) o W W n (renK f l 0)) := ⟨Below.refl _ _, c3, f4, _, c4, OwnsP.nil _ _, fun b hb => by cases hb⟩
  clear c3 c4 f4 ho
  go_loopw [6] (fun i wr => ∃ k : Nat, k ≤ l.length ∧ i = .int .i64 k ∧ Hid (TrSt (fun b => b ≤ o) o W wr n (renK f l k))) (fun i _ => l.length - (intOf i).toNat)
  case atStart => exact ⟨0, Nat.zero_le _, rfl, M0⟩
  case round =>
    obtain ⟨k, hk, rfl, M⟩ := hrel
    clear M0
    obtain ⟨wo, hwo⟩ : ∃ wo : World, wo = wr := ⟨_, rfl⟩
    subst hwo
    have hbe := M.out.be
    have E2 : Ext w wo := E1.trans' hbe (by omega)
    have hsz := hbe.size
    have how : o < wo.heap.size := by omega
    have d5 := cellB hbe (p := ⟨w.heap.size, 1, none⟩) (by show w.heap.size < _; omega) c5
    by_cases hlt : k < l.length
    · obtain ⟨hl40, hin⟩ := HOK.out k hlt
      obtain ⟨b, off, v, ha, p1, hv, p2⟩ := HC.out k hlt
      subst ha
      obtain ⟨sa, sc, rfl, hcs, hls⟩ := hv
      have zb := cell_lt p1
      dsimp only at zb
      have HP1 := Lib.hid (E2.cell p1)
      have p1 := E2.cell p1
      have p2 := E2.cell p2
      have HMS := Lib.hid (renK_succ f l hlt)
      generalize l.getD k stp0 = x at p1 p2 HP1 hcs hls HMS hl40 hin
      obtain ⟨st, wait⟩ := x
      dsimp only at p1 p2 HP1 hcs hls HMS hl40 hin
      have HIN := Lib.hid hin
      have HCS := Lib.hid hcs
      have HLS := Lib.hid hls
      have D5 := Lib.hid d5
      clear hcs hls hin
      go_wp2
      have EP : Ext wo (wo.alloc (.cells #[.slice none 0 0, .int .i64 wait] 87)) := (by repeat (first | with_reducible exact Ext.refl _ | with_reducible assumption | with_reducible apply Ext.drewN | with_reducible apply Ext.drew | with_reducible apply Ext.alloc | ((with_reducible refine Ext.set ?_ ?_ _); rotate_left; first | omega | (simp; omega)) | (with_reducible refine Ext.trans ?_ (by with_reducible assumption))))
      have hps : (wo.alloc (.cells #[.slice none 0 0, .int .i64 wait] 87)).heap.size = wo.heap.size + 1 := by go_simp
      have N0 : Hid (RnSt wo.heap.size (wo.alloc (.cells #[.slice none 0 0, .int .i64 wait] 87)) (wo.alloc (.cells #[.slice none 0 0, .int .i64 wait] 87)) (renP f st 0) wait) := ⟨Below.refl _ _, ⟨_, by go_simp, OwnsK.nil _, fun b hb => by cases hb⟩, by go_simp, by go_simp⟩
      generalize (wo.alloc (.cells #[.slice none 0 0, .int .i64 wait] 87)) = W1 at EP hps N0 ⊢
      obtain ⟨p, hp⟩ : ∃ p, p = wo.heap.size := ⟨_, rfl⟩
      have how2 : o < p := by omega
      have zbp : b < p := by have := E2.size; omega
      have zwp : w.heap.size < p := by omega
      rw [← hp] at hps N0 ⊢
      have hps1 : p + 1 ≤ W1.heap.size := by omega
      have HPP := Lib.hid hp
      have hpE : w.heap.size ≤ p := by omega
      clear p1 p2 d5 hp hps
      go_loopw [8] (fun i wr => ∃ j : Nat, j ≤ st.length ∧ i = .int .i64 j ∧ Hid (RnSt p W1 wr (renP f st j) wait)) (fun i _ => st.length - (intOf i).toNat)
      case atStart => exact ⟨0, by omega, rfl, N0⟩
      case round =>
        obtain ⟨j, hj', rfl, N⟩ := hrel
        clear N0
        have hbn := N.out.be
        have hsn := hbn.size
        have d5 := cellB hbn (p := ⟨w.heap.size, 1, none⟩) (by show w.heap.size < _; omega) (EP.cell D5.out)
        have p1 := cellB hbn (p := ⟨b, off + k * 2, none⟩) (by show b < _; omega) (EP.cell HP1.out)
        by_cases hjl : j < st.length
        · obtain ⟨kb, ko, ha, r1, r2⟩ := HCS.out j hjl
          subst ha
          have hkz := cell_lt r1
          dsimp only at hkz
          have EW1 : Ext w W1 := E2.trans EP
          have r1 := cellB hbn (p := ⟨kb, ko + j * 2, none⟩) (by show kb < _; omega) (EW1.cell r1)
          have r2 := cellB hbn (p := ⟨kb, ko + j * 2 + 1, none⟩) (by show kb < _; omega) (EW1.cell r2)
          obtain ⟨hy0, hyn⟩ := HIN.out j hjl
          have HPS := Lib.hid (renP_succ f st hjl)
          have hpl := renP_len f st j
          generalize st.getD j stk0 = y at r1 r2 hy0 hyn HPS
          obtain ⟨ya, yo⟩ := y
          dsimp only at r1 r2 hy0 hyn HPS
          obtain ⟨yn, rfl⟩ := Int.eq_ofNat_of_zero_le hy0
          have hynl : yn < fs.length := by omega
          obtain ⟨tb, tf, ht, t1⟩ := HFI.out yn hynl
          subst ht
          have htz := cell_lt t1
          dsimp only at htz
          have t1 := cellB hbn (p := ⟨tb, tf + yn, none⟩) (by show tb < _; omega) (EW1.cell t1)
          have HFV : Hid (f (yn : Int) = fs.getD yn 0) := by
            show _ = _
            rw [HF.out]; unfold listFn
            rw [if_neg (by omega)]; rfl
          generalize fs.getD yn 0 = fv at t1 HFV
          rw [HFV.out] at HPS
          clear HFV hy0
          obtain ⟨u, m1, m2, m3⟩ := N.out.v
          have m0 := N.out.c1
          have mf := N.out.f0
          have hum : ∀ b, u.ownBlock = some b → b < wr.heap.size := fun b hb => rowLt m2 hb
          have HUM := Lib.hid hum
          have HM2 := Lib.hid m2
          have HM3 := Lib.hid m3
          clear m2 m3 N hum
          generalize renP f st j = P at HM2 HPS hpl
          have zp := cell_lt m1
          dsimp only at zp
          have EX : Ext wr (wr.alloc (.cells #[.int .i64 (yn : Int), .bool yo] 73)).drew := (by repeat (first | with_reducible exact Ext.refl _ | with_reducible assumption | with_reducible apply Ext.drewN | with_reducible apply Ext.drew | with_reducible apply Ext.alloc | ((with_reducible refine Ext.set ?_ ?_ _); rotate_left; first | omega | (simp; omega)) | (with_reducible refine Ext.trans ?_ (by with_reducible assumption))))
          have y0 : (wr.alloc (.cells #[.int .i64 (yn : Int), .bool yo] 73)).drew.cell? ⟨wr.heap.size, 0, none⟩ = some (.int .i64 (yn : Int)) := by go_simp
          have y1 : (wr.alloc (.cells #[.int .i64 (yn : Int), .bool yo] 73)).drew.cell? ⟨wr.heap.size, 1, none⟩ = some (.bool yo) := by go_simp
          go_wp2
          obtain ⟨q, hq⟩ : ∃ q, q = wr.heap.size := ⟨_, rfl⟩
          rw [← hq] at y0 y1 zp ⊢
          have HQ := Lib.hid hq
          clear hq
          refine wp_region_heldE 13 (fun w' => w'.cell? ⟨p, 0, none⟩ = some u ∧ w'.cell? ⟨q, 0, none⟩ = some (.int .i64 (yn : Int)) ∧ w'.cell? ⟨q, 1, none⟩ = some (.bool yo) ∧ w'.cell? ⟨tb, tf + yn, none⟩ = some (.int .i64 fv)) (by kernel_rfl) ?_
          generalize (wr.alloc (.cells #[.int .i64 (yn : Int), .bool yo] 73)).drew = W2 at EX y0 y1 ⊢
          have q1 := EX.cell m1
          have q0 := EX.cell m0
          have qf := (Below.frozen (p := ⟨p, 0, none⟩) EX (cell_lt m1)).trans mf
          have hS : W2.cell? ⟨p, 0, none⟩ = some u ∧ W2.cell? ⟨q, 0, none⟩ = some (.int .i64 (yn : Int)) ∧ W2.cell? ⟨q, 1, none⟩ = some (.bool yo) ∧ W2.cell? ⟨tb, tf + yn, none⟩ = some (.int .i64 fv) := ⟨q1, y0, y1, EX.cell t1⟩
          have hzq := cell_lt y0
          dsimp only at hzq
          ((refine wpAnyE_take (i := 0) (oi := ?_) (v := ?_) ?_ (by kernel_rfl) ?_ ?_ (by assumption) ?_; rotate_left 2; (focus ((simp only [List.getElem?_toArray, List.getElem?_cons_zero]; exact rfl))); (focus (exact fun _ _ _ h => h)); (focus (refine Or.inl ⟨by rfl, ?_⟩; intro w hSw; (try dsimp only at hSw); (first | (go_simp; done) | (go_simp; with_reducible rfl)))); (try simp only [Act.put, List.setIfInBounds_toArray, List.set_cons_zero, List.set_cons_succ])); (refine wpAnyE_take (i := 1) (oi := ?_) (v := ?_) ?_ (by kernel_rfl) ?_ ?_ (by assumption) ?_; rotate_left 2; (focus ((simp only [List.getElem?_toArray, List.getElem?_cons_succ, List.getElem?_cons_zero]; exact rfl))); (focus (exact fun _ _ _ h => h)); (focus (refine Or.inl ⟨by rfl, ?_⟩; intro w hSw; (try dsimp only at hSw); (first | (go_simp; done) | (go_simp; with_reducible rfl)))); (try simp only [Act.put, List.setIfInBounds_toArray, List.set_cons_zero, List.set_cons_succ])); (refine wpAnyE_take (i := 2) (oi := ?_) (v := ?_) ?_ (by kernel_rfl) ?_ ?_ (by assumption) ?_; rotate_left 2; (focus ((simp only [List.getElem?_toArray, List.getElem?_cons_succ, List.getElem?_cons_zero]; exact rfl))); (focus (exact fun _ _ _ h => h)); (focus (refine Or.inl ⟨by rfl, ?_⟩; intro w hSw; (try dsimp only at hSw); (first | (go_simp; done) | (go_simp; with_reducible rfl)))); (try simp only [Act.put, List.setIfInBounds_toArray, List.set_cons_zero, List.set_cons_succ])); (refine wpAnyE_take (i := 3) (oi := ?_) (v := ?_) ?_ (by kernel_rfl) ?_ ?_ (by assumption) ?_; rotate_left 2; (focus ((simp only [List.getElem?_toArray, List.getElem?_cons_succ, List.getElem?_cons_zero]; exact rfl))); (focus (exact fun _ _ _ h => h)); (focus (refine Or.inl ⟨by rfl, ?_⟩; intro w hSw; (try dsimp only at hSw); (first | (go_simp; done) | (go_simp; with_reducible rfl)))); (try simp only [Act.put, List.setIfInBounds_toArray, List.set_cons_zero, List.set_cons_succ])); (refine wpAnyE_take (i := 4) (oi := ?_) (v := ?_) ?_ (by kernel_rfl) ?_ ?_ (by assumption) ?_; rotate_left 2; (focus ((simp only [List.getElem?_toArray, List.getElem?_cons_succ, List.getElem?_cons_zero]; exact rfl))); (focus (exact fun _ _ _ h => h)); (focus (refine Or.inl ⟨by rfl, ?_⟩; intro w hSw; (try dsimp only at hSw); (first | (go_simp; done) | (go_simp; with_reducible rfl)))); (try simp only [Act.put, List.setIfInBounds_toArray, List.set_cons_zero, List.set_cons_succ])); (refine wpAnyE_take (i := 5) (oi := ?_) (v := ?_) ?_ (by kernel_rfl) ?_ ?_ (by assumption) ?_; rotate_left 2; (focus ((simp only [List.getElem?_toArray, List.getElem?_cons_succ, List.getElem?_cons_zero]; exact rfl))); (focus (exact fun _ _ _ h => h)); (focus (refine Or.inl ⟨by rfl, ?_⟩; intro w hSw; (try dsimp only at hSw); (first | (go_simp; done) | (go_simp; with_reducible rfl)))); (try simp only [Act.put, List.setIfInBounds_toArray, List.set_cons_zero, List.set_cons_succ])); (refine wpAnyE_take (i := 6) (oi := ?_) (v := ?_) ?_ (by kernel_rfl) ?_ ?_ (by assumption) ?_; rotate_left 2; (focus ((simp only [List.getElem?_toArray, List.getElem?_cons_succ, List.getElem?_cons_zero]; exact rfl))); (focus (exact fun _ _ _ h => h)); (focus (refine Or.inl ⟨by rfl, ?_⟩; intro w hSw; (try dsimp only at hSw); (first | (go_simp; done) | (go_simp; with_reducible rfl)))); (try simp only [Act.put, List.setIfInBounds_toArray, List.set_cons_zero, List.set_cons_succ])); (refine wpAnyE_take (i := 7) (oi := ?_) (v := ?_) ?_ (by kernel_rfl) ?_ ?_ (by assumption) ?_; rotate_left 2; (focus ((simp only [List.getElem?_toArray, List.getElem?_cons_succ, List.getElem?_cons_zero]; exact rfl))); (focus (exact fun _ _ _ h => h)); (focus (refine Or.inl ⟨by rfl, ?_⟩; intro w hSw; (try dsimp only at hSw); (first | (go_simp; done) | (go_simp; with_reducible rfl)))); (try simp only [Act.put, List.setIfInBounds_toArray, List.set_cons_zero, List.set_cons_succ])); (refine wpAnyE_take (i := 8) (oi := ?_) (v := ?_) ?_ (by kernel_rfl) ?_ ?_ (by assumption) ?_; rotate_left 2; (focus ((simp only [List.getElem?_toArray, List.getElem?_cons_succ, List.getElem?_cons_zero]; exact rfl))); (focus (exact fun _ _ _ h => h)); (focus (refine Or.inl ⟨by rfl, ?_⟩; intro w hSw; (try dsimp only at hSw); (first | (go_simp; done) | (go_simp; with_reducible rfl)))); (try simp only [Act.put, List.setIfInBounds_toArray, List.set_cons_zero, List.set_cons_succ])); (refine wpAnyE_take (i := 9) (oi := ?_) (v := ?_) ?_ (by kernel_rfl) ?_ ?_ (by assumption) ?_; rotate_left 2; (focus ((simp only [List.getElem?_toArray, List.getElem?_cons_succ, List.getElem?_cons_zero]; exact rfl))); (focus (exact fun _ _ _ h => h)); (focus (refine Or.inl ⟨by rfl, ?_⟩; intro w hSw; (try dsimp only at hSw); (first | (go_simp; done) | (go_simp; with_reducible rfl)))); (try simp only [Act.put, List.setIfInBounds_toArray, List.set_cons_zero, List.set_cons_succ])))
          have E6 : Ext W2 (W2.alloc (.cells #[.int .i64 fv, .bool yo] 73)) := (by repeat (first | with_reducible exact Ext.refl _ | with_reducible assumption | with_reducible apply Ext.drewN | with_reducible apply Ext.drew | with_reducible apply Ext.alloc | ((with_reducible refine Ext.set ?_ ?_ _); rotate_left; first | omega | (simp; omega)) | (with_reducible refine Ext.trans ?_ (by with_reducible assumption))))
          (refine wpAnyE_one (i := 10) (o := ?_) ?_ (by kernel_rfl) (fun K hK => ?_); rotate_left; (focus ((simp only [List.getElem?_toArray, List.getElem?_cons_succ, List.getElem?_cons_zero]; exact rfl))); go_simp; refine hK.out _ _ ?_ (fun hHeld => ?_); rotate_left; clear hK K; (try simp only [Act.put, List.setIfInBounds_toArray, List.set_cons_zero, List.set_cons_succ]))
          rotate_left
          · exact ⟨E6.cell hS.1, E6.cell hS.2.1, E6.cell hS.2.2.1, E6.cell hS.2.2.2⟩
          have ho6 : OwnsK (W2.alloc (.cells #[.int .i64 fv, .bool yo] 73)) u P := HM2.out.ext (EX.trans E6)
          have hs6 := E6.size
          have hsX := EX.size
          refine wpAnyE_one (i := 11) (o := ?_) ?_ (by kernel_rfl) (fun K hK => ?_)
          rotate_left
          · simp only [List.getElem?_toArray, List.getElem?_cons_succ, List.getElem?_cons_zero]; exact rfl
          refine step_append1 rfl _ _ 66 rfl 73 i0 (.agg #[.int .i64 0, .bool false]) 2 16 Tryz.underlying66 hi hi0 hi1 hi2 rfl (by decide) u P.length (flatK P) rfl ho6 ⟨W2.heap.size, 0, none⟩ 1 1 (by decide) [.int .i64 fv, .bool yo] rfl rfl (cells_one _ _ _) (by intro u hu; simp at hu; rcases hu with rfl | rfl <;> rfl) (by unfold maxLen; omega) (by omega) (fun v' w7 hown7 hend7 => ?_)
          have O7 : OwnsK w7 v' (P ++ [(fv, yo)]) := ownsK_succ hown7
          have hgr := hend7.chg
          have B7 : Below p (W2.alloc (.cells #[.int .i64 fv, .bool yo] 73)) w7 := hend7.below (n := p) (by omega) (fun b hb => by have := HM3.out b hb; omega)
          have V7 := hend7.ge (n := p + 1) (by omega) (fun b hb => HM3.out b hb)
          have same7 : ∀ (c : Addr) (v : Value), u.ownBlock ≠ some c.block → (W2.alloc (.cells #[.int .i64 fv, .bool yo] 73)).cell? c = some v → w7.cell? c = some v ∧ w7.frozen? c = (W2.alloc (.cells #[.int .i64 fv, .bool yo] 73)).frozen? c := fun c v hp hc => by
            have h1 := hgr.1 c.block (cell_lt hc) hp
            exact ⟨(World.cell?_of_block (w := W2.alloc (.cells #[.int .i64 fv, .bool yo] 73)) h1).trans hc, World.frozen?_of_block (w := W2.alloc (.cells #[.int .i64 fv, .bool yo] 73)) h1⟩
          have hnp : u.ownBlock ≠ some p := fun e => by have := HM3.out _ e; omega
          have hnq : u.ownBlock ≠ some q := fun e => by have := HUM.out _ e; have := HQ.out; omega
          refine hK.out _ _ ⟨(same7 ⟨p, 0, none⟩ _ hnp hHeld.1).1, (same7 ⟨q, 0, none⟩ _ hnq hHeld.2.1).1, (same7 ⟨q, 1, none⟩ _ hnq hHeld.2.2.1).1, cellB B7 (by show tb < _; omega) hHeld.2.2.2⟩ (fun hHeld => ?_)
          clear hK K
          (try simp only [Act.put, List.setIfInBounds_toArray, List.set_cons_zero, List.set_cons_succ])
          (refine wpAnyE_take (i := 12) (oi := ?_) (v := ?_) ?_ (by kernel_rfl) ?_ ?_ (by assumption) ?_; rotate_left 2; (focus ((simp only [List.getElem?_toArray, List.getElem?_cons_succ, List.getElem?_cons_zero]; exact rfl))); (focus (exact fun _ _ _ h => h)); (focus (refine Or.inl ⟨by rfl, ?_⟩; intro w hSw; (try dsimp only at hSw); (first | (go_simp; done) | (go_simp; with_reducible rfl)))); (try simp only [Act.put, List.setIfInBounds_toArray, List.set_cons_zero, List.set_cons_succ]))
          obtain ⟨va, vc, hvv, _, _⟩ := O7.reads
          have hlen : (P ++ [(fv, yo)]).length = P.length + 1 := by rw [List.length_append]; rfl
          rw [hlen] at hvv
          subst hvv
          have HO7 := Lib.hid O7
          have HV7 := Lib.hid V7
          obtain ⟨r1', rf0⟩ := same7 ⟨p, 0, none⟩ _ hnp (E6.cell q1)
          have r0 := (same7 ⟨p, 1, none⟩ _ hnp (E6.cell q0)).1
          have rf := (rf0.trans (Below.frozen (p := ⟨p, 0, none⟩) E6 (cell_lt q1))).trans qf
          have BB : Below p W1 w7 := (hbn.trans ((EX.trans E6).mono (by omega))).trans B7
          clear O7 V7 hown7 hend7 hgr hlen rf0 hHeld same7
          (refine wpAnyE_free (i := 13) (o := ?_) ?_ (by kernel_rfl) (by kernel_rfl) (fun K hK => ?_); rotate_left; (focus ((simp only [List.getElem?_toArray, List.getElem?_cons_succ, List.getElem?_cons_zero]; exact rfl))); go_simp; refine hK.out _ _ ?_; clear hK K; (try simp only [Act.put, List.setIfInBounds_toArray, List.set_cons_zero, List.set_cons_succ]))
          refine wpAnyE_done (by kernel_rfl) ?_ _
          have MN : Hid (RnSt p W1 (w7.setCell ⟨p, 0, none⟩ (.slice va (P.length + 1) vc)) (renP f st (j + 1)) wait) := by
            show RnSt _ _ _ _ _
            rw [HPS.out]
            refine ⟨BB.setCell (p := ⟨p, 0, none⟩) (Nat.le_refl _) _, ⟨_, World.cell?_setCell_same _ _ _ r1', ?_, fun b hb => by have := HV7.out b hb; omega⟩, ?_, by rw [World.frozen?_setCell]; exact rf⟩
            · exact rowSame HO7.out (fun b hb => Below.heap_setCell _ _ _ _ (fun e => by have := HV7.out b hb; dsimp only at e; omega))
            · rw [World.cell?_setCell_other _ _ _ _ (fun h => by simp only [Addr.mk.injEq] at h; omega)]
              exact r0
          generalize w7.setCell ⟨p, 0, none⟩ (.slice va (P.length + 1) vc) = w8 at MN ⊢
          go_wp2
          refine ⟨⟨j + 1, by omega, by go_num, MN⟩, by simp [intOf]; omega⟩
        · have hje : j = st.length := by omega
          have hpe : renP f st j = st.map fun y => (f y.1, y.2) := by unfold renP; rw [hje, List.take_length]
          obtain ⟨u, m1, m2, m3⟩ := N.out.v
          have m0 := N.out.c1
          have mf := N.out.f0
          rw [hpe] at m2
          obtain ⟨Q, hQ⟩ : ∃ Q, Q = st.map fun y : Stk => (f y.1, y.2) := ⟨_, rfl⟩
          have hQl : Q.length ≤ 40 := by rw [hQ, List.length_map]; exact hl40
          have HQS : Hid (renStep f (st, wait) = (ordered Q, wait)) := by show _ = _; rw [hQ]; rfl
          rw [← hQ] at m2
          obtain ⟨ua, uc, rfl, hcu, _, _⟩ := m2.reads
          have HCU := Lib.hid hcu
          have EW : Ext wo wr := EP.trans' hbn (by have := HPP.out; omega)
          have zp := cell_lt m1
          dsimp only at zp
          clear hcu m2 m3 N hpe hQ
          go_wp2_with fail
          refine (orderedR_any Q ua uc _ hQl HCU.out).mono ?_
          rintro e w3 ⟨v2, rfl, ho2, hob2, hE3⟩
          obtain ⟨oa, oc, rfl, hoc, hol, hobk⟩ := ho2.reads
          have m1 := hE3.cell m1
          have mf := (Below.frozen (p := ⟨p, 0, none⟩) hE3 zp).trans mf
          have m0 := hE3.cell m0
          have EO : Ext wo w3 := EW.trans hE3
          have hsE := hE3.size
          have EB : Ext wo (w3.setCell ⟨p, 0, none⟩ (.slice oa (ordered Q).length oc)) := EO.set (by have := HPP.out; omega) _
          have hoB : OwnsK (w3.setCell ⟨p, 0, none⟩ (.slice oa (ordered Q).length oc)) (.slice oa (ordered Q).length oc) (ordered Q) :=
            rowSame ho2 (fun b hb => Below.heap_setCell _ _ _ _ (fun e => by have := hob2 b hb; dsimp only at e; omega))
          obtain ⟨_, _, e9, hoc, hol, hobk⟩ := hoB.reads
          cases e9
          have HOC := Lib.hid hoc
          have HOX : Hid (∀ b off, oa = some ⟨b, off, none⟩ → ordered Q ≠ [] → p < b) := fun b off hb hne => by
            have := hob2 b (hobk b off hb hne).2.1; omega
          obtain ⟨ov, n1, n2, n3⟩ := M.out.v
          have n0 := EB.cell M.out.c0
          have nf := (Below.frozen (p := ⟨o, 1, none⟩) EB (cell_lt n1)).trans M.out.f1
          have hoN : ∀ b, ov.ownBlock = some b → b < p := fun b hb => by have := n2.lt hb; have := HPP.out; omega
          have HON := Lib.hid hoN
          have zo1 : o < wo.heap.size := how
          have N1 := Lib.hid (EO.cell n1)
          have n1 := EB.cell n1
          have E6 : Ext wo ((w3.setCell ⟨p, 0, none⟩ (.slice oa (ordered Q).length oc)).alloc (.cells #[.slice oa (ordered Q).length oc, .int .i64 wait] 87)) := EB.alloc _
          have hs6 := E6.size
          have hsB : (w3.setCell ⟨p, 0, none⟩ (.slice oa (ordered Q).length oc)).heap.size = w3.heap.size := by simp [World.setCell]
          have hs7 : ((w3.setCell ⟨p, 0, none⟩ (.slice oa (ordered Q).length oc)).alloc (.cells #[.slice oa (ordered Q).length oc, .int .i64 wait] 87)).heap.size = w3.heap.size + 1 := by go_simp
          have E67 : Ext (w3.setCell ⟨p, 0, none⟩ (.slice oa (ordered Q).length oc)) ((w3.setCell ⟨p, 0, none⟩ (.slice oa (ordered Q).length oc)).alloc (.cells #[.slice oa (ordered Q).length oc, .int .i64 wait] 87)) := (by repeat (first | with_reducible exact Ext.refl _ | with_reducible assumption | with_reducible apply Ext.drewN | with_reducible apply Ext.drew | with_reducible apply Ext.alloc | ((with_reducible refine Ext.set ?_ ?_ _); rotate_left; first | omega | (simp; omega)) | (with_reducible refine Ext.trans ?_ (by with_reducible assumption))))
          obtain ⟨ps, hp1, hp2, hp3⟩ := n2.chg (Chg.ext E6) (fun b hb h => by have := n3 b hb; omega)
          have HN3 := Lib.hid n3
          have HP3 := Lib.hid hp3
          have HPS1 := Lib.hid hp1
          obtain ⟨F, hF⟩ : ∃ F, F = flat2 (pairP ps) := ⟨_, rfl⟩
          rw [← hF] at hp2
          have HFF := Lib.hid hF
          have HP2 := Lib.hid hp2
          have hYl := renK_len f l k
          have MB := Lib.hid hbe
          clear hp1 hp2 hp3 hF n2 n3 M ho2 hoB hoc hobk hob2 hoN hbe hE3 EW HCU
          generalize renK f l k = Y at HMS HPS1 HP2 hYl
          have n1' := N1.out
          have zo2 : o < w3.heap.size := by omega
          go_wp2_with (at_builtin; refine wpList_append1 _ rfl _ _ 22 rfl 87 j0 (.agg #[.slice none 0 0, .int .i64 0]) 2 32 Tryz.underlying22 hj hj0 hj1 hj2 rfl (by decide) ov Y.length F rfl HP2.out ⟨w3.heap.size, 0, none⟩ 1 1 (by decide) [.slice oa (ordered Q).length oc, .int .i64 wait] rfl rfl ?hn ?c1 ?c2 ?c3 ?c4)
          case hn =>
            have hh := cells_one (w3.setCell ⟨p, 0, none⟩ (.slice oa (ordered Q).length oc)) [.slice oa (ordered Q).length oc, .int .i64 wait] 87
            rw [hsB] at hh
            exact hh
          case c1 => intro u hu; simp at hu; rcases hu with rfl | rfl <;> rfl
          case c2 => unfold maxLen; omega
          case c3 => omega
          case c4 =>
            intro v' w7 hown7 hend7
            rw [HFF.out] at hown7
            have O7 : OwnsP (fun b => b ≤ o) w7 v' (Y ++ [(ordered Q, wait)]) := by
              refine OwnsP.app2 (u := .slice oa (ordered Q).length oc) (y := (ordered Q, wait)) HPS1.out HP3.out ?_ (fun b hb => by omega) hown7 hend7
              refine ⟨oa, oc, rfl, (HOC.out.ext E67), hol, fun b off hb hne hx => ?_⟩
              have h1 := HOX.out b off hb hne
              rcases hx with hx | hx
              · omega
              · have h2 := HON.out b hx
                omega
            have hgr := hend7.chg
            have B7 : Below o W w7 := (MB.out.trans (E6.mono (by omega))).trans (hend7.below (n := o) (by omega) (fun b hb => by have := HN3.out b hb; omega))
            have V7 := hend7.ge (n := o + 1) (by omega) (fun b hb => HN3.out b hb)
            have same7 : ∀ (c : Addr) (v : Value), c.block = o → (w3.setCell ⟨p, 0, none⟩ (.slice oa (ordered Q).length oc)).cell? c = some v → w7.cell? c = some v ∧ w7.frozen? c = (w3.setCell ⟨p, 0, none⟩ (.slice oa (ordered Q).length oc)).frozen? c := fun c v hp hc => by
              have h1 := hgr.1 c.block (cell_lt (E67.cell hc)) (fun e => by have := HN3.out _ e; omega)
              exact ⟨(World.cell?_of_block (w := ((w3.setCell ⟨p, 0, none⟩ (.slice oa (ordered Q).length oc)).alloc (.cells #[.slice oa (ordered Q).length oc, .int .i64 wait] 87))) h1).trans (E67.cell hc), (World.frozen?_of_block (w := ((w3.setCell ⟨p, 0, none⟩ (.slice oa (ordered Q).length oc)).alloc (.cells #[.slice oa (ordered Q).length oc, .int .i64 wait] 87))) h1).trans (Below.frozen (p := c) E67 (cell_lt hc))⟩
            obtain ⟨r1, rf0⟩ := same7 ⟨o, 1, none⟩ _ rfl n1
            have r0 := (same7 ⟨o, 0, none⟩ _ rfl n0).1
            have rf := rf0.trans nf
            obtain ⟨va, vc, hvv, _, _⟩ := O7.reads
            have hlen : (Y ++ [(ordered Q, wait)]).length = Y.length + 1 := by rw [List.length_append]; rfl
            rw [hlen] at hvv
            subst hvv
            have HO7 := Lib.hid O7
            have HV7 := Lib.hid V7
            have MN : Hid (TrSt (fun b => b ≤ o) o W (w7.setCell ⟨o, 1, none⟩ (.slice va (Y.length + 1) vc)) n (renK f l (k + 1))) := by
              show TrSt _ _ _ _ _ _
              rw [HMS.out, HQS.out]
              refine ⟨B7.setCell (p := ⟨o, 1, none⟩) (Nat.le_refl _) _, ?_, by rw [World.frozen?_setCell]; exact rf, _, World.cell?_setCell_same _ _ _ r1, HO7.out.chg (Chg.setCell (B := fun b => b ≤ o) ⟨o, 1, none⟩ _ (Nat.le_refl _)) (fun b hb e => by have := HV7.out b hb; omega), fun b hb => by have := HV7.out b hb; omega⟩
              rw [World.cell?_setCell_other _ _ _ _ (fun h => by simp only [Addr.mk.injEq] at h; omega)]
              exact r0
            have rf1 : w7.frozen? ⟨o, 1, none⟩ = false := rf
            clear hown7 hend7 hgr hlen rf0 same7 O7 V7 HPS1 HP2 HP3 HFF MB E67 E6 EB B7 N1 n1'
            go_wp2
            refine ⟨⟨k + 1, by omega, by go_num, MN⟩, by simp [intOf]; omega⟩
    · have hke : k = l.length := by omega
      subst hke
      obtain ⟨v, m1, m2, m3⟩ := M.out.v
      have m0 := M.out.c0
      rw [HRE.out] at m2
      obtain ⟨va, vc, rfl, _, _⟩ := m2.reads
      have d1 := cellB hbe (p := ⟨w.heap.size + 1, 0, none⟩) ho1 c1
      have d2 := cellB hbe (p := ⟨w.heap.size + 1, 1, none⟩) ho1 c2
      have g1 := (Below.frozen (p := ⟨w.heap.size + 1, 0, none⟩) hbe ho1).trans f1
      have g2 := (Below.frozen (p := ⟨w.heap.size + 1, 1, none⟩) hbe ho1).trans f2
      have hc : Chg (fun b => b ≤ o) wo ((wo.setCell ⟨w.heap.size + 1, 0, none⟩ (.int .i64 n)).setCell ⟨w.heap.size + 1, 1, none⟩ (.slice va R.2.length vc)) :=
        (Chg.setCell (B := fun b => b ≤ o) ⟨w.heap.size + 1, 0, none⟩ _ (by show w.heap.size + 1 ≤ o; omega)).trans (Chg.setCell (B := fun b => b ≤ o) ⟨w.heap.size + 1, 1, none⟩ _ (by show w.heap.size + 1 ≤ o; omega))
      have HFO := Lib.hid (m2.chg hc (fun b hb e => by have := m3 b hb; omega))
      have HFV := Lib.hid m3
      have EF : Ext w ((wo.setCell ⟨w.heap.size + 1, 0, none⟩ (.int .i64 n)).setCell ⟨w.heap.size + 1, 1, none⟩ (.slice va R.2.length vc)) := (by repeat (first | with_reducible exact Ext.refl _ | with_reducible assumption | with_reducible apply Ext.drewN | with_reducible apply Ext.drew | with_reducible apply Ext.alloc | ((with_reducible refine Ext.set ?_ ?_ _); rotate_left; first | omega | (simp; omega)) | (with_reducible refine Ext.trans ?_ (by with_reducible assumption))))
      clear m2 m3 M hc hbe HRE
      go_wp2
      refine bodyPost_ret (v := .agg #[.int .i64 n, .slice va R.2.length vc]) (by rw [results_cell1 rfl]; go_simp) rfl ⟨o, _, by omega, by rw [HR1.out], HFO.out, HFV.out, EF⟩
end Go.Proofs.YtnhbogmihnnpjaaGreat
/- The reference's Letters. -/
namespace Go.Proofs.YtnhbogmihnnpjaaGreat
open Go.RowKit

def cntB (l : List Stp) (A : Int) (B : Nat) : Nat := ((ints (B : Int)).filter fun b => bf l b A).length
theorem cntB_succ (l : List Stp) (A : Int) (B : Nat) : cntB l A (B + 1) = cntB l A B + if bf l (B : Int) A then 1 else 0 := by
  unfold cntB
  rw [ints_succ, List.filter_append, List.length_append]
  congr 1
  cases h : bf l (B : Int) A <;> simp [h]
theorem cntB_le (l : List Stp) (A : Int) (B : Nat) : cntB l A B ≤ B := by
  unfold cntB
  refine Nat.le_trans (List.length_filter_le _ _) ?_
  simp [ints]
def letK (N : Nat) (l : List Stp) (A : Nat) : List Int := (ints (A : Int)).map (letterOf ((N : Int), l))
theorem letK_succ (N : Nat) (l : List Stp) (A : Nat) : letK N l (A + 1) = letK N l A ++ [(cntB l (A : Int) N : Int)] := by
  unfold letK; rw [ints_succ, List.map_append]; rfl
theorem letK_len (N : Nat) (l : List Stp) (A : Nat) : (letK N l A).length ≤ A := by simp [letK, ints]

set_option maxHeartbeats 8000000 in
set_option maxRecDepth 100000 in
theorem LettersR_any (N : Nat) (l : List Stp) (a : Option Addr) (cap : Nat) (w : World) (hl : l.length ≤ 200) (hc : CellsP w a l) (hN : N ≤ 6) :
    Calls Tryz.prog 69 #[.agg #[.int .i64 (N : Int), .slice a l.length cap]] w (OwnIPost (lettersOf ((N : Int), l)) w) := by
  have HC := Lib.hid hc
  clear hc
  obtain ⟨R, hR⟩ : ∃ R, R = lettersOf ((N : Int), l) := ⟨_, rfl⟩
  have HRR : Hid (letK N l N = R) := hR.symm
  rw [← hR]
  clear hR
  obtain ⟨i0, hi, hi0, hi1, hi2⟩ := info_parts infoInt
  go_enter Tryz.func69, Tryz.ntmps69
  go_wp2
  have E1 : Ext w (w.alloc (.cells #[.int .i64 (N : Int), .slice a l.length cap] 24)) := (by repeat (first | with_reducible exact Ext.refl _ | with_reducible assumption | with_reducible apply Ext.drewN | with_reducible apply Ext.drew | with_reducible apply Ext.alloc | ((with_reducible refine Ext.set ?_ ?_ _); rotate_left; first | omega | (simp; omega)) | (with_reducible refine Ext.trans ?_ (by with_reducible assumption))))
  have c0 : (w.alloc (.cells #[.int .i64 (N : Int), .slice a l.length cap] 24)).cell? ⟨w.heap.size, 0, none⟩ = some (.int .i64 (N : Int)) := by go_simp
  have c1 : (w.alloc (.cells #[.int .i64 (N : Int), .slice a l.length cap] 24)).cell? ⟨w.heap.size, 1, none⟩ = some (.slice a l.length cap) := by go_simp
  generalize w.alloc (.cells #[.int .i64 (N : Int), .slice a l.length cap] 24) = W at E1 c0 c1 ⊢
  have hW := E1.size
  go_loopw [4, 3] (fun i v wr => ∃ A : Nat, A ≤ N ∧ i = .int .i64 A ∧ (∃ vv, v = vv ∧ Hid (OwnsI wr vv (letK N l A) ∧ ∀ b, vv.ownBlock = some b → W.heap.size ≤ b)) ∧ Ext W wr) (fun i _ _ => N - (intOf i).toNat)
  case atStart => exact ⟨0, Nat.zero_le _, rfl, ⟨_, rfl, OwnsI.nil _, fun b hb => by cases hb⟩, Ext.refl _⟩
  case round =>
    obtain ⟨A, hA, rfl, ⟨vv, hvv, hO⟩, he⟩ := hrel
    obtain rfl := hvv.symm
    obtain ⟨wo, hwo⟩ : ∃ wo : World, wo = wr := ⟨_, rfl⟩
    subst hwo
    have d0 := he.cell c0
    have d1 := he.cell c1
    by_cases hlt : A < N
    · have hlti : (A : Int) < (N : Int) := by omega
      go_wp2
      (try simp only [decide_eq_true hlti])
      have HB0 := Lib.hid hO.out.2
      have HO0 := Lib.hid hO.out.1
      clear hO
      go_loopw [6, 5] (fun i v wr => ∃ B : Nat, B ≤ N ∧ i = .int .i64 B ∧ (∃ q : Int, v = .int .i64 q ∧ Hid (q = (cntB l (A : Int) B : Nat))) ∧ Ext wo wr) (fun i _ _ => N - (intOf i).toNat)
      case atStart => exact ⟨0, Nat.zero_le _, rfl, ⟨0, rfl, by show (0 : Int) = _; rfl⟩, Ext.refl _⟩
      case round =>
        obtain ⟨B, hB, rfl, ⟨q, rfl, hq⟩, hE⟩ := hrel
        have d0 := hE.cell d0
        have d1 := hE.cell d1
        by_cases hblt : B < N
        · have hz1 := cell_lt d0
          dsimp only at hz1
          have HCW := Lib.hid (HC.out.ext (E1.trans (he.trans hE)))
          go_wp2
          go_region_held3 (fun w' => Sees wr w') ((repeat (first | exact Sees.refl _ | assumption | apply Sees.drew | apply Sees.alloc | (refine Sees.ext ?_ (by assumption))))) (first | (go_at_call 98; have hprev := hvB; refine Calls.mono (StepsR_any _ l _ a cap _ hl (HCW.out.ext (show Sees wr _ by assumption).2.2)) ?_; rintro e wA ⟨vA, rfl, hvA, hbA, hEA⟩) | (go_at_call 98; refine Calls.mono (StepsR_any _ l _ a cap _ hl (HCW.out.ext (show Sees wr _ by assumption).2.2)) ?_; rintro e wB ⟨vB, rfl, hvB, hbB, hEB⟩))
          have hSee := (show Sees wr wA by assumption)
          have E5 : Ext wo wA := hE.trans hSee.2.2
          obtain ⟨ba, bc, rfl, hcB, hlB⟩ := hvB.reads
          obtain ⟨aa, ac, rfl, hcA, hlA⟩ := hvA.reads
          have HCB := Lib.hid (hcB.ext hEA)
          have HCA := Lib.hid hcA
          have HLB := Lib.hid hlB
          have HLA := Lib.hid hlA
          have HS := Lib.hid (cntB_succ l (A : Int) B)
          have hbf : bf l (B : Int) (A : Int) = (lexLt (movesOf l (B : Int)) (movesOf l (A : Int)) || (decide ((B : Int) < (A : Int)) && (movesOf l (B : Int) == movesOf l (A : Int)))) := rfl
          rw [hbf] at HS
          have hq0 : 0 ≤ q ∧ q ≤ 6 := by have h1 := hq.out; have h2 := cntB_le l (A : Int) B; omega
          have hwq : IntKind.i64.wrap (q + 1) = q + 1 := IntWalk.i64_in _ (by omega)
          rename_i hH
          clear hSee hH hcB hcA hlB hlA hvB hvA hbB hbA hEB hEA hprev hbf HCW d0 d1 hz1
          generalize movesOf l (B : Int) = X at HCB HLB HS
          generalize movesOf l (A : Int) = Y at HCA HLA HS
          go_wp2_with fail
          refine (lessR_any X Y ba aa bc ac _ HLB.out HCB.out HLA.out HCA.out).mono ?_
          rintro e w7 ⟨rfl, hE7⟩
          have HCB := Lib.hid (HCB.out.ext hE7)
          have HCA := Lib.hid (HCA.out.ext hE7)
          have E7 := E5.trans hE7
          clear E5 hE7
          cases hlx : lexLt X Y
          · rw [hlx, Bool.false_or] at HS
            by_cases hba : (B : Int) < (A : Int)
            · rw [decide_eq_true hba, Bool.true_and] at HS
              go_wp2_with fail
              refine (SameInts_any X Y ba aa bc ac _ HLB.out HCB.out HLA.out HCA.out).mono ?_
              rintro e w8 ⟨rfl, hE8⟩
              have E8 := E7.trans hE8
              clear E7 hE8
              by_cases hxy : X = Y
              · have HS2 : Hid (q + 1 = (cntB l (A : Int) (B + 1) : Nat)) := by
                  show _ = _
                  rw [HS.out, if_pos (by simp [hxy]), hq.out]; rfl
                rw [decide_eq_true hxy]
                clear HS hq hxy hlx
                go_wp2
                refine ⟨⟨B + 1, by omega, by go_num, ⟨_, rfl, HS2⟩, E8⟩, by simp [intOf]; omega⟩
              · have HS2 : Hid (q = (cntB l (A : Int) (B + 1) : Nat)) := by
                  show _ = _
                  rw [HS.out, if_neg (by simp [hxy]), hq.out]; rfl
                rw [decide_eq_false hxy]
                clear HS hq hxy hlx
                go_wp2
                refine ⟨⟨B + 1, by omega, by go_num, ⟨_, rfl, HS2⟩, E8⟩, by simp [intOf]; omega⟩
            · have HS2 : Hid (q = (cntB l (A : Int) (B + 1) : Nat)) := by
                show _ = _
                rw [HS.out, decide_eq_false hba, Bool.false_and, if_neg (by simp), hq.out]; rfl
              clear HS hq hlx
              go_wp2
              refine ⟨⟨B + 1, by omega, by go_num, ⟨_, rfl, HS2⟩, E7⟩, by simp [intOf]; omega⟩
          · have HS2 : Hid (q + 1 = (cntB l (A : Int) (B + 1) : Nat)) := by
              show _ = _
              rw [HS.out, hlx, Bool.true_or, if_pos rfl, hq.out]; rfl
            clear HS hq hlx
            go_wp2
            refine ⟨⟨B + 1, by omega, by go_num, ⟨_, rfl, HS2⟩, E7⟩, by simp [intOf]; omega⟩
        · have hBN : B = N := by omega
          subst hBN
          have HQ : Hid (q = (cntB l (A : Int) B : Nat)) := hq
          have HLS := Lib.hid (letK_succ B l A)
          have hYl := letK_len B l A
          have HOW := Lib.hid (HO0.out.ext hE)
          have hsE := hE.size
          have hsE2 := he.size
          have E5 := he.trans hE
          have hLT : Hid (∀ b, vv.ownBlock = some b → W.heap.size ≤ b) := HB0
          rw [← HQ.out] at HLS
          generalize letK B l A = P at HLS hYl HOW
          clear hq HQ HO0
          go_wp2_with (at_builtin; refine wpList_append1 _ rfl _ _ 27 rfl 3 i0 (.int .i64 0) 1 8 Tryz.underlying27 hi hi0 hi1 hi2 rfl (by decide) vv P.length (P.map (Value.int .i64)) rfl ?ho ⟨wr.heap.size, 0, none⟩ 1 1 (by decide) [.int .i64 q] rfl rfl ?hn ?c1 ?c2 ?c3 ?c4)
          case ho => exact HOW.out.ext ((Ext.refl _).alloc _)
          case hn => exact cells_one _ _ _
          case c1 => intro u hu; simp at hu; subst hu; rfl
          case c2 => unfold maxLen; omega
          case c3 => omega
          case c4 =>
            intro v' w5 hown5 hend5
            have O5 : Hid (OwnsI w5 v' (letK B l (A + 1))) := by show OwnsI _ _ _; rw [HLS.out]; exact ownsI_succ hown5
            have B5 : Ext W w5 := (E5.trans ((Ext.refl _).alloc _)).trans' (hend5.below (n := W.heap.size) (by simp; omega) HB0.out) (Nat.le_refl _)
            have OB5 : Hid (∀ b, v'.ownBlock = some b → W.heap.size ≤ b) := hend5.ge (n := W.heap.size) (by simp; omega) HB0.out
            clear hown5 hend5 HOW HB0
            go_wp2
            refine ⟨⟨A + 1, by omega, by go_num, ⟨v', rfl, O5.out, OB5.out⟩, B5⟩, by simp [intOf]; omega⟩
    · have hAN : A = N := by omega
      subst hAN
      have HO1 := Lib.hid hO.out.1
      have HO2 := Lib.hid hO.out.2
      rw [HRR.out] at HO1
      clear hO
      go_wp2
      go_ret
      exact ⟨_, rfl, HO1.out, fun b hb => by have := HO2.out b hb; omega, E1.trans he⟩
end Go.Proofs.YtnhbogmihnnpjaaGreat
/- The reference's Standard, Rename, Alike. -/
namespace Go.Proofs.YtnhbogmihnnpjaaGreat
open Go.RowKit

/-- what Renamed asks of the steps -/
theorem Fine.renIn {n : Int} {l : List Stp} (h : Fine n l) {m : Int} (hm : n ≤ m) : ∀ k, k < l.length → (l.getD k stp0).1.length ≤ 40 ∧ ∀ j, j < (l.getD k stp0).1.length → 0 ≤ ((l.getD k stp0).1.getD j stk0).1 ∧ ((l.getD k stp0).1.getD j stk0).1 < m := fun k hk => by
  obtain ⟨h1, h2⟩ := h k hk
  have := (ckStep_strokes h1).2.1
  exact ⟨by omega, fun j hj => ⟨(h2 j hj).1, by have := (h2 j hj).2; omega⟩⟩
set_option maxHeartbeats 4000000 in
set_option maxRecDepth 100000 in
theorem StandardR_any (n : Int) (l : List Stp) (a : Option Addr) (cap : Nat) (w : World) (hl : l.length ≤ maxLen) (hc : CellsP w a l) :
    Calls Tryz.prog 35 #[.agg #[.int .i64 n, .slice a l.length cap]] w (StdPost (if ckSeq (n, l) = 0 then standard (n, l) else sq0) (if ckSeq (n, l) = 0 then lettersOf (n, l) else []) (ckSeq (n, l)) w) := by
  have HC := Lib.hid hc
  have HL := Lib.hid hl
  obtain ⟨er, her⟩ : ∃ er, er = ckSeq (n, l) := ⟨_, rfl⟩
  obtain ⟨R, hR⟩ : ∃ R, R = (if ckSeq (n, l) = 0 then standard (n, l) else sq0) := ⟨_, rfl⟩
  obtain ⟨T, hT⟩ : ∃ T, T = (if ckSeq (n, l) = 0 then lettersOf (n, l) else []) := ⟨_, rfl⟩
  rw [← hR, ← hT, ← her]
  have HER := Lib.hid her
  have HR := Lib.hid hR
  have HT := Lib.hid hT
  clear hc hl her hR hT
  go_enter Tryz.func35, Tryz.ntmps35
  go_wp2_with fail
  have E1 : Ext w ((w.alloc (.cells #[.int .i64 n, .slice a l.length cap] 24)).alloc (.cells #[.int .i64 0, .slice none 0 0] 24)) := (by repeat (first | with_reducible exact Ext.refl _ | with_reducible assumption | with_reducible apply Ext.drewN | with_reducible apply Ext.drew | with_reducible apply Ext.alloc | ((with_reducible refine Ext.set ?_ ?_ _); rotate_left; first | omega | (simp; omega)) | (with_reducible refine Ext.trans ?_ (by with_reducible assumption))))
  have c0 : ((w.alloc (.cells #[.int .i64 n, .slice a l.length cap] 24)).alloc (.cells #[.int .i64 0, .slice none 0 0] 24)).cell? ⟨w.heap.size, 0, none⟩ = some (.int .i64 n) := by go_simp
  have c1 : ((w.alloc (.cells #[.int .i64 n, .slice a l.length cap] 24)).alloc (.cells #[.int .i64 0, .slice none 0 0] 24)).cell? ⟨w.heap.size, 1, none⟩ = some (.slice a l.length cap) := by go_simp
  have c2 : ((w.alloc (.cells #[.int .i64 n, .slice a l.length cap] 24)).alloc (.cells #[.int .i64 0, .slice none 0 0] 24)).cell? ⟨w.heap.size + 1, 0, none⟩ = some (.int .i64 0) := by go_simp
  have c3 : ((w.alloc (.cells #[.int .i64 n, .slice a l.length cap] 24)).alloc (.cells #[.int .i64 0, .slice none 0 0] 24)).cell? ⟨w.heap.size + 1, 1, none⟩ = some (.slice none 0 0) := by go_simp
  have d2 : ((w.alloc (.cells #[.int .i64 n, .slice a l.length cap] 24)).alloc (.cells #[.int .i64 0, .slice none 0 0] 24)).frozen? ⟨w.heap.size + 1, 0, none⟩ = false := by go_simp
  have d3 : ((w.alloc (.cells #[.int .i64 n, .slice a l.length cap] 24)).alloc (.cells #[.int .i64 0, .slice none 0 0] 24)).frozen? ⟨w.heap.size + 1, 1, none⟩ = false := by go_simp
  generalize ((w.alloc (.cells #[.int .i64 n, .slice a l.length cap] 24)).alloc (.cells #[.int .i64 0, .slice none 0 0] 24)) = W at E1 c0 c1 c2 c3 d2 d3 ⊢
  refine (CheckR_any n l a cap _ HL.out (HC.out.ext E1)).mono ?_
  rintro e w1 ⟨rfl, hE⟩
  rw [← HER.out]
  have E2 := E1.trans hE
  have d2 := (Below.frozen (p := ⟨w.heap.size + 1, 0, none⟩) hE (cell_lt c2)).trans d2
  have d3 := (Below.frozen (p := ⟨w.heap.size + 1, 1, none⟩) hE (cell_lt c3)).trans d3
  have c0 := hE.cell c0
  have c1 := hE.cell c1
  have c2 := hE.cell c2
  have c3 := hE.cell c3
  have hz1 := cell_lt c2
  dsimp only at hz1
  clear hE E1
  by_cases h1 : er = 0
  · have hck : ckSeq (n, l) = 0 := HER.out.symm.trans h1
    obtain ⟨hN1, hN6, hl0, hl64, hwk, _, _⟩ := ckSeq_zero hck
    obtain ⟨N, rfl⟩ := Int.eq_ofNat_of_zero_le (show 0 ≤ n by omega)
    have HFI := Lib.hid (ckWalk_fine hwk)
    have hrr := HR.out
    have htt := HT.out
    rw [if_pos hck] at hrr htt
    have hRR : R = ren (listFn T) ((N : Int), l) := by rw [hrr, htt]; rfl
    have HRR := Lib.hid hRR
    have HTT := Lib.hid htt
    have hTl : T.length = N := by rw [htt, lettersOf_len]; rfl
    have hTl6 : T.length ≤ 1000 := by omega
    have HTL := Lib.hid hTl
    subst h1
    clear hwk hck hrr htt hRR HR HT HER hTl
    go_wp2_with fail
    refine (LettersR_any N l a cap _ (by omega) (HC.out.ext E2) (by omega)).mono ?_
    rintro e w3 ⟨v, rfl, hv, hvb, hE⟩
    rw [← HTT.out] at hv
    obtain ⟨ta, tc, rfl, ht, htm⟩ := hv.reads
    have HTA := Lib.hid ht
    have HTM := Lib.hid htm
    have E3 := E2.trans hE
    have d2 := (Below.frozen (p := ⟨w.heap.size + 1, 0, none⟩) hE (cell_lt c2)).trans d2
    have d3 := (Below.frozen (p := ⟨w.heap.size + 1, 1, none⟩) hE (cell_lt c3)).trans d3
    have HV := Lib.hid hv
    have HVB := Lib.hid hvb
    have c0 := hE.cell c0
    have c1 := hE.cell c1
    have hz3 := hE.size
    have c2 := hE.cell c2
    have c3 := hE.cell c3
    clear hE ht htm hv hvb E2
    go_wp2_with fail
    have hT7 := HTL.out
    refine (RenamedR_any (N : Int) l a cap T ta tc _ (by omega) (HC.out.ext E3) HTA.out hTl6 (by rw [HTL.out]; exact HFI.out.renIn (Int.le_refl _))).mono ?_
    rintro e w4 ⟨o, u, hoo, rfl, hu, hub, hE⟩
    rw [← HRR.out] at hu ⊢
    obtain ⟨ua, uc, rfl, _, _⟩ := hu.reads
    have HU := Lib.hid hu
    have HUB := Lib.hid hub
    have HV := Lib.hid (HV.out.ext hE)
    have E4 := E3.trans hE
    have d2 := (Below.frozen (p := ⟨w.heap.size + 1, 0, none⟩) hE (cell_lt c2)).trans d2
    have d3 := (Below.frozen (p := ⟨w.heap.size + 1, 1, none⟩) hE (cell_lt c3)).trans d3
    have c2 := hE.cell c2
    have c3 := hE.cell c3
    have hz2 := hE.size
    clear hE hu hub E3 hT7
    have EF : Ext w ((w4.setCell ⟨w.heap.size + 1, 0, none⟩ (.int .i64 R.1)).setCell ⟨w.heap.size + 1, 1, none⟩ (.slice ua R.2.length uc)) := (E4.set (by omega) _).set (by omega) _
    have hF1 : Hid (SeqV ((w4.setCell ⟨w.heap.size + 1, 0, none⟩ (.int .i64 R.1)).setCell ⟨w.heap.size + 1, 1, none⟩ (.slice ua R.2.length uc)) (.agg #[.int .i64 R.1, .slice ua R.2.length uc]) R) :=
      ⟨_, rfl, (HU.out.chg ((Chg.setCell (B := fun b => b ≤ o) ⟨w.heap.size + 1, 0, none⟩ (.int .i64 R.1) (by show w.heap.size + 1 ≤ o; omega)).trans (Chg.setCell (B := fun b => b ≤ o) ⟨w.heap.size + 1, 1, none⟩ (.slice ua R.2.length uc) (by show w.heap.size + 1 ≤ o; omega))) (fun b hb e => by have := HUB.out b hb; omega)).reads⟩
    have hvx : OwnsI ((w4.setCell ⟨w.heap.size + 1, 0, none⟩ (.int .i64 R.1)).setCell ⟨w.heap.size + 1, 1, none⟩ (.slice ua R.2.length uc)) (.slice ta T.length tc) T :=
      rowSame HV.out (fun b hb => by
        have h9 := HVB.out b hb
        refine (Below.heap_setCell _ _ _ _ (fun e => ?_)).trans (Below.heap_setCell _ _ _ _ (fun e => ?_)) <;> dsimp only at e <;> omega)
    obtain ⟨_, _, e9, hvx, _⟩ := hvx.reads
    cases e9
    have HVX := Lib.hid hvx
    clear hvx HU HV HUB HVB
    go_wp2
    refine bodyPost_ret (v := .tuple #[.agg #[.int .i64 R.1, .slice ua R.2.length uc], .slice ta T.length tc, .int .i64 0]) (by rw [results_cell_tmp2s rfl]; go_simp) rfl ⟨_, _, _, rfl, hF1.out, HVX.out, HTM.out, EF⟩
  · have hck : ¬ ckSeq (n, l) = 0 := fun h => h1 (HER.out.trans h)
    have HRT : Hid (R = sq0 ∧ T = []) := by
      have e1 := HR.out
      have e2 := HT.out
      rw [if_neg hck] at e1 e2
      exact ⟨e1, e2⟩
    have EF : Ext w ((w1.setCell ⟨w.heap.size + 1, 0, none⟩ (.int .i64 0)).setCell ⟨w.heap.size + 1, 1, none⟩ (.slice none 0 0)) := (E2.set (by omega) _).set (by omega) _
    clear HR HT HER hck
    go_wp2
    refine bodyPost_ret (v := .tuple #[.agg #[.int .i64 0, .slice none 0 0], .slice none 0 0, .int .i64 er]) (by rw [results_cell_tmp2s rfl]; go_simp) rfl ?_
    rw [HRT.out.1, HRT.out.2]
    exact ⟨_, none, 0, rfl, seqV_zero _, fun i hi => by simp at hi, by simp, EF⟩
end Go.Proofs.YtnhbogmihnnpjaaGreat
/- The reference's part. -/
namespace Go.Proofs.YtnhbogmihnnpjaaGreat
open Go.RowKit

def toK (l : List Stp) (k : Nat) : List Int := (ints (k : Int)).map (partFn l)
theorem toK_succ (l : List Stp) (k : Nat) : toK l (k + 1) = toK l k ++ [partFn l (k : Int)] := by unfold toK; rw [ints_succ, List.map_append]; rfl
theorem toK_len (l : List Stp) (k : Nat) : (toK l k).length = k := by unfold toK; rw [List.length_map, ints_length]; omega
theorem toK_fn (l : List Stp) (k : Nat) {a : Int} (h : 0 ≤ a ∧ a < (k : Int)) : listFn (toK l k) a = partFn l a := by
  obtain ⟨j, rfl⟩ := Int.eq_ofNat_of_zero_le h.1
  have hj : j < (ints (k : Int)).length := by rw [ints_length]; omega
  have e := ints_getD (n := (k : Int)) (k := j) h.2
  rw [List.getD_eq_getElem?_getD, List.getElem?_eq_getElem hj] at e
  have e : (ints (k : Int))[j] = (j : Int) := e
  unfold listFn
  rw [if_neg (by omega), List.getD_eq_getElem?_getD]
  unfold toK
  rw [List.getElem?_map, show ((j : Int)).toNat = j by omega, List.getElem?_eq_getElem hj, e]; rfl
theorem toK_ren {N : Nat} {l : List Stp} (h : Fine (N : Int) l) : l.map (renStep (listFn (toK l N))) = l.map (renStep (partFn l)) := by
  refine List.map_congr_left fun x hx => ?_
  unfold renStep
  have : x.1.map (fun y => (listFn (toK l N) y.1, y.2)) = x.1.map (fun y => (partFn l y.1, y.2)) := List.map_congr_left fun y hy => by
    rw [toK_fn l N (h.stroke hx hy)]
  rw [this]

set_option maxHeartbeats 8000000 in
set_option maxRecDepth 100000 in
theorem partR_any (N : Nat) (l : List Stp) (a : Option Addr) (cap : Nat) (w : World) (hl : l.length ≤ 64) (hc : CellsP w a l) (hN : N ≤ 6) (hf : Fine (N : Int) l) :
    Calls Tryz.prog 61 #[.slice a l.length cap, .int .i64 (N : Int)] w (OwnPost (partOf (N : Int) l) w) := by
  have HC := Lib.hid hc
  have HF := Lib.hid hf
  obtain ⟨R, hR⟩ : ∃ R, R = partOf (N : Int) l := ⟨_, rfl⟩
  have HR1 : Hid (R.1 = partFn l (N : Int)) := by show _ = _; rw [hR]; rfl
  have HR2 : Hid (R.2 = l.map (renStep (listFn (toK l N)))) := by show _ = _; rw [hR, toK_ren hf]; rfl
  rw [← hR]
  clear hc hf hR
  obtain ⟨i0, hi, hi0, hi1, hi2⟩ := info_parts infoInt
  have hzs : ∀ w, (zeroValue 24).run Tryz.prog w = .ok (.agg #[.int .i64 0, .slice none 0 0]) w := fun _ => by kernel_rfl
  go_enter Tryz.func61, Tryz.ntmps61
  go_wp2
  have E1 : Ext w ((w.alloc (.cells #[.int .i64 0, .slice none 0 0] 24)).alloc (.cells #[.int .i64 (N : Int), .slice a l.length cap] 24)) := (by repeat (first | with_reducible exact Ext.refl _ | with_reducible assumption | with_reducible apply Ext.drewN | with_reducible apply Ext.drew | with_reducible apply Ext.alloc | ((with_reducible refine Ext.set ?_ ?_ _); rotate_left; first | omega | (simp; omega)) | (with_reducible refine Ext.trans ?_ (by with_reducible assumption))))
  have c0 : (((w.alloc (.cells #[.int .i64 0, .slice none 0 0] 24)).alloc (.cells #[.int .i64 (N : Int), .slice a l.length cap] 24))).cell? ⟨w.heap.size + 1, 0, none⟩ = some (.int .i64 (N : Int)) := by go_simp
  have c1 : (((w.alloc (.cells #[.int .i64 0, .slice none 0 0] 24)).alloc (.cells #[.int .i64 (N : Int), .slice a l.length cap] 24))).cell? ⟨w.heap.size + 1, 1, none⟩ = some (.slice a l.length cap) := by go_simp
  have c2 : (((w.alloc (.cells #[.int .i64 0, .slice none 0 0] 24)).alloc (.cells #[.int .i64 (N : Int), .slice a l.length cap] 24))).cell? ⟨w.heap.size, 0, none⟩ = some (.int .i64 0) := by go_simp
  have c3 : (((w.alloc (.cells #[.int .i64 0, .slice none 0 0] 24)).alloc (.cells #[.int .i64 (N : Int), .slice a l.length cap] 24))).cell? ⟨w.heap.size, 1, none⟩ = some (.slice none 0 0) := by go_simp
  have d2 : (((w.alloc (.cells #[.int .i64 0, .slice none 0 0] 24)).alloc (.cells #[.int .i64 (N : Int), .slice a l.length cap] 24))).frozen? ⟨w.heap.size, 0, none⟩ = false := by go_simp
  have d3 : (((w.alloc (.cells #[.int .i64 0, .slice none 0 0] 24)).alloc (.cells #[.int .i64 (N : Int), .slice a l.length cap] 24))).frozen? ⟨w.heap.size, 1, none⟩ = false := by go_simp
  generalize ((w.alloc (.cells #[.int .i64 0, .slice none 0 0] 24)).alloc (.cells #[.int .i64 (N : Int), .slice a l.length cap] 24)) = W at E1 c0 c1 c2 c3 d2 d3 ⊢
  have hW := E1.size
  go_loopw [8, 6, 7] (fun i v n wr => ∃ A : Nat, A ≤ N ∧ i = .int .i64 A ∧ (∃ vv, v = vv ∧ Hid (OwnsI wr vv (toK l A) ∧ ∀ b, vv.ownBlock = some b → W.heap.size ≤ b)) ∧ (∃ q : Int, n = .int .i64 q ∧ Hid (q = partFn l (A : Int))) ∧ Ext W wr) (fun i _ _ _ => N - (intOf i).toNat)
  case atStart => exact ⟨0, Nat.zero_le _, rfl, ⟨_, rfl, OwnsI.nil _, fun b hb => by cases hb⟩, ⟨0, rfl, by show (0 : Int) = _; rfl⟩, Ext.refl _⟩
  case round =>
    obtain ⟨A, hA, rfl, ⟨vv, hvv, hO⟩, ⟨q, rfl, hq⟩, he⟩ := hrel
    obtain rfl := hvv.symm
    have d0 := he.cell c0
    have d1 := he.cell c1
    by_cases hlt : A < N
    · have hHO := Lib.hid hO.out.1
      have HB0 := Lib.hid hO.out.2
      have hTl : (toK l A).length ≤ 6 := by rw [toK_len]; omega
      have HSU := Lib.hid (toK_succ l A)
      have HPS := Lib.hid (partFn_succ l A)
      have hq9 : 0 ≤ q ∧ q ≤ 6 := by have h1 := hq.out; have h2 := partFn_nonneg l (A : Int); have h3 := partFn_le l A; omega
      have hwq : IntKind.i64.wrap (q + 1) = q + 1 := IntWalk.i64_in _ (by omega)
      have HMP := Lib.hid (movesOf_pos l (A : Int))
      have hz1 := cell_lt d0
      dsimp only at hz1
      rw [← hq.out] at HSU HPS
      have hszr := he.size
      clear hO
      generalize toK l A = P at hHO hTl HSU
      go_wp2_with (at_builtin; refine wpList_append1 _ rfl _ _ 27 rfl 3 i0 (.int .i64 0) 1 8 Tryz.underlying27 hi hi0 hi1 hi2 rfl (by decide) vv P.length (P.map (Value.int .i64)) rfl ?ho ⟨wr.heap.size, 0, none⟩ 1 1 (by decide) [.int .i64 q] rfl rfl ?hn ?c1 ?c2 ?c3 ?c4)
      case ho => exact hHO.out.ext ((Ext.refl _).alloc _)
      case c1 => first | rfl | (intro u hu; simp at hu; subst hu; rfl)
      case c2 => unfold maxLen; omega
      case c3 => omega
      case c4 =>
        intro v' w5 hown5 hend5
        have O5 : Hid (OwnsI w5 v' (toK l (A + 1))) := by show OwnsI _ _ _; rw [HSU.out]; exact ownsI_succ hown5
        have B5 : Ext W w5 := (he.trans ((Ext.refl _).alloc _)).trans' (hend5.below (n := W.heap.size) (by simp; omega) HB0.out) (Nat.le_refl _)
        have OB5 : Hid (∀ b, v'.ownBlock = some b → W.heap.size ≤ b) := hend5.ge (n := W.heap.size) (by simp; omega) HB0.out
        have d0 := B5.cell c0
        have d1 := B5.cell c1
        have hz2 := cell_lt d0
        dsimp only at hz2
        clear hown5 hend5 hHO HB0 HSU he
        go_wp2_with fail
        refine (StepsR_any _ l (A : Int) a cap _ (by omega) (HC.out.ext (E1.trans B5))).mono ?_
        rintro e w6 ⟨v6, rfl, hv6, _, hE6⟩
        obtain ⟨ma, mc, rfl, _, hml⟩ := hv6.reads
        have HO6 := Lib.hid (O5.out.ext hE6)
        have B6 := B5.trans hE6
        clear hv6 O5 hE6 B5
        cases hm : movedIn (A : Int) l
        · have h0 : ¬ 0 < (movesOf l (A : Int)).length := by have := HMP.out; rw [hm] at this; simpa using this
          have HP2 : Hid (q = partFn l ((A + 1 : Nat) : Int)) := by show _ = _; rw [HPS.out, hm]; simp
          generalize (movesOf l (A : Int)).length = ML at h0 hml
          clear HPS HMP hm
          go_wp2
          refine ⟨⟨A + 1, by omega, by go_num, ⟨v', rfl, HO6.out, OB5.out⟩, ⟨q, rfl, HP2⟩, B6⟩, by simp [intOf]; omega⟩
        · have h0 : 0 < (movesOf l (A : Int)).length := by have := HMP.out; rw [hm] at this; simpa using this
          have HP2 : Hid (q + 1 = partFn l ((A + 1 : Nat) : Int)) := by show _ = _; rw [HPS.out, hm]; simp
          generalize (movesOf l (A : Int)).length = ML at h0 hml
          clear HPS HMP hm
          go_wp2
          refine ⟨⟨A + 1, by omega, by go_num, ⟨v', rfl, HO6.out, OB5.out⟩, ⟨q + 1, rfl, HP2⟩, B6⟩, by simp [intOf]; omega⟩
    · have hAN : A = N := by omega
      subst hAN
      have hO1 := hO.out.1
      have HQ : Hid (R.1 = q) := HR1.out.trans hq.out.symm
      have hTl := toK_len l A
      have HTF := Lib.hid (fun (T : List Int) (h : T = toK l A) => h)
      obtain ⟨T, hT⟩ : ∃ T, T = toK l A := ⟨_, rfl⟩
      rw [← hT] at hO1 HR2 hTl
      obtain ⟨ta, tc, rfl, ht, htm⟩ := hO1.reads
      have HTA := Lib.hid ht
      have E3 := E1.trans he
      have d2 := (Below.frozen (p := ⟨w.heap.size, 0, none⟩) he (cell_lt c2)).trans d2
      have d3 := (Below.frozen (p := ⟨w.heap.size, 1, none⟩) he (cell_lt c3)).trans d3
      have c0 := (he).cell c0
      have c1 := (he).cell c1
      have c2 := (he).cell c2
      have c3 := (he).cell c3
      have hRR : ren (listFn T) ((A : Int), l) = ((A : Int), R.2) := by rw [HR2.out]; rfl
      have HRR := Lib.hid hRR
      have hz1 := cell_lt c0
      dsimp only at hz1
      have hT7 : T.length ≤ 1000 := by omega
      have HTLL := Lib.hid hTl
      clear hO hq hO1 ht htm hRR HR1 HR2 HTF hT hTl E1
      go_wp2_with fail
      refine (RenamedR_any (A : Int) l a cap T ta tc _ (by omega) (HC.out.ext E3) HTA.out hT7 (by rw [HTLL.out]; exact HF.out.renIn (Int.le_refl _))).mono ?_
      rintro e w4 ⟨o, u, hoo, rfl, hu, hub, hE⟩
      rw [HRR.out] at hu ⊢
      dsimp only at hu ⊢
      obtain ⟨ua, uc, rfl, _, _⟩ := hu.reads
      have HU := Lib.hid hu
      have HUB := Lib.hid hub
      have E4 := E3.trans hE
      have d2 := (Below.frozen (p := ⟨w.heap.size, 0, none⟩) hE (cell_lt c2)).trans d2
      have d3 := (Below.frozen (p := ⟨w.heap.size, 1, none⟩) hE (cell_lt c3)).trans d3
      have c2 := (hE).cell c2
      have c3 := (hE).cell c3
      have hz4 : w.heap.size < w4.heap.size := cell_lt c2
      clear hE hu hub E3 HRR
      go_wp2
      refine bodyPost_ret (v := .agg #[.int .i64 q, .slice ua R.2.length uc]) (by rw [results_cell1 rfl]; go_simp) rfl ?_
      have EF : Ext w ((((w4.setCell ⟨w.heap.size, 0, none⟩ (.int .i64 q)).setCell ⟨w.heap.size, 1, none⟩ (.slice ua R.2.length uc))).alloc (.cells #[.int .i64 q, .slice ua R.2.length uc] 24)) := ((E4.set (by omega) _).set (by omega) _).alloc _
      have hc : Chg (fun b => b ≤ o) w4 ((((w4.setCell ⟨w.heap.size, 0, none⟩ (.int .i64 q)).setCell ⟨w.heap.size, 1, none⟩ (.slice ua R.2.length uc))).alloc (.cells #[.int .i64 q, .slice ua R.2.length uc] 24)) :=
        ((Chg.setCell (B := fun b => b ≤ o) ⟨w.heap.size, 0, none⟩ _ (by show w.heap.size ≤ o; omega)).trans (Chg.setCell (B := fun b => b ≤ o) ⟨w.heap.size, 1, none⟩ _ (by show w.heap.size ≤ o; omega))).trans (Chg.ext ((Ext.refl _).alloc _))
      exact ⟨o, _, by omega, by rw [HQ.out], HU.out.chg hc (fun b hb e => by have := HUB.out b hb; omega), HUB.out, EF⟩
end Go.Proofs.YtnhbogmihnnpjaaGreat
/- The reference's Parts. -/
namespace Go.Proofs.YtnhbogmihnnpjaaGreat
open Go.RowKit

set_option maxHeartbeats 8000000 in
set_option maxRecDepth 100000 in
theorem PartsR_ok (N : Nat) (l : List Stp) (b off cap : Nat) (w : World) (hl : l.length ≤ maxLen) (hc : CellsP w (some ⟨b, off, none⟩) l) (hcap : l.length ≤ cap) (_hcm : cap ≤ maxLen) (hk : ckSeq ((N : Int), l) = 0) :
    Calls Tryz.prog 22 #[.agg #[.int .i64 (N : Int), .slice (some ⟨b, off, none⟩) l.length cap]] w (SeqsPost (partsOf ((N : Int), l)) 0 w) := by
  have HC := Lib.hid hc
  have HL := Lib.hid hl
  obtain ⟨hN1, hN6, hl0, hl64, hwk, _, _⟩ := ckSeq_zero hk
  have HFI := Lib.hid (ckWalk_fine hwk)
  have HCK := Lib.hid hk
  obtain ⟨R, hR⟩ : ∃ R, R = partsOf ((N : Int), l) := ⟨_, rfl⟩
  rw [← hR]
  have HR : Hid (R = partsK ((N : Int), l) (pauses ((N : Int), l)).length) := hR
  obtain ⟨i0, hi, hi0, hi1, hi2⟩ := info_parts infoSeq
  unfold maxLen at _hcm
  clear hc hl hk hwk hR
  go_enter Tryz.func22, Tryz.ntmps22
  go_wp2_with fail
  have E1 : Ext w (w.alloc (.cells #[.int .i64 (N : Int), .slice (some ⟨b, off, none⟩) l.length cap] 24)) := (by repeat (first | with_reducible exact Ext.refl _ | with_reducible assumption | with_reducible apply Ext.drewN | with_reducible apply Ext.drew | with_reducible apply Ext.alloc | ((with_reducible refine Ext.set ?_ ?_ _); rotate_left; first | omega | (simp; omega)) | (with_reducible refine Ext.trans ?_ (by with_reducible assumption))))
  have c0 : (w.alloc (.cells #[.int .i64 (N : Int), .slice (some ⟨b, off, none⟩) l.length cap] 24)).cell? ⟨w.heap.size, 0, none⟩ = some (.int .i64 (N : Int)) := by go_simp
  have c1 : (w.alloc (.cells #[.int .i64 (N : Int), .slice (some ⟨b, off, none⟩) l.length cap] 24)).cell? ⟨w.heap.size, 1, none⟩ = some (.slice (some ⟨b, off, none⟩) l.length cap) := by go_simp
  generalize w.alloc (.cells #[.int .i64 (N : Int), .slice (some ⟨b, off, none⟩) l.length cap] 24) = W at E1 c0 c1 ⊢
  refine (PausesR_any (N : Int) l _ cap _ HL.out (HC.out.ext E1)).mono ?_
  rintro e w1 ⟨pa, pc, rfl, hp1, hp2, hE⟩
  rw [if_pos HCK.out] at hp1 hp2 ⊢
  rw [HCK.out]
  have E2 := E1.trans hE
  have c0 := hE.cell c0
  have c1 := hE.cell c1
  have HASC := Lib.hid (fun k h => pauses_lt (s := ((N : Int), l)) (k := k) h)
  have HIN := Lib.hid (fun k h => pauses_in (s := ((N : Int), l)) (k := k) h)
  have hple := pauses_le ((N : Int), l)
  have HPA : Hid (∀ k, partAt ((N : Int), l) k = partOf (N : Int) ((l.take (endOf ((N : Int), l) (pauses ((N : Int), l)) k)).drop ((pauses ((N : Int), l)).getD k 0).toNat)) := fun k => rfl
  have HEN : Hid (∀ k, endOf ((N : Int), l) (pauses ((N : Int), l)) k = if k + 1 < (pauses ((N : Int), l)).length then ((pauses ((N : Int), l)).getD (k + 1) 0).toNat else l.length) := fun k => rfl
  dsimp only at hple HIN
  generalize pauses ((N : Int), l) = P at hp1 hp2 HASC HIN hple HPA HEN HR ⊢
  have HP := Lib.hid hp1
  have hpl64 : P.length ≤ 64 := by omega
  clear hE E1 hp1 hp2
  have zw : w.heap.size < w1.heap.size := cell_lt c0
  go_wp2
  go_loopw [7, 6] (fun i v wr => ∃ k : Nat, k ≤ P.length ∧ i = .int .i64 k ∧ (∃ vv, v = vv ∧ Hid (OwnsQ wr vv (partsK ((N : Int), l) k) ∧ ∀ b, vv.ownBlock = some b → w1.heap.size ≤ b)) ∧ Ext w1 wr) (fun i _ _ => P.length - (intOf i).toNat)
  case atStart => exact ⟨0, Nat.zero_le _, rfl, ⟨_, rfl, OwnsQ.nil _, fun b hb => by cases hb⟩, Ext.refl _⟩
  case round =>
    obtain ⟨k, hkl, rfl, ⟨vv, hvv, hO⟩, he⟩ := hrel
    obtain rfl := hvv.symm
    have d0 := he.cell c0
    have d1 := he.cell c1
    have E3 := E2.trans he
    by_cases hlt : k < P.length
    · obtain ⟨pb, po, rfl, q1⟩ := HP.out k hlt
      have q1w := q1
      have q1 := he.cell q1
      obtain ⟨x0, x1⟩ := HIN.out k hlt
      have hen := HEN.out k
      have HMS := Lib.hid (partsK_succ ((N : Int), l) k)
      have hpk := Lib.hid (partsK_len ((N : Int), l) k)
      rw [HPA.out k] at HMS
      have hP1 : k + 1 < P.length → P.getD k 0 < P.getD (k + 1) 0 ∧ P.getD (k + 1) 0 < (l.length : Int) := fun h => ⟨HASC.out k h, (HIN.out (k + 1) h).2⟩
      have hq2 : k + 1 < P.length → wr.cell? ⟨pb, po + (k + 1), none⟩ = some (.int .i64 (P.getD (k + 1) 0)) := fun h => by
        obtain ⟨pb', po', e, q2⟩ := HP.out (k + 1) h
        cases e
        exact he.cell q2
      generalize endOf ((N : Int), l) P k = en at hen HMS
      generalize P.getD k 0 = x at q1 q1w x0 x1 HMS hP1
      generalize P.getD (k + 1) 0 = z at hen hP1 hq2
      obtain ⟨xn, rfl⟩ := Int.eq_ofNat_of_zero_le x0
      have z9 := cell_lt q1
      dsimp only at z9
      have hw1 : IntKind.i64.wrap ((k : Int) + 1) = (k : Int) + 1 := IntWalk.i64_in _ (by omega)
      by_cases h1 : k + 1 < P.length
      · have q2 := hq2 h1
        obtain ⟨hz1, hz2⟩ := hP1 h1
        obtain ⟨zn, rfl⟩ := Int.eq_ofNat_of_zero_le (show 0 ≤ z by omega)
        rw [if_pos h1] at hen
        have hen2 : en = zn := by rw [hen]; rfl
        subst hen2
        have hlt1 : (k : Int) + 1 < (P.length : Int) := by omega
        have hlt2 : (0 : Int) ≤ (k : Int) + 1 := by omega
        have hlt3 : ((k : Int) + 1).toNat = k + 1 := by omega
        clear hen hP1 hq2
        go_wp2
        refine wp_region_heldE 99 (fun w' => w'.cell? ⟨w.heap.size, 0, none⟩ = some (.int .i64 (N : Int)) ∧ w'.cell? ⟨w.heap.size, 1, none⟩ = some (.slice (some ⟨b, off, none⟩) l.length cap) ∧ w'.cell? ⟨pb, po + k, none⟩ = some (.int .i64 (xn : Int))) (by kernel_rfl) ?_
        have ED : Ext wr wr.drew := (by repeat (first | with_reducible exact Ext.refl _ | with_reducible assumption | with_reducible apply Ext.drewN | with_reducible apply Ext.drew | with_reducible apply Ext.alloc | ((with_reducible refine Ext.set ?_ ?_ _); rotate_left; first | omega | (simp; omega)) | (with_reducible refine Ext.trans ?_ (by with_reducible assumption))))
        have E4 := E3.trans ED
        have F4 := he.trans ED
        have hS : wr.drew.cell? ⟨w.heap.size, 0, none⟩ = some (.int .i64 (N : Int)) ∧ wr.drew.cell? ⟨w.heap.size, 1, none⟩ = some (.slice (some ⟨b, off, none⟩) l.length cap) ∧ wr.drew.cell? ⟨pb, po + k, none⟩ = some (.int .i64 (xn : Int)) := ⟨ED.cell d0, ED.cell d1, ED.cell q1⟩
        have HO4 := Lib.hid (hO.out.1.ext ED)
        have HOB := Lib.hid hO.out.2
        clear hO d0 d1 q1
        generalize wr.drew = W4 at E4 F4 hS HO4 ⊢
        clear ED
        have hk1 : xn ≤ en := by omega
        have hk2 : en ≤ cap := by omega
        have hk3 : xn ≤ cap := by omega
        have hcapk : ¬ cap = xn := by omega
        ((refine wpAnyE_take (i := 0) (oi := ?_) (v := ?_) ?_ (by kernel_rfl) ?_ ?_ (by assumption) ?_; rotate_left 2; (focus ((simp only [List.getElem?_toArray, List.getElem?_cons_zero]; exact rfl))); (focus (exact fun _ _ _ h => h)); (focus (refine Or.inl ⟨by rfl, ?_⟩; intro w hSw; (try dsimp only at hSw); (first | (go_simp; done) | (go_simp; with_reducible rfl)))); (try simp only [Act.put, List.setIfInBounds_toArray, List.set_cons_zero, List.set_cons_succ])); (refine wpAnyE_take (i := 1) (oi := ?_) (v := ?_) ?_ (by kernel_rfl) ?_ ?_ (by assumption) ?_; rotate_left 2; (focus ((simp only [List.getElem?_toArray, List.getElem?_cons_succ, List.getElem?_cons_zero]; exact rfl))); (focus (exact fun _ _ _ h => h)); (focus (refine Or.inl ⟨by rfl, ?_⟩; intro w hSw; (try dsimp only at hSw); (first | (go_simp; done) | (go_simp; with_reducible rfl)))); (try simp only [Act.put, List.setIfInBounds_toArray, List.set_cons_zero, List.set_cons_succ])); (refine wpAnyE_take (i := 2) (oi := ?_) (v := ?_) ?_ (by kernel_rfl) ?_ ?_ (by assumption) ?_; rotate_left 2; (focus ((simp only [List.getElem?_toArray, List.getElem?_cons_succ, List.getElem?_cons_zero]; exact rfl))); (focus (exact fun _ _ _ h => h)); (focus (refine Or.inl ⟨by rfl, ?_⟩; intro w hSw; (try dsimp only at hSw); (first | (go_simp; done) | (go_simp; with_reducible rfl)))); (try simp only [Act.put, List.setIfInBounds_toArray, List.set_cons_zero, List.set_cons_succ])); (refine wpAnyE_take (i := 3) (oi := ?_) (v := ?_) ?_ (by kernel_rfl) ?_ ?_ (by assumption) ?_; rotate_left 2; (focus ((simp only [List.getElem?_toArray, List.getElem?_cons_succ, List.getElem?_cons_zero]; exact rfl))); (focus (exact fun _ _ _ h => h)); (focus (refine Or.inl ⟨by rfl, ?_⟩; intro w hSw; (try dsimp only at hSw); (first | (go_simp; done) | (go_simp; with_reducible rfl)))); (try simp only [Act.put, List.setIfInBounds_toArray, List.set_cons_zero, List.set_cons_succ])); (refine wpAnyE_take (i := 4) (oi := ?_) (v := ?_) ?_ (by kernel_rfl) ?_ ?_ (by assumption) ?_; rotate_left 2; (focus ((simp only [List.getElem?_toArray, List.getElem?_cons_succ, List.getElem?_cons_zero]; exact rfl))); (focus (exact fun _ _ _ h => h)); (focus (refine Or.inl ⟨by rfl, ?_⟩; intro w hSw; (try dsimp only at hSw); (first | (go_simp; done) | (go_simp; with_reducible rfl)))); (try simp only [Act.put, List.setIfInBounds_toArray, List.set_cons_zero, List.set_cons_succ])); (refine wpAnyE_take (i := 5) (oi := ?_) (v := ?_) ?_ (by kernel_rfl) ?_ ?_ (by assumption) ?_; rotate_left 2; (focus ((simp only [List.getElem?_toArray, List.getElem?_cons_succ, List.getElem?_cons_zero]; exact rfl))); (focus (exact fun _ _ _ h => h)); (focus (refine Or.inl ⟨by rfl, ?_⟩; intro w hSw; (try dsimp only at hSw); (first | (go_simp; done) | (go_simp; with_reducible rfl)))); (try simp only [Act.put, List.setIfInBounds_toArray, List.set_cons_zero, List.set_cons_succ])); (refine wpAnyE_take (i := 6) (oi := ?_) (v := ?_) ?_ (by kernel_rfl) ?_ ?_ (by assumption) ?_; rotate_left 2; (focus ((simp only [List.getElem?_toArray, List.getElem?_cons_succ, List.getElem?_cons_zero]; exact rfl))); (focus (exact fun _ _ _ h => h)); (focus (refine Or.inl ⟨by rfl, ?_⟩; intro w hSw; (try dsimp only at hSw); (first | (go_simp; done) | (go_simp; with_reducible rfl)))); (try simp only [Act.put, List.setIfInBounds_toArray, List.set_cons_zero, List.set_cons_succ])); (refine wpAnyE_take (i := 7) (oi := ?_) (v := ?_) ?_ (by kernel_rfl) ?_ ?_ (by assumption) ?_; rotate_left 2; (focus ((simp only [List.getElem?_toArray, List.getElem?_cons_succ, List.getElem?_cons_zero]; exact rfl))); (focus (exact fun _ _ _ h => h)); (focus (refine Or.inl ⟨by rfl, ?_⟩; intro w hSw; (try dsimp only at hSw); (first | (go_simp; done) | (go_simp; with_reducible rfl)))); (try simp only [Act.put, List.setIfInBounds_toArray, List.set_cons_zero, List.set_cons_succ])); (refine wpAnyE_take (i := 8) (oi := ?_) (v := ?_) ?_ (by kernel_rfl) ?_ ?_ (by assumption) ?_; rotate_left 2; (focus ((simp only [List.getElem?_toArray, List.getElem?_cons_succ, List.getElem?_cons_zero]; exact rfl))); (focus (exact fun _ _ _ h => h)); (focus (refine Or.inl ⟨by rfl, ?_⟩; intro w hSw; (try dsimp only at hSw); (first | (go_simp; done) | (go_simp; with_reducible rfl)))); (try simp only [Act.put, List.setIfInBounds_toArray, List.set_cons_zero, List.set_cons_succ])); (refine wpAnyE_take (i := 9) (oi := ?_) (v := ?_) ?_ (by kernel_rfl) ?_ ?_ (by assumption) ?_; rotate_left 2; (focus ((simp only [List.getElem?_toArray, List.getElem?_cons_succ, List.getElem?_cons_zero]; exact rfl))); (focus (exact fun _ _ _ h => h)); (focus (refine Or.inl ⟨by rfl, ?_⟩; intro w hSw; (try dsimp only at hSw); (first | (go_simp; done) | (go_simp; with_reducible rfl)))); (try simp only [Act.put, List.setIfInBounds_toArray, List.set_cons_zero, List.set_cons_succ])); (refine wpAnyE_take (i := 10) (oi := ?_) (v := ?_) ?_ (by kernel_rfl) ?_ ?_ (by assumption) ?_; rotate_left 2; (focus ((simp only [List.getElem?_toArray, List.getElem?_cons_succ, List.getElem?_cons_zero]; exact rfl))); (focus (exact fun _ _ _ h => h)); (focus (refine Or.inl ⟨by rfl, ?_⟩; intro w hSw; (try dsimp only at hSw); (first | (go_simp; done) | (go_simp; with_reducible rfl)))); (try simp only [Act.put, List.setIfInBounds_toArray, List.set_cons_zero, List.set_cons_succ])))
        clear hk1 hk2 hk3 hcapk
        have hsl : ((l.take en).drop xn).length = en - xn := by rw [List.length_drop, List.length_take]; omega
        have HAL := Lib.hid (partR_any N ((l.take en).drop xn) (some ⟨b, off + xn * 2, none⟩) (cap - xn) W4 (by omega) (((HC.out.ext E4).take en).drop xn) (by omega) (HFI.out.part en xn))
        rw [hsl] at HAL
        have HMS2 : Hid (partsK ((N : Int), l) (k + 1) = partsK ((N : Int), l) k ++ [partOf (N : Int) ((l.take en).drop xn)]) := HMS.out
        generalize partOf (N : Int) ((l.take en).drop xn) = y at HAL HMS2
        obtain ⟨y1, y2⟩ := y
        clear hsl HMS
        (refine wpAnyE_one (i := 11) (o := ?_) ?_ (by kernel_rfl) (fun K hK => ?_); rotate_left; (focus ((simp only [List.getElem?_toArray, List.getElem?_cons_succ, List.getElem?_cons_zero]; exact rfl))); go_simp; refine HAL.out.mono ?_; rintro e w5 hpo; obtain ⟨u, rfl, hqu, hE5⟩ := hpo.qu; dsimp only at hqu; have HQU := Lib.hid hqu; obtain ⟨ua, uc, rfl, _, _⟩ := hqu.1.reads; clear hqu hpo; go_wp2_with fail; refine hK.out _ _ ?_ (fun hHeld => ?_); rotate_left; clear hK K; (try simp only [Act.put, List.setIfInBounds_toArray, List.set_cons_zero, List.set_cons_succ]))
        rotate_left
        · exact ⟨hE5.cell hS.1, hE5.cell hS.2.1, hE5.cell hS.2.2⟩
        clear hHeld HAL
        have E6 : Ext w5 (w5.alloc (.cells #[.int .i64 y1, .slice ua y2.length uc] 24)) := (by repeat (first | with_reducible exact Ext.refl _ | with_reducible assumption | with_reducible apply Ext.drewN | with_reducible apply Ext.drew | with_reducible apply Ext.alloc | ((with_reducible refine Ext.set ?_ ?_ _); rotate_left; first | omega | (simp; omega)) | (with_reducible refine Ext.trans ?_ (by with_reducible assumption))))
        (refine wpAnyE_one (i := 12) (o := ?_) ?_ (by kernel_rfl) (fun K hK => ?_); rotate_left; (focus ((simp only [List.getElem?_toArray, List.getElem?_cons_succ, List.getElem?_cons_zero]; exact rfl))); go_simp; refine hK.out _ _ ?_ (fun hHeld => ?_); rotate_left; clear hK K; (try simp only [Act.put, List.setIfInBounds_toArray, List.set_cons_zero, List.set_cons_succ]))
        rotate_left
        · exact ⟨E6.cell (hE5.cell hS.1), E6.cell (hE5.cell hS.2.1), E6.cell (hE5.cell hS.2.2)⟩
        have F6 := (F4.trans hE5).trans E6
        have ho6 := (HO4.out.ext hE5).ext E6
        have HO6 := Lib.hid ho6
        have HU6 : Hid (QU (fun b => vv.ownBlock = some b) (w5.alloc (.cells #[.int .i64 y1, .slice ua y2.length uc] 24)) (.slice ua y2.length uc) y2) := (HQU.out.mono (fun b hb => by
          obtain ⟨ps, _, h2, _⟩ := HO4.out
          exact rowLt h2 hb)).chg (Chg.ext E6)
        clear ho6 HO4 HQU
        refine wpAnyE_one (i := 13) (o := ?_) ?_ (by kernel_rfl) (fun K hK => ?_)
        rotate_left
        · simp only [List.getElem?_toArray, List.getElem?_cons_succ, List.getElem?_cons_zero]; exact rfl
        refine step_append1 rfl _ _ 40 rfl 24 i0 (.agg #[.int .i64 0, .slice none 0 0]) 2 32 Tryz.underlying40 hi hi0 hi1 hi2 rfl (by decide) vv (partsK ((N : Int), l) k).length _ rfl (Classical.choose_spec HO6.out).2.1 ⟨w5.heap.size, 0, none⟩ 1 1 (by decide) [.int .i64 y1, .slice ua y2.length uc] rfl rfl (cells_one _ _ _) (by intro u hu; simp at hu; rcases hu with rfl | rfl <;> rfl) (by rw [hpk.out]; unfold maxLen; omega) (by rw [hpk.out]; omega) (fun v' w7 hown7 hend7 => ?_)
        have O7 : Hid (OwnsQ w7 v' (partsK ((N : Int), l) (k + 1))) := by
          show OwnsQ _ _ _
          rw [HMS2.out]
          exact HO6.out.app (y := (y1, y2)) HU6.out hown7 hend7
        have B7 : Below w1.heap.size (w5.alloc (.cells #[.int .i64 y1, .slice ua y2.length uc] 24)) w7 := hend7.below (n := w1.heap.size) F6.size HOB.out
        have V7 : Hid (∀ b, v'.ownBlock = some b → w1.heap.size ≤ b) := hend7.ge (n := w1.heap.size) F6.size HOB.out
        have F7 : Ext w1 w7 := F6.trans' B7 (Nat.le_refl _)
        refine hK.out _ _ ⟨F7.cell c0, F7.cell c1, F7.cell q1w⟩ (fun hHeld => ?_)
        clear hK K hown7 hend7 HO6 HU6 HMS2 B7 F6
        simp only [Act.put, List.setIfInBounds_toArray, List.set_cons_zero, List.set_cons_succ]
        (refine wpAnyE_take (i := 14) (oi := ?_) (v := ?_) ?_ (by kernel_rfl) ?_ ?_ (by assumption) ?_; rotate_left 2; (focus ((simp only [List.getElem?_toArray, List.getElem?_cons_succ, List.getElem?_cons_zero]; exact rfl))); (focus (exact fun _ _ _ h => h)); (focus (refine Or.inl ⟨by rfl, ?_⟩; intro w hSw; (try dsimp only at hSw); (first | (go_simp; done) | (go_simp; with_reducible rfl)))); (try simp only [Act.put, List.setIfInBounds_toArray, List.set_cons_zero, List.set_cons_succ]))
        refine wpAnyE_done (by kernel_rfl) ?_ _
        go_wp2
        refine ⟨⟨k + 1, by omega, by go_num, ⟨v', rfl, O7.out, V7.out⟩, F7⟩, by simp [intOf]; omega⟩
      · rw [if_neg h1] at hen
        subst hen
        have hlt1 : ¬ ((k : Int) + 1 < (P.length : Int)) := by omega
        clear hP1 hq2
        go_wp2
        refine wp_region_heldE 99 (fun w' => w'.cell? ⟨w.heap.size, 0, none⟩ = some (.int .i64 (N : Int)) ∧ w'.cell? ⟨w.heap.size, 1, none⟩ = some (.slice (some ⟨b, off, none⟩) l.length cap) ∧ w'.cell? ⟨pb, po + k, none⟩ = some (.int .i64 (xn : Int))) (by kernel_rfl) ?_
        have ED : Ext wr wr.drew := (by repeat (first | with_reducible exact Ext.refl _ | with_reducible assumption | with_reducible apply Ext.drewN | with_reducible apply Ext.drew | with_reducible apply Ext.alloc | ((with_reducible refine Ext.set ?_ ?_ _); rotate_left; first | omega | (simp; omega)) | (with_reducible refine Ext.trans ?_ (by with_reducible assumption))))
        have E4 := E3.trans ED
        have F4 := he.trans ED
        have hS : wr.drew.cell? ⟨w.heap.size, 0, none⟩ = some (.int .i64 (N : Int)) ∧ wr.drew.cell? ⟨w.heap.size, 1, none⟩ = some (.slice (some ⟨b, off, none⟩) l.length cap) ∧ wr.drew.cell? ⟨pb, po + k, none⟩ = some (.int .i64 (xn : Int)) := ⟨ED.cell d0, ED.cell d1, ED.cell q1⟩
        have HO4 := Lib.hid (hO.out.1.ext ED)
        have HOB := Lib.hid hO.out.2
        clear hO d0 d1 q1
        generalize wr.drew = W4 at E4 F4 hS HO4 ⊢
        clear ED
        have hk1 : xn ≤ l.length := by omega
        have hk2 : l.length ≤ cap := by omega
        have hk3 : xn ≤ cap := by omega
        have hcapk : ¬ cap = xn := by omega
        ((refine wpAnyE_take (i := 0) (oi := ?_) (v := ?_) ?_ (by kernel_rfl) ?_ ?_ (by assumption) ?_; rotate_left 2; (focus ((simp only [List.getElem?_toArray, List.getElem?_cons_zero]; exact rfl))); (focus (exact fun _ _ _ h => h)); (focus (refine Or.inl ⟨by rfl, ?_⟩; intro w hSw; (try dsimp only at hSw); (first | (go_simp; done) | (go_simp; with_reducible rfl)))); (try simp only [Act.put, List.setIfInBounds_toArray, List.set_cons_zero, List.set_cons_succ])); (refine wpAnyE_take (i := 1) (oi := ?_) (v := ?_) ?_ (by kernel_rfl) ?_ ?_ (by assumption) ?_; rotate_left 2; (focus ((simp only [List.getElem?_toArray, List.getElem?_cons_succ, List.getElem?_cons_zero]; exact rfl))); (focus (exact fun _ _ _ h => h)); (focus (refine Or.inl ⟨by rfl, ?_⟩; intro w hSw; (try dsimp only at hSw); (first | (go_simp; done) | (go_simp; with_reducible rfl)))); (try simp only [Act.put, List.setIfInBounds_toArray, List.set_cons_zero, List.set_cons_succ])); (refine wpAnyE_take (i := 2) (oi := ?_) (v := ?_) ?_ (by kernel_rfl) ?_ ?_ (by assumption) ?_; rotate_left 2; (focus ((simp only [List.getElem?_toArray, List.getElem?_cons_succ, List.getElem?_cons_zero]; exact rfl))); (focus (exact fun _ _ _ h => h)); (focus (refine Or.inl ⟨by rfl, ?_⟩; intro w hSw; (try dsimp only at hSw); (first | (go_simp; done) | (go_simp; with_reducible rfl)))); (try simp only [Act.put, List.setIfInBounds_toArray, List.set_cons_zero, List.set_cons_succ])); (refine wpAnyE_take (i := 3) (oi := ?_) (v := ?_) ?_ (by kernel_rfl) ?_ ?_ (by assumption) ?_; rotate_left 2; (focus ((simp only [List.getElem?_toArray, List.getElem?_cons_succ, List.getElem?_cons_zero]; exact rfl))); (focus (exact fun _ _ _ h => h)); (focus (refine Or.inl ⟨by rfl, ?_⟩; intro w hSw; (try dsimp only at hSw); (first | (go_simp; done) | (go_simp; with_reducible rfl)))); (try simp only [Act.put, List.setIfInBounds_toArray, List.set_cons_zero, List.set_cons_succ])); (refine wpAnyE_take (i := 4) (oi := ?_) (v := ?_) ?_ (by kernel_rfl) ?_ ?_ (by assumption) ?_; rotate_left 2; (focus ((simp only [List.getElem?_toArray, List.getElem?_cons_succ, List.getElem?_cons_zero]; exact rfl))); (focus (exact fun _ _ _ h => h)); (focus (refine Or.inl ⟨by rfl, ?_⟩; intro w hSw; (try dsimp only at hSw); (first | (go_simp; done) | (go_simp; with_reducible rfl)))); (try simp only [Act.put, List.setIfInBounds_toArray, List.set_cons_zero, List.set_cons_succ])); (refine wpAnyE_take (i := 5) (oi := ?_) (v := ?_) ?_ (by kernel_rfl) ?_ ?_ (by assumption) ?_; rotate_left 2; (focus ((simp only [List.getElem?_toArray, List.getElem?_cons_succ, List.getElem?_cons_zero]; exact rfl))); (focus (exact fun _ _ _ h => h)); (focus (refine Or.inl ⟨by rfl, ?_⟩; intro w hSw; (try dsimp only at hSw); (first | (go_simp; done) | (go_simp; with_reducible rfl)))); (try simp only [Act.put, List.setIfInBounds_toArray, List.set_cons_zero, List.set_cons_succ])); (refine wpAnyE_take (i := 6) (oi := ?_) (v := ?_) ?_ (by kernel_rfl) ?_ ?_ (by assumption) ?_; rotate_left 2; (focus ((simp only [List.getElem?_toArray, List.getElem?_cons_succ, List.getElem?_cons_zero]; exact rfl))); (focus (exact fun _ _ _ h => h)); (focus (refine Or.inl ⟨by rfl, ?_⟩; intro w hSw; (try dsimp only at hSw); (first | (go_simp; done) | (go_simp; with_reducible rfl)))); (try simp only [Act.put, List.setIfInBounds_toArray, List.set_cons_zero, List.set_cons_succ])); (refine wpAnyE_take (i := 7) (oi := ?_) (v := ?_) ?_ (by kernel_rfl) ?_ ?_ (by assumption) ?_; rotate_left 2; (focus ((simp only [List.getElem?_toArray, List.getElem?_cons_succ, List.getElem?_cons_zero]; exact rfl))); (focus (exact fun _ _ _ h => h)); (focus (refine Or.inl ⟨by rfl, ?_⟩; intro w hSw; (try dsimp only at hSw); (first | (go_simp; done) | (go_simp; with_reducible rfl)))); (try simp only [Act.put, List.setIfInBounds_toArray, List.set_cons_zero, List.set_cons_succ])); (refine wpAnyE_take (i := 8) (oi := ?_) (v := ?_) ?_ (by kernel_rfl) ?_ ?_ (by assumption) ?_; rotate_left 2; (focus ((simp only [List.getElem?_toArray, List.getElem?_cons_succ, List.getElem?_cons_zero]; exact rfl))); (focus (exact fun _ _ _ h => h)); (focus (refine Or.inl ⟨by rfl, ?_⟩; intro w hSw; (try dsimp only at hSw); (first | (go_simp; done) | (go_simp; with_reducible rfl)))); (try simp only [Act.put, List.setIfInBounds_toArray, List.set_cons_zero, List.set_cons_succ])); (refine wpAnyE_take (i := 9) (oi := ?_) (v := ?_) ?_ (by kernel_rfl) ?_ ?_ (by assumption) ?_; rotate_left 2; (focus ((simp only [List.getElem?_toArray, List.getElem?_cons_succ, List.getElem?_cons_zero]; exact rfl))); (focus (exact fun _ _ _ h => h)); (focus (refine Or.inl ⟨by rfl, ?_⟩; intro w hSw; (try dsimp only at hSw); (first | (go_simp; done) | (go_simp; with_reducible rfl)))); (try simp only [Act.put, List.setIfInBounds_toArray, List.set_cons_zero, List.set_cons_succ])); (refine wpAnyE_take (i := 10) (oi := ?_) (v := ?_) ?_ (by kernel_rfl) ?_ ?_ (by assumption) ?_; rotate_left 2; (focus ((simp only [List.getElem?_toArray, List.getElem?_cons_succ, List.getElem?_cons_zero]; exact rfl))); (focus (exact fun _ _ _ h => h)); (focus (refine Or.inl ⟨by rfl, ?_⟩; intro w hSw; (try dsimp only at hSw); (first | (go_simp; done) | (go_simp; with_reducible rfl)))); (try simp only [Act.put, List.setIfInBounds_toArray, List.set_cons_zero, List.set_cons_succ])))
        clear hk1 hk2 hk3 hcapk
        have hsl : ((l.take l.length).drop xn).length = l.length - xn := by rw [List.length_drop, List.length_take]; omega
        have HAL := Lib.hid (partR_any N ((l.take l.length).drop xn) (some ⟨b, off + xn * 2, none⟩) (cap - xn) W4 (by omega) (((HC.out.ext E4).take l.length).drop xn) (by omega) (HFI.out.part l.length xn))
        rw [hsl] at HAL
        have HMS2 : Hid (partsK ((N : Int), l) (k + 1) = partsK ((N : Int), l) k ++ [partOf (N : Int) ((l.take l.length).drop xn)]) := HMS.out
        generalize partOf (N : Int) ((l.take l.length).drop xn) = y at HAL HMS2
        obtain ⟨y1, y2⟩ := y
        clear hsl HMS
        (refine wpAnyE_one (i := 11) (o := ?_) ?_ (by kernel_rfl) (fun K hK => ?_); rotate_left; (focus ((simp only [List.getElem?_toArray, List.getElem?_cons_succ, List.getElem?_cons_zero]; exact rfl))); go_simp; refine HAL.out.mono ?_; rintro e w5 hpo; obtain ⟨u, rfl, hqu, hE5⟩ := hpo.qu; dsimp only at hqu; have HQU := Lib.hid hqu; obtain ⟨ua, uc, rfl, _, _⟩ := hqu.1.reads; clear hqu hpo; go_wp2_with fail; refine hK.out _ _ ?_ (fun hHeld => ?_); rotate_left; clear hK K; (try simp only [Act.put, List.setIfInBounds_toArray, List.set_cons_zero, List.set_cons_succ]))
        rotate_left
        · exact ⟨hE5.cell hS.1, hE5.cell hS.2.1, hE5.cell hS.2.2⟩
        clear hHeld HAL
        have E6 : Ext w5 (w5.alloc (.cells #[.int .i64 y1, .slice ua y2.length uc] 24)) := (by repeat (first | with_reducible exact Ext.refl _ | with_reducible assumption | with_reducible apply Ext.drewN | with_reducible apply Ext.drew | with_reducible apply Ext.alloc | ((with_reducible refine Ext.set ?_ ?_ _); rotate_left; first | omega | (simp; omega)) | (with_reducible refine Ext.trans ?_ (by with_reducible assumption))))
        (refine wpAnyE_one (i := 12) (o := ?_) ?_ (by kernel_rfl) (fun K hK => ?_); rotate_left; (focus ((simp only [List.getElem?_toArray, List.getElem?_cons_succ, List.getElem?_cons_zero]; exact rfl))); go_simp; refine hK.out _ _ ?_ (fun hHeld => ?_); rotate_left; clear hK K; (try simp only [Act.put, List.setIfInBounds_toArray, List.set_cons_zero, List.set_cons_succ]))
        rotate_left
        · exact ⟨E6.cell (hE5.cell hS.1), E6.cell (hE5.cell hS.2.1), E6.cell (hE5.cell hS.2.2)⟩
        have F6 := (F4.trans hE5).trans E6
        have ho6 := (HO4.out.ext hE5).ext E6
        have HO6 := Lib.hid ho6
        have HU6 : Hid (QU (fun b => vv.ownBlock = some b) (w5.alloc (.cells #[.int .i64 y1, .slice ua y2.length uc] 24)) (.slice ua y2.length uc) y2) := (HQU.out.mono (fun b hb => by
          obtain ⟨ps, _, h2, _⟩ := HO4.out
          exact rowLt h2 hb)).chg (Chg.ext E6)
        clear ho6 HO4 HQU
        refine wpAnyE_one (i := 13) (o := ?_) ?_ (by kernel_rfl) (fun K hK => ?_)
        rotate_left
        · simp only [List.getElem?_toArray, List.getElem?_cons_succ, List.getElem?_cons_zero]; exact rfl
        refine step_append1 rfl _ _ 40 rfl 24 i0 (.agg #[.int .i64 0, .slice none 0 0]) 2 32 Tryz.underlying40 hi hi0 hi1 hi2 rfl (by decide) vv (partsK ((N : Int), l) k).length _ rfl (Classical.choose_spec HO6.out).2.1 ⟨w5.heap.size, 0, none⟩ 1 1 (by decide) [.int .i64 y1, .slice ua y2.length uc] rfl rfl (cells_one _ _ _) (by intro u hu; simp at hu; rcases hu with rfl | rfl <;> rfl) (by rw [hpk.out]; unfold maxLen; omega) (by rw [hpk.out]; omega) (fun v' w7 hown7 hend7 => ?_)
        have O7 : Hid (OwnsQ w7 v' (partsK ((N : Int), l) (k + 1))) := by
          show OwnsQ _ _ _
          rw [HMS2.out]
          exact HO6.out.app (y := (y1, y2)) HU6.out hown7 hend7
        have B7 : Below w1.heap.size (w5.alloc (.cells #[.int .i64 y1, .slice ua y2.length uc] 24)) w7 := hend7.below (n := w1.heap.size) F6.size HOB.out
        have V7 : Hid (∀ b, v'.ownBlock = some b → w1.heap.size ≤ b) := hend7.ge (n := w1.heap.size) F6.size HOB.out
        have F7 : Ext w1 w7 := F6.trans' B7 (Nat.le_refl _)
        refine hK.out _ _ ⟨F7.cell c0, F7.cell c1, F7.cell q1w⟩ (fun hHeld => ?_)
        clear hK K hown7 hend7 HO6 HU6 HMS2 B7 F6
        simp only [Act.put, List.setIfInBounds_toArray, List.set_cons_zero, List.set_cons_succ]
        (refine wpAnyE_take (i := 14) (oi := ?_) (v := ?_) ?_ (by kernel_rfl) ?_ ?_ (by assumption) ?_; rotate_left 2; (focus ((simp only [List.getElem?_toArray, List.getElem?_cons_succ, List.getElem?_cons_zero]; exact rfl))); (focus (exact fun _ _ _ h => h)); (focus (refine Or.inl ⟨by rfl, ?_⟩; intro w hSw; (try dsimp only at hSw); (first | (go_simp; done) | (go_simp; with_reducible rfl)))); (try simp only [Act.put, List.setIfInBounds_toArray, List.set_cons_zero, List.set_cons_succ]))
        refine wpAnyE_done (by kernel_rfl) ?_ _
        go_wp2
        refine ⟨⟨k + 1, by omega, by go_num, ⟨v', rfl, O7.out, V7.out⟩, F7⟩, by simp [intOf]; omega⟩
    · have hke : k = P.length := by omega
      subst hke
      obtain ⟨ra, rc, hrv, hrc, hrl⟩ := hO.out.1.reads
      rw [← HR.out] at hrv hrc hrl
      have HRC := Lib.hid hrc
      subst hrv
      clear hrc hO
      go_wp2
      go_ret2
      exact ⟨ra, rc, rfl, HRC.out, hrl, E3⟩
set_option maxHeartbeats 4000000 in
theorem PartsR_any (n : Int) (l : List Stp) (a : Option Addr) (cap : Nat) (w : World) (hl : l.length ≤ maxLen) (hc : CellsP w a l) (hr : Room a l.length cap) :
    Calls Tryz.prog 22 #[.agg #[.int .i64 n, .slice a l.length cap]] w (SeqsPost (if ckSeq (n, l) = 0 then partsOf (n, l) else []) (ckSeq (n, l)) w) := by
  by_cases hk : ckSeq (n, l) = 0
  · obtain ⟨hN1, hN6, hl0, _⟩ := ckSeq_zero hk
    obtain ⟨N, rfl⟩ := Int.eq_ofNat_of_zero_le (show 0 ≤ n by omega)
    obtain ⟨h1, h2, h3⟩ := hr
    obtain ⟨b, off, rfl⟩ := h3 hl0
    rw [if_pos hk, hk]
    exact PartsR_ok N l b off cap w hl hc h1 h2 hk
  · rw [if_neg hk]
    have HC := Lib.hid hc
    have HL := Lib.hid hl
    clear hc hl
    have hk' : (ckSeq (n, l) != 0) = true := by simp [hk]
    have HPZ := Lib.hid (fun W h => PausesR_any n l a cap W HL.out h)
    rw [if_neg hk] at HPZ
    clear hk
    generalize ckSeq (n, l) = x at hk' HPZ ⊢
    go_enter Tryz.func22, Tryz.ntmps22
    go_wp2_with fail
    have E1 : Ext w (w.alloc (.cells #[.int .i64 n, .slice a l.length cap] 24)) := (by repeat (first | with_reducible exact Ext.refl _ | with_reducible assumption | with_reducible apply Ext.drewN | with_reducible apply Ext.drew | with_reducible apply Ext.alloc | ((with_reducible refine Ext.set ?_ ?_ _); rotate_left; first | omega | (simp; omega)) | (with_reducible refine Ext.trans ?_ (by with_reducible assumption))))
    refine (HPZ.out _ (HC.out.ext E1)).mono ?_
    rintro e w1 ⟨pa, pc, rfl, _, _, hE⟩
    go_wp2
    go_ret2
    exact ⟨none, 0, rfl, CellsQ.nil _ _, by simp, E1.trans hE⟩
end Go.Proofs.YtnhbogmihnnpjaaGreat
