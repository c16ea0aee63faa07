/- Steps of the proof: QLaw, QRenR, QLetR, QStdR, QAlkR, QLCmp, QOpen. No conditions. -/
import Derived.ProofKit
import Derived.OpenShut
import Derived.Lib.SmallJoins
import Derived.Deep.Slices
import Derived.Test.YtnhbogmihnnpjaaGreatZCompares1
import Derived.Test.YtnhbogmihnnpjaaGreatZCompares2
import Derived.Test.YtnhbogmihnnpjaaGreatZCompares3
import Derived.Test.YtnhbogmihnnpjaaGreatZCompares4
import Derived.Test.YtnhbogmihnnpjaaGreatZCompares5
import Derived.Test.YtnhbogmihnnpjaaGreatZCompares6
import Derived.Test.YtnhbogmihnnpjaaGreatZCompares7
import Derived.Test.YtnhbogmihnnpjaaGreatZCompares8
import Derived.Test.YtnhbogmihnnpjaaGreatZCompares9
/- What the laws' walks share. -/
namespace Go.Proofs.YtnhbogmihnnpjaaGreat
open Go.RowKit

theorem cellsQ_one {w : World} {n : Int} {l : List Stp} {a : Option Addr} {c : Nat} (lp : Room a l.length c) (hp : CellsP w a l) :
    CellsQ (w.alloc (.cells #[.int .i64 n, .slice a l.length c] 24)) (some ⟨w.heap.size, 0, none⟩) [(n, l)] := by
  have E : Ext w (w.alloc (.cells #[.int .i64 n, .slice a l.length c] 24)) := (by repeat (first | with_reducible exact Ext.refl _ | with_reducible assumption | with_reducible apply Ext.drewN | with_reducible apply Ext.drew | with_reducible apply Ext.alloc | ((with_reducible refine Ext.set ?_ ?_ _); rotate_left; first | omega | (simp; omega)) | (with_reducible refine Ext.trans ?_ (by with_reducible assumption))))
  intro i hi
  have : i = 0 := by simp at hi; omega
  subst this
  exact ⟨w.heap.size, 0, .slice a l.length c, rfl, by simp [List.getD], by simp, ⟨a, c, rfl, hp.ext E, lp⟩⟩
/-- the result of a call that yields a sequence and an error, at an address -/
theorem SeqErr.at {s : Sq} {er : Int} {w : World} {e : Ending} {w' : World} (h : SeqErr s er w e w') : ∃ a cap, e = .returned (.tuple #[.agg #[.int .i64 s.1, .slice a s.2.length cap], .int .i64 er]) ∧ CellsP w' a s.2 ∧ Room a s.2.length cap ∧ Ext w w' := by
  obtain ⟨v, rfl, ⟨u, rfl, a, cap, rfl, hc, hm⟩, hE⟩ := h
  exact ⟨a, cap, rfl, hc, hm, hE⟩
/-- a sequence's own two cells -/
structure Box (w : World) (b : Nat) (x : Int) (v : Value) : Prop where
  c0 : w.cell? ⟨b, 0, none⟩ = some (.int .i64 x)
  c1 : w.cell? ⟨b, 1, none⟩ = some v
  f0 : w.frozen? ⟨b, 0, none⟩ = false
  f1 : w.frozen? ⟨b, 1, none⟩ = false
  no : ∀ o, 2 ≤ o → w.cell? ⟨b, o, none⟩ = none
theorem Box.ext {w w' : World} {b : Nat} {x : Int} {v : Value} (h : Box w b x v) (k : Ext w w') : Box w' b x v :=
  ⟨k.cell h.c0, k.cell h.c1, (Below.frozen (p := ⟨b, 0, none⟩) k (cell_lt h.c0)).trans h.f0, (Below.frozen (p := ⟨b, 1, none⟩) k (cell_lt h.c1)).trans h.f1, fun o ho => (World.cell?_of_block (Below.block k b (cell_lt h.c0))).trans (h.no o ho)⟩
theorem Box.new (w : World) (x : Int) (a : Option Addr) (n c : Nat) : Box (w.alloc (.cells #[.int .i64 x, .slice a n c] 24)) w.heap.size x (.slice a n c) := by
  refine ⟨by go_simp, by go_simp, by go_simp, by go_simp, fun o ho => ?_⟩
  rw [World.cell?_alloc_new]
  exact Array.getElem?_eq_none (by simpa using ho)
theorem Box.set {w : World} {b : Nat} {x : Int} {v : Value} (h : Box w b x v) (y : Int) (u : Value) : Box ((w.setCell ⟨b, 0, none⟩ (.int .i64 y)).setCell ⟨b, 1, none⟩ u) b y u := by
  have e0 : (w.setCell ⟨b, 0, none⟩ (.int .i64 y)).cell? ⟨b, 0, none⟩ = some (.int .i64 y) := World.cell?_setCell_same _ _ _ h.c0
  have e1 : (w.setCell ⟨b, 0, none⟩ (.int .i64 y)).cell? ⟨b, 1, none⟩ = some v := by
    rw [World.cell?_setCell_other _ _ _ _ (fun h => by simp only [Addr.mk.injEq] at h; omega)]; exact h.c1
  refine ⟨?_, World.cell?_setCell_same _ _ _ e1, by rw [World.frozen?_setCell, World.frozen?_setCell]; exact h.f0, by rw [World.frozen?_setCell, World.frozen?_setCell]; exact h.f1, fun o ho => ?_⟩
  · rw [World.cell?_setCell_other _ _ _ _ (fun h => by simp only [Addr.mk.injEq] at h; omega)]; exact e0
  · rw [World.cell?_setCell_other _ _ _ _ (fun h => by simp only [Addr.mk.injEq] at h; omega), World.cell?_setCell_other _ _ _ _ (fun h => by simp only [Addr.mk.injEq] at h; omega)]; exact h.no o ho
/-- what befalls a sequence's own cells befalls no steps -/
theorem Box.keepK {w : World} {b : Nat} {x : Int} {sa : Option Addr} {sn sc : Nat} (h : Box w b x (.slice sa sn sc)) {a : Option Addr} {l : List Stk} (hc : CellsK w a l) {B : World} (hB : ∀ k, k < w.heap.size → k ≠ b → B.heap[k]? = w.heap[k]?) : CellsK B a l := fun i hi => by
  obtain ⟨b', off, ha, p1, p2⟩ := hc i hi
  have hne : b' ≠ b := by
    rintro rfl
    rcases Nat.lt_or_ge (off + i * 2) 2 with hlt | hge
    · rcases Nat.lt_or_ge (off + i * 2) 1 with h1 | h1
      · have e : off + i * 2 = 0 := by omega
        rw [e] at p2
        rw [h.c1] at p2
        cases p2
      · have e : off + i * 2 = 1 := by omega
        rw [e, h.c1] at p1
        cases p1
    · rw [h.no _ hge] at p1; cases p1
  have e := hB b' (cell_lt p1) hne
  exact ⟨b', off, ha, (World.cell?_of_block e).trans p1, (World.cell?_of_block e).trans p2⟩
theorem Box.keep {w : World} {b : Nat} {x : Int} {sa : Option Addr} {sn sc : Nat} (h : Box w b x (.slice sa sn sc)) {a : Option Addr} {l : List Stp} (hc : CellsP w a l) {B : World} (hB : ∀ k, k < w.heap.size → k ≠ b → B.heap[k]? = w.heap[k]?) : CellsP B a l := fun i hi => by
  obtain ⟨b', off, v, ha, p1, ⟨a2, c2, rfl, hk, hm⟩, p2⟩ := hc i hi
  have hne : b' ≠ b := by
    rintro rfl
    rcases Nat.lt_or_ge (off + i * 2) 2 with hlt | hge
    · rcases Nat.lt_or_ge (off + i * 2) 1 with h1 | h1
      · have e : off + i * 2 = 0 := by omega
        rw [e, h.c0] at p1
        cases p1
      · rw [h.no (off + i * 2 + 1) (by omega)] at p2; cases p2
    · rw [h.no _ hge] at p1; cases p1
  have e := hB b' (cell_lt p1) hne
  exact ⟨b', off, _, ha, (World.cell?_of_block e).trans p1, ⟨a2, c2, rfl, h.keepK hk hB, hm⟩, (World.cell?_of_block e).trans p2⟩
theorem set2_block (w : World) (b : Nat) (u v : Value) : ∀ k, k < w.heap.size → k ≠ b → ((w.setCell ⟨b, 0, none⟩ u).setCell ⟨b, 1, none⟩ v).heap[k]? = w.heap[k]? := fun _k _ hk =>
  (Below.heap_setCell _ _ _ _ (fun e => hk e)).trans (Below.heap_setCell _ _ _ _ (fun e => hk e))
theorem Box.other {w : World} {b c : Nat} {x : Int} {v : Value} (h : Box w c x v) (hne : c ≠ b) (u t : Value) : Box ((w.setCell ⟨b, 0, none⟩ u).setCell ⟨b, 1, none⟩ t) c x v := by
  have e := set2_block w b u t c (cell_lt h.c0) hne
  exact ⟨(World.cell?_of_block e).trans h.c0, (World.cell?_of_block e).trans h.c1, (World.frozen?_of_block e).trans h.f0, (World.frozen?_of_block e).trans h.f1, fun o ho => (World.cell?_of_block e).trans (h.no o ho)⟩
end Go.Proofs.YtnhbogmihnnpjaaGreat
/- The reference's Renamed. -/
namespace Go.Proofs.YtnhbogmihnnpjaaGreat
open Go.RowKit

structure RnSt (p : Nat) (W1 wr : World) (P : List Stk) (wt : Int) : Prop where
  be : Below p W1 wr
  v : ∃ u, wr.cell? ⟨p, 0, none⟩ = some u ∧ OwnsK wr u P ∧ ∀ b, u.ownBlock = some b → p < b
  c1 : wr.cell? ⟨p, 1, none⟩ = some (.int .i64 wt)
  f0 : wr.frozen? ⟨p, 0, none⟩ = false
def renP (f : Int → Int) (st : List Stk) (j : Nat) : List Stk := (st.take j).map fun y => (f y.1, y.2)
theorem renP_succ (f : Int → Int) (st : List Stk) {j : Nat} (h : j < st.length) : renP f st (j + 1) = renP f st j ++ [(f (st.getD j stk0).1, (st.getD j stk0).2)] := by
  unfold renP
  rw [List.take_succ_eq_append_getElem h, List.map_append, List.getD_eq_getElem?_getD, List.getElem?_eq_getElem h]; rfl
theorem renP_len (f : Int → Int) (st : List Stk) (j : Nat) : (renP f st j).length ≤ st.length := by
  unfold renP; rw [List.length_map]; exact List.length_take_le' ..
def renK (f : Int → Int) (l : List Stp) (k : Nat) : List Stp := (l.take k).map (renStep f)
theorem renK_succ (f : Int → Int) (l : List Stp) {k : Nat} (h : k < l.length) : renK f l (k + 1) = renK f l k ++ [renStep f (l.getD k stp0)] := by
  unfold renK
  rw [List.take_succ_eq_append_getElem h, List.map_append, List.getD_eq_getElem?_getD, List.getElem?_eq_getElem h]; rfl
theorem renK_len (f : Int → Int) (l : List Stp) (k : Nat) : (renK f l k).length ≤ k := by
  unfold renK; rw [List.length_map]; exact List.length_take_le ..

set_option maxHeartbeats 8000000 in
set_option maxRecDepth 100000 in
theorem RenamedR_any (n : Int) (l : List Stp) (a : Option Addr) (cap : Nat) (fs : List Int) (fa : Option Addr) (fc : Nat) (w : World) (hl : l.length ≤ 200) (hc : CellsP w a l) (hfi : CellsI w fa fs) (_hfl : fs.length ≤ 1000)
    (hok : ∀ k, k < l.length → (l.getD k stp0).1.length ≤ 40 ∧ ∀ j, j < (l.getD k stp0).1.length → 0 ≤ ((l.getD k stp0).1.getD j stk0).1 ∧ ((l.getD k stp0).1.getD j stk0).1 < (fs.length : Int)) :
    Calls Tryz.prog 68 #[.agg #[.int .i64 n, .slice a l.length cap], .slice fa fs.length fc] w (OwnPost (ren (listFn fs) (n, l)) w) := by
  have HC := Lib.hid hc
  have HFI := Lib.hid hfi
  have HOK := Lib.hid hok
  have HRE : Hid (renK (listFn fs) l l.length = (ren (listFn fs) (n, l)).2) := by show _ = _; unfold renK ren; rw [List.take_length]
  have HR1 : Hid ((ren (listFn fs) (n, l)).1 = n) := rfl
  clear hc hfi hok
  obtain ⟨R, hR⟩ : ∃ R, R = ren (listFn fs) (n, l) := ⟨_, rfl⟩
  rw [← hR] at HRE HR1 ⊢
  clear hR
  obtain ⟨f, hf⟩ : ∃ f, f = listFn fs := ⟨_, rfl⟩
  have HF := Lib.hid hf
  rw [← hf] at HRE
  clear hf
  obtain ⟨i0, hi, hi0, hi1, hi2⟩ := info_parts infoStk
  obtain ⟨j0, hj, hj0, hj1, hj2⟩ := info_parts infoStp
  go_enter Tryz.func68, Tryz.ntmps68
  go_wp2
  have E1 : Ext w (((w.alloc (.cells #[.int .i64 n, .slice a l.length cap] 24)).alloc (.cells #[.int .i64 0, .slice none 0 0] 24)).alloc (.cells #[.int .i64 n, .slice none 0 0] 24)) := (by repeat (first | with_reducible exact Ext.refl _ | with_reducible assumption | with_reducible apply Ext.drewN | with_reducible apply Ext.drew | with_reducible apply Ext.alloc | ((with_reducible refine Ext.set ?_ ?_ _); rotate_left; first | omega | (simp; omega)) | (with_reducible refine Ext.trans ?_ (by with_reducible assumption))))
  have c1 : (((w.alloc (.cells #[.int .i64 n, .slice a l.length cap] 24)).alloc (.cells #[.int .i64 0, .slice none 0 0] 24)).alloc (.cells #[.int .i64 n, .slice none 0 0] 24)).cell? ⟨w.heap.size + 1, 0, none⟩ = some (.int .i64 0) := by go_simp
  have c2 : (((w.alloc (.cells #[.int .i64 n, .slice a l.length cap] 24)).alloc (.cells #[.int .i64 0, .slice none 0 0] 24)).alloc (.cells #[.int .i64 n, .slice none 0 0] 24)).cell? ⟨w.heap.size + 1, 1, none⟩ = some (.slice none 0 0) := by go_simp
  have c3 : (((w.alloc (.cells #[.int .i64 n, .slice a l.length cap] 24)).alloc (.cells #[.int .i64 0, .slice none 0 0] 24)).alloc (.cells #[.int .i64 n, .slice none 0 0] 24)).cell? ⟨w.heap.size + 1 + 1, 0, none⟩ = some (.int .i64 n) := by go_simp
  have c4 : (((w.alloc (.cells #[.int .i64 n, .slice a l.length cap] 24)).alloc (.cells #[.int .i64 0, .slice none 0 0] 24)).alloc (.cells #[.int .i64 n, .slice none 0 0] 24)).cell? ⟨w.heap.size + 1 + 1, 1, none⟩ = some (.slice none 0 0) := by go_simp
  have c5 : (((w.alloc (.cells #[.int .i64 n, .slice a l.length cap] 24)).alloc (.cells #[.int .i64 0, .slice none 0 0] 24)).alloc (.cells #[.int .i64 n, .slice none 0 0] 24)).cell? ⟨w.heap.size, 1, none⟩ = some (.slice a l.length cap) := by go_simp
  have f1 : (((w.alloc (.cells #[.int .i64 n, .slice a l.length cap] 24)).alloc (.cells #[.int .i64 0, .slice none 0 0] 24)).alloc (.cells #[.int .i64 n, .slice none 0 0] 24)).frozen? ⟨w.heap.size + 1, 0, none⟩ = false := by go_simp
  have f2 : (((w.alloc (.cells #[.int .i64 n, .slice a l.length cap] 24)).alloc (.cells #[.int .i64 0, .slice none 0 0] 24)).alloc (.cells #[.int .i64 n, .slice none 0 0] 24)).frozen? ⟨w.heap.size + 1, 1, none⟩ = false := by go_simp
  have f4 : (((w.alloc (.cells #[.int .i64 n, .slice a l.length cap] 24)).alloc (.cells #[.int .i64 0, .slice none 0 0] 24)).alloc (.cells #[.int .i64 n, .slice none 0 0] 24)).frozen? ⟨w.heap.size + 1 + 1, 1, none⟩ = false := by go_simp
  generalize (((w.alloc (.cells #[.int .i64 n, .slice a l.length cap] 24)).alloc (.cells #[.int .i64 0, .slice none 0 0] 24)).alloc (.cells #[.int .i64 n, .slice none 0 0] 24)) = W at E1 c1 c2 c3 c4 c5 f1 f2 f4 ⊢
  obtain ⟨o, ho⟩ : ∃ o, o = w.heap.size + 1 + 1 := ⟨_, rfl⟩
  have ho1 : w.heap.size + 1 < o := by omega
  have hoW : o < W.heap.size := by rw [ho]; exact cell_lt c3
  rw [← ho] at c3 c4 f4 ⊢
  have M0 : Hid (TrSt (fun b => b ≤ o) o W W n (renK f l 0)) := ⟨Below.refl _ _, c3, f4, _, c4, OwnsP.nil _ _, fun b hb => by cases hb⟩
  clear c3 c4 f4 ho
  go_loopw [6] (fun i wr => ∃ k : Nat, k ≤ l.length ∧ i = .int .i64 k ∧ Hid (TrSt (fun b => b ≤ o) o W wr n (renK f l k))) (fun i _ => l.length - (intOf i).toNat)
  case atStart => exact ⟨0, Nat.zero_le _, rfl, M0⟩
  case round =>
    obtain ⟨k, hk, rfl, M⟩ := hrel
    clear M0
    obtain ⟨wo, hwo⟩ : ∃ wo : World, wo = wr := ⟨_, rfl⟩
    subst hwo
    have hbe := M.out.be
    have E2 : Ext w wo := E1.trans' hbe (by omega)
    have hsz := hbe.size
    have how : o < wo.heap.size := by omega
    have d5 := cellB hbe (p := ⟨w.heap.size, 1, none⟩) (by show w.heap.size < _; omega) c5
    by_cases hlt : k < l.length
    · obtain ⟨hl40, hin⟩ := HOK.out k hlt
      obtain ⟨b, off, v, ha, p1, hv, p2⟩ := HC.out k hlt
      subst ha
      obtain ⟨sa, sc, rfl, hcs, hls⟩ := hv
      have zb := cell_lt p1
      dsimp only at zb
      have HP1 := Lib.hid (E2.cell p1)
      have p1 := E2.cell p1
      have p2 := E2.cell p2
      have HMS := Lib.hid (renK_succ f l hlt)
      generalize l.getD k stp0 = x at p1 p2 HP1 hcs hls HMS hl40 hin
      obtain ⟨st, wait⟩ := x
      dsimp only at p1 p2 HP1 hcs hls HMS hl40 hin
      have HIN := Lib.hid hin
      have HCS := Lib.hid hcs
      have HLS := Lib.hid hls
      have D5 := Lib.hid d5
      clear hcs hls hin
      go_wp2
      have EP : Ext wo (wo.alloc (.cells #[.slice none 0 0, .int .i64 wait] 87)) := (by repeat (first | with_reducible exact Ext.refl _ | with_reducible assumption | with_reducible apply Ext.drewN | with_reducible apply Ext.drew | with_reducible apply Ext.alloc | ((with_reducible refine Ext.set ?_ ?_ _); rotate_left; first | omega | (simp; omega)) | (with_reducible refine Ext.trans ?_ (by with_reducible assumption))))
      have hps : (wo.alloc (.cells #[.slice none 0 0, .int .i64 wait] 87)).heap.size = wo.heap.size + 1 := by go_simp
      have N0 : Hid (RnSt wo.heap.size (wo.alloc (.cells #[.slice none 0 0, .int .i64 wait] 87)) (wo.alloc (.cells #[.slice none 0 0, .int .i64 wait] 87)) (renP f st 0) wait) := ⟨Below.refl _ _, ⟨_, by go_simp, OwnsK.nil _, fun b hb => by cases hb⟩, by go_simp, by go_simp⟩
      generalize (wo.alloc (.cells #[.slice none 0 0, .int .i64 wait] 87)) = W1 at EP hps N0 ⊢
      obtain ⟨p, hp⟩ : ∃ p, p = wo.heap.size := ⟨_, rfl⟩
      have how2 : o < p := by omega
      have zbp : b < p := by have := E2.size; omega
      have zwp : w.heap.size < p := by omega
      rw [← hp] at hps N0 ⊢
      have hps1 : p + 1 ≤ W1.heap.size := by omega
      have HPP := Lib.hid hp
      have hpE : w.heap.size ≤ p := by omega
      clear p1 p2 d5 hp hps
      go_loopw [8] (fun i wr => ∃ j : Nat, j ≤ st.length ∧ i = .int .i64 j ∧ Hid (RnSt p W1 wr (renP f st j) wait)) (fun i _ => st.length - (intOf i).toNat)
      case atStart => exact ⟨0, by omega, rfl, N0⟩
      case round =>
        obtain ⟨j, hj', rfl, N⟩ := hrel
        clear N0
        have hbn := N.out.be
        have hsn := hbn.size
        have d5 := cellB hbn (p := ⟨w.heap.size, 1, none⟩) (by show w.heap.size < _; omega) (EP.cell D5.out)
        have p1 := cellB hbn (p := ⟨b, off + k * 2, none⟩) (by show b < _; omega) (EP.cell HP1.out)
        by_cases hjl : j < st.length
        · obtain ⟨kb, ko, ha, r1, r2⟩ := HCS.out j hjl
          subst ha
          have hkz := cell_lt r1
          dsimp only at hkz
          have EW1 : Ext w W1 := E2.trans EP
          have r1 := cellB hbn (p := ⟨kb, ko + j * 2, none⟩) (by show kb < _; omega) (EW1.cell r1)
          have r2 := cellB hbn (p := ⟨kb, ko + j * 2 + 1, none⟩) (by show kb < _; omega) (EW1.cell r2)
          obtain ⟨hy0, hyn⟩ := HIN.out j hjl
          have HPS := Lib.hid (renP_succ f st hjl)
          have hpl := renP_len f st j
          generalize st.getD j stk0 = y at r1 r2 hy0 hyn HPS
          obtain ⟨ya, yo⟩ := y
          dsimp only at r1 r2 hy0 hyn HPS
          obtain ⟨yn, rfl⟩ := Int.eq_ofNat_of_zero_le hy0
          have hynl : yn < fs.length := by omega
          obtain ⟨tb, tf, ht, t1⟩ := HFI.out yn hynl
          subst ht
          have htz := cell_lt t1
          dsimp only at htz
          have t1 := cellB hbn (p := ⟨tb, tf + yn, none⟩) (by show tb < _; omega) (EW1.cell t1)
          have HFV : Hid (f (yn : Int) = fs.getD yn 0) := by
            show _ = _
            rw [HF.out]; unfold listFn
            rw [if_neg (by omega)]; rfl
          generalize fs.getD yn 0 = fv at t1 HFV
          rw [HFV.out] at HPS
          clear HFV hy0
          obtain ⟨u, m1, m2, m3⟩ := N.out.v
          have m0 := N.out.c1
          have mf := N.out.f0
          have hum : ∀ b, u.ownBlock = some b → b < wr.heap.size := fun b hb => rowLt m2 hb
          have HUM := Lib.hid hum
          have HM2 := Lib.hid m2
          have HM3 := Lib.hid m3
          clear m2 m3 N hum
          generalize renP f st j = P at HM2 HPS hpl
          have zp := cell_lt m1
          dsimp only at zp
          have EX : Ext wr (wr.alloc (.cells #[.int .i64 (yn : Int), .bool yo] 73)).drew := (by repeat (first | with_reducible exact Ext.refl _ | with_reducible assumption | with_reducible apply Ext.drewN | with_reducible apply Ext.drew | with_reducible apply Ext.alloc | ((with_reducible refine Ext.set ?_ ?_ _); rotate_left; first | omega | (simp; omega)) | (with_reducible refine Ext.trans ?_ (by with_reducible assumption))))
          have y0 : (wr.alloc (.cells #[.int .i64 (yn : Int), .bool yo] 73)).drew.cell? ⟨wr.heap.size, 0, none⟩ = some (.int .i64 (yn : Int)) := by go_simp
          have y1 : (wr.alloc (.cells #[.int .i64 (yn : Int), .bool yo] 73)).drew.cell? ⟨wr.heap.size, 1, none⟩ = some (.bool yo) := by go_simp
          go_wp2
          obtain ⟨q, hq⟩ : ∃ q, q = wr.heap.size := ⟨_, rfl⟩
          rw [← hq] at y0 y1 zp ⊢
          have HQ := Lib.hid hq
          clear hq
          refine wp_region_heldE 13 (fun w' => w'.cell? ⟨p, 0, none⟩ = some u ∧ w'.cell? ⟨q, 0, none⟩ = some (.int .i64 (yn : Int)) ∧ w'.cell? ⟨q, 1, none⟩ = some (.bool yo) ∧ w'.cell? ⟨tb, tf + yn, none⟩ = some (.int .i64 fv)) (by kernel_rfl) ?_
          generalize (wr.alloc (.cells #[.int .i64 (yn : Int), .bool yo] 73)).drew = W2 at EX y0 y1 ⊢
          have q1 := EX.cell m1
          have q0 := EX.cell m0
          have qf := (Below.frozen (p := ⟨p, 0, none⟩) EX (cell_lt m1)).trans mf
          have hS : W2.cell? ⟨p, 0, none⟩ = some u ∧ W2.cell? ⟨q, 0, none⟩ = some (.int .i64 (yn : Int)) ∧ W2.cell? ⟨q, 1, none⟩ = some (.bool yo) ∧ W2.cell? ⟨tb, tf + yn, none⟩ = some (.int .i64 fv) := ⟨q1, y0, y1, EX.cell t1⟩
          have hzq := cell_lt y0
          dsimp only at hzq
          ((refine wpAnyE_take (i := 0) (oi := ?_) (v := ?_) ?_ (by kernel_rfl) ?_ ?_ (by assumption) ?_; rotate_left 2; (focus ((simp only [List.getElem?_toArray, List.getElem?_cons_zero]; exact rfl))); (focus (exact fun _ _ _ h => h)); (focus (refine Or.inl ⟨by rfl, ?_⟩; intro w hSw; (try dsimp only at hSw); (first | (go_simp; done) | (go_simp; with_reducible rfl)))); (try simp only [Act.put, List.setIfInBounds_toArray, List.set_cons_zero, List.set_cons_succ])); (refine wpAnyE_take (i := 1) (oi := ?_) (v := ?_) ?_ (by kernel_rfl) ?_ ?_ (by assumption) ?_; rotate_left 2; (focus ((simp only [List.getElem?_toArray, List.getElem?_cons_succ, List.getElem?_cons_zero]; exact rfl))); (focus (exact fun _ _ _ h => h)); (focus (refine Or.inl ⟨by rfl, ?_⟩; intro w hSw; (try dsimp only at hSw); (first | (go_simp; done) | (go_simp; with_reducible rfl)))); (try simp only [Act.put, List.setIfInBounds_toArray, List.set_cons_zero, List.set_cons_succ])); (refine wpAnyE_take (i := 2) (oi := ?_) (v := ?_) ?_ (by kernel_rfl) ?_ ?_ (by assumption) ?_; rotate_left 2; (focus ((simp only [List.getElem?_toArray, List.getElem?_cons_succ, List.getElem?_cons_zero]; exact rfl))); (focus (exact fun _ _ _ h => h)); (focus (refine Or.inl ⟨by rfl, ?_⟩; intro w hSw; (try dsimp only at hSw); (first | (go_simp; done) | (go_simp; with_reducible rfl)))); (try simp only [Act.put, List.setIfInBounds_toArray, List.set_cons_zero, List.set_cons_succ])); (refine wpAnyE_take (i := 3) (oi := ?_) (v := ?_) ?_ (by kernel_rfl) ?_ ?_ (by assumption) ?_; rotate_left 2; (focus ((simp only [List.getElem?_toArray, List.getElem?_cons_succ, List.getElem?_cons_zero]; exact rfl))); (focus (exact fun _ _ _ h => h)); (focus (refine Or.inl ⟨by rfl, ?_⟩; intro w hSw; (try dsimp only at hSw); (first | (go_simp; done) | (go_simp; with_reducible rfl)))); (try simp only [Act.put, List.setIfInBounds_toArray, List.set_cons_zero, List.set_cons_succ])); (refine wpAnyE_take (i := 4) (oi := ?_) (v := ?_) ?_ (by kernel_rfl) ?_ ?_ (by assumption) ?_; rotate_left 2; (focus ((simp only [List.getElem?_toArray, List.getElem?_cons_succ, List.getElem?_cons_zero]; exact rfl))); (focus (exact fun _ _ _ h => h)); (focus (refine Or.inl ⟨by rfl, ?_⟩; intro w hSw; (try dsimp only at hSw); (first | (go_simp; done) | (go_simp; with_reducible rfl)))); (try simp only [Act.put, List.setIfInBounds_toArray, List.set_cons_zero, List.set_cons_succ])); (refine wpAnyE_take (i := 5) (oi := ?_) (v := ?_) ?_ (by kernel_rfl) ?_ ?_ (by assumption) ?_; rotate_left 2; (focus ((simp only [List.getElem?_toArray, List.getElem?_cons_succ, List.getElem?_cons_zero]; exact rfl))); (focus (exact fun _ _ _ h => h)); (focus (refine Or.inl ⟨by rfl, ?_⟩; intro w hSw; (try dsimp only at hSw); (first | (go_simp; done) | (go_simp; with_reducible rfl)))); (try simp only [Act.put, List.setIfInBounds_toArray, List.set_cons_zero, List.set_cons_succ])); (refine wpAnyE_take (i := 6) (oi := ?_) (v := ?_) ?_ (by kernel_rfl) ?_ ?_ (by assumption) ?_; rotate_left 2; (focus ((simp only [List.getElem?_toArray, List.getElem?_cons_succ, List.getElem?_cons_zero]; exact rfl))); (focus (exact fun _ _ _ h => h)); (focus (refine Or.inl ⟨by rfl, ?_⟩; intro w hSw; (try dsimp only at hSw); (first | (go_simp; done) | (go_simp; with_reducible rfl)))); (try simp only [Act.put, List.setIfInBounds_toArray, List.set_cons_zero, List.set_cons_succ])); (refine wpAnyE_take (i := 7) (oi := ?_) (v := ?_) ?_ (by kernel_rfl) ?_ ?_ (by assumption) ?_; rotate_left 2; (focus ((simp only [List.getElem?_toArray, List.getElem?_cons_succ, List.getElem?_cons_zero]; exact rfl))); (focus (exact fun _ _ _ h => h)); (focus (refine Or.inl ⟨by rfl, ?_⟩; intro w hSw; (try dsimp only at hSw); (first | (go_simp; done) | (go_simp; with_reducible rfl)))); (try simp only [Act.put, List.setIfInBounds_toArray, List.set_cons_zero, List.set_cons_succ])); (refine wpAnyE_take (i := 8) (oi := ?_) (v := ?_) ?_ (by kernel_rfl) ?_ ?_ (by assumption) ?_; rotate_left 2; (focus ((simp only [List.getElem?_toArray, List.getElem?_cons_succ, List.getElem?_cons_zero]; exact rfl))); (focus (exact fun _ _ _ h => h)); (focus (refine Or.inl ⟨by rfl, ?_⟩; intro w hSw; (try dsimp only at hSw); (first | (go_simp; done) | (go_simp; with_reducible rfl)))); (try simp only [Act.put, List.setIfInBounds_toArray, List.set_cons_zero, List.set_cons_succ])); (refine wpAnyE_take (i := 9) (oi := ?_) (v := ?_) ?_ (by kernel_rfl) ?_ ?_ (by assumption) ?_; rotate_left 2; (focus ((simp only [List.getElem?_toArray, List.getElem?_cons_succ, List.getElem?_cons_zero]; exact rfl))); (focus (exact fun _ _ _ h => h)); (focus (refine Or.inl ⟨by rfl, ?_⟩; intro w hSw; (try dsimp only at hSw); (first | (go_simp; done) | (go_simp; with_reducible rfl)))); (try simp only [Act.put, List.setIfInBounds_toArray, List.set_cons_zero, List.set_cons_succ])))
          have E6 : Ext W2 (W2.alloc (.cells #[.int .i64 fv, .bool yo] 73)) := (by repeat (first | with_reducible exact Ext.refl _ | with_reducible assumption | with_reducible apply Ext.drewN | with_reducible apply Ext.drew | with_reducible apply Ext.alloc | ((with_reducible refine Ext.set ?_ ?_ _); rotate_left; first | omega | (simp; omega)) | (with_reducible refine Ext.trans ?_ (by with_reducible assumption))))
          (refine wpAnyE_one (i := 10) (o := ?_) ?_ (by kernel_rfl) (fun K hK => ?_); rotate_left; (focus ((simp only [List.getElem?_toArray, List.getElem?_cons_succ, List.getElem?_cons_zero]; exact rfl))); go_simp; refine hK.out _ _ ?_ (fun hHeld => ?_); rotate_left; clear hK K; (try simp only [Act.put, List.setIfInBounds_toArray, List.set_cons_zero, List.set_cons_succ]))
          rotate_left
          · exact ⟨E6.cell hS.1, E6.cell hS.2.1, E6.cell hS.2.2.1, E6.cell hS.2.2.2⟩
          have ho6 : OwnsK (W2.alloc (.cells #[.int .i64 fv, .bool yo] 73)) u P := HM2.out.ext (EX.trans E6)
          have hs6 := E6.size
          have hsX := EX.size
          refine wpAnyE_one (i := 11) (o := ?_) ?_ (by kernel_rfl) (fun K hK => ?_)
          rotate_left
          · simp only [List.getElem?_toArray, List.getElem?_cons_succ, List.getElem?_cons_zero]; exact rfl
          refine step_append1 rfl _ _ 66 rfl 73 i0 (.agg #[.int .i64 0, .bool false]) 2 16 Tryz.underlying66 hi hi0 hi1 hi2 rfl (by decide) u P.length (flatK P) rfl ho6 ⟨W2.heap.size, 0, none⟩ 1 1 (by decide) [.int .i64 fv, .bool yo] rfl rfl (cells_one _ _ _) (by intro u hu; simp at hu; rcases hu with rfl | rfl <;> rfl) (by unfold maxLen; omega) (by omega) (fun v' w7 hown7 hend7 => ?_)
          have O7 : OwnsK w7 v' (P ++ [(fv, yo)]) := ownsK_succ hown7
          have hgr := hend7.chg
          have B7 : Below p (W2.alloc (.cells #[.int .i64 fv, .bool yo] 73)) w7 := hend7.below (n := p) (by omega) (fun b hb => by have := HM3.out b hb; omega)
          have V7 := hend7.ge (n := p + 1) (by omega) (fun b hb => HM3.out b hb)
          have same7 : ∀ (c : Addr) (v : Value), u.ownBlock ≠ some c.block → (W2.alloc (.cells #[.int .i64 fv, .bool yo] 73)).cell? c = some v → w7.cell? c = some v ∧ w7.frozen? c = (W2.alloc (.cells #[.int .i64 fv, .bool yo] 73)).frozen? c := fun c v hp hc => by
            have h1 := hgr.1 c.block (cell_lt hc) hp
            exact ⟨(World.cell?_of_block (w := W2.alloc (.cells #[.int .i64 fv, .bool yo] 73)) h1).trans hc, World.frozen?_of_block (w := W2.alloc (.cells #[.int .i64 fv, .bool yo] 73)) h1⟩
          have hnp : u.ownBlock ≠ some p := fun e => by have := HM3.out _ e; omega
          have hnq : u.ownBlock ≠ some q := fun e => by have := HUM.out _ e; have := HQ.out; omega
          refine hK.out _ _ ⟨(same7 ⟨p, 0, none⟩ _ hnp hHeld.1).1, (same7 ⟨q, 0, none⟩ _ hnq hHeld.2.1).1, (same7 ⟨q, 1, none⟩ _ hnq hHeld.2.2.1).1, cellB B7 (by show tb < _; omega) hHeld.2.2.2⟩ (fun hHeld => ?_)
          clear hK K
          (try simp only [Act.put, List.setIfInBounds_toArray, List.set_cons_zero, List.set_cons_succ])
          (refine wpAnyE_take (i := 12) (oi := ?_) (v := ?_) ?_ (by kernel_rfl) ?_ ?_ (by assumption) ?_; rotate_left 2; (focus ((simp only [List.getElem?_toArray, List.getElem?_cons_succ, List.getElem?_cons_zero]; exact rfl))); (focus (exact fun _ _ _ h => h)); (focus (refine Or.inl ⟨by rfl, ?_⟩; intro w hSw; (try dsimp only at hSw); (first | (go_simp; done) | (go_simp; with_reducible rfl)))); (try simp only [Act.put, List.setIfInBounds_toArray, List.set_cons_zero, List.set_cons_succ]))
          obtain ⟨va, vc, hvv, _, _⟩ := O7.reads
          have hlen : (P ++ [(fv, yo)]).length = P.length + 1 := by rw [List.length_append]; rfl
          rw [hlen] at hvv
          subst hvv
          have HO7 := Lib.hid O7
          have HV7 := Lib.hid V7
          obtain ⟨r1', rf0⟩ := same7 ⟨p, 0, none⟩ _ hnp (E6.cell q1)
          have r0 := (same7 ⟨p, 1, none⟩ _ hnp (E6.cell q0)).1
          have rf := (rf0.trans (Below.frozen (p := ⟨p, 0, none⟩) E6 (cell_lt q1))).trans qf
          have BB : Below p W1 w7 := (hbn.trans ((EX.trans E6).mono (by omega))).trans B7
          clear O7 V7 hown7 hend7 hgr hlen rf0 hHeld same7
          (refine wpAnyE_free (i := 13) (o := ?_) ?_ (by kernel_rfl) (by kernel_rfl) (fun K hK => ?_); rotate_left; (focus ((simp only [List.getElem?_toArray, List.getElem?_cons_succ, List.getElem?_cons_zero]; exact rfl))); go_simp; refine hK.out _ _ ?_; clear hK K; (try simp only [Act.put, List.setIfInBounds_toArray, List.set_cons_zero, List.set_cons_succ]))
          refine wpAnyE_done (by kernel_rfl) ?_ _
          have MN : Hid (RnSt p W1 (w7.setCell ⟨p, 0, none⟩ (.slice va (P.length + 1) vc)) (renP f st (j + 1)) wait) := by
            show RnSt _ _ _ _ _
            rw [HPS.out]
            refine ⟨BB.setCell (p := ⟨p, 0, none⟩) (Nat.le_refl _) _, ⟨_, World.cell?_setCell_same _ _ _ r1', ?_, fun b hb => by have := HV7.out b hb; omega⟩, ?_, by rw [World.frozen?_setCell]; exact rf⟩
            · exact rowSame HO7.out (fun b hb => Below.heap_setCell _ _ _ _ (fun e => by have := HV7.out b hb; dsimp only at e; omega))
            · rw [World.cell?_setCell_other _ _ _ _ (fun h => by simp only [Addr.mk.injEq] at h; omega)]
              exact r0
          generalize w7.setCell ⟨p, 0, none⟩ (.slice va (P.length + 1) vc) = w8 at MN ⊢
          go_wp2
          refine ⟨⟨j + 1, by omega, by go_num, MN⟩, by simp [intOf]; omega⟩
        · have hje : j = st.length := by omega
          have hpe : renP f st j = st.map fun y => (f y.1, y.2) := by unfold renP; rw [hje, List.take_length]
          obtain ⟨u, m1, m2, m3⟩ := N.out.v
          have m0 := N.out.c1
          have mf := N.out.f0
          rw [hpe] at m2
          obtain ⟨Q, hQ⟩ : ∃ Q, Q = st.map fun y : Stk => (f y.1, y.2) := ⟨_, rfl⟩
          have hQl : Q.length ≤ 40 := by rw [hQ, List.length_map]; exact hl40
          have HQS : Hid (renStep f (st, wait) = (ordered Q, wait)) := by show _ = _; rw [hQ]; rfl
          rw [← hQ] at m2
          obtain ⟨ua, uc, rfl, hcu, _, _⟩ := m2.reads
          have HCU := Lib.hid hcu
          have EW : Ext wo wr := EP.trans' hbn (by have := HPP.out; omega)
          have zp := cell_lt m1
          dsimp only at zp
          clear hcu m2 m3 N hpe hQ
          go_wp2_with fail
          refine (orderedR_any Q ua uc _ hQl HCU.out).mono ?_
          rintro e w3 ⟨v2, rfl, ho2, hob2, hE3⟩
          obtain ⟨oa, oc, rfl, hoc, hol, hobk⟩ := ho2.reads
          have m1 := hE3.cell m1
          have mf := (Below.frozen (p := ⟨p, 0, none⟩) hE3 zp).trans mf
          have m0 := hE3.cell m0
          have EO : Ext wo w3 := EW.trans hE3
          have hsE := hE3.size
          have EB : Ext wo (w3.setCell ⟨p, 0, none⟩ (.slice oa (ordered Q).length oc)) := EO.set (by have := HPP.out; omega) _
          have hoB : OwnsK (w3.setCell ⟨p, 0, none⟩ (.slice oa (ordered Q).length oc)) (.slice oa (ordered Q).length oc) (ordered Q) :=
            rowSame ho2 (fun b hb => Below.heap_setCell _ _ _ _ (fun e => by have := hob2 b hb; dsimp only at e; omega))
          obtain ⟨_, _, e9, hoc, hol, hobk⟩ := hoB.reads
          cases e9
          have HOC := Lib.hid hoc
          have HOX : Hid (∀ b off, oa = some ⟨b, off, none⟩ → ordered Q ≠ [] → p < b) := fun b off hb hne => by
            have := hob2 b (hobk b off hb hne).2.1; omega
          obtain ⟨ov, n1, n2, n3⟩ := M.out.v
          have n0 := EB.cell M.out.c0
          have nf := (Below.frozen (p := ⟨o, 1, none⟩) EB (cell_lt n1)).trans M.out.f1
          have hoN : ∀ b, ov.ownBlock = some b → b < p := fun b hb => by have := n2.lt hb; have := HPP.out; omega
          have HON := Lib.hid hoN
          have zo1 : o < wo.heap.size := how
          have N1 := Lib.hid (EO.cell n1)
          have n1 := EB.cell n1
          have E6 : Ext wo ((w3.setCell ⟨p, 0, none⟩ (.slice oa (ordered Q).length oc)).alloc (.cells #[.slice oa (ordered Q).length oc, .int .i64 wait] 87)) := EB.alloc _
          have hs6 := E6.size
          have hsB : (w3.setCell ⟨p, 0, none⟩ (.slice oa (ordered Q).length oc)).heap.size = w3.heap.size := by simp [World.setCell]
          have hs7 : ((w3.setCell ⟨p, 0, none⟩ (.slice oa (ordered Q).length oc)).alloc (.cells #[.slice oa (ordered Q).length oc, .int .i64 wait] 87)).heap.size = w3.heap.size + 1 := by go_simp
          have E67 : Ext (w3.setCell ⟨p, 0, none⟩ (.slice oa (ordered Q).length oc)) ((w3.setCell ⟨p, 0, none⟩ (.slice oa (ordered Q).length oc)).alloc (.cells #[.slice oa (ordered Q).length oc, .int .i64 wait] 87)) := (by repeat (first | with_reducible exact Ext.refl _ | with_reducible assumption | with_reducible apply Ext.drewN | with_reducible apply Ext.drew | with_reducible apply Ext.alloc | ((with_reducible refine Ext.set ?_ ?_ _); rotate_left; first | omega | (simp; omega)) | (with_reducible refine Ext.trans ?_ (by with_reducible assumption))))
          obtain ⟨ps, hp1, hp2, hp3⟩ := n2.chg (Chg.ext E6) (fun b hb h => by have := n3 b hb; omega)
          have HN3 := Lib.hid n3
          have HP3 := Lib.hid hp3
          have HPS1 := Lib.hid hp1
          obtain ⟨F, hF⟩ : ∃ F, F = flat2 (pairP ps) := ⟨_, rfl⟩
          rw [← hF] at hp2
          have HFF := Lib.hid hF
          have HP2 := Lib.hid hp2
          have hYl := renK_len f l k
          have MB := Lib.hid hbe
          clear hp1 hp2 hp3 hF n2 n3 M ho2 hoB hoc hobk hob2 hoN hbe hE3 EW HCU
          generalize renK f l k = Y at HMS HPS1 HP2 hYl
          have n1' := N1.out
          have zo2 : o < w3.heap.size := by omega
          go_wp2_with (at_builtin; refine wpList_append1 _ rfl _ _ 22 rfl 87 j0 (.agg #[.slice none 0 0, .int .i64 0]) 2 32 Tryz.underlying22 hj hj0 hj1 hj2 rfl (by decide) ov Y.length F rfl HP2.out ⟨w3.heap.size, 0, none⟩ 1 1 (by decide) [.slice oa (ordered Q).length oc, .int .i64 wait] rfl rfl ?hn ?c1 ?c2 ?c3 ?c4)
          case hn =>
            have hh := cells_one (w3.setCell ⟨p, 0, none⟩ (.slice oa (ordered Q).length oc)) [.slice oa (ordered Q).length oc, .int .i64 wait] 87
            rw [hsB] at hh
            exact hh
          case c1 => intro u hu; simp at hu; rcases hu with rfl | rfl <;> rfl
          case c2 => unfold maxLen; omega
          case c3 => omega
          case c4 =>
            intro v' w7 hown7 hend7
            rw [HFF.out] at hown7
            have O7 : OwnsP (fun b => b ≤ o) w7 v' (Y ++ [(ordered Q, wait)]) := by
              refine OwnsP.app2 (u := .slice oa (ordered Q).length oc) (y := (ordered Q, wait)) HPS1.out HP3.out ?_ (fun b hb => by omega) hown7 hend7
              refine ⟨oa, oc, rfl, (HOC.out.ext E67), hol, fun b off hb hne hx => ?_⟩
              have h1 := HOX.out b off hb hne
              rcases hx with hx | hx
              · omega
              · have h2 := HON.out b hx
                omega
            have hgr := hend7.chg
            have B7 : Below o W w7 := (MB.out.trans (E6.mono (by omega))).trans (hend7.below (n := o) (by omega) (fun b hb => by have := HN3.out b hb; omega))
            have V7 := hend7.ge (n := o + 1) (by omega) (fun b hb => HN3.out b hb)
            have same7 : ∀ (c : Addr) (v : Value), c.block = o → (w3.setCell ⟨p, 0, none⟩ (.slice oa (ordered Q).length oc)).cell? c = some v → w7.cell? c = some v ∧ w7.frozen? c = (w3.setCell ⟨p, 0, none⟩ (.slice oa (ordered Q).length oc)).frozen? c := fun c v hp hc => by
              have h1 := hgr.1 c.block (cell_lt (E67.cell hc)) (fun e => by have := HN3.out _ e; omega)
              exact ⟨(World.cell?_of_block (w := ((w3.setCell ⟨p, 0, none⟩ (.slice oa (ordered Q).length oc)).alloc (.cells #[.slice oa (ordered Q).length oc, .int .i64 wait] 87))) h1).trans (E67.cell hc), (World.frozen?_of_block (w := ((w3.setCell ⟨p, 0, none⟩ (.slice oa (ordered Q).length oc)).alloc (.cells #[.slice oa (ordered Q).length oc, .int .i64 wait] 87))) h1).trans (Below.frozen (p := c) E67 (cell_lt hc))⟩
            obtain ⟨r1, rf0⟩ := same7 ⟨o, 1, none⟩ _ rfl n1
            have r0 := (same7 ⟨o, 0, none⟩ _ rfl n0).1
            have rf := rf0.trans nf
            obtain ⟨va, vc, hvv, _, _⟩ := O7.reads
            have hlen : (Y ++ [(ordered Q, wait)]).length = Y.length + 1 := by rw [List.length_append]; rfl
            rw [hlen] at hvv
            subst hvv
            have HO7 := Lib.hid O7
            have HV7 := Lib.hid V7
            have MN : Hid (TrSt (fun b => b ≤ o) o W (w7.setCell ⟨o, 1, none⟩ (.slice va (Y.length + 1) vc)) n (renK f l (k + 1))) := by
              show TrSt _ _ _ _ _ _
              rw [HMS.out, HQS.out]
              refine ⟨B7.setCell (p := ⟨o, 1, none⟩) (Nat.le_refl _) _, ?_, by rw [World.frozen?_setCell]; exact rf, _, World.cell?_setCell_same _ _ _ r1, HO7.out.chg (Chg.setCell (B := fun b => b ≤ o) ⟨o, 1, none⟩ _ (Nat.le_refl _)) (fun b hb e => by have := HV7.out b hb; omega), fun b hb => by have := HV7.out b hb; omega⟩
              rw [World.cell?_setCell_other _ _ _ _ (fun h => by simp only [Addr.mk.injEq] at h; omega)]
              exact r0
            have rf1 : w7.frozen? ⟨o, 1, none⟩ = false := rf
            clear hown7 hend7 hgr hlen rf0 same7 O7 V7 HPS1 HP2 HP3 HFF MB E67 E6 EB B7 N1 n1'
            go_wp2
            refine ⟨⟨k + 1, by omega, by go_num, MN⟩, by simp [intOf]; omega⟩
    · have hke : k = l.length := by omega
      subst hke
      obtain ⟨v, m1, m2, m3⟩ := M.out.v
      have m0 := M.out.c0
      rw [HRE.out] at m2
      obtain ⟨va, vc, rfl, _, _⟩ := m2.reads
      have d1 := cellB hbe (p := ⟨w.heap.size + 1, 0, none⟩) ho1 c1
      have d2 := cellB hbe (p := ⟨w.heap.size + 1, 1, none⟩) ho1 c2
      have g1 := (Below.frozen (p := ⟨w.heap.size + 1, 0, none⟩) hbe ho1).trans f1
      have g2 := (Below.frozen (p := ⟨w.heap.size + 1, 1, none⟩) hbe ho1).trans f2
      have hc : Chg (fun b => b ≤ o) wo ((wo.setCell ⟨w.heap.size + 1, 0, none⟩ (.int .i64 n)).setCell ⟨w.heap.size + 1, 1, none⟩ (.slice va R.2.length vc)) :=
        (Chg.setCell (B := fun b => b ≤ o) ⟨w.heap.size + 1, 0, none⟩ _ (by show w.heap.size + 1 ≤ o; omega)).trans (Chg.setCell (B := fun b => b ≤ o) ⟨w.heap.size + 1, 1, none⟩ _ (by show w.heap.size + 1 ≤ o; omega))
      have HFO := Lib.hid (m2.chg hc (fun b hb e => by have := m3 b hb; omega))
      have HFV := Lib.hid m3
      have EF : Ext w ((wo.setCell ⟨w.heap.size + 1, 0, none⟩ (.int .i64 n)).setCell ⟨w.heap.size + 1, 1, none⟩ (.slice va R.2.length vc)) := (by repeat (first | with_reducible exact Ext.refl _ | with_reducible assumption | with_reducible apply Ext.drewN | with_reducible apply Ext.drew | with_reducible apply Ext.alloc | ((with_reducible refine Ext.set ?_ ?_ _); rotate_left; first | omega | (simp; omega)) | (with_reducible refine Ext.trans ?_ (by with_reducible assumption))))
      clear m2 m3 M hc hbe HRE
      go_wp2
      refine bodyPost_ret (v := .agg #[.int .i64 n, .slice va R.2.length vc]) (by rw [results_cell1 rfl]; go_simp) rfl ⟨o, _, by omega, by rw [HR1.out], HFO.out, HFV.out, EF⟩
end Go.Proofs.YtnhbogmihnnpjaaGreat
/- The reference's Letters. -/
namespace Go.Proofs.YtnhbogmihnnpjaaGreat
open Go.RowKit

def cntB (l : List Stp) (A : Int) (B : Nat) : Nat := ((ints (B : Int)).filter fun b => bf l b A).length
theorem cntB_succ (l : List Stp) (A : Int) (B : Nat) : cntB l A (B + 1) = cntB l A B + if bf l (B : Int) A then 1 else 0 := by
  unfold cntB
  rw [ints_succ, List.filter_append, List.length_append]
  congr 1
  cases h : bf l (B : Int) A <;> simp [h]
theorem cntB_le (l : List Stp) (A : Int) (B : Nat) : cntB l A B ≤ B := by
  unfold cntB
  refine Nat.le_trans (List.length_filter_le _ _) ?_
  simp [ints]
def letK (N : Nat) (l : List Stp) (A : Nat) : List Int := (ints (A : Int)).map (letterOf ((N : Int), l))
theorem letK_succ (N : Nat) (l : List Stp) (A : Nat) : letK N l (A + 1) = letK N l A ++ [(cntB l (A : Int) N : Int)] := by
  unfold letK; rw [ints_succ, List.map_append]; rfl
theorem letK_len (N : Nat) (l : List Stp) (A : Nat) : (letK N l A).length ≤ A := by simp [letK, ints]

set_option maxHeartbeats 8000000 in
set_option maxRecDepth 100000 in
theorem LettersR_any (N : Nat) (l : List Stp) (a : Option Addr) (cap : Nat) (w : World) (hl : l.length ≤ 200) (hc : CellsP w a l) (hN : N ≤ 6) :
    Calls Tryz.prog 69 #[.agg #[.int .i64 (N : Int), .slice a l.length cap]] w (OwnIPost (lettersOf ((N : Int), l)) w) := by
  have HC := Lib.hid hc
  clear hc
  obtain ⟨R, hR⟩ : ∃ R, R = lettersOf ((N : Int), l) := ⟨_, rfl⟩
  have HRR : Hid (letK N l N = R) := hR.symm
  rw [← hR]
  clear hR
  obtain ⟨i0, hi, hi0, hi1, hi2⟩ := info_parts infoInt
  go_enter Tryz.func69, Tryz.ntmps69
  go_wp2
  have E1 : Ext w (w.alloc (.cells #[.int .i64 (N : Int), .slice a l.length cap] 24)) := (by repeat (first | with_reducible exact Ext.refl _ | with_reducible assumption | with_reducible apply Ext.drewN | with_reducible apply Ext.drew | with_reducible apply Ext.alloc | ((with_reducible refine Ext.set ?_ ?_ _); rotate_left; first | omega | (simp; omega)) | (with_reducible refine Ext.trans ?_ (by with_reducible assumption))))
  have c0 : (w.alloc (.cells #[.int .i64 (N : Int), .slice a l.length cap] 24)).cell? ⟨w.heap.size, 0, none⟩ = some (.int .i64 (N : Int)) := by go_simp
  have c1 : (w.alloc (.cells #[.int .i64 (N : Int), .slice a l.length cap] 24)).cell? ⟨w.heap.size, 1, none⟩ = some (.slice a l.length cap) := by go_simp
  generalize w.alloc (.cells #[.int .i64 (N : Int), .slice a l.length cap] 24) = W at E1 c0 c1 ⊢
  have hW := E1.size
  go_loopw [4, 3] (fun i v wr => ∃ A : Nat, A ≤ N ∧ i = .int .i64 A ∧ (∃ vv, v = vv ∧ Hid (OwnsI wr vv (letK N l A) ∧ ∀ b, vv.ownBlock = some b → W.heap.size ≤ b)) ∧ Ext W wr) (fun i _ _ => N - (intOf i).toNat)
  case atStart => exact ⟨0, Nat.zero_le _, rfl, ⟨_, rfl, OwnsI.nil _, fun b hb => by cases hb⟩, Ext.refl _⟩
  case round =>
    obtain ⟨A, hA, rfl, ⟨vv, hvv, hO⟩, he⟩ := hrel
    obtain rfl := hvv.symm
    obtain ⟨wo, hwo⟩ : ∃ wo : World, wo = wr := ⟨_, rfl⟩
    subst hwo
    have d0 := he.cell c0
    have d1 := he.cell c1
    by_cases hlt : A < N
    · have hlti : (A : Int) < (N : Int) := by omega
      go_wp2
      (try simp only [decide_eq_true hlti])
      have HB0 := Lib.hid hO.out.2
      have HO0 := Lib.hid hO.out.1
      clear hO
      go_loopw [6, 5] (fun i v wr => ∃ B : Nat, B ≤ N ∧ i = .int .i64 B ∧ (∃ q : Int, v = .int .i64 q ∧ Hid (q = (cntB l (A : Int) B : Nat))) ∧ Ext wo wr) (fun i _ _ => N - (intOf i).toNat)
      case atStart => exact ⟨0, Nat.zero_le _, rfl, ⟨0, rfl, by show (0 : Int) = _; rfl⟩, Ext.refl _⟩
      case round =>
        obtain ⟨B, hB, rfl, ⟨q, rfl, hq⟩, hE⟩ := hrel
        have d0 := hE.cell d0
        have d1 := hE.cell d1
        by_cases hblt : B < N
        · have hz1 := cell_lt d0
          dsimp only at hz1
          have HCW := Lib.hid (HC.out.ext (E1.trans (he.trans hE)))
          go_wp2
          go_region_held3 (fun w' => Sees wr w') ((repeat (first | exact Sees.refl _ | assumption | apply Sees.drew | apply Sees.alloc | (refine Sees.ext ?_ (by assumption))))) (first | (go_at_call 98; have hprev := hvB; refine Calls.mono (StepsR_any _ l _ a cap _ hl (HCW.out.ext (show Sees wr _ by assumption).2.2)) ?_; rintro e wA ⟨vA, rfl, hvA, hbA, hEA⟩) | (go_at_call 98; refine Calls.mono (StepsR_any _ l _ a cap _ hl (HCW.out.ext (show Sees wr _ by assumption).2.2)) ?_; rintro e wB ⟨vB, rfl, hvB, hbB, hEB⟩))
          have hSee := (show Sees wr wA by assumption)
          have E5 : Ext wo wA := hE.trans hSee.2.2
          obtain ⟨ba, bc, rfl, hcB, hlB⟩ := hvB.reads
          obtain ⟨aa, ac, rfl, hcA, hlA⟩ := hvA.reads
          have HCB := Lib.hid (hcB.ext hEA)
          have HCA := Lib.hid hcA
          have HLB := Lib.hid hlB
          have HLA := Lib.hid hlA
          have HS := Lib.hid (cntB_succ l (A : Int) B)
          have hbf : bf l (B : Int) (A : Int) = (lexLt (movesOf l (B : Int)) (movesOf l (A : Int)) || (decide ((B : Int) < (A : Int)) && (movesOf l (B : Int) == movesOf l (A : Int)))) := rfl
          rw [hbf] at HS
          have hq0 : 0 ≤ q ∧ q ≤ 6 := by have h1 := hq.out; have h2 := cntB_le l (A : Int) B; omega
          have hwq : IntKind.i64.wrap (q + 1) = q + 1 := IntWalk.i64_in _ (by omega)
          rename_i hH
          clear hSee hH hcB hcA hlB hlA hvB hvA hbB hbA hEB hEA hprev hbf HCW d0 d1 hz1
          generalize movesOf l (B : Int) = X at HCB HLB HS
          generalize movesOf l (A : Int) = Y at HCA HLA HS
          go_wp2_with fail
          refine (lessR_any X Y ba aa bc ac _ HLB.out HCB.out HLA.out HCA.out).mono ?_
          rintro e w7 ⟨rfl, hE7⟩
          have HCB := Lib.hid (HCB.out.ext hE7)
          have HCA := Lib.hid (HCA.out.ext hE7)
          have E7 := E5.trans hE7
          clear E5 hE7
          cases hlx : lexLt X Y
          · rw [hlx, Bool.false_or] at HS
            by_cases hba : (B : Int) < (A : Int)
            · rw [decide_eq_true hba, Bool.true_and] at HS
              go_wp2_with fail
              refine (SameInts_any X Y ba aa bc ac _ HLB.out HCB.out HLA.out HCA.out).mono ?_
              rintro e w8 ⟨rfl, hE8⟩
              have E8 := E7.trans hE8
              clear E7 hE8
              by_cases hxy : X = Y
              · have HS2 : Hid (q + 1 = (cntB l (A : Int) (B + 1) : Nat)) := by
                  show _ = _
                  rw [HS.out, if_pos (by simp [hxy]), hq.out]; rfl
                rw [decide_eq_true hxy]
                clear HS hq hxy hlx
                go_wp2
                refine ⟨⟨B + 1, by omega, by go_num, ⟨_, rfl, HS2⟩, E8⟩, by simp [intOf]; omega⟩
              · have HS2 : Hid (q = (cntB l (A : Int) (B + 1) : Nat)) := by
                  show _ = _
                  rw [HS.out, if_neg (by simp [hxy]), hq.out]; rfl
                rw [decide_eq_false hxy]
                clear HS hq hxy hlx
                go_wp2
                refine ⟨⟨B + 1, by omega, by go_num, ⟨_, rfl, HS2⟩, E8⟩, by simp [intOf]; omega⟩
            · have HS2 : Hid (q = (cntB l (A : Int) (B + 1) : Nat)) := by
                show _ = _
                rw [HS.out, decide_eq_false hba, Bool.false_and, if_neg (by simp), hq.out]; rfl
              clear HS hq hlx
              go_wp2
              refine ⟨⟨B + 1, by omega, by go_num, ⟨_, rfl, HS2⟩, E7⟩, by simp [intOf]; omega⟩
          · have HS2 : Hid (q + 1 = (cntB l (A : Int) (B + 1) : Nat)) := by
              show _ = _
              rw [HS.out, hlx, Bool.true_or, if_pos rfl, hq.out]; rfl
            clear HS hq hlx
            go_wp2
            refine ⟨⟨B + 1, by omega, by go_num, ⟨_, rfl, HS2⟩, E7⟩, by simp [intOf]; omega⟩
        · have hBN : B = N := by omega
          subst hBN
          have HQ : Hid (q = (cntB l (A : Int) B : Nat)) := hq
          have HLS := Lib.hid (letK_succ B l A)
          have hYl := letK_len B l A
          have HOW := Lib.hid (HO0.out.ext hE)
          have hsE := hE.size
          have hsE2 := he.size
          have E5 := he.trans hE
          have hLT : Hid (∀ b, vv.ownBlock = some b → W.heap.size ≤ b) := HB0
          rw [← HQ.out] at HLS
          generalize letK B l A = P at HLS hYl HOW
          clear hq HQ HO0
          go_wp2_with (at_builtin; refine wpList_append1 _ rfl _ _ 27 rfl 3 i0 (.int .i64 0) 1 8 Tryz.underlying27 hi hi0 hi1 hi2 rfl (by decide) vv P.length (P.map (Value.int .i64)) rfl ?ho ⟨wr.heap.size, 0, none⟩ 1 1 (by decide) [.int .i64 q] rfl rfl ?hn ?c1 ?c2 ?c3 ?c4)
          case ho => exact HOW.out.ext ((Ext.refl _).alloc _)
          case hn => exact cells_one _ _ _
          case c1 => intro u hu; simp at hu; subst hu; rfl
          case c2 => unfold maxLen; omega
          case c3 => omega
          case c4 =>
            intro v' w5 hown5 hend5
            have O5 : Hid (OwnsI w5 v' (letK B l (A + 1))) := by show OwnsI _ _ _; rw [HLS.out]; exact ownsI_succ hown5
            have B5 : Ext W w5 := (E5.trans ((Ext.refl _).alloc _)).trans' (hend5.below (n := W.heap.size) (by simp; omega) HB0.out) (Nat.le_refl _)
            have OB5 : Hid (∀ b, v'.ownBlock = some b → W.heap.size ≤ b) := hend5.ge (n := W.heap.size) (by simp; omega) HB0.out
            clear hown5 hend5 HOW HB0
            go_wp2
            refine ⟨⟨A + 1, by omega, by go_num, ⟨v', rfl, O5.out, OB5.out⟩, B5⟩, by simp [intOf]; omega⟩
    · have hAN : A = N := by omega
      subst hAN
      have HO1 := Lib.hid hO.out.1
      have HO2 := Lib.hid hO.out.2
      rw [HRR.out] at HO1
      clear hO
      go_wp2
      go_ret
      exact ⟨_, rfl, HO1.out, fun b hb => by have := HO2.out b hb; omega, E1.trans he⟩
end Go.Proofs.YtnhbogmihnnpjaaGreat
/- The reference's Standard, Rename, Alike. -/
namespace Go.Proofs.YtnhbogmihnnpjaaGreat
open Go.RowKit

/-- what Renamed asks of the steps -/
theorem Fine.renIn {n : Int} {l : List Stp} (h : Fine n l) {m : Int} (hm : n ≤ m) : ∀ k, k < l.length → (l.getD k stp0).1.length ≤ 40 ∧ ∀ j, j < (l.getD k stp0).1.length → 0 ≤ ((l.getD k stp0).1.getD j stk0).1 ∧ ((l.getD k stp0).1.getD j stk0).1 < m := fun k hk => by
  obtain ⟨h1, h2⟩ := h k hk
  have := (ckStep_strokes h1).2.1
  exact ⟨by omega, fun j hj => ⟨(h2 j hj).1, by have := (h2 j hj).2; omega⟩⟩
set_option maxHeartbeats 4000000 in
set_option maxRecDepth 100000 in
theorem StandardR_any (n : Int) (l : List Stp) (a : Option Addr) (cap : Nat) (w : World) (hl : l.length ≤ maxLen) (hc : CellsP w a l) :
    Calls Tryz.prog 35 #[.agg #[.int .i64 n, .slice a l.length cap]] w (StdPost (if ckSeq (n, l) = 0 then standard (n, l) else sq0) (if ckSeq (n, l) = 0 then lettersOf (n, l) else []) (ckSeq (n, l)) w) := by
  have HC := Lib.hid hc
  have HL := Lib.hid hl
  obtain ⟨er, her⟩ : ∃ er, er = ckSeq (n, l) := ⟨_, rfl⟩
  obtain ⟨R, hR⟩ : ∃ R, R = (if ckSeq (n, l) = 0 then standard (n, l) else sq0) := ⟨_, rfl⟩
  obtain ⟨T, hT⟩ : ∃ T, T = (if ckSeq (n, l) = 0 then lettersOf (n, l) else []) := ⟨_, rfl⟩
  rw [← hR, ← hT, ← her]
  have HER := Lib.hid her
  have HR := Lib.hid hR
  have HT := Lib.hid hT
  clear hc hl her hR hT
  go_enter Tryz.func35, Tryz.ntmps35
  go_wp2_with fail
  have E1 : Ext w ((w.alloc (.cells #[.int .i64 n, .slice a l.length cap] 24)).alloc (.cells #[.int .i64 0, .slice none 0 0] 24)) := (by repeat (first | with_reducible exact Ext.refl _ | with_reducible assumption | with_reducible apply Ext.drewN | with_reducible apply Ext.drew | with_reducible apply Ext.alloc | ((with_reducible refine Ext.set ?_ ?_ _); rotate_left; first | omega | (simp; omega)) | (with_reducible refine Ext.trans ?_ (by with_reducible assumption))))
  have c0 : ((w.alloc (.cells #[.int .i64 n, .slice a l.length cap] 24)).alloc (.cells #[.int .i64 0, .slice none 0 0] 24)).cell? ⟨w.heap.size, 0, none⟩ = some (.int .i64 n) := by go_simp
  have c1 : ((w.alloc (.cells #[.int .i64 n, .slice a l.length cap] 24)).alloc (.cells #[.int .i64 0, .slice none 0 0] 24)).cell? ⟨w.heap.size, 1, none⟩ = some (.slice a l.length cap) := by go_simp
  have c2 : ((w.alloc (.cells #[.int .i64 n, .slice a l.length cap] 24)).alloc (.cells #[.int .i64 0, .slice none 0 0] 24)).cell? ⟨w.heap.size + 1, 0, none⟩ = some (.int .i64 0) := by go_simp
  have c3 : ((w.alloc (.cells #[.int .i64 n, .slice a l.length cap] 24)).alloc (.cells #[.int .i64 0, .slice none 0 0] 24)).cell? ⟨w.heap.size + 1, 1, none⟩ = some (.slice none 0 0) := by go_simp
  have d2 : ((w.alloc (.cells #[.int .i64 n, .slice a l.length cap] 24)).alloc (.cells #[.int .i64 0, .slice none 0 0] 24)).frozen? ⟨w.heap.size + 1, 0, none⟩ = false := by go_simp
  have d3 : ((w.alloc (.cells #[.int .i64 n, .slice a l.length cap] 24)).alloc (.cells #[.int .i64 0, .slice none 0 0] 24)).frozen? ⟨w.heap.size + 1, 1, none⟩ = false := by go_simp
  generalize ((w.alloc (.cells #[.int .i64 n, .slice a l.length cap] 24)).alloc (.cells #[.int .i64 0, .slice none 0 0] 24)) = W at E1 c0 c1 c2 c3 d2 d3 ⊢
  refine (CheckR_any n l a cap _ HL.out (HC.out.ext E1)).mono ?_
  rintro e w1 ⟨rfl, hE⟩
  rw [← HER.out]
  have E2 := E1.trans hE
  have d2 := (Below.frozen (p := ⟨w.heap.size + 1, 0, none⟩) hE (cell_lt c2)).trans d2
  have d3 := (Below.frozen (p := ⟨w.heap.size + 1, 1, none⟩) hE (cell_lt c3)).trans d3
  have c0 := hE.cell c0
  have c1 := hE.cell c1
  have c2 := hE.cell c2
  have c3 := hE.cell c3
  have hz1 := cell_lt c2
  dsimp only at hz1
  clear hE E1
  by_cases h1 : er = 0
  · have hck : ckSeq (n, l) = 0 := HER.out.symm.trans h1
    obtain ⟨hN1, hN6, hl0, hl64, hwk, _, _⟩ := ckSeq_zero hck
    obtain ⟨N, rfl⟩ := Int.eq_ofNat_of_zero_le (show 0 ≤ n by omega)
    have HFI := Lib.hid (ckWalk_fine hwk)
    have hrr := HR.out
    have htt := HT.out
    rw [if_pos hck] at hrr htt
    have hRR : R = ren (listFn T) ((N : Int), l) := by rw [hrr, htt]; rfl
    have HRR := Lib.hid hRR
    have HTT := Lib.hid htt
    have hTl : T.length = N := by rw [htt, lettersOf_len]; rfl
    have hTl6 : T.length ≤ 1000 := by omega
    have HTL := Lib.hid hTl
    subst h1
    clear hwk hck hrr htt hRR HR HT HER hTl
    go_wp2_with fail
    refine (LettersR_any N l a cap _ (by omega) (HC.out.ext E2) (by omega)).mono ?_
    rintro e w3 ⟨v, rfl, hv, hvb, hE⟩
    rw [← HTT.out] at hv
    obtain ⟨ta, tc, rfl, ht, htm⟩ := hv.reads
    have HTA := Lib.hid ht
    have HTM := Lib.hid htm
    have E3 := E2.trans hE
    have d2 := (Below.frozen (p := ⟨w.heap.size + 1, 0, none⟩) hE (cell_lt c2)).trans d2
    have d3 := (Below.frozen (p := ⟨w.heap.size + 1, 1, none⟩) hE (cell_lt c3)).trans d3
    have HV := Lib.hid hv
    have HVB := Lib.hid hvb
    have c0 := hE.cell c0
    have c1 := hE.cell c1
    have hz3 := hE.size
    have c2 := hE.cell c2
    have c3 := hE.cell c3
    clear hE ht htm hv hvb E2
    go_wp2_with fail
    have hT7 := HTL.out
    refine (RenamedR_any (N : Int) l a cap T ta tc _ (by omega) (HC.out.ext E3) HTA.out hTl6 (by rw [HTL.out]; exact HFI.out.renIn (Int.le_refl _))).mono ?_
    rintro e w4 ⟨o, u, hoo, rfl, hu, hub, hE⟩
    rw [← HRR.out] at hu ⊢
    obtain ⟨ua, uc, rfl, _, _⟩ := hu.reads
    have HU := Lib.hid hu
    have HUB := Lib.hid hub
    have HV := Lib.hid (HV.out.ext hE)
    have E4 := E3.trans hE
    have d2 := (Below.frozen (p := ⟨w.heap.size + 1, 0, none⟩) hE (cell_lt c2)).trans d2
    have d3 := (Below.frozen (p := ⟨w.heap.size + 1, 1, none⟩) hE (cell_lt c3)).trans d3
    have c2 := hE.cell c2
    have c3 := hE.cell c3
    have hz2 := hE.size
    clear hE hu hub E3 hT7
    have EF : Ext w ((w4.setCell ⟨w.heap.size + 1, 0, none⟩ (.int .i64 R.1)).setCell ⟨w.heap.size + 1, 1, none⟩ (.slice ua R.2.length uc)) := (E4.set (by omega) _).set (by omega) _
    have hF1 : Hid (SeqV ((w4.setCell ⟨w.heap.size + 1, 0, none⟩ (.int .i64 R.1)).setCell ⟨w.heap.size + 1, 1, none⟩ (.slice ua R.2.length uc)) (.agg #[.int .i64 R.1, .slice ua R.2.length uc]) R) :=
      ⟨_, rfl, (HU.out.chg ((Chg.setCell (B := fun b => b ≤ o) ⟨w.heap.size + 1, 0, none⟩ (.int .i64 R.1) (by show w.heap.size + 1 ≤ o; omega)).trans (Chg.setCell (B := fun b => b ≤ o) ⟨w.heap.size + 1, 1, none⟩ (.slice ua R.2.length uc) (by show w.heap.size + 1 ≤ o; omega))) (fun b hb e => by have := HUB.out b hb; omega)).reads⟩
    have hvx : OwnsI ((w4.setCell ⟨w.heap.size + 1, 0, none⟩ (.int .i64 R.1)).setCell ⟨w.heap.size + 1, 1, none⟩ (.slice ua R.2.length uc)) (.slice ta T.length tc) T :=
      rowSame HV.out (fun b hb => by
        have h9 := HVB.out b hb
        refine (Below.heap_setCell _ _ _ _ (fun e => ?_)).trans (Below.heap_setCell _ _ _ _ (fun e => ?_)) <;> dsimp only at e <;> omega)
    obtain ⟨_, _, e9, hvx, _⟩ := hvx.reads
    cases e9
    have HVX := Lib.hid hvx
    clear hvx HU HV HUB HVB
    go_wp2
    refine bodyPost_ret (v := .tuple #[.agg #[.int .i64 R.1, .slice ua R.2.length uc], .slice ta T.length tc, .int .i64 0]) (by rw [results_cell_tmp2s rfl]; go_simp) rfl ⟨_, _, _, rfl, hF1.out, HVX.out, HTM.out, EF⟩
  · have hck : ¬ ckSeq (n, l) = 0 := fun h => h1 (HER.out.trans h)
    have HRT : Hid (R = sq0 ∧ T = []) := by
      have e1 := HR.out
      have e2 := HT.out
      rw [if_neg hck] at e1 e2
      exact ⟨e1, e2⟩
    have EF : Ext w ((w1.setCell ⟨w.heap.size + 1, 0, none⟩ (.int .i64 0)).setCell ⟨w.heap.size + 1, 1, none⟩ (.slice none 0 0)) := (E2.set (by omega) _).set (by omega) _
    clear HR HT HER hck
    go_wp2
    refine bodyPost_ret (v := .tuple #[.agg #[.int .i64 0, .slice none 0 0], .slice none 0 0, .int .i64 er]) (by rw [results_cell_tmp2s rfl]; go_simp) rfl ?_
    rw [HRT.out.1, HRT.out.2]
    exact ⟨_, none, 0, rfl, seqV_zero _, fun i hi => by simp at hi, by simp, EF⟩
end Go.Proofs.YtnhbogmihnnpjaaGreat
/- The reference's Alike. -/
namespace Go.Proofs.YtnhbogmihnnpjaaGreat
open Go.RowKit

set_option maxHeartbeats 8000000 in
set_option maxRecDepth 100000 in
theorem AlikeR_any (n m : Int) (l q : List Stp) (a b : Option Addr) (ca cb : Nat) (w : World) (hl : l.length ≤ maxLen) (hc : CellsP w a l) (hq : q.length ≤ maxLen) (hd : CellsP w b q) :
    Calls Tryz.prog 29 #[.agg #[.int .i64 n, .slice a l.length ca], .agg #[.int .i64 m, .slice b q.length cb]] w fun r w' => r = .returned (.tuple #[.bool (alikeB (n, l) (m, q)), .int .i64 (alikeE (n, l) (m, q))]) ∧ Ext w w' := by
  obtain ⟨er, bo, h1, h2, hr⟩ : ∃ er bo, alikeE (n, l) (m, q) = er ∧ alikeB (n, l) (m, q) = bo ∧ ((ckSeq (n, l) ≠ 0 ∧ er = ckSeq (n, l) ∧ bo = false) ∨ (ckSeq (n, l) = 0 ∧ ((ckSeq (m, q) ≠ 0 ∧ er = ckSeq (m, q) ∧ bo = false) ∨ (ckSeq (m, q) = 0 ∧ er = 0 ∧ bo = decide (standard (n, l) = standard (m, q)))))) := by
    refine ⟨_, _, rfl, rfl, ?_⟩
    unfold alikeE alikeB
    by_cases h1 : ckSeq (n, l) = 0
    · by_cases h2 : ckSeq (m, q) = 0
      · exact .inr ⟨h1, .inr ⟨h2, by simp [h1, h2], by simp [h1, h2]⟩⟩
      · exact .inr ⟨h1, .inl ⟨h2, by simp [h1], by simp [h2]⟩⟩
    · exact .inl ⟨h1, by simp [h1], by simp [h1]⟩
  rw [h1, h2]
  have HC := Lib.hid hc
  have HL := Lib.hid hl
  have HD := Lib.hid hd
  have HQ := Lib.hid hq
  have HR := Lib.hid hr
  obtain ⟨ck, hck⟩ : ∃ ck, ck = ckSeq (n, l) := ⟨_, rfl⟩
  obtain ⟨dk, hdk⟩ : ∃ dk, dk = ckSeq (m, q) := ⟨_, rfl⟩
  have HCK := Lib.hid hck
  have HDK := Lib.hid hdk
  clear hc hd hl hq h1 h2 hr hck hdk
  go_enter Tryz.func29, Tryz.ntmps29
  go_wp2_with fail
  have E1 : Ext w ((w.alloc (.cells #[.int .i64 n, .slice a l.length ca] 24)).alloc (.cells #[.int .i64 m, .slice b q.length cb] 24)) := (by repeat (first | with_reducible exact Ext.refl _ | with_reducible assumption | with_reducible apply Ext.drewN | with_reducible apply Ext.drew | with_reducible apply Ext.alloc | ((with_reducible refine Ext.set ?_ ?_ _); rotate_left; first | omega | (simp; omega)) | (with_reducible refine Ext.trans ?_ (by with_reducible assumption))))
  have a0 : (((w.alloc (.cells #[.int .i64 n, .slice a l.length ca] 24)).alloc (.cells #[.int .i64 m, .slice b q.length cb] 24))).cell? ⟨w.heap.size, 0, none⟩ = some (.int .i64 n) := by go_simp
  have a1 : (((w.alloc (.cells #[.int .i64 n, .slice a l.length ca] 24)).alloc (.cells #[.int .i64 m, .slice b q.length cb] 24))).cell? ⟨w.heap.size, 1, none⟩ = some (.slice a l.length ca) := by go_simp
  have b0 : (((w.alloc (.cells #[.int .i64 n, .slice a l.length ca] 24)).alloc (.cells #[.int .i64 m, .slice b q.length cb] 24))).cell? ⟨w.heap.size + 1, 0, none⟩ = some (.int .i64 m) := by go_simp
  have b1 : (((w.alloc (.cells #[.int .i64 n, .slice a l.length ca] 24)).alloc (.cells #[.int .i64 m, .slice b q.length cb] 24))).cell? ⟨w.heap.size + 1, 1, none⟩ = some (.slice b q.length cb) := by go_simp
  generalize ((w.alloc (.cells #[.int .i64 n, .slice a l.length ca] 24)).alloc (.cells #[.int .i64 m, .slice b q.length cb] 24)) = W at E1 a0 a1 b0 b1 ⊢
  refine (CheckR_any n l a ca _ HL.out (HC.out.ext E1)).mono ?_
  rintro e w1 ⟨rfl, hE⟩
  rw [← HCK.out]
  have E2 := E1.trans hE
  have a0 := (hE).cell a0
  have a1 := (hE).cell a1
  have b0 := (hE).cell b0
  have b1 := (hE).cell b1
  clear hE E1
  by_cases h1 : ck = 0
  · subst h1
    have z1 := cell_lt b0
    dsimp only at z1
    go_wp2_with fail
    refine (CheckR_any m q b cb _ HQ.out (HD.out.ext E2)).mono ?_
    rintro e w2 ⟨rfl, hE⟩
    rw [← HDK.out]
    have E3 := E2.trans hE
    have a0 := (hE).cell a0
    have a1 := (hE).cell a1
    have b0 := (hE).cell b0
    have b1 := (hE).cell b1
    clear hE E2
    by_cases h2 : dk = 0
    · subst h2
      have k1 : ckSeq (n, l) = 0 := HCK.out.symm
      have k2 : ckSeq (m, q) = 0 := HDK.out.symm
      rcases HR.out with ⟨h3, _⟩ | ⟨_, ⟨h3, _⟩ | ⟨_, rfl, h3⟩⟩
      · exact absurd k1 h3
      · exact absurd k2 h3
      obtain ⟨hN1, hN6, hl0, hl64, hwk, _, _⟩ := ckSeq_zero k1
      obtain ⟨hM1, hM6, hq0, hq64, hwq, _, _⟩ := ckSeq_zero k2
      obtain ⟨N, rfl⟩ := Int.eq_ofNat_of_zero_le (show 0 ≤ n by omega)
      obtain ⟨M, rfl⟩ := Int.eq_ofNat_of_zero_le (show 0 ≤ m by omega)
      have HB := Lib.hid h3
      have G1 : Hid (∀ k, k < l.length → (l.getD k stp0).1.length ≤ 40 ∧ ∀ j, j < (l.getD k stp0).1.length → 0 ≤ ((l.getD k stp0).1.getD j stk0).1 ∧ ((l.getD k stp0).1.getD j stk0).1 < ((lettersOf ((N : Int), l)).length : Int)) := by
        show ∀ k, _
        rw [lettersOf_len]
        exact (ckWalk_fine hwk).renIn (by omega)
      have G2 : Hid (∀ k, k < q.length → (q.getD k stp0).1.length ≤ 40 ∧ ∀ j, j < (q.getD k stp0).1.length → 0 ≤ ((q.getD k stp0).1.getD j stk0).1 ∧ ((q.getD k stp0).1.getD j stk0).1 < ((lettersOf ((M : Int), q)).length : Int)) := by
        show ∀ k, _
        rw [lettersOf_len]
        exact (ckWalk_fine hwq).renIn (by omega)
      have G3 : Hid ((lettersOf ((N : Int), l)).length ≤ 1000) := by show _ ≤ _; rw [lettersOf_len]; omega
      have G4 : Hid ((lettersOf ((M : Int), q)).length ≤ 1000) := by show _ ≤ _; rw [lettersOf_len]; omega
      have hS1 : ren (listFn (lettersOf ((N : Int), l))) ((N : Int), l) = standard ((N : Int), l) := rfl
      have hS2 : ren (listFn (lettersOf ((M : Int), q))) ((M : Int), q) = standard ((M : Int), q) := rfl
      have S1 := Lib.hid hS1
      have S2 := Lib.hid hS2
      have L1 := Lib.hid (fun W h => LettersR_any N l a ca W (by omega) h (by omega))
      have L2 := Lib.hid (fun W h => LettersR_any M q b cb W (by omega) h (by omega))
      have HCW := Lib.hid (HC.out.ext E3)
      have HDW := Lib.hid (HD.out.ext E3)
      have hl200 : l.length ≤ 200 := by omega
      have hq200 : q.length ≤ 200 := by omega
      clear hS1 hS2 hwk hwq k1 k2 HR h3
      generalize standard ((N : Int), l) = X at HB S1
      generalize standard ((M : Int), q) = Y at HB S2
      generalize lettersOf ((N : Int), l) = TA at G1 G3 S1 L1
      generalize lettersOf ((M : Int), q) = TB at G2 G4 S2 L2
      have HBB : Hid ((decide (X.1 = Y.1) && decide (X.2 = Y.2)) = bo) := by
        show _ = _
        rw [HB.out]
        by_cases h : X = Y
        · subst h; simp
        · rw [decide_eq_false h]
          by_cases h1 : X.1 = Y.1
          · by_cases h2 : X.2 = Y.2
            · exact absurd (Prod.ext h1 h2) h
            · simp [h2]
          · simp [h1]
      clear HB
      have z2 := cell_lt a0
      have z3 := cell_lt b0
      dsimp only at z2 z3
      go_wp2
      go_region_held3 (fun w' => Sees w2 w') ((repeat (first | exact Sees.refl _ | assumption | apply Sees.drew | apply Sees.alloc | (refine Sees.ext ?_ (by assumption))))) (first
        | (go_at_call 18; refine (SameQ_any X.1 Y.1 X.2 Y.2 ua va uc vc _ hul.out hu1.out hvl.out hv1.out).mono ?_; rintro e w' ⟨rfl, hE⟩)
        | (go_at_call 68; have hg := htb1; refine (RenamedR_any (M : Int) q b cb TB tb tbc _ hq200 (HDW.out.ext (by exact (show Sees w2 _ by assumption).2.2)) htb1.out G4.out G2.out).mono ?_; rintro e w' ⟨o2, u2, ho2, rfl, hu2, hub2, hE⟩; rw [S2.out] at hu2 ⊢; obtain ⟨va, vc, rfl, hvc, hvm⟩ := hu2.reads; have hv1 := Lib.hid hvc; have hvl := Lib.hid hvm; have hu1 := Lib.hid (hu1.out.ext hE); clear hu2 hub2 hvc hvm ho2)
        | (go_at_call 69; have hg := hul; refine (L2.out _ (HDW.out.ext (by exact (show Sees w2 _ by assumption).2.2))).mono ?_; rintro e w' ⟨v2, rfl, hv2, hvb2, hE⟩; obtain ⟨tb, tbc, rfl, ht2, htm2⟩ := hv2.reads; have htb1 := Lib.hid ht2; have hu1 := Lib.hid (hu1.out.ext hE); clear hv2 hvb2 ht2 htm2)
        | (go_at_call 68; refine (RenamedR_any (N : Int) l a ca TA ta tac _ hl200 (HCW.out.ext (by exact (show Sees w2 _ by assumption).2.2)) hta1.out G3.out G1.out).mono ?_; rintro e w' ⟨o, u, ho, rfl, hu, hub, hE⟩; rw [S1.out] at hu ⊢; obtain ⟨ua, uc, rfl, huc, hum⟩ := hu.reads; have hu1 := Lib.hid huc; have hul := Lib.hid hum; clear hu hub huc hum ho)
        | (go_at_call 69; refine (L1.out _ (HCW.out.ext (by exact (show Sees w2 _ by assumption).2.2))).mono ?_; rintro e w' ⟨v1, rfl, hv1', hvb1, hE⟩; obtain ⟨ta, tac, rfl, ht1, htm1⟩ := hv1'.reads; have hta1 := Lib.hid ht1; clear hv1' hvb1 ht1 htm1))
      have hSee : Sees w2 w' := by assumption
      have E5 : Ext w w' := E3.trans hSee.2.2
      clear hSee
      rw [HBB.out]
      go_wp2
      go_ret2
      exact ⟨rfl, E5⟩
    · have hn : (dk != 0) = true := by simp [h2]
      rcases HR.out with ⟨h3, _⟩ | ⟨_, ⟨_, h4, h5⟩ | ⟨h3, _, _⟩⟩
      · exact absurd HCK.out.symm h3
      · replace h4 : er = dk := h4.trans HDK.out.symm
        subst h4
        subst h5
        clear h2 HR HDK
        go_wp2
        go_ret2
        exact ⟨rfl, E3⟩
      · exact absurd (HDK.out.trans h3) h2
  · have hn : (ck != 0) = true := by simp [h1]
    rcases HR.out with ⟨_, h4, h5⟩ | ⟨h3, _⟩
    · replace h4 : er = ck := h4.trans HCK.out.symm
      subst h4
      subst h5
      clear h1 HR HCK
      go_wp2
      go_ret2
      exact ⟨rfl, E2⟩
    · exact absurd (HCK.out.trans h3) h1
end Go.Proofs.YtnhbogmihnnpjaaGreat
/- The law VariantCompares: its walk. -/
namespace Go.Proofs.YtnhbogmihnnpjaaGreat
open Go.RowKit

theorem cellsQ_pair {w : World} {n m : Int} {l q : List Stp} {a b : Option Addr} {c d : Nat} (lp : Room a l.length c) (hp : CellsP w a l) (lq : Room b q.length d) (hq : CellsP w b q) :
    CellsQ (w.alloc (.cells #[.int .i64 n, .slice a l.length c, .int .i64 m, .slice b q.length d] 24)) (some ⟨w.heap.size, 0, none⟩) [(n, l), (m, q)] := by
  have E : Ext w (w.alloc (.cells #[.int .i64 n, .slice a l.length c, .int .i64 m, .slice b q.length d] 24)) := (by repeat (first | with_reducible exact Ext.refl _ | with_reducible assumption | with_reducible apply Ext.drewN | with_reducible apply Ext.drew | with_reducible apply Ext.alloc | ((with_reducible refine Ext.set ?_ ?_ _); rotate_left; first | omega | (simp; omega)) | (with_reducible refine Ext.trans ?_ (by with_reducible assumption))))
  intro i hi
  have : i = 0 ∨ i = 1 := by simp at hi; omega
  rcases this with rfl | rfl
  · exact ⟨w.heap.size, 0, .slice a l.length c, rfl, by simp [List.getD], by simp, ⟨a, c, rfl, hp.ext E, lp⟩⟩
  · exact ⟨w.heap.size, 0, .slice b q.length d, rfl, by simp [List.getD], by simp, ⟨b, d, rfl, hq.ext E, lq⟩⟩

set_option maxHeartbeats 8000000 in
set_option maxRecDepth 100000 in
theorem VariantCompares_any (n m : Int) (l q : List Stp) (a b : Option Addr) (ca cb : Nat) (w : World) (hc : CellsP w a l) (hr : Room a l.length ca) (hd : CellsP w b q) (hs : Room b q.length cb) :
    Calls Tryz.prog 6 #[.agg #[.int .i64 n, .slice a l.length ca], .agg #[.int .i64 m, .slice b q.length cb]] w fun e w' => e = .returned (.bool true) ∧ Ext w w' := by
  have HC := Lib.hid hc
  have HR := Lib.hid hr
  have HD := Lib.hid hd
  have HS := Lib.hid hs
  clear hc hr hd hs
  go_enter Tryz.func6, Tryz.ntmps6
  go_wp2_with fail
  have E0 : Ext w ((w.alloc (.cells #[.int .i64 n, .slice a l.length ca] 24)).alloc (.cells #[.int .i64 m, .slice b q.length cb] 24)) := (by repeat (first | with_reducible exact Ext.refl _ | with_reducible assumption | with_reducible apply Ext.drewN | with_reducible apply Ext.drew | with_reducible apply Ext.alloc | ((with_reducible refine Ext.set ?_ ?_ _); rotate_left; first | omega | (simp; omega)) | (with_reducible refine Ext.trans ?_ (by with_reducible assumption))))
  have a0 : (((w.alloc (.cells #[.int .i64 n, .slice a l.length ca] 24)).alloc (.cells #[.int .i64 m, .slice b q.length cb] 24))).cell? ⟨w.heap.size, 0, none⟩ = some (.int .i64 n) := by go_simp
  have a1 : (((w.alloc (.cells #[.int .i64 n, .slice a l.length ca] 24)).alloc (.cells #[.int .i64 m, .slice b q.length cb] 24))).cell? ⟨w.heap.size, 1, none⟩ = some (.slice a l.length ca) := by go_simp
  have b0 : (((w.alloc (.cells #[.int .i64 n, .slice a l.length ca] 24)).alloc (.cells #[.int .i64 m, .slice b q.length cb] 24))).cell? ⟨w.heap.size + 1, 0, none⟩ = some (.int .i64 m) := by go_simp
  have b1 : (((w.alloc (.cells #[.int .i64 n, .slice a l.length ca] 24)).alloc (.cells #[.int .i64 m, .slice b q.length cb] 24))).cell? ⟨w.heap.size + 1, 1, none⟩ = some (.slice b q.length cb) := by go_simp
  have hsz : w.heap.size + 1 + 1 = ((w.alloc (.cells #[.int .i64 n, .slice a l.length ca] 24)).alloc (.cells #[.int .i64 m, .slice b q.length cb] 24)).heap.size := by simp
  generalize ((w.alloc (.cells #[.int .i64 n, .slice a l.length ca] 24)).alloc (.cells #[.int .i64 m, .slice b q.length cb] 24)) = W at E0 a0 a1 b0 b1 hsz ⊢
  have E1 : Ext W (W.alloc (.cells #[.int .i64 n, .slice a l.length ca, .int .i64 m, .slice b q.length cb] 24)) := (by repeat (first | with_reducible exact Ext.refl _ | with_reducible assumption | with_reducible apply Ext.drewN | with_reducible apply Ext.drew | with_reducible apply Ext.alloc | ((with_reducible refine Ext.set ?_ ?_ _); rotate_left; first | omega | (simp; omega)) | (with_reducible refine Ext.trans ?_ (by with_reducible assumption))))
  have HQ := Lib.hid (cellsQ_pair (n := n) (m := m) HR.out (HC.out.ext E0) HS.out (HD.out.ext E0))
  have E2 := E0.trans E1
  have a0 := (E1).cell a0
  have a1 := (E1).cell a1
  have b0 := (E1).cell b0
  have b1 := (E1).cell b1
  rw [hsz]
  refine (few_any [(n, l), (m, q)] _ 2 _ (by unfold maxLen; simp) (by simpa using HQ.out)).mono ?_
  rintro e w1 ⟨rfl, hE⟩
  have F1 := E2.trans hE
  have a0 := (hE).cell a0
  have a1 := (hE).cell a1
  have b0 := (hE).cell b0
  have b1 := (hE).cell b1
  clear hE E1 E0 E2 HQ hsz
  generalize hb : (!([(n, l), (m, q)] : List Sq).any badQ) = fw
  clear hb
  obtain ⟨bs, hbs⟩ : ∃ bs, bs = w.heap.size := ⟨_, rfl⟩
  rw [← hbs] at a0 a1 b0 b1 ⊢
  clear hbs
  cases fw
  · go_wp2_with fail
    refine (awake_any _).mono ?_
    rintro e w2 ⟨rfl, hE⟩
    go_wp2
    go_ret
    exact ⟨rfl, F1.trans hE⟩
  obtain ⟨ae, hae⟩ : ∃ ae, ae = alikeE (n, l) (m, q) := ⟨_, rfl⟩
  obtain ⟨ab, hab⟩ : ∃ ab, ab = alikeB (n, l) (m, q) := ⟨_, rfl⟩
  obtain ⟨je, hje⟩ : ∃ je, je = joinE (n, l) (m, q) := ⟨_, rfl⟩
  obtain ⟨js, hjs⟩ : ∃ js, js = (if joinE (n, l) (m, q) = 0 then joined2 (n, l) (m, q) else sq0) := ⟨_, rfl⟩
  have H1 := Lib.hid (And.intro hae hab)
  have H2 := Lib.hid (And.intro hjs hje)
  clear hae hab hje hjs
  go_wp2_with fail
  refine (Alike_any n m l q a b ca cb _ HR.out (HC.out.ext F1) HS.out (HD.out.ext F1)).mono ?_
  rintro e w2 ⟨rfl, hE⟩
  rw [← H1.out.1, ← H1.out.2]
  have F2 := F1.trans hE
  have a0 := (hE).cell a0
  have a1 := (hE).cell a1
  have b0 := (hE).cell b0
  have b1 := (hE).cell b1
  clear hE F1
  go_wp2_with fail
  refine (AlikeR_any n m l q a b ca cb _ HR.out (HC.out.ext F2) HS.out (HD.out.ext F2)).mono ?_
  rintro e w3 ⟨rfl, hE⟩
  rw [← H1.out.1, ← H1.out.2]
  have F3 := F2.trans hE
  have a0 := (hE).cell a0
  have a1 := (hE).cell a1
  have b0 := (hE).cell b0
  have b1 := (hE).cell b1
  clear hE F2
  go_wp2_with fail
  refine (Join_any n m l q a b ca cb _ HR.out (HC.out.ext F3) HS.out (HD.out.ext F3)).mono ?_
  rintro e w4 h
  rw [← H2.out.1, ← H2.out.2] at h
  obtain ⟨xa, xc, rfl, hf, hfl, hE⟩ := h.at
  have X := Lib.hid hf
  have XL := Lib.hid hfl
  have F4 := F3.trans hE
  have a0 := (hE).cell a0
  have a1 := (hE).cell a1
  have b0 := (hE).cell b0
  have b1 := (hE).cell b1
  have z4 := cell_lt a0
  have z5 := cell_lt b0
  dsimp only at z4 z5
  clear hf hfl hE F3 h
  go_wp2_with fail
  have E5 : Ext w4 (w4.alloc (.cells #[.int .i64 js.1, .slice xa js.2.length xc] 24)) := (by repeat (first | with_reducible exact Ext.refl _ | with_reducible assumption | with_reducible apply Ext.drewN | with_reducible apply Ext.drew | with_reducible apply Ext.alloc | ((with_reducible refine Ext.set ?_ ?_ _); rotate_left; first | omega | (simp; omega)) | (with_reducible refine Ext.trans ?_ (by with_reducible assumption))))
  have BX := Lib.hid (Box.new w4 js.1 xa js.2.length xc)
  have X := Lib.hid (X.out.ext E5)
  have F5 := F4.trans E5
  obtain ⟨b1', hb1⟩ : ∃ b, b = w4.heap.size := ⟨_, rfl⟩
  rw [← hb1] at BX z4 z5 ⊢
  clear hb1 E5 F4 z4 z5 a0 a1 b0 b1
  generalize (w4.alloc (.cells #[.int .i64 js.1, .slice xa js.2.length xc] 24)) = W5 at BX X F5 ⊢
  refine (JoinR_any n m l q a b ca cb _ HR.out (HC.out.ext F5) HS.out (HD.out.ext F5)).mono ?_
  rintro e w6 h
  rw [← H2.out.1, ← H2.out.2] at h
  obtain ⟨ya, yc, rfl, hf, hfl, hE⟩ := h.at
  have Y := Lib.hid hf
  have YL := Lib.hid hfl
  have X := Lib.hid (X.out.ext hE)
  have F6 := F5.trans hE
  have BX := Lib.hid (BX.out.ext hE)
  have p0 := BX.out.c0
  have p1 := BX.out.c1
  have z4 := cell_lt p0
  dsimp only at z4
  clear hf hfl hE F5 h
  go_wp2_with fail
  clear p0 p1
  have E5 : Ext w6 (w6.alloc (.cells #[.int .i64 js.1, .slice ya js.2.length yc] 24)) := (by repeat (first | with_reducible exact Ext.refl _ | with_reducible assumption | with_reducible apply Ext.drewN | with_reducible apply Ext.drew | with_reducible apply Ext.alloc | ((with_reducible refine Ext.set ?_ ?_ _); rotate_left; first | omega | (simp; omega)) | (with_reducible refine Ext.trans ?_ (by with_reducible assumption))))
  have X := Lib.hid (X.out.ext E5)
  have Y := Lib.hid (Y.out.ext E5)
  have F7 := F6.trans E5
  clear F6 z4 BX
  refine (SameQ_any js.1 js.1 js.2 js.2 xa ya xc yc _ XL.out X.out YL.out Y.out).mono ?_
  rintro e w8 ⟨rfl, hE⟩
  rw [show decide ((js.1, js.2) = (js.1, js.2)) = true from by simp]
  have F8 := F7.trans hE
  clear hE F7 X Y E5
  go_wp2_with fail
  refine (awake_any _).mono ?_
  rintro e w9 ⟨rfl, hE⟩
  go_wp2
  go_ret
  exact ⟨rfl, F8.trans hE⟩
end Go.Proofs.YtnhbogmihnnpjaaGreat
/- The arguments of the laws of sequences, opened. -/
namespace Go.Proofs.YtnhbogmihnnpjaaGreat
open Go.RowKit Go.ChangeShapes Go.WideShapes Go.Joins Go.Deep

theorem list2 {α : Type} {l : List α} (h : l.length = 2) : ∃ a b, l = [a, b] := by
  match l, h with
  | [a, b], _ => exact ⟨a, b, rfl⟩
theorem laidOut : laidOutB Tryz.prog = true := by kernel_rfl
theorem cellsOfStk : Tryz.prog.cellsOf 73 = 2 := by kernel_rfl
theorem cellsOfStp : Tryz.prog.cellsOf 87 = 2 := by kernel_rfl
theorem cellsOfInt : Tryz.prog.cellsOf 3 = 1 := by kernel_rfl
theorem cellsOfBool : Tryz.prog.cellsOf 4 = 1 := by kernel_rfl
theorem cellsOfSlk : Tryz.prog.cellsOf 66 = 1 := by kernel_rfl

section
variable {H : Type} {enc : TypeId × Value → H} {w : World} {base : Nat} {spare : Nat → Bool} {held : Bool}
theorem open_stk {fuel : Nat} {cs : List Value} {x : DataW H × List MemPlace} (h : DataW.trod enc Tryz.prog w base spare held fuel 73 cs = some x) : ∃ y : Stk, cs = [.int .i64 y.1, .bool y.2] := by
  obtain ⟨y0, y1, n, _, hl, h0, h1⟩ := trod_struct2 Tryz.underlying73 h
  rw [cellsOfStk] at hl
  obtain ⟨a, b, rfl⟩ := list2 hl
  rw [cellsOfInt] at h0
  rw [cellsOfBool] at h1
  obtain ⟨i, e0, _, w0⟩ := DataW.trod_int Tryz.underlying3 h0
  obtain ⟨j, e1, _⟩ := DataW.trod_bool Tryz.underlying4 h1
  simp at e0 e1
  subst e0; subst e1
  exact ⟨(i, j), rfl⟩
theorem open_stks {a : Addr} {len : Nat} (h : ∀ i, i < len → ∃ cs' n x, w.cells? base (a.add (i * 2)) 2 = some cs' ∧ DataW.trod enc Tryz.prog w base spare held n 73 cs' = some x) : ∃ l : List Stk, l.length = len ∧ CellsK w (some a) l := by
  have key : ∀ i, i < len → ∃ y : Stk, w.cell? (a.add (i * 2)) = some (.int .i64 y.1) ∧ w.cell? ((a.add (i * 2)).add 1) = some (.bool y.2) := fun i hi => by
    obtain ⟨cs', n, x, h1, h2⟩ := h i hi
    obtain ⟨y, rfl⟩ := open_stk h2
    obtain ⟨_, _, hc⟩ := World.cells?_some h1
    have c0 := hc 0 (by omega)
    have c1 := hc 1 (by omega)
    refine ⟨y, ?_, c1⟩
    have e : (a.add (i * 2)).add 0 = a.add (i * 2) := by simp [Addr.add]
    rw [e] at c0
    exact c0
  obtain ⟨f, hf⟩ := choose_lt (α := Stk) key
  refine ⟨(List.range len).map f, by simp, fun i hi => ?_⟩
  have hi' : i < len := by simpa using hi
  obtain ⟨h1, h2⟩ := hf i hi'
  have hp : ((List.range len).map f).getD i stk0 = f i := by simp [List.getD, hi']
  rw [hp]
  obtain ⟨b, off, spot⟩ := a
  have hs : spot = none := by
    have h0 := World.cell?_spot (hf 0 (by omega)).1
    simpa [Addr.add] using h0
  subst hs
  rw [Addr.add_lit] at h1 h2
  rw [Addr.add_lit] at h2
  exact ⟨b, off, rfl, h1, h2⟩
theorem open_slk {fuel : Nat} {v : Value} {x : DataW H × List MemPlace} (h : DataW.trod enc Tryz.prog w base spare held fuel 66 [v] = some x) : ∃ l : List Stk, SliceK w v l := by
  rcases open_slice Tryz.underlying66 h with ⟨h1, _⟩ | ⟨a, len, cap, m, n, D, Pl, h1, hb, hl, hm, hmm, _, hx⟩
  · simp at h1
    exact ⟨[], none, 0, h1, fun i hi => by simp at hi, by simp⟩
  · simp at h1
    rw [cellsOfStk] at hx
    have hlm : len ≤ m := by rw [hmm]; split <;> omega
    obtain ⟨l, hll, hc⟩ := open_stks (enc := enc) (spare := spare) (held := held) (w := w) (base := base) (a := a) (len := len) (fun i hi => by
      obtain ⟨cs', h2, h3⟩ := hx i (by omega)
      exact ⟨cs', n, _, h2, h3⟩)
    exact ⟨l, some a, cap, by rw [h1, hll], hc, by rw [hll]; omega⟩
theorem open_stp {fuel : Nat} {cs : List Value} {x : DataW H × List MemPlace} (h : DataW.trod enc Tryz.prog w base spare held fuel 87 cs = some x) : ∃ (v : Value) (y : Stp), cs = [v, .int .i64 y.2] ∧ SliceK w v y.1 := by
  obtain ⟨y0, y1, n, _, hl, h0, h1⟩ := trod_struct2 Tryz.underlying87 h
  rw [cellsOfStp] at hl
  obtain ⟨a, b, rfl⟩ := list2 hl
  rw [cellsOfInt] at h1
  rw [cellsOfSlk] at h0
  obtain ⟨i, e1, _, w0⟩ := DataW.trod_int Tryz.underlying3 h1
  obtain ⟨l, hv⟩ := open_slk (v := a) (by simpa using h0)
  simp at e1
  subst e1
  exact ⟨a, (l, i), rfl, hv⟩
theorem open_stps {a : Addr} {len : Nat} (h : ∀ i, i < len → ∃ cs' n x, w.cells? base (a.add (i * 2)) 2 = some cs' ∧ DataW.trod enc Tryz.prog w base spare held n 87 cs' = some x) : ∃ l : List Stp, l.length = len ∧ CellsP w (some a) l ∧ (0 < len → a.spot = none) := by
  have key : ∀ i, i < len → ∃ y : Value × Stp, w.cell? (a.add (i * 2)) = some y.1 ∧ w.cell? ((a.add (i * 2)).add 1) = some (.int .i64 y.2.2) ∧ SliceK w y.1 y.2.1 := fun i hi => by
    obtain ⟨cs', n, x, h1, h2⟩ := h i hi
    obtain ⟨v, y, rfl, hv⟩ := open_stp h2
    obtain ⟨_, _, hc⟩ := World.cells?_some h1
    have c0 := hc 0 (by omega)
    have c1 := hc 1 (by omega)
    refine ⟨(v, y), ?_, c1, hv⟩
    have e : (a.add (i * 2)).add 0 = a.add (i * 2) := by simp [Addr.add]
    rw [e] at c0
    exact c0
  obtain ⟨f, hf⟩ := choose_lt (α := Value × Stp) key
  have hs : 0 < len → a.spot = none := fun h0 => by
    have h0 := World.cell?_spot (hf 0 h0).1
    simpa [Addr.add] using h0
  refine ⟨(List.range len).map fun i => (f i).2, by simp, fun i hi => ?_, hs⟩
  have hi' : i < len := by simpa using hi
  obtain ⟨h1, h2, h3⟩ := hf i hi'
  have hp : ((List.range len).map fun i => (f i).2).getD i stp0 = (f i).2 := by simp [List.getD, hi']
  rw [hp]
  obtain ⟨b, off, spot⟩ := a
  have hs := hs (by omega)
  dsimp only at hs
  subst hs
  rw [Addr.add_lit] at h1 h2
  rw [Addr.add_lit] at h2
  exact ⟨b, off, _, rfl, h1, h3, h2⟩
theorem open_slp {fuel : Nat} {v : Value} {x : DataW H × List MemPlace} (h : DataW.trod enc Tryz.prog w base spare held fuel 22 [v] = some x) :
    ∃ (l : List Stp) (a : Option Addr) (cap : Nat), v = .slice a l.length cap ∧ CellsP w a l ∧ l.length ≤ maxLen ∧ Room a l.length cap := by
  rcases open_slice Tryz.underlying22 h with ⟨h1, _⟩ | ⟨a, len, cap, m, n, D, Pl, h1, hb, hl, hm, hmm, _, hx⟩
  · simp at h1
    exact ⟨[], none, 0, h1, fun i hi => by simp at hi, by simp, by simp, by simp, fun h0 => by simp at h0⟩
  · simp at h1
    rw [cellsOfStp] at hx
    have hlm : len ≤ m := by rw [hmm]; split <;> omega
    obtain ⟨l, hll, hc, hs⟩ := open_stps (enc := enc) (spare := spare) (held := held) (w := w) (base := base) (a := a) (len := len) (fun i hi => by
      obtain ⟨cs', h2, h3⟩ := hx i (by omega)
      exact ⟨cs', n, _, h2, h3⟩)
    refine ⟨l, some a, cap, by rw [h1, hll], hc, by rw [hll]; omega, by rw [hll]; exact hl, hm, fun h0 => ?_⟩
    obtain ⟨b, off, spot⟩ := a
    have := hs (by omega)
    dsimp only at this
    subst this
    exact ⟨b, off, rfl⟩
set_option maxRecDepth 100000 in
theorem open_seq {r : Reach} {b0 : Nat} {v : Value} {d : DataW H} {p : List MemPlace} (hv : Value.okWide Tryz.prog w r b0 24 v) (h : DataW.Trod enc Tryz.prog w base spare held 24 v d p) :
    ∃ (n : Int) (l : List Stp) (a : Option Addr) (cap : Nat), v = .agg #[.int .i64 n, .slice a l.length cap] ∧ CellsP w a l ∧ l.length ≤ maxLen ∧ Room a l.length cap ∧ (Lit.int .i64 n).wf = true := by
  obtain ⟨c0, c1, y0, y1, n, rfl, _, _, h0, h1⟩ := open_agg2 Tryz.underlying24 (by kernel_rfl) (by kernel_rfl) hv h
  obtain ⟨i, e0, _, w0⟩ := DataW.trod_int Tryz.underlying3 h0
  obtain ⟨l, a, cap, e1, hc, hl, hr⟩ := open_slp h1
  simp at e0
  subst e0; subst e1
  exact ⟨i, l, a, cap, rfl, hc, hl, hr, w0⟩
end
end Go.Proofs.YtnhbogmihnnpjaaGreat
