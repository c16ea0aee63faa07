/- Steps of the proof: QLaw, QRenR, QLetR, QStdR, QRenP, QRnm, QRnmR. No conditions. -/
import Derived.Test.YtnhbogmihnnpjaaGreatZRenames1
import Derived.Test.YtnhbogmihnnpjaaGreatZRenames2
import Derived.Test.YtnhbogmihnnpjaaGreatZRenames3
import Derived.Test.YtnhbogmihnnpjaaGreatZRenames4
import Derived.Test.YtnhbogmihnnpjaaGreatZRenames5
import Derived.Test.YtnhbogmihnnpjaaGreatZRenames6
import Derived.Test.YtnhbogmihnnpjaaGreatZRenames7
import Derived.Test.YtnhbogmihnnpjaaGreatZRenames8
import Derived.Test.YtnhbogmihnnpjaaGreatZRenames9
/- What the laws' walks share. -/
namespace Go.Proofs.YtnhbogmihnnpjaaGreat
open Go.RowKit

theorem cellsQ_one {w : World} {n : Int} {l : List Stp} {a : Option Addr} {c : Nat} (lp : Room a l.length c) (hp : CellsP w a l) :
    CellsQ (w.alloc (.cells #[.int .i64 n, .slice a l.length c] 24)) (some ⟨w.heap.size, 0, none⟩) [(n, l)] := by
  have E : Ext w (w.alloc (.cells #[.int .i64 n, .slice a l.length c] 24)) := (by repeat (first | with_reducible exact Ext.refl _ | with_reducible assumption | with_reducible apply Ext.drewN | with_reducible apply Ext.drew | with_reducible apply Ext.alloc | ((with_reducible refine Ext.set ?_ ?_ _); rotate_left; first | omega | (simp; omega)) | (with_reducible refine Ext.trans ?_ (by with_reducible assumption))))
  intro i hi
  have : i = 0 := by simp at hi; omega
  subst this
  exact ⟨w.heap.size, 0, .slice a l.length c, rfl, by simp [List.getD], by simp, ⟨a, c, rfl, hp.ext E, lp⟩⟩
/-- the result of a call that yields a sequence and an error, at an address -/
theorem SeqErr.at {s : Sq} {er : Int} {w : World} {e : Ending} {w' : World} (h : SeqErr s er w e w') : ∃ a cap, e = .returned (.tuple #[.agg #[.int .i64 s.1, .slice a s.2.length cap], .int .i64 er]) ∧ CellsP w' a s.2 ∧ Room a s.2.length cap ∧ Ext w w' := by
  obtain ⟨v, rfl, ⟨u, rfl, a, cap, rfl, hc, hm⟩, hE⟩ := h
  exact ⟨a, cap, rfl, hc, hm, hE⟩
/-- a sequence's own two cells -/
structure Box (w : World) (b : Nat) (x : Int) (v : Value) : Prop where
  c0 : w.cell? ⟨b, 0, none⟩ = some (.int .i64 x)
  c1 : w.cell? ⟨b, 1, none⟩ = some v
  f0 : w.frozen? ⟨b, 0, none⟩ = false
  f1 : w.frozen? ⟨b, 1, none⟩ = false
  no : ∀ o, 2 ≤ o → w.cell? ⟨b, o, none⟩ = none
theorem Box.ext {w w' : World} {b : Nat} {x : Int} {v : Value} (h : Box w b x v) (k : Ext w w') : Box w' b x v :=
  ⟨k.cell h.c0, k.cell h.c1, (Below.frozen (p := ⟨b, 0, none⟩) k (cell_lt h.c0)).trans h.f0, (Below.frozen (p := ⟨b, 1, none⟩) k (cell_lt h.c1)).trans h.f1, fun o ho => (World.cell?_of_block (Below.block k b (cell_lt h.c0))).trans (h.no o ho)⟩
theorem Box.new (w : World) (x : Int) (a : Option Addr) (n c : Nat) : Box (w.alloc (.cells #[.int .i64 x, .slice a n c] 24)) w.heap.size x (.slice a n c) := by
  refine ⟨by go_simp, by go_simp, by go_simp, by go_simp, fun o ho => ?_⟩
  rw [World.cell?_alloc_new]
  exact Array.getElem?_eq_none (by simpa using ho)
theorem Box.set {w : World} {b : Nat} {x : Int} {v : Value} (h : Box w b x v) (y : Int) (u : Value) : Box ((w.setCell ⟨b, 0, none⟩ (.int .i64 y)).setCell ⟨b, 1, none⟩ u) b y u := by
  have e0 : (w.setCell ⟨b, 0, none⟩ (.int .i64 y)).cell? ⟨b, 0, none⟩ = some (.int .i64 y) := World.cell?_setCell_same _ _ _ h.c0
  have e1 : (w.setCell ⟨b, 0, none⟩ (.int .i64 y)).cell? ⟨b, 1, none⟩ = some v := by
    rw [World.cell?_setCell_other _ _ _ _ (fun h => by simp only [Addr.mk.injEq] at h; omega)]; exact h.c1
  refine ⟨?_, World.cell?_setCell_same _ _ _ e1, by rw [World.frozen?_setCell, World.frozen?_setCell]; exact h.f0, by rw [World.frozen?_setCell, World.frozen?_setCell]; exact h.f1, fun o ho => ?_⟩
  · rw [World.cell?_setCell_other _ _ _ _ (fun h => by simp only [Addr.mk.injEq] at h; omega)]; exact e0
  · rw [World.cell?_setCell_other _ _ _ _ (fun h => by simp only [Addr.mk.injEq] at h; omega), World.cell?_setCell_other _ _ _ _ (fun h => by simp only [Addr.mk.injEq] at h; omega)]; exact h.no o ho
/-- what befalls a sequence's own cells befalls no steps -/
theorem Box.keepK {w : World} {b : Nat} {x : Int} {sa : Option Addr} {sn sc : Nat} (h : Box w b x (.slice sa sn sc)) {a : Option Addr} {l : List Stk} (hc : CellsK w a l) {B : World} (hB : ∀ k, k < w.heap.size → k ≠ b → B.heap[k]? = w.heap[k]?) : CellsK B a l := fun i hi => by
  obtain ⟨b', off, ha, p1, p2⟩ := hc i hi
  have hne : b' ≠ b := by
    rintro rfl
    rcases Nat.lt_or_ge (off + i * 2) 2 with hlt | hge
    · rcases Nat.lt_or_ge (off + i * 2) 1 with h1 | h1
      · have e : off + i * 2 = 0 := by omega
        rw [e] at p2
        rw [h.c1] at p2
        cases p2
      · have e : off + i * 2 = 1 := by omega
        rw [e, h.c1] at p1
        cases p1
    · rw [h.no _ hge] at p1; cases p1
  have e := hB b' (cell_lt p1) hne
  exact ⟨b', off, ha, (World.cell?_of_block e).trans p1, (World.cell?_of_block e).trans p2⟩
theorem Box.keep {w : World} {b : Nat} {x : Int} {sa : Option Addr} {sn sc : Nat} (h : Box w b x (.slice sa sn sc)) {a : Option Addr} {l : List Stp} (hc : CellsP w a l) {B : World} (hB : ∀ k, k < w.heap.size → k ≠ b → B.heap[k]? = w.heap[k]?) : CellsP B a l := fun i hi => by
  obtain ⟨b', off, v, ha, p1, ⟨a2, c2, rfl, hk, hm⟩, p2⟩ := hc i hi
  have hne : b' ≠ b := by
    rintro rfl
    rcases Nat.lt_or_ge (off + i * 2) 2 with hlt | hge
    · rcases Nat.lt_or_ge (off + i * 2) 1 with h1 | h1
      · have e : off + i * 2 = 0 := by omega
        rw [e, h.c0] at p1
        cases p1
      · rw [h.no (off + i * 2 + 1) (by omega)] at p2; cases p2
    · rw [h.no _ hge] at p1; cases p1
  have e := hB b' (cell_lt p1) hne
  exact ⟨b', off, _, ha, (World.cell?_of_block e).trans p1, ⟨a2, c2, rfl, h.keepK hk hB, hm⟩, (World.cell?_of_block e).trans p2⟩
theorem set2_block (w : World) (b : Nat) (u v : Value) : ∀ k, k < w.heap.size → k ≠ b → ((w.setCell ⟨b, 0, none⟩ u).setCell ⟨b, 1, none⟩ v).heap[k]? = w.heap[k]? := fun _k _ hk =>
  (Below.heap_setCell _ _ _ _ (fun e => hk e)).trans (Below.heap_setCell _ _ _ _ (fun e => hk e))
theorem Box.other {w : World} {b c : Nat} {x : Int} {v : Value} (h : Box w c x v) (hne : c ≠ b) (u t : Value) : Box ((w.setCell ⟨b, 0, none⟩ u).setCell ⟨b, 1, none⟩ t) c x v := by
  have e := set2_block w b u t c (cell_lt h.c0) hne
  exact ⟨(World.cell?_of_block e).trans h.c0, (World.cell?_of_block e).trans h.c1, (World.frozen?_of_block e).trans h.f0, (World.frozen?_of_block e).trans h.f1, fun o ho => (World.cell?_of_block e).trans (h.no o ho)⟩
end Go.Proofs.YtnhbogmihnnpjaaGreat
/- The reference's Renamed. -/
namespace Go.Proofs.YtnhbogmihnnpjaaGreat
open Go.RowKit

structure RnSt (p : Nat) (W1 wr : World) (P : List Stk) (wt : Int) : Prop where
  be : Below p W1 wr
  v : ∃ u, wr.cell? ⟨p, 0, none⟩ = some u ∧ OwnsK wr u P ∧ ∀ b, u.ownBlock = some b → p < b
  c1 : wr.cell? ⟨p, 1, none⟩ = some (.int .i64 wt)
  f0 : wr.frozen? ⟨p, 0, none⟩ = false
def renP (f : Int → Int) (st : List Stk) (j : Nat) : List Stk := (st.take j).map fun y => (f y.1, y.2)
theorem renP_succ (f : Int → Int) (st : List Stk) {j : Nat} (h : j < st.length) : renP f st (j + 1) = renP f st j ++ [(f (st.getD j stk0).1, (st.getD j stk0).2)] := by
  unfold renP
  rw [List.take_succ_eq_append_getElem h, List.map_append, List.getD_eq_getElem?_getD, List.getElem?_eq_getElem h]; rfl
theorem renP_len (f : Int → Int) (st : List Stk) (j : Nat) : (renP f st j).length ≤ st.length := by
  unfold renP; rw [List.length_map]; exact List.length_take_le' ..
def renK (f : Int → Int) (l : List Stp) (k : Nat) : List Stp := (l.take k).map (renStep f)
theorem renK_succ (f : Int → Int) (l : List Stp) {k : Nat} (h : k < l.length) : renK f l (k + 1) = renK f l k ++ [renStep f (l.getD k stp0)] := by
  unfold renK
  rw [List.take_succ_eq_append_getElem h, List.map_append, List.getD_eq_getElem?_getD, List.getElem?_eq_getElem h]; rfl
theorem renK_len (f : Int → Int) (l : List Stp) (k : Nat) : (renK f l k).length ≤ k := by
  unfold renK; rw [List.length_map]; exact List.length_take_le ..

set_option maxHeartbeats 8000000 in
set_option maxRecDepth 100000 in
theorem RenamedR_any (n : Int) (l : List Stp) (a : Option Addr) (cap : Nat) (fs : List Int) (fa : Option Addr) (fc : Nat) (w : World) (hl : l.length ≤ 200) (hc : CellsP w a l) (hfi : CellsI w fa fs) (_hfl : fs.length ≤ 1000)
    (hok : ∀ k, k < l.length → (l.getD k stp0).1.length ≤ 40 ∧ ∀ j, j < (l.getD k stp0).1.length → 0 ≤ ((l.getD k stp0).1.getD j stk0).1 ∧ ((l.getD k stp0).1.getD j stk0).1 < (fs.length : Int)) :
    Calls Tryz.prog 68 #[.agg #[.int .i64 n, .slice a l.length cap], .slice fa fs.length fc] w (OwnPost (ren (listFn fs) (n, l)) w) := by
  have HC := Lib.hid hc
  have HFI := Lib.hid hfi
  have HOK := Lib.hid hok
  have HRE : Hid (renK (listFn fs) l l.length = (ren (listFn fs) (n, l)).2) := by show _ = _; unfold renK ren; rw [List.take_length]
  have HR1 : Hid ((ren (listFn fs) (n, l)).1 = n) := rfl
  clear hc hfi hok
  obtain ⟨R, hR⟩ : ∃ R, R = ren (listFn fs) (n, l) := ⟨_, rfl⟩
  rw [← hR] at HRE HR1 ⊢
  clear hR
  obtain ⟨f, hf⟩ : ∃ f, f = listFn fs := ⟨_, rfl⟩
  have HF := Lib.hid hf
  rw [← hf] at HRE
  clear hf
  obtain ⟨i0, hi, hi0, hi1, hi2⟩ := info_parts infoStk
  obtain ⟨j0, hj, hj0, hj1, hj2⟩ := info_parts infoStp
  go_enter Tryz.func68, Tryz.ntmps68
  go_wp2
  have E1 : Ext w (((w.alloc (.cells #[.int .i64 n, .slice a l.length cap] 24)).alloc (.cells #[.int .i64 0, .slice none 0 0] 24)).alloc (.cells #[.int .i64 n, .slice none 0 0] 24)) := (by repeat (first | with_reducible exact Ext.refl _ | with_reducible assumption | with_reducible apply Ext.drewN | with_reducible apply Ext.drew | with_reducible apply Ext.alloc | ((with_reducible refine Ext.set ?_ ?_ _); rotate_left; first | omega | (simp; omega)) | (with_reducible refine Ext.trans ?_ (by with_reducible assumption))))
  have c1 : (((w.alloc (.cells #[.int .i64 n, .slice a l.length cap] 24)).alloc (.cells #[.int .i64 0, .slice none 0 0] 24)).alloc (.cells #[.int .i64 n, .slice none 0 0] 24)).cell? ⟨w.heap.size + 1, 0, none⟩ = some (.int .i64 0) := by go_simp
  have c2 : (((w.alloc (.cells #[.int .i64 n, .slice a l.length cap] 24)).alloc (.cells #[.int .i64 0, .slice none 0 0] 24)).alloc (.cells #[.int .i64 n, .slice none 0 0] 24)).cell? ⟨w.heap.size + 1, 1, none⟩ = some (.slice none 0 0) := by go_simp
  have c3 : (((w.alloc (.cells #[.int .i64 n, .slice a l.length cap] 24)).alloc (.cells #[.int .i64 0, .slice none 0 0] 24)).alloc (.cells #[.int .i64 n, .slice none 0 0] 24)).cell? ⟨w.heap.size + 1 + 1, 0, none⟩ = some (.int .i64 n) := by go_simp
  have c4 : (((w.alloc (.cells #[.int .i64 n, .slice a l.length cap] 24)).alloc (.cells #[.int .i64 0, .slice none 0 0] 24)).alloc (.cells #[.int .i64 n, .slice none 0 0] 24)).cell? ⟨w.heap.size + 1 + 1, 1, none⟩ = some (.slice none 0 0) := by go_simp
  have c5 : (((w.alloc (.cells #[.int .i64 n, .slice a l.length cap] 24)).alloc (.cells #[.int .i64 0, .slice none 0 0] 24)).alloc (.cells #[.int .i64 n, .slice none 0 0] 24)).cell? ⟨w.heap.size, 1, none⟩ = some (.slice a l.length cap) := by go_simp
  have f1 : (((w.alloc (.cells #[.int .i64 n, .slice a l.length cap] 24)).alloc (.cells #[.int .i64 0, .slice none 0 0] 24)).alloc (.cells #[.int .i64 n, .slice none 0 0] 24)).frozen? ⟨w.heap.size + 1, 0, none⟩ = false := by go_simp
  have f2 : (((w.alloc (.cells #[.int .i64 n, .slice a l.length cap] 24)).alloc (.cells #[.int .i64 0, .slice none 0 0] 24)).alloc (.cells #[.int .i64 n, .slice none 0 0] 24)).frozen? ⟨w.heap.size + 1, 1, none⟩ = false := by go_simp
  have f4 : (((w.alloc (.cells #[.int .i64 n, .slice a l.length cap] 24)).alloc (.cells #[.int .i64 0, .slice none 0 0] 24)).alloc (.cells #[.int .i64 n, .slice none 0 0] 24)).frozen? ⟨w.heap.size + 1 + 1, 1, none⟩ = false := by go_simp
  generalize (((w.alloc (.cells #[.int .i64 n, .slice a l.length cap] 24)).alloc (.cells #[.int .i64 0, .slice none 0 0] 24)).alloc (.cells #[.int .i64 n, .slice none 0 0] 24)) = W at E1 c1 c2 c3 c4 c5 f1 f2 f4 ⊢
  obtain ⟨o, ho⟩ : ∃ o, o = w.heap.size + 1 + 1 := ⟨_, rfl⟩
  have ho1 : w.heap.size + 1 < o := by omega
  have hoW : o < W.heap.size := by rw [ho]; exact cell_lt c3
  rw [← ho] at c3 c4 f4 ⊢
  have M0 : Hid (TrSt (fun b => b ≤ o) o W W n (renK f l 0)) := ⟨Below.refl _ _, c3, f4, _, c4, OwnsP.nil _ _, fun b hb => by cases hb⟩
  clear c3 c4 f4 ho
  go_loopw [6] (fun i wr => ∃ k : Nat, k ≤ l.length ∧ i = .int .i64 k ∧ Hid (TrSt (fun b => b ≤ o) o W wr n (renK f l k))) (fun i _ => l.length - (intOf i).toNat)
  case atStart => exact ⟨0, Nat.zero_le _, rfl, M0⟩
  case round =>
    obtain ⟨k, hk, rfl, M⟩ := hrel
    clear M0
    obtain ⟨wo, hwo⟩ : ∃ wo : World, wo = wr := ⟨_, rfl⟩
    subst hwo
    have hbe := M.out.be
    have E2 : Ext w wo := E1.trans' hbe (by omega)
    have hsz := hbe.size
    have how : o < wo.heap.size := by omega
    have d5 := cellB hbe (p := ⟨w.heap.size, 1, none⟩) (by show w.heap.size < _; omega) c5
    by_cases hlt : k < l.length
    · obtain ⟨hl40, hin⟩ := HOK.out k hlt
      obtain ⟨b, off, v, ha, p1, hv, p2⟩ := HC.out k hlt
      subst ha
      obtain ⟨sa, sc, rfl, hcs, hls⟩ := hv
      have zb := cell_lt p1
      dsimp only at zb
      have HP1 := Lib.hid (E2.cell p1)
      have p1 := E2.cell p1
      have p2 := E2.cell p2
      have HMS := Lib.hid (renK_succ f l hlt)
      generalize l.getD k stp0 = x at p1 p2 HP1 hcs hls HMS hl40 hin
      obtain ⟨st, wait⟩ := x
      dsimp only at p1 p2 HP1 hcs hls HMS hl40 hin
      have HIN := Lib.hid hin
      have HCS := Lib.hid hcs
      have HLS := Lib.hid hls
      have D5 := Lib.hid d5
      clear hcs hls hin
      go_wp2
      have EP : Ext wo (wo.alloc (.cells #[.slice none 0 0, .int .i64 wait] 87)) := (by repeat (first | with_reducible exact Ext.refl _ | with_reducible assumption | with_reducible apply Ext.drewN | with_reducible apply Ext.drew | with_reducible apply Ext.alloc | ((with_reducible refine Ext.set ?_ ?_ _); rotate_left; first | omega | (simp; omega)) | (with_reducible refine Ext.trans ?_ (by with_reducible assumption))))
      have hps : (wo.alloc (.cells #[.slice none 0 0, .int .i64 wait] 87)).heap.size = wo.heap.size + 1 := by go_simp
      have N0 : Hid (RnSt wo.heap.size (wo.alloc (.cells #[.slice none 0 0, .int .i64 wait] 87)) (wo.alloc (.cells #[.slice none 0 0, .int .i64 wait] 87)) (renP f st 0) wait) := ⟨Below.refl _ _, ⟨_, by go_simp, OwnsK.nil _, fun b hb => by cases hb⟩, by go_simp, by go_simp⟩
      generalize (wo.alloc (.cells #[.slice none 0 0, .int .i64 wait] 87)) = W1 at EP hps N0 ⊢
      obtain ⟨p, hp⟩ : ∃ p, p = wo.heap.size := ⟨_, rfl⟩
      have how2 : o < p := by omega
      have zbp : b < p := by have := E2.size; omega
      have zwp : w.heap.size < p := by omega
      rw [← hp] at hps N0 ⊢
      have hps1 : p + 1 ≤ W1.heap.size := by omega
      have HPP := Lib.hid hp
      have hpE : w.heap.size ≤ p := by omega
      clear p1 p2 d5 hp hps
      go_loopw [8] (fun i wr => ∃ j : Nat, j ≤ st.length ∧ i = .int .i64 j ∧ Hid (RnSt p W1 wr (renP f st j) wait)) (fun i _ => st.length - (intOf i).toNat)
      case atStart => exact ⟨0, by omega, rfl, N0⟩
      case round =>
        obtain ⟨j, hj', rfl, N⟩ := hrel
        clear N0
        have hbn := N.out.be
        have hsn := hbn.size
        have d5 := cellB hbn (p := ⟨w.heap.size, 1, none⟩) (by show w.heap.size < _; omega) (EP.cell D5.out)
        have p1 := cellB hbn (p := ⟨b, off + k * 2, none⟩) (by show b < _; omega) (EP.cell HP1.out)
        by_cases hjl : j < st.length
        · obtain ⟨kb, ko, ha, r1, r2⟩ := HCS.out j hjl
          subst ha
          have hkz := cell_lt r1
          dsimp only at hkz
          have EW1 : Ext w W1 := E2.trans EP
          have r1 := cellB hbn (p := ⟨kb, ko + j * 2, none⟩) (by show kb < _; omega) (EW1.cell r1)
          have r2 := cellB hbn (p := ⟨kb, ko + j * 2 + 1, none⟩) (by show kb < _; omega) (EW1.cell r2)
          obtain ⟨hy0, hyn⟩ := HIN.out j hjl
          have HPS := Lib.hid (renP_succ f st hjl)
          have hpl := renP_len f st j
          generalize st.getD j stk0 = y at r1 r2 hy0 hyn HPS
          obtain ⟨ya, yo⟩ := y
          dsimp only at r1 r2 hy0 hyn HPS
          obtain ⟨yn, rfl⟩ := Int.eq_ofNat_of_zero_le hy0
          have hynl : yn < fs.length := by omega
          obtain ⟨tb, tf, ht, t1⟩ := HFI.out yn hynl
          subst ht
          have htz := cell_lt t1
          dsimp only at htz
          have t1 := cellB hbn (p := ⟨tb, tf + yn, none⟩) (by show tb < _; omega) (EW1.cell t1)
          have HFV : Hid (f (yn : Int) = fs.getD yn 0) := by
            show _ = _
            rw [HF.out]; unfold listFn
            rw [if_neg (by omega)]; rfl
          generalize fs.getD yn 0 = fv at t1 HFV
          rw [HFV.out] at HPS
          clear HFV hy0
          obtain ⟨u, m1, m2, m3⟩ := N.out.v
          have m0 := N.out.c1
          have mf := N.out.f0
          have hum : ∀ b, u.ownBlock = some b → b < wr.heap.size := fun b hb => rowLt m2 hb
          have HUM := Lib.hid hum
          have HM2 := Lib.hid m2
          have HM3 := Lib.hid m3
          clear m2 m3 N hum
          generalize renP f st j = P at HM2 HPS hpl
          have zp := cell_lt m1
          dsimp only at zp
          have EX : Ext wr (wr.alloc (.cells #[.int .i64 (yn : Int), .bool yo] 73)).drew := (by repeat (first | with_reducible exact Ext.refl _ | with_reducible assumption | with_reducible apply Ext.drewN | with_reducible apply Ext.drew | with_reducible apply Ext.alloc | ((with_reducible refine Ext.set ?_ ?_ _); rotate_left; first | omega | (simp; omega)) | (with_reducible refine Ext.trans ?_ (by with_reducible assumption))))
          have y0 : (wr.alloc (.cells #[.int .i64 (yn : Int), .bool yo] 73)).drew.cell? ⟨wr.heap.size, 0, none⟩ = some (.int .i64 (yn : Int)) := by go_simp
          have y1 : (wr.alloc (.cells #[.int .i64 (yn : Int), .bool yo] 73)).drew.cell? ⟨wr.heap.size, 1, none⟩ = some (.bool yo) := by go_simp
          go_wp2
          obtain ⟨q, hq⟩ : ∃ q, q = wr.heap.size := ⟨_, rfl⟩
          rw [← hq] at y0 y1 zp ⊢
          have HQ := Lib.hid hq
          clear hq
          refine wp_region_heldE 13 (fun w' => w'.cell? ⟨p, 0, none⟩ = some u ∧ w'.cell? ⟨q, 0, none⟩ = some (.int .i64 (yn : Int)) ∧ w'.cell? ⟨q, 1, none⟩ = some (.bool yo) ∧ w'.cell? ⟨tb, tf + yn, none⟩ = some (.int .i64 fv)) (by kernel_rfl) ?_
          generalize (wr.alloc (.cells #[.int .i64 (yn : Int), .bool yo] 73)).drew = W2 at EX y0 y1 ⊢
          have q1 := EX.cell m1
          have q0 := EX.cell m0
          have qf := (Below.frozen (p := ⟨p, 0, none⟩) EX (cell_lt m1)).trans mf
          have hS : W2.cell? ⟨p, 0, none⟩ = some u ∧ W2.cell? ⟨q, 0, none⟩ = some (.int .i64 (yn : Int)) ∧ W2.cell? ⟨q, 1, none⟩ = some (.bool yo) ∧ W2.cell? ⟨tb, tf + yn, none⟩ = some (.int .i64 fv) := ⟨q1, y0, y1, EX.cell t1⟩
          have hzq := cell_lt y0
          dsimp only at hzq
          ((refine wpAnyE_take (i := 0) (oi := ?_) (v := ?_) ?_ (by kernel_rfl) ?_ ?_ (by assumption) ?_; rotate_left 2; (focus ((simp only [List.getElem?_toArray, List.getElem?_cons_zero]; exact rfl))); (focus (exact fun _ _ _ h => h)); (focus (refine Or.inl ⟨by rfl, ?_⟩; intro w hSw; (try dsimp only at hSw); (first | (go_simp; done) | (go_simp; with_reducible rfl)))); (try simp only [Act.put, List.setIfInBounds_toArray, List.set_cons_zero, List.set_cons_succ])); (refine wpAnyE_take (i := 1) (oi := ?_) (v := ?_) ?_ (by kernel_rfl) ?_ ?_ (by assumption) ?_; rotate_left 2; (focus ((simp only [List.getElem?_toArray, List.getElem?_cons_succ, List.getElem?_cons_zero]; exact rfl))); (focus (exact fun _ _ _ h => h)); (focus (refine Or.inl ⟨by rfl, ?_⟩; intro w hSw; (try dsimp only at hSw); (first | (go_simp; done) | (go_simp; with_reducible rfl)))); (try simp only [Act.put, List.setIfInBounds_toArray, List.set_cons_zero, List.set_cons_succ])); (refine wpAnyE_take (i := 2) (oi := ?_) (v := ?_) ?_ (by kernel_rfl) ?_ ?_ (by assumption) ?_; rotate_left 2; (focus ((simp only [List.getElem?_toArray, List.getElem?_cons_succ, List.getElem?_cons_zero]; exact rfl))); (focus (exact fun _ _ _ h => h)); (focus (refine Or.inl ⟨by rfl, ?_⟩; intro w hSw; (try dsimp only at hSw); (first | (go_simp; done) | (go_simp; with_reducible rfl)))); (try simp only [Act.put, List.setIfInBounds_toArray, List.set_cons_zero, List.set_cons_succ])); (refine wpAnyE_take (i := 3) (oi := ?_) (v := ?_) ?_ (by kernel_rfl) ?_ ?_ (by assumption) ?_; rotate_left 2; (focus ((simp only [List.getElem?_toArray, List.getElem?_cons_succ, List.getElem?_cons_zero]; exact rfl))); (focus (exact fun _ _ _ h => h)); (focus (refine Or.inl ⟨by rfl, ?_⟩; intro w hSw; (try dsimp only at hSw); (first | (go_simp; done) | (go_simp; with_reducible rfl)))); (try simp only [Act.put, List.setIfInBounds_toArray, List.set_cons_zero, List.set_cons_succ])); (refine wpAnyE_take (i := 4) (oi := ?_) (v := ?_) ?_ (by kernel_rfl) ?_ ?_ (by assumption) ?_; rotate_left 2; (focus ((simp only [List.getElem?_toArray, List.getElem?_cons_succ, List.getElem?_cons_zero]; exact rfl))); (focus (exact fun _ _ _ h => h)); (focus (refine Or.inl ⟨by rfl, ?_⟩; intro w hSw; (try dsimp only at hSw); (first | (go_simp; done) | (go_simp; with_reducible rfl)))); (try simp only [Act.put, List.setIfInBounds_toArray, List.set_cons_zero, List.set_cons_succ])); (refine wpAnyE_take (i := 5) (oi := ?_) (v := ?_) ?_ (by kernel_rfl) ?_ ?_ (by assumption) ?_; rotate_left 2; (focus ((simp only [List.getElem?_toArray, List.getElem?_cons_succ, List.getElem?_cons_zero]; exact rfl))); (focus (exact fun _ _ _ h => h)); (focus (refine Or.inl ⟨by rfl, ?_⟩; intro w hSw; (try dsimp only at hSw); (first | (go_simp; done) | (go_simp; with_reducible rfl)))); (try simp only [Act.put, List.setIfInBounds_toArray, List.set_cons_zero, List.set_cons_succ])); (refine wpAnyE_take (i := 6) (oi := ?_) (v := ?_) ?_ (by kernel_rfl) ?_ ?_ (by assumption) ?_; rotate_left 2; (focus ((simp only [List.getElem?_toArray, List.getElem?_cons_succ, List.getElem?_cons_zero]; exact rfl))); (focus (exact fun _ _ _ h => h)); (focus (refine Or.inl ⟨by rfl, ?_⟩; intro w hSw; (try dsimp only at hSw); (first | (go_simp; done) | (go_simp; with_reducible rfl)))); (try simp only [Act.put, List.setIfInBounds_toArray, List.set_cons_zero, List.set_cons_succ])); (refine wpAnyE_take (i := 7) (oi := ?_) (v := ?_) ?_ (by kernel_rfl) ?_ ?_ (by assumption) ?_; rotate_left 2; (focus ((simp only [List.getElem?_toArray, List.getElem?_cons_succ, List.getElem?_cons_zero]; exact rfl))); (focus (exact fun _ _ _ h => h)); (focus (refine Or.inl ⟨by rfl, ?_⟩; intro w hSw; (try dsimp only at hSw); (first | (go_simp; done) | (go_simp; with_reducible rfl)))); (try simp only [Act.put, List.setIfInBounds_toArray, List.set_cons_zero, List.set_cons_succ])); (refine wpAnyE_take (i := 8) (oi := ?_) (v := ?_) ?_ (by kernel_rfl) ?_ ?_ (by assumption) ?_; rotate_left 2; (focus ((simp only [List.getElem?_toArray, List.getElem?_cons_succ, List.getElem?_cons_zero]; exact rfl))); (focus (exact fun _ _ _ h => h)); (focus (refine Or.inl ⟨by rfl, ?_⟩; intro w hSw; (try dsimp only at hSw); (first | (go_simp; done) | (go_simp; with_reducible rfl)))); (try simp only [Act.put, List.setIfInBounds_toArray, List.set_cons_zero, List.set_cons_succ])); (refine wpAnyE_take (i := 9) (oi := ?_) (v := ?_) ?_ (by kernel_rfl) ?_ ?_ (by assumption) ?_; rotate_left 2; (focus ((simp only [List.getElem?_toArray, List.getElem?_cons_succ, List.getElem?_cons_zero]; exact rfl))); (focus (exact fun _ _ _ h => h)); (focus (refine Or.inl ⟨by rfl, ?_⟩; intro w hSw; (try dsimp only at hSw); (first | (go_simp; done) | (go_simp; with_reducible rfl)))); (try simp only [Act.put, List.setIfInBounds_toArray, List.set_cons_zero, List.set_cons_succ])))
          have E6 : Ext W2 (W2.alloc (.cells #[.int .i64 fv, .bool yo] 73)) := (by repeat (first | with_reducible exact Ext.refl _ | with_reducible assumption | with_reducible apply Ext.drewN | with_reducible apply Ext.drew | with_reducible apply Ext.alloc | ((with_reducible refine Ext.set ?_ ?_ _); rotate_left; first | omega | (simp; omega)) | (with_reducible refine Ext.trans ?_ (by with_reducible assumption))))
          (refine wpAnyE_one (i := 10) (o := ?_) ?_ (by kernel_rfl) (fun K hK => ?_); rotate_left; (focus ((simp only [List.getElem?_toArray, List.getElem?_cons_succ, List.getElem?_cons_zero]; exact rfl))); go_simp; refine hK.out _ _ ?_ (fun hHeld => ?_); rotate_left; clear hK K; (try simp only [Act.put, List.setIfInBounds_toArray, List.set_cons_zero, List.set_cons_succ]))
          rotate_left
          · exact ⟨E6.cell hS.1, E6.cell hS.2.1, E6.cell hS.2.2.1, E6.cell hS.2.2.2⟩
          have ho6 : OwnsK (W2.alloc (.cells #[.int .i64 fv, .bool yo] 73)) u P := HM2.out.ext (EX.trans E6)
          have hs6 := E6.size
          have hsX := EX.size
          refine wpAnyE_one (i := 11) (o := ?_) ?_ (by kernel_rfl) (fun K hK => ?_)
          rotate_left
          · simp only [List.getElem?_toArray, List.getElem?_cons_succ, List.getElem?_cons_zero]; exact rfl
          refine step_append1 rfl _ _ 66 rfl 73 i0 (.agg #[.int .i64 0, .bool false]) 2 16 Tryz.underlying66 hi hi0 hi1 hi2 rfl (by decide) u P.length (flatK P) rfl ho6 ⟨W2.heap.size, 0, none⟩ 1 1 (by decide) [.int .i64 fv, .bool yo] rfl rfl (cells_one _ _ _) (by intro u hu; simp at hu; rcases hu with rfl | rfl <;> rfl) (by unfold maxLen; omega) (by omega) (fun v' w7 hown7 hend7 => ?_)
          have O7 : OwnsK w7 v' (P ++ [(fv, yo)]) := ownsK_succ hown7
          have hgr := hend7.chg
          have B7 : Below p (W2.alloc (.cells #[.int .i64 fv, .bool yo] 73)) w7 := hend7.below (n := p) (by omega) (fun b hb => by have := HM3.out b hb; omega)
          have V7 := hend7.ge (n := p + 1) (by omega) (fun b hb => HM3.out b hb)
          have same7 : ∀ (c : Addr) (v : Value), u.ownBlock ≠ some c.block → (W2.alloc (.cells #[.int .i64 fv, .bool yo] 73)).cell? c = some v → w7.cell? c = some v ∧ w7.frozen? c = (W2.alloc (.cells #[.int .i64 fv, .bool yo] 73)).frozen? c := fun c v hp hc => by
            have h1 := hgr.1 c.block (cell_lt hc) hp
            exact ⟨(World.cell?_of_block (w := W2.alloc (.cells #[.int .i64 fv, .bool yo] 73)) h1).trans hc, World.frozen?_of_block (w := W2.alloc (.cells #[.int .i64 fv, .bool yo] 73)) h1⟩
          have hnp : u.ownBlock ≠ some p := fun e => by have := HM3.out _ e; omega
          have hnq : u.ownBlock ≠ some q := fun e => by have := HUM.out _ e; have := HQ.out; omega
          refine hK.out _ _ ⟨(same7 ⟨p, 0, none⟩ _ hnp hHeld.1).1, (same7 ⟨q, 0, none⟩ _ hnq hHeld.2.1).1, (same7 ⟨q, 1, none⟩ _ hnq hHeld.2.2.1).1, cellB B7 (by show tb < _; omega) hHeld.2.2.2⟩ (fun hHeld => ?_)
          clear hK K
          (try simp only [Act.put, List.setIfInBounds_toArray, List.set_cons_zero, List.set_cons_succ])
          (refine wpAnyE_take (i := 12) (oi := ?_) (v := ?_) ?_ (by kernel_rfl) ?_ ?_ (by assumption) ?_; rotate_left 2; (focus ((simp only [List.getElem?_toArray, List.getElem?_cons_succ, List.getElem?_cons_zero]; exact rfl))); (focus (exact fun _ _ _ h => h)); (focus (refine Or.inl ⟨by rfl, ?_⟩; intro w hSw; (try dsimp only at hSw); (first | (go_simp; done) | (go_simp; with_reducible rfl)))); (try simp only [Act.put, List.setIfInBounds_toArray, List.set_cons_zero, List.set_cons_succ]))
          obtain ⟨va, vc, hvv, _, _⟩ := O7.reads
          have hlen : (P ++ [(fv, yo)]).length = P.length + 1 := by rw [List.length_append]; rfl
          rw [hlen] at hvv
          subst hvv
          have HO7 := Lib.hid O7
          have HV7 := Lib.hid V7
          obtain ⟨r1', rf0⟩ := same7 ⟨p, 0, none⟩ _ hnp (E6.cell q1)
          have r0 := (same7 ⟨p, 1, none⟩ _ hnp (E6.cell q0)).1
          have rf := (rf0.trans (Below.frozen (p := ⟨p, 0, none⟩) E6 (cell_lt q1))).trans qf
          have BB : Below p W1 w7 := (hbn.trans ((EX.trans E6).mono (by omega))).trans B7
          clear O7 V7 hown7 hend7 hgr hlen rf0 hHeld same7
          (refine wpAnyE_free (i := 13) (o := ?_) ?_ (by kernel_rfl) (by kernel_rfl) (fun K hK => ?_); rotate_left; (focus ((simp only [List.getElem?_toArray, List.getElem?_cons_succ, List.getElem?_cons_zero]; exact rfl))); go_simp; refine hK.out _ _ ?_; clear hK K; (try simp only [Act.put, List.setIfInBounds_toArray, List.set_cons_zero, List.set_cons_succ]))
          refine wpAnyE_done (by kernel_rfl) ?_ _
          have MN : Hid (RnSt p W1 (w7.setCell ⟨p, 0, none⟩ (.slice va (P.length + 1) vc)) (renP f st (j + 1)) wait) := by
            show RnSt _ _ _ _ _
            rw [HPS.out]
            refine ⟨BB.setCell (p := ⟨p, 0, none⟩) (Nat.le_refl _) _, ⟨_, World.cell?_setCell_same _ _ _ r1', ?_, fun b hb => by have := HV7.out b hb; omega⟩, ?_, by rw [World.frozen?_setCell]; exact rf⟩
            · exact rowSame HO7.out (fun b hb => Below.heap_setCell _ _ _ _ (fun e => by have := HV7.out b hb; dsimp only at e; omega))
            · rw [World.cell?_setCell_other _ _ _ _ (fun h => by simp only [Addr.mk.injEq] at h; omega)]
              exact r0
          generalize w7.setCell ⟨p, 0, none⟩ (.slice va (P.length + 1) vc) = w8 at MN ⊢
          go_wp2
          refine ⟨⟨j + 1, by omega, by go_num, MN⟩, by simp [intOf]; omega⟩
        · have hje : j = st.length := by omega
          have hpe : renP f st j = st.map fun y => (f y.1, y.2) := by unfold renP; rw [hje, List.take_length]
          obtain ⟨u, m1, m2, m3⟩ := N.out.v
          have m0 := N.out.c1
          have mf := N.out.f0
          rw [hpe] at m2
          obtain ⟨Q, hQ⟩ : ∃ Q, Q = st.map fun y : Stk => (f y.1, y.2) := ⟨_, rfl⟩
          have hQl : Q.length ≤ 40 := by rw [hQ, List.length_map]; exact hl40
          have HQS : Hid (renStep f (st, wait) = (ordered Q, wait)) := by show _ = _; rw [hQ]; rfl
          rw [← hQ] at m2
          obtain ⟨ua, uc, rfl, hcu, _, _⟩ := m2.reads
          have HCU := Lib.hid hcu
          have EW : Ext wo wr := EP.trans' hbn (by have := HPP.out; omega)
          have zp := cell_lt m1
          dsimp only at zp
          clear hcu m2 m3 N hpe hQ
          go_wp2_with fail
          refine (orderedR_any Q ua uc _ hQl HCU.out).mono ?_
          rintro e w3 ⟨v2, rfl, ho2, hob2, hE3⟩
          obtain ⟨oa, oc, rfl, hoc, hol, hobk⟩ := ho2.reads
          have m1 := hE3.cell m1
          have mf := (Below.frozen (p := ⟨p, 0, none⟩) hE3 zp).trans mf
          have m0 := hE3.cell m0
          have EO : Ext wo w3 := EW.trans hE3
          have hsE := hE3.size
          have EB : Ext wo (w3.setCell ⟨p, 0, none⟩ (.slice oa (ordered Q).length oc)) := EO.set (by have := HPP.out; omega) _
          have hoB : OwnsK (w3.setCell ⟨p, 0, none⟩ (.slice oa (ordered Q).length oc)) (.slice oa (ordered Q).length oc) (ordered Q) :=
            rowSame ho2 (fun b hb => Below.heap_setCell _ _ _ _ (fun e => by have := hob2 b hb; dsimp only at e; omega))
          obtain ⟨_, _, e9, hoc, hol, hobk⟩ := hoB.reads
          cases e9
          have HOC := Lib.hid hoc
          have HOX : Hid (∀ b off, oa = some ⟨b, off, none⟩ → ordered Q ≠ [] → p < b) := fun b off hb hne => by
            have := hob2 b (hobk b off hb hne).2.1; omega
          obtain ⟨ov, n1, n2, n3⟩ := M.out.v
          have n0 := EB.cell M.out.c0
          have nf := (Below.frozen (p := ⟨o, 1, none⟩) EB (cell_lt n1)).trans M.out.f1
          have hoN : ∀ b, ov.ownBlock = some b → b < p := fun b hb => by have := n2.lt hb; have := HPP.out; omega
          have HON := Lib.hid hoN
          have zo1 : o < wo.heap.size := how
          have N1 := Lib.hid (EO.cell n1)
          have n1 := EB.cell n1
          have E6 : Ext wo ((w3.setCell ⟨p, 0, none⟩ (.slice oa (ordered Q).length oc)).alloc (.cells #[.slice oa (ordered Q).length oc, .int .i64 wait] 87)) := EB.alloc _
          have hs6 := E6.size
          have hsB : (w3.setCell ⟨p, 0, none⟩ (.slice oa (ordered Q).length oc)).heap.size = w3.heap.size := by simp [World.setCell]
          have hs7 : ((w3.setCell ⟨p, 0, none⟩ (.slice oa (ordered Q).length oc)).alloc (.cells #[.slice oa (ordered Q).length oc, .int .i64 wait] 87)).heap.size = w3.heap.size + 1 := by go_simp
          have E67 : Ext (w3.setCell ⟨p, 0, none⟩ (.slice oa (ordered Q).length oc)) ((w3.setCell ⟨p, 0, none⟩ (.slice oa (ordered Q).length oc)).alloc (.cells #[.slice oa (ordered Q).length oc, .int .i64 wait] 87)) := (by repeat (first | with_reducible exact Ext.refl _ | with_reducible assumption | with_reducible apply Ext.drewN | with_reducible apply Ext.drew | with_reducible apply Ext.alloc | ((with_reducible refine Ext.set ?_ ?_ _); rotate_left; first | omega | (simp; omega)) | (with_reducible refine Ext.trans ?_ (by with_reducible assumption))))
          obtain ⟨ps, hp1, hp2, hp3⟩ := n2.chg (Chg.ext E6) (fun b hb h => by have := n3 b hb; omega)
          have HN3 := Lib.hid n3
          have HP3 := Lib.hid hp3
          have HPS1 := Lib.hid hp1
          obtain ⟨F, hF⟩ : ∃ F, F = flat2 (pairP ps) := ⟨_, rfl⟩
          rw [← hF] at hp2
          have HFF := Lib.hid hF
          have HP2 := Lib.hid hp2
          have hYl := renK_len f l k
          have MB := Lib.hid hbe
          clear hp1 hp2 hp3 hF n2 n3 M ho2 hoB hoc hobk hob2 hoN hbe hE3 EW HCU
          generalize renK f l k = Y at HMS HPS1 HP2 hYl
          have n1' := N1.out
          have zo2 : o < w3.heap.size := by omega
          go_wp2_with (at_builtin; refine wpList_append1 _ rfl _ _ 22 rfl 87 j0 (.agg #[.slice none 0 0, .int .i64 0]) 2 32 Tryz.underlying22 hj hj0 hj1 hj2 rfl (by decide) ov Y.length F rfl HP2.out ⟨w3.heap.size, 0, none⟩ 1 1 (by decide) [.slice oa (ordered Q).length oc, .int .i64 wait] rfl rfl ?hn ?c1 ?c2 ?c3 ?c4)
          case hn =>
            have hh := cells_one (w3.setCell ⟨p, 0, none⟩ (.slice oa (ordered Q).length oc)) [.slice oa (ordered Q).length oc, .int .i64 wait] 87
            rw [hsB] at hh
            exact hh
          case c1 => intro u hu; simp at hu; rcases hu with rfl | rfl <;> rfl
          case c2 => unfold maxLen; omega
          case c3 => omega
          case c4 =>
            intro v' w7 hown7 hend7
            rw [HFF.out] at hown7
            have O7 : OwnsP (fun b => b ≤ o) w7 v' (Y ++ [(ordered Q, wait)]) := by
              refine OwnsP.app2 (u := .slice oa (ordered Q).length oc) (y := (ordered Q, wait)) HPS1.out HP3.out ?_ (fun b hb => by omega) hown7 hend7
              refine ⟨oa, oc, rfl, (HOC.out.ext E67), hol, fun b off hb hne hx => ?_⟩
              have h1 := HOX.out b off hb hne
              rcases hx with hx | hx
              · omega
              · have h2 := HON.out b hx
                omega
            have hgr := hend7.chg
            have B7 : Below o W w7 := (MB.out.trans (E6.mono (by omega))).trans (hend7.below (n := o) (by omega) (fun b hb => by have := HN3.out b hb; omega))
            have V7 := hend7.ge (n := o + 1) (by omega) (fun b hb => HN3.out b hb)
            have same7 : ∀ (c : Addr) (v : Value), c.block = o → (w3.setCell ⟨p, 0, none⟩ (.slice oa (ordered Q).length oc)).cell? c = some v → w7.cell? c = some v ∧ w7.frozen? c = (w3.setCell ⟨p, 0, none⟩ (.slice oa (ordered Q).length oc)).frozen? c := fun c v hp hc => by
              have h1 := hgr.1 c.block (cell_lt (E67.cell hc)) (fun e => by have := HN3.out _ e; omega)
              exact ⟨(World.cell?_of_block (w := ((w3.setCell ⟨p, 0, none⟩ (.slice oa (ordered Q).length oc)).alloc (.cells #[.slice oa (ordered Q).length oc, .int .i64 wait] 87))) h1).trans (E67.cell hc), (World.frozen?_of_block (w := ((w3.setCell ⟨p, 0, none⟩ (.slice oa (ordered Q).length oc)).alloc (.cells #[.slice oa (ordered Q).length oc, .int .i64 wait] 87))) h1).trans (Below.frozen (p := c) E67 (cell_lt hc))⟩
            obtain ⟨r1, rf0⟩ := same7 ⟨o, 1, none⟩ _ rfl n1
            have r0 := (same7 ⟨o, 0, none⟩ _ rfl n0).1
            have rf := rf0.trans nf
            obtain ⟨va, vc, hvv, _, _⟩ := O7.reads
            have hlen : (Y ++ [(ordered Q, wait)]).length = Y.length + 1 := by rw [List.length_append]; rfl
            rw [hlen] at hvv
            subst hvv
            have HO7 := Lib.hid O7
            have HV7 := Lib.hid V7
            have MN : Hid (TrSt (fun b => b ≤ o) o W (w7.setCell ⟨o, 1, none⟩ (.slice va (Y.length + 1) vc)) n (renK f l (k + 1))) := by
              show TrSt _ _ _ _ _ _
              rw [HMS.out, HQS.out]
              refine ⟨B7.setCell (p := ⟨o, 1, none⟩) (Nat.le_refl _) _, ?_, by rw [World.frozen?_setCell]; exact rf, _, World.cell?_setCell_same _ _ _ r1, HO7.out.chg (Chg.setCell (B := fun b => b ≤ o) ⟨o, 1, none⟩ _ (Nat.le_refl _)) (fun b hb e => by have := HV7.out b hb; omega), fun b hb => by have := HV7.out b hb; omega⟩
              rw [World.cell?_setCell_other _ _ _ _ (fun h => by simp only [Addr.mk.injEq] at h; omega)]
              exact r0
            have rf1 : w7.frozen? ⟨o, 1, none⟩ = false := rf
            clear hown7 hend7 hgr hlen rf0 same7 O7 V7 HPS1 HP2 HP3 HFF MB E67 E6 EB B7 N1 n1'
            go_wp2
            refine ⟨⟨k + 1, by omega, by go_num, MN⟩, by simp [intOf]; omega⟩
    · have hke : k = l.length := by omega
      subst hke
      obtain ⟨v, m1, m2, m3⟩ := M.out.v
      have m0 := M.out.c0
      rw [HRE.out] at m2
      obtain ⟨va, vc, rfl, _, _⟩ := m2.reads
      have d1 := cellB hbe (p := ⟨w.heap.size + 1, 0, none⟩) ho1 c1
      have d2 := cellB hbe (p := ⟨w.heap.size + 1, 1, none⟩) ho1 c2
      have g1 := (Below.frozen (p := ⟨w.heap.size + 1, 0, none⟩) hbe ho1).trans f1
      have g2 := (Below.frozen (p := ⟨w.heap.size + 1, 1, none⟩) hbe ho1).trans f2
      have hc : Chg (fun b => b ≤ o) wo ((wo.setCell ⟨w.heap.size + 1, 0, none⟩ (.int .i64 n)).setCell ⟨w.heap.size + 1, 1, none⟩ (.slice va R.2.length vc)) :=
        (Chg.setCell (B := fun b => b ≤ o) ⟨w.heap.size + 1, 0, none⟩ _ (by show w.heap.size + 1 ≤ o; omega)).trans (Chg.setCell (B := fun b => b ≤ o) ⟨w.heap.size + 1, 1, none⟩ _ (by show w.heap.size + 1 ≤ o; omega))
      have HFO := Lib.hid (m2.chg hc (fun b hb e => by have := m3 b hb; omega))
      have HFV := Lib.hid m3
      have EF : Ext w ((wo.setCell ⟨w.heap.size + 1, 0, none⟩ (.int .i64 n)).setCell ⟨w.heap.size + 1, 1, none⟩ (.slice va R.2.length vc)) := (by repeat (first | with_reducible exact Ext.refl _ | with_reducible assumption | with_reducible apply Ext.drewN | with_reducible apply Ext.drew | with_reducible apply Ext.alloc | ((with_reducible refine Ext.set ?_ ?_ _); rotate_left; first | omega | (simp; omega)) | (with_reducible refine Ext.trans ?_ (by with_reducible assumption))))
      clear m2 m3 M hc hbe HRE
      go_wp2
      refine bodyPost_ret (v := .agg #[.int .i64 n, .slice va R.2.length vc]) (by rw [results_cell1 rfl]; go_simp) rfl ⟨o, _, by omega, by rw [HR1.out], HFO.out, HFV.out, EF⟩
end Go.Proofs.YtnhbogmihnnpjaaGreat
/- The reference's Letters. -/
namespace Go.Proofs.YtnhbogmihnnpjaaGreat
open Go.RowKit

def cntB (l : List Stp) (A : Int) (B : Nat) : Nat := ((ints (B : Int)).filter fun b => bf l b A).length
theorem cntB_succ (l : List Stp) (A : Int) (B : Nat) : cntB l A (B + 1) = cntB l A B + if bf l (B : Int) A then 1 else 0 := by
  unfold cntB
  rw [ints_succ, List.filter_append, List.length_append]
  congr 1
  cases h : bf l (B : Int) A <;> simp [h]
theorem cntB_le (l : List Stp) (A : Int) (B : Nat) : cntB l A B ≤ B := by
  unfold cntB
  refine Nat.le_trans (List.length_filter_le _ _) ?_
  simp [ints]
def letK (N : Nat) (l : List Stp) (A : Nat) : List Int := (ints (A : Int)).map (letterOf ((N : Int), l))
theorem letK_succ (N : Nat) (l : List Stp) (A : Nat) : letK N l (A + 1) = letK N l A ++ [(cntB l (A : Int) N : Int)] := by
  unfold letK; rw [ints_succ, List.map_append]; rfl
theorem letK_len (N : Nat) (l : List Stp) (A : Nat) : (letK N l A).length ≤ A := by simp [letK, ints]

set_option maxHeartbeats 8000000 in
set_option maxRecDepth 100000 in
theorem LettersR_any (N : Nat) (l : List Stp) (a : Option Addr) (cap : Nat) (w : World) (hl : l.length ≤ 200) (hc : CellsP w a l) (hN : N ≤ 6) :
    Calls Tryz.prog 69 #[.agg #[.int .i64 (N : Int), .slice a l.length cap]] w (OwnIPost (lettersOf ((N : Int), l)) w) := by
  have HC := Lib.hid hc
  clear hc
  obtain ⟨R, hR⟩ : ∃ R, R = lettersOf ((N : Int), l) := ⟨_, rfl⟩
  have HRR : Hid (letK N l N = R) := hR.symm
  rw [← hR]
  clear hR
  obtain ⟨i0, hi, hi0, hi1, hi2⟩ := info_parts infoInt
  go_enter Tryz.func69, Tryz.ntmps69
  go_wp2
  have E1 : Ext w (w.alloc (.cells #[.int .i64 (N : Int), .slice a l.length cap] 24)) := (by repeat (first | with_reducible exact Ext.refl _ | with_reducible assumption | with_reducible apply Ext.drewN | with_reducible apply Ext.drew | with_reducible apply Ext.alloc | ((with_reducible refine Ext.set ?_ ?_ _); rotate_left; first | omega | (simp; omega)) | (with_reducible refine Ext.trans ?_ (by with_reducible assumption))))
  have c0 : (w.alloc (.cells #[.int .i64 (N : Int), .slice a l.length cap] 24)).cell? ⟨w.heap.size, 0, none⟩ = some (.int .i64 (N : Int)) := by go_simp
  have c1 : (w.alloc (.cells #[.int .i64 (N : Int), .slice a l.length cap] 24)).cell? ⟨w.heap.size, 1, none⟩ = some (.slice a l.length cap) := by go_simp
  generalize w.alloc (.cells #[.int .i64 (N : Int), .slice a l.length cap] 24) = W at E1 c0 c1 ⊢
  have hW := E1.size
  go_loopw [4, 3] (fun i v wr => ∃ A : Nat, A ≤ N ∧ i = .int .i64 A ∧ (∃ vv, v = vv ∧ Hid (OwnsI wr vv (letK N l A) ∧ ∀ b, vv.ownBlock = some b → W.heap.size ≤ b)) ∧ Ext W wr) (fun i _ _ => N - (intOf i).toNat)
  case atStart => exact ⟨0, Nat.zero_le _, rfl, ⟨_, rfl, OwnsI.nil _, fun b hb => by cases hb⟩, Ext.refl _⟩
  case round =>
    obtain ⟨A, hA, rfl, ⟨vv, hvv, hO⟩, he⟩ := hrel
    obtain rfl := hvv.symm
    obtain ⟨wo, hwo⟩ : ∃ wo : World, wo = wr := ⟨_, rfl⟩
    subst hwo
    have d0 := he.cell c0
    have d1 := he.cell c1
    by_cases hlt : A < N
    · have hlti : (A : Int) < (N : Int) := by omega
      go_wp2
      (try simp only [decide_eq_true hlti])
      have HB0 := Lib.hid hO.out.2
      have HO0 := Lib.hid hO.out.1
      clear hO
      go_loopw [6, 5] (fun i v wr => ∃ B : Nat, B ≤ N ∧ i = .int .i64 B ∧ (∃ q : Int, v = .int .i64 q ∧ Hid (q = (cntB l (A : Int) B : Nat))) ∧ Ext wo wr) (fun i _ _ => N - (intOf i).toNat)
      case atStart => exact ⟨0, Nat.zero_le _, rfl, ⟨0, rfl, by show (0 : Int) = _; rfl⟩, Ext.refl _⟩
      case round =>
        obtain ⟨B, hB, rfl, ⟨q, rfl, hq⟩, hE⟩ := hrel
        have d0 := hE.cell d0
        have d1 := hE.cell d1
        by_cases hblt : B < N
        · have hz1 := cell_lt d0
          dsimp only at hz1
          have HCW := Lib.hid (HC.out.ext (E1.trans (he.trans hE)))
          go_wp2
          go_region_held3 (fun w' => Sees wr w') ((repeat (first | exact Sees.refl _ | assumption | apply Sees.drew | apply Sees.alloc | (refine Sees.ext ?_ (by assumption))))) (first | (go_at_call 98; have hprev := hvB; refine Calls.mono (StepsR_any _ l _ a cap _ hl (HCW.out.ext (show Sees wr _ by assumption).2.2)) ?_; rintro e wA ⟨vA, rfl, hvA, hbA, hEA⟩) | (go_at_call 98; refine Calls.mono (StepsR_any _ l _ a cap _ hl (HCW.out.ext (show Sees wr _ by assumption).2.2)) ?_; rintro e wB ⟨vB, rfl, hvB, hbB, hEB⟩))
          have hSee := (show Sees wr wA by assumption)
          have E5 : Ext wo wA := hE.trans hSee.2.2
          obtain ⟨ba, bc, rfl, hcB, hlB⟩ := hvB.reads
          obtain ⟨aa, ac, rfl, hcA, hlA⟩ := hvA.reads
          have HCB := Lib.hid (hcB.ext hEA)
          have HCA := Lib.hid hcA
          have HLB := Lib.hid hlB
          have HLA := Lib.hid hlA
          have HS := Lib.hid (cntB_succ l (A : Int) B)
          have hbf : bf l (B : Int) (A : Int) = (lexLt (movesOf l (B : Int)) (movesOf l (A : Int)) || (decide ((B : Int) < (A : Int)) && (movesOf l (B : Int) == movesOf l (A : Int)))) := rfl
          rw [hbf] at HS
          have hq0 : 0 ≤ q ∧ q ≤ 6 := by have h1 := hq.out; have h2 := cntB_le l (A : Int) B; omega
          have hwq : IntKind.i64.wrap (q + 1) = q + 1 := IntWalk.i64_in _ (by omega)
          rename_i hH
          clear hSee hH hcB hcA hlB hlA hvB hvA hbB hbA hEB hEA hprev hbf HCW d0 d1 hz1
          generalize movesOf l (B : Int) = X at HCB HLB HS
          generalize movesOf l (A : Int) = Y at HCA HLA HS
          go_wp2_with fail
          refine (lessR_any X Y ba aa bc ac _ HLB.out HCB.out HLA.out HCA.out).mono ?_
          rintro e w7 ⟨rfl, hE7⟩
          have HCB := Lib.hid (HCB.out.ext hE7)
          have HCA := Lib.hid (HCA.out.ext hE7)
          have E7 := E5.trans hE7
          clear E5 hE7
          cases hlx : lexLt X Y
          · rw [hlx, Bool.false_or] at HS
            by_cases hba : (B : Int) < (A : Int)
            · rw [decide_eq_true hba, Bool.true_and] at HS
              go_wp2_with fail
              refine (SameInts_any X Y ba aa bc ac _ HLB.out HCB.out HLA.out HCA.out).mono ?_
              rintro e w8 ⟨rfl, hE8⟩
              have E8 := E7.trans hE8
              clear E7 hE8
              by_cases hxy : X = Y
              · have HS2 : Hid (q + 1 = (cntB l (A : Int) (B + 1) : Nat)) := by
                  show _ = _
                  rw [HS.out, if_pos (by simp [hxy]), hq.out]; rfl
                rw [decide_eq_true hxy]
                clear HS hq hxy hlx
                go_wp2
                refine ⟨⟨B + 1, by omega, by go_num, ⟨_, rfl, HS2⟩, E8⟩, by simp [intOf]; omega⟩
              · have HS2 : Hid (q = (cntB l (A : Int) (B + 1) : Nat)) := by
                  show _ = _
                  rw [HS.out, if_neg (by simp [hxy]), hq.out]; rfl
                rw [decide_eq_false hxy]
                clear HS hq hxy hlx
                go_wp2
                refine ⟨⟨B + 1, by omega, by go_num, ⟨_, rfl, HS2⟩, E8⟩, by simp [intOf]; omega⟩
            · have HS2 : Hid (q = (cntB l (A : Int) (B + 1) : Nat)) := by
                show _ = _
                rw [HS.out, decide_eq_false hba, Bool.false_and, if_neg (by simp), hq.out]; rfl
              clear HS hq hlx
              go_wp2
              refine ⟨⟨B + 1, by omega, by go_num, ⟨_, rfl, HS2⟩, E7⟩, by simp [intOf]; omega⟩
          · have HS2 : Hid (q + 1 = (cntB l (A : Int) (B + 1) : Nat)) := by
              show _ = _
              rw [HS.out, hlx, Bool.true_or, if_pos rfl, hq.out]; rfl
            clear HS hq hlx
            go_wp2
            refine ⟨⟨B + 1, by omega, by go_num, ⟨_, rfl, HS2⟩, E7⟩, by simp [intOf]; omega⟩
        · have hBN : B = N := by omega
          subst hBN
          have HQ : Hid (q = (cntB l (A : Int) B : Nat)) := hq
          have HLS := Lib.hid (letK_succ B l A)
          have hYl := letK_len B l A
          have HOW := Lib.hid (HO0.out.ext hE)
          have hsE := hE.size
          have hsE2 := he.size
          have E5 := he.trans hE
          have hLT : Hid (∀ b, vv.ownBlock = some b → W.heap.size ≤ b) := HB0
          rw [← HQ.out] at HLS
          generalize letK B l A = P at HLS hYl HOW
          clear hq HQ HO0
          go_wp2_with (at_builtin; refine wpList_append1 _ rfl _ _ 27 rfl 3 i0 (.int .i64 0) 1 8 Tryz.underlying27 hi hi0 hi1 hi2 rfl (by decide) vv P.length (P.map (Value.int .i64)) rfl ?ho ⟨wr.heap.size, 0, none⟩ 1 1 (by decide) [.int .i64 q] rfl rfl ?hn ?c1 ?c2 ?c3 ?c4)
          case ho => exact HOW.out.ext ((Ext.refl _).alloc _)
          case hn => exact cells_one _ _ _
          case c1 => intro u hu; simp at hu; subst hu; rfl
          case c2 => unfold maxLen; omega
          case c3 => omega
          case c4 =>
            intro v' w5 hown5 hend5
            have O5 : Hid (OwnsI w5 v' (letK B l (A + 1))) := by show OwnsI _ _ _; rw [HLS.out]; exact ownsI_succ hown5
            have B5 : Ext W w5 := (E5.trans ((Ext.refl _).alloc _)).trans' (hend5.below (n := W.heap.size) (by simp; omega) HB0.out) (Nat.le_refl _)
            have OB5 : Hid (∀ b, v'.ownBlock = some b → W.heap.size ≤ b) := hend5.ge (n := W.heap.size) (by simp; omega) HB0.out
            clear hown5 hend5 HOW HB0
            go_wp2
            refine ⟨⟨A + 1, by omega, by go_num, ⟨v', rfl, O5.out, OB5.out⟩, B5⟩, by simp [intOf]; omega⟩
    · have hAN : A = N := by omega
      subst hAN
      have HO1 := Lib.hid hO.out.1
      have HO2 := Lib.hid hO.out.2
      rw [HRR.out] at HO1
      clear hO
      go_wp2
      go_ret
      exact ⟨_, rfl, HO1.out, fun b hb => by have := HO2.out b hb; omega, E1.trans he⟩
end Go.Proofs.YtnhbogmihnnpjaaGreat
/- The reference's Standard, Rename, Alike. -/
namespace Go.Proofs.YtnhbogmihnnpjaaGreat
open Go.RowKit

/-- what Renamed asks of the steps -/
theorem Fine.renIn {n : Int} {l : List Stp} (h : Fine n l) {m : Int} (hm : n ≤ m) : ∀ k, k < l.length → (l.getD k stp0).1.length ≤ 40 ∧ ∀ j, j < (l.getD k stp0).1.length → 0 ≤ ((l.getD k stp0).1.getD j stk0).1 ∧ ((l.getD k stp0).1.getD j stk0).1 < m := fun k hk => by
  obtain ⟨h1, h2⟩ := h k hk
  have := (ckStep_strokes h1).2.1
  exact ⟨by omega, fun j hj => ⟨(h2 j hj).1, by have := (h2 j hj).2; omega⟩⟩
set_option maxHeartbeats 4000000 in
set_option maxRecDepth 100000 in
theorem StandardR_any (n : Int) (l : List Stp) (a : Option Addr) (cap : Nat) (w : World) (hl : l.length ≤ maxLen) (hc : CellsP w a l) :
    Calls Tryz.prog 35 #[.agg #[.int .i64 n, .slice a l.length cap]] w (StdPost (if ckSeq (n, l) = 0 then standard (n, l) else sq0) (if ckSeq (n, l) = 0 then lettersOf (n, l) else []) (ckSeq (n, l)) w) := by
  have HC := Lib.hid hc
  have HL := Lib.hid hl
  obtain ⟨er, her⟩ : ∃ er, er = ckSeq (n, l) := ⟨_, rfl⟩
  obtain ⟨R, hR⟩ : ∃ R, R = (if ckSeq (n, l) = 0 then standard (n, l) else sq0) := ⟨_, rfl⟩
  obtain ⟨T, hT⟩ : ∃ T, T = (if ckSeq (n, l) = 0 then lettersOf (n, l) else []) := ⟨_, rfl⟩
  rw [← hR, ← hT, ← her]
  have HER := Lib.hid her
  have HR := Lib.hid hR
  have HT := Lib.hid hT
  clear hc hl her hR hT
  go_enter Tryz.func35, Tryz.ntmps35
  go_wp2_with fail
  have E1 : Ext w ((w.alloc (.cells #[.int .i64 n, .slice a l.length cap] 24)).alloc (.cells #[.int .i64 0, .slice none 0 0] 24)) := (by repeat (first | with_reducible exact Ext.refl _ | with_reducible assumption | with_reducible apply Ext.drewN | with_reducible apply Ext.drew | with_reducible apply Ext.alloc | ((with_reducible refine Ext.set ?_ ?_ _); rotate_left; first | omega | (simp; omega)) | (with_reducible refine Ext.trans ?_ (by with_reducible assumption))))
  have c0 : ((w.alloc (.cells #[.int .i64 n, .slice a l.length cap] 24)).alloc (.cells #[.int .i64 0, .slice none 0 0] 24)).cell? ⟨w.heap.size, 0, none⟩ = some (.int .i64 n) := by go_simp
  have c1 : ((w.alloc (.cells #[.int .i64 n, .slice a l.length cap] 24)).alloc (.cells #[.int .i64 0, .slice none 0 0] 24)).cell? ⟨w.heap.size, 1, none⟩ = some (.slice a l.length cap) := by go_simp
  have c2 : ((w.alloc (.cells #[.int .i64 n, .slice a l.length cap] 24)).alloc (.cells #[.int .i64 0, .slice none 0 0] 24)).cell? ⟨w.heap.size + 1, 0, none⟩ = some (.int .i64 0) := by go_simp
  have c3 : ((w.alloc (.cells #[.int .i64 n, .slice a l.length cap] 24)).alloc (.cells #[.int .i64 0, .slice none 0 0] 24)).cell? ⟨w.heap.size + 1, 1, none⟩ = some (.slice none 0 0) := by go_simp
  have d2 : ((w.alloc (.cells #[.int .i64 n, .slice a l.length cap] 24)).alloc (.cells #[.int .i64 0, .slice none 0 0] 24)).frozen? ⟨w.heap.size + 1, 0, none⟩ = false := by go_simp
  have d3 : ((w.alloc (.cells #[.int .i64 n, .slice a l.length cap] 24)).alloc (.cells #[.int .i64 0, .slice none 0 0] 24)).frozen? ⟨w.heap.size + 1, 1, none⟩ = false := by go_simp
  generalize ((w.alloc (.cells #[.int .i64 n, .slice a l.length cap] 24)).alloc (.cells #[.int .i64 0, .slice none 0 0] 24)) = W at E1 c0 c1 c2 c3 d2 d3 ⊢
  refine (CheckR_any n l a cap _ HL.out (HC.out.ext E1)).mono ?_
  rintro e w1 ⟨rfl, hE⟩
  rw [← HER.out]
  have E2 := E1.trans hE
  have d2 := (Below.frozen (p := ⟨w.heap.size + 1, 0, none⟩) hE (cell_lt c2)).trans d2
  have d3 := (Below.frozen (p := ⟨w.heap.size + 1, 1, none⟩) hE (cell_lt c3)).trans d3
  have c0 := hE.cell c0
  have c1 := hE.cell c1
  have c2 := hE.cell c2
  have c3 := hE.cell c3
  have hz1 := cell_lt c2
  dsimp only at hz1
  clear hE E1
  by_cases h1 : er = 0
  · have hck : ckSeq (n, l) = 0 := HER.out.symm.trans h1
    obtain ⟨hN1, hN6, hl0, hl64, hwk, _, _⟩ := ckSeq_zero hck
    obtain ⟨N, rfl⟩ := Int.eq_ofNat_of_zero_le (show 0 ≤ n by omega)
    have HFI := Lib.hid (ckWalk_fine hwk)
    have hrr := HR.out
    have htt := HT.out
    rw [if_pos hck] at hrr htt
    have hRR : R = ren (listFn T) ((N : Int), l) := by rw [hrr, htt]; rfl
    have HRR := Lib.hid hRR
    have HTT := Lib.hid htt
    have hTl : T.length = N := by rw [htt, lettersOf_len]; rfl
    have hTl6 : T.length ≤ 1000 := by omega
    have HTL := Lib.hid hTl
    subst h1
    clear hwk hck hrr htt hRR HR HT HER hTl
    go_wp2_with fail
    refine (LettersR_any N l a cap _ (by omega) (HC.out.ext E2) (by omega)).mono ?_
    rintro e w3 ⟨v, rfl, hv, hvb, hE⟩
    rw [← HTT.out] at hv
    obtain ⟨ta, tc, rfl, ht, htm⟩ := hv.reads
    have HTA := Lib.hid ht
    have HTM := Lib.hid htm
    have E3 := E2.trans hE
    have d2 := (Below.frozen (p := ⟨w.heap.size + 1, 0, none⟩) hE (cell_lt c2)).trans d2
    have d3 := (Below.frozen (p := ⟨w.heap.size + 1, 1, none⟩) hE (cell_lt c3)).trans d3
    have HV := Lib.hid hv
    have HVB := Lib.hid hvb
    have c0 := hE.cell c0
    have c1 := hE.cell c1
    have hz3 := hE.size
    have c2 := hE.cell c2
    have c3 := hE.cell c3
    clear hE ht htm hv hvb E2
    go_wp2_with fail
    have hT7 := HTL.out
    refine (RenamedR_any (N : Int) l a cap T ta tc _ (by omega) (HC.out.ext E3) HTA.out hTl6 (by rw [HTL.out]; exact HFI.out.renIn (Int.le_refl _))).mono ?_
    rintro e w4 ⟨o, u, hoo, rfl, hu, hub, hE⟩
    rw [← HRR.out] at hu ⊢
    obtain ⟨ua, uc, rfl, _, _⟩ := hu.reads
    have HU := Lib.hid hu
    have HUB := Lib.hid hub
    have HV := Lib.hid (HV.out.ext hE)
    have E4 := E3.trans hE
    have d2 := (Below.frozen (p := ⟨w.heap.size + 1, 0, none⟩) hE (cell_lt c2)).trans d2
    have d3 := (Below.frozen (p := ⟨w.heap.size + 1, 1, none⟩) hE (cell_lt c3)).trans d3
    have c2 := hE.cell c2
    have c3 := hE.cell c3
    have hz2 := hE.size
    clear hE hu hub E3 hT7
    have EF : Ext w ((w4.setCell ⟨w.heap.size + 1, 0, none⟩ (.int .i64 R.1)).setCell ⟨w.heap.size + 1, 1, none⟩ (.slice ua R.2.length uc)) := (E4.set (by omega) _).set (by omega) _
    have hF1 : Hid (SeqV ((w4.setCell ⟨w.heap.size + 1, 0, none⟩ (.int .i64 R.1)).setCell ⟨w.heap.size + 1, 1, none⟩ (.slice ua R.2.length uc)) (.agg #[.int .i64 R.1, .slice ua R.2.length uc]) R) :=
      ⟨_, rfl, (HU.out.chg ((Chg.setCell (B := fun b => b ≤ o) ⟨w.heap.size + 1, 0, none⟩ (.int .i64 R.1) (by show w.heap.size + 1 ≤ o; omega)).trans (Chg.setCell (B := fun b => b ≤ o) ⟨w.heap.size + 1, 1, none⟩ (.slice ua R.2.length uc) (by show w.heap.size + 1 ≤ o; omega))) (fun b hb e => by have := HUB.out b hb; omega)).reads⟩
    have hvx : OwnsI ((w4.setCell ⟨w.heap.size + 1, 0, none⟩ (.int .i64 R.1)).setCell ⟨w.heap.size + 1, 1, none⟩ (.slice ua R.2.length uc)) (.slice ta T.length tc) T :=
      rowSame HV.out (fun b hb => by
        have h9 := HVB.out b hb
        refine (Below.heap_setCell _ _ _ _ (fun e => ?_)).trans (Below.heap_setCell _ _ _ _ (fun e => ?_)) <;> dsimp only at e <;> omega)
    obtain ⟨_, _, e9, hvx, _⟩ := hvx.reads
    cases e9
    have HVX := Lib.hid hvx
    clear hvx HU HV HUB HVB
    go_wp2
    refine bodyPost_ret (v := .tuple #[.agg #[.int .i64 R.1, .slice ua R.2.length uc], .slice ta T.length tc, .int .i64 0]) (by rw [results_cell_tmp2s rfl]; go_simp) rfl ⟨_, _, _, rfl, hF1.out, HVX.out, HTM.out, EF⟩
  · have hck : ¬ ckSeq (n, l) = 0 := fun h => h1 (HER.out.trans h)
    have HRT : Hid (R = sq0 ∧ T = []) := by
      have e1 := HR.out
      have e2 := HT.out
      rw [if_neg hck] at e1 e2
      exact ⟨e1, e2⟩
    have EF : Ext w ((w1.setCell ⟨w.heap.size + 1, 0, none⟩ (.int .i64 0)).setCell ⟨w.heap.size + 1, 1, none⟩ (.slice none 0 0)) := (E2.set (by omega) _).set (by omega) _
    clear HR HT HER hck
    go_wp2
    refine bodyPost_ret (v := .tuple #[.agg #[.int .i64 0, .slice none 0 0], .slice none 0 0, .int .i64 er]) (by rw [results_cell_tmp2s rfl]; go_simp) rfl ?_
    rw [HRT.out.1, HRT.out.2]
    exact ⟨_, none, 0, rfl, seqV_zero _, fun i hi => by simp at hi, by simp, EF⟩
end Go.Proofs.YtnhbogmihnnpjaaGreat
/- Renaming sequences, in plain terms: what is renamed can be carried out, the opposite renaming cancels out, and the standard letters are the same. -/
namespace Go.Proofs.YtnhbogmihnnpjaaGreat
open Go.RowKit

/-- f takes what P tells to the first n numbers, g takes back -/
structure Bij (P : Int → Prop) (n : Int) (f g : Int → Int) : Prop where
  rng : ∀ a, P a → 0 ≤ f a ∧ f a < n
  gp : ∀ a, 0 ≤ a ∧ a < n → P (g a)
  gf : ∀ a, P a → g (f a) = a
  fg : ∀ a, 0 ≤ a ∧ a < n → f (g a) = a
theorem Bij.inj {P : Int → Prop} {n : Int} {f g : Int → Int} (h : Bij P n f g) {a b : Int} (ha : P a) (hb : P b) (e : f a = f b) : a = b := by
  rw [← h.gf a ha, ← h.gf b hb, e]
def In (n : Int) (a : Int) : Prop := 0 ≤ a ∧ a < n
/-- a step that is right by itself, with strokes of which P tells -/
def FineP (P : Int → Prop) (x : Stp) : Prop := ckStep x = 0 ∧ ∀ y ∈ x.1, P y.1
theorem FineP.asc {P : Int → Prop} {x : Stp} (h : FineP P x) : Asc x.1 := (ckStrokes_asc (ckStep_strokes h.1).1).1
theorem FineP.diff {P : Int → Prop} {x : Stp} (h : FineP P x) : Diff x.1 := h.asc.diff
theorem Fine.all {n : Int} {l : List Stp} (h : Fine n l) : ∀ x ∈ l, FineP (In n) x := fun x hx => by
  obtain ⟨k, hk, e⟩ := List.mem_iff_getElem.1 hx
  obtain ⟨h1, h2⟩ := h k hk
  rw [List.getD_eq_getElem?_getD, List.getElem?_eq_getElem hk] at h1 h2
  have h1 : ckStep l[k] = 0 := h1
  have h2 : ∀ j, j < (l[k]).1.length → 0 ≤ ((l[k]).1.getD j stk0).1 ∧ ((l[k]).1.getD j stk0).1 < n := h2
  rw [e] at h1 h2
  refine ⟨h1, fun y hy => ?_⟩
  obtain ⟨j, hj, e⟩ := List.mem_iff_getElem.1 hy
  have := h2 j hj
  rw [List.getD_eq_getElem?_getD, List.getElem?_eq_getElem hj] at this
  rw [← e]; exact this
theorem asc_ck {l : List Stk} {z : Int} (h : Asc l) (hz : ∀ y ∈ l, z < y.1) (hk : ∀ y ∈ l, 0 ≤ y.1 ∧ y.1 < 6) : ckStrokes z l = 0 := by
  induction l generalizing z with
  | nil => rfl
  | cons y l ih =>
    have h1 := hz y (List.mem_cons_self ..)
    have h2 := hk y (List.mem_cons_self ..)
    obtain ⟨p1, p2⟩ := List.pairwise_cons.1 h
    unfold ckStrokes
    rw [if_neg (by omega), if_neg (by omega), if_neg (by omega)]
    exact ih p2 p1 fun y hy => hk y (List.mem_cons_of_mem _ hy)
theorem ckStep_of {x : Stp} (h1 : 0 < x.1.length) (h2 : x.1.length ≤ 6) (h3 : ckStrokes (-1) x.1 = 0) (h4 : 0 ≤ x.2 ∧ x.2 ≤ 1000000) : ckStep x = 0 := by
  unfold ckStep
  rw [if_neg (by omega), if_neg (by omega), if_neg (by simp [h3]), if_neg (by omega)]
section
variable {P : Int → Prop} {n : Int} {f g : Int → Int}
theorem ren_diff (h : Bij P n f g) {x : Stp} (hx : FineP P x) : Diff (x.1.map fun y => (f y.1, y.2)) := by
  unfold Diff
  rw [List.pairwise_map]
  exact List.Pairwise.imp_of_mem (fun {a b} ha hb hab e => hab (h.inj (hx.2 a ha) (hx.2 b hb) e)) hx.diff
theorem ren_mem (h : Bij P n f g) (hn : n ≤ 6) {x : Stp} (hx : FineP P x) (z : Stk) : z ∈ (renStep f x).1 ↔ ∃ y ∈ x.1, (f y.1, y.2) = z := by
  show z ∈ ordered (x.1.map fun y => (f y.1, y.2)) ↔ _
  rw [ordered_mem, List.mem_map]
  refine ⟨fun h => h.1, fun h1 => ⟨h1, ?_⟩⟩
  obtain ⟨y, hy, rfl⟩ := h1
  have := h.rng _ (hx.2 y hy)
  dsimp only
  omega
theorem renStep_asc (h : Bij P n f g) {x : Stp} (hx : FineP P x) : Asc (renStep f x).1 := ordered_asc (ren_diff h hx)
theorem renStep_len (h : Bij P n f g) (hn : n ≤ 6) {x : Stp} (hx : FineP P x) : (renStep f x).1.length = x.1.length := by
  show (ordered (x.1.map fun y => (f y.1, y.2))).length = _
  rw [← isortK_ordered (ren_diff h hx), isortK_length, List.length_map]
  intro y hy
  obtain ⟨z, hz, rfl⟩ := List.mem_map.1 hy
  have := h.rng _ (hx.2 z hz)
  dsimp only
  omega
theorem renStep_fine (h : Bij P n f g) (hn : n ≤ 6) {x : Stp} (hx : FineP P x) : FineP (In n) (renStep f x) := by
  have hs := ckStep_strokes hx.1
  have hm : ∀ y ∈ (renStep f x).1, 0 ≤ y.1 ∧ y.1 < n := fun y hy => by
    obtain ⟨z, hz, rfl⟩ := (ren_mem h hn hx y).1 hy
    exact h.rng _ (hx.2 z hz)
  refine ⟨ckStep_of (by rw [renStep_len h hn hx]; omega) (by rw [renStep_len h hn hx]; omega) (asc_ck (renStep_asc h hx) (fun y hy => by have := hm y hy; omega) (fun y hy => by have := hm y hy; omega)) ⟨hs.2.2.2.1, hs.2.2.2.2⟩, hm⟩
theorem renStep_back (h : Bij (In n) n f g) (hn : n ≤ 6) {x : Stp} (hx : FineP (In n) x) : renStep g (renStep f x) = x := by
  have hb : Bij (In n) n g f := ⟨h.gp, h.rng, h.fg, h.gf⟩
  have hf := renStep_fine h hn hx
  refine Prod.ext ?_ rfl
  refine asc_ext (renStep_asc hb hf) hx.asc fun z => ?_
  rw [ren_mem hb hn hf]
  constructor
  · rintro ⟨y, hy, rfl⟩
    obtain ⟨z, hz, rfl⟩ := (ren_mem h hn hx y).1 hy
    dsimp only
    rw [h.gf _ (hx.2 z hz)]
    exact hz
  · intro hz
    exact ⟨(f z.1, z.2), (ren_mem h hn hx _).2 ⟨z, hz, rfl⟩, by dsimp only; rw [h.gf _ (hx.2 z hz)]⟩
theorem movesIn_iff (a : Int) (x : Stp) : movesIn a x = true ↔ ∃ y ∈ x.1, y.1 = a := by
  unfold movesIn
  rw [List.any_eq_true]
  constructor
  · rintro ⟨y, hy, e⟩; exact ⟨y, hy, by simpa using e⟩
  · rintro ⟨y, hy, e⟩; exact ⟨y, hy, by simpa using e⟩
theorem bool_iff {a b : Bool} (h : a = true ↔ b = true) : a = b := by cases a <;> cases b <;> simp_all
theorem movesIn_ren (h : Bij P n f g) (hn : n ≤ 6) {x : Stp} (hx : FineP P x) {a : Int} (ha : P a) : movesIn (f a) (renStep f x) = movesIn a x := by
  apply bool_iff
  rw [movesIn_iff, movesIn_iff]
  constructor
  · rintro ⟨y, hy, e⟩
    obtain ⟨z, hz, rfl⟩ := (ren_mem h hn hx y).1 hy
    exact ⟨z, hz, h.inj (hx.2 z hz) ha e⟩
  · rintro ⟨y, hy, rfl⟩
    exact ⟨_, (ren_mem h hn hx _).2 ⟨y, hy, rfl⟩, rfl⟩
theorem beh_cons (e : Int → Bool) (y : Stk) (l : List Stk) : beh e (y :: l) = beh (fun i => if i = y.1 then y.2 else e i) l := rfl
theorem beh_not {e : Int → Bool} {l : List Stk} {a : Int} (h : ∀ y ∈ l, y.1 ≠ a) : beh e l a = e a := by
  induction l generalizing e with
  | nil => rfl
  | cons y l ih =>
    rw [beh_cons, ih fun y hy => h y (List.mem_cons_of_mem _ hy)]
    exact if_neg fun e => h y (List.mem_cons_self ..) e.symm
theorem beh_mem {e : Int → Bool} {l : List Stk} (hd : Diff l) {y : Stk} (hy : y ∈ l) : beh e l y.1 = y.2 := by
  induction l generalizing e with
  | nil => cases hy
  | cons z l ih =>
    obtain ⟨h1, h2⟩ := List.pairwise_cons.1 hd
    rw [beh_cons]
    rcases List.mem_cons.1 hy with rfl | hy
    · rw [beh_not fun z hz e => h1 z hz e.symm]
      exact if_pos rfl
    · exact ih h2 hy
theorem beh_ren (h : Bij P n f g) (hn : n ≤ 6) {x : Stp} (hx : FineP P x) {e e' : Int → Bool} (he : ∀ a, P a → e' (f a) = e a) : ∀ a, P a → beh e' (renStep f x).1 (f a) = beh e x.1 a := fun a ha => by
  cases hm : movesIn a x
  · have h1 : ∀ y ∈ x.1, y.1 ≠ a := fun y hy e => by
      have := (movesIn_iff a x).2 ⟨y, hy, e⟩
      rw [hm] at this; cases this
    rw [beh_not h1, beh_not, he a ha]
    intro y hy e
    obtain ⟨z, hz, rfl⟩ := (ren_mem h hn hx y).1 hy
    exact h1 z hz (h.inj (hx.2 z hz) ha e)
  · obtain ⟨y, hy, rfl⟩ := (movesIn_iff a x).1 hm
    rw [beh_mem hx.diff hy]
    exact beh_mem (renStep_asc h hx).diff (y := (f y.1, y.2)) ((ren_mem h hn hx _).2 ⟨y, hy, rfl⟩)
theorem ckFit_iff {m : Int} {x : Stp} {e : Int → Bool} : ckFit m x e = 0 ↔ ckStep x = 0 ∧ (∀ y ∈ x.1, y.1 < m) ∧ ∀ y ∈ x.1, e y.1 = !y.2 := by
  unfold ckFit
  by_cases h1 : ckStep x = 0
  · rw [if_neg (by simp [h1])]
    cases h2 : anyHigh m x.1
    · have h2' : ∀ y ∈ x.1, y.1 < m := fun y hy => by
        have := (List.any_eq_false.1 h2) y hy
        simp at this; omega
      cases h3 : anySame e x.1
      · refine ⟨fun _ => ⟨h1, h2', fun y hy => ?_⟩, fun _ => rfl⟩
        have := (List.any_eq_false.1 h3) y hy
        cases ha : e y.1 <;> cases hb : y.2 <;> simp_all
      · refine ⟨fun h => by simp at h, fun ⟨_, _, h⟩ => ?_⟩
        obtain ⟨y, hy, hh⟩ := List.any_eq_true.1 h3
        rw [h y hy] at hh
        cases hb : y.2 <;> rw [hb] at hh <;> cases hh
    · refine ⟨fun h => by simp at h, fun ⟨_, h, _⟩ => ?_⟩
      obtain ⟨y, hy, hh⟩ := List.any_eq_true.1 h2
      have := h y hy
      simp at hh; omega
  · rw [if_pos h1]
    exact ⟨fun h => absurd h h1, fun h => absurd h.1 h1⟩
theorem ckWalk_iff {m : Int} {e : Int → Bool} {x : Stp} {l : List Stp} : ckWalk m e (x :: l) = 0 ↔ ckFit m x e = 0 ∧ ckWalk m (beh e x.1) l = 0 := by
  show (if ckFit m x e ≠ 0 then ckFit m x e else ckWalk m (beh e x.1) l) = 0 ↔ _
  by_cases h : ckFit m x e = 0
  · rw [if_neg (by simp [h])]; exact ⟨fun k => ⟨h, k⟩, fun k => k.2⟩
  · rw [if_pos h]; exact ⟨fun k => absurd k h, fun k => absurd k.1 h⟩
theorem ckWalk_ren (h : Bij P n f g) (hn : n ≤ 6) {m : Int} {l : List Stp} (hl : ∀ x ∈ l, FineP P x) {e e' : Int → Bool} (he : ∀ a, P a → e' (f a) = e a) (hk : ckWalk m e l = 0) : ckWalk n e' (l.map (renStep f)) = 0 := by
  induction l generalizing e e' with
  | nil => rfl
  | cons x l ih =>
    have hx := hl x (List.mem_cons_self ..)
    obtain ⟨h1, h2⟩ := ckWalk_iff.1 hk
    obtain ⟨_, _, h3⟩ := ckFit_iff.1 h1
    have hf := renStep_fine h hn hx
    rw [List.map_cons]
    refine ckWalk_iff.2 ⟨ckFit_iff.2 ⟨hf.1, fun y hy => (hf.2 y hy).2, fun y hy => ?_⟩, ih (fun x hx => hl x (List.mem_cons_of_mem _ hx)) (beh_ren h hn hx he) h2⟩
    obtain ⟨z, hz, rfl⟩ := (ren_mem h hn hx y).1 hy
    rw [he _ (hx.2 z hz)]
    exact h3 z hz
theorem behAll_cons (e : Int → Bool) (x : Stp) (l : List Stp) : behAll e (x :: l) = behAll (beh e x.1) l := rfl
theorem behAll_ren (h : Bij P n f g) (hn : n ≤ 6) {l : List Stp} (hl : ∀ x ∈ l, FineP P x) {e e' : Int → Bool} (he : ∀ a, P a → e' (f a) = e a) : ∀ a, P a → behAll e' (l.map (renStep f)) (f a) = behAll e l a := by
  induction l generalizing e e' with
  | nil => exact he
  | cons x l ih =>
    rw [List.map_cons, behAll_cons, behAll_cons]
    exact ih (fun x hx => hl x (List.mem_cons_of_mem _ hx)) (beh_ren h hn (hl x (List.mem_cons_self ..)) he)
theorem movedIn_iff (a : Int) (l : List Stp) : movedIn a l = true ↔ ∃ x ∈ l, movesIn a x = true := by
  unfold movedIn
  exact List.any_eq_true
theorem movedIn_ren (h : Bij P n f g) (hn : n ≤ 6) {l : List Stp} (hl : ∀ x ∈ l, FineP P x) {a : Int} (ha : P a) : movedIn (f a) (l.map (renStep f)) = movedIn a l := by
  apply bool_iff
  rw [movedIn_iff, movedIn_iff]
  constructor
  · rintro ⟨y, hy, e⟩
    obtain ⟨x, hx, rfl⟩ := List.mem_map.1 hy
    exact ⟨x, hx, by rw [← movesIn_ren h hn (hl x hx) ha]; exact e⟩
  · rintro ⟨x, hx, e⟩
    exact ⟨_, List.mem_map.2 ⟨x, hx, rfl⟩, by rw [movesIn_ren h hn (hl x hx) ha]; exact e⟩
theorem ints_all (p : Int → Bool) (m : Int) : (ints m).any p = false ↔ ∀ a, 0 ≤ a ∧ a < m → p a = false := by
  rw [List.any_eq_false]
  constructor
  · intro h a ha; have := h a (ints_mem.2 ha); simpa using this
  · intro h a ha; simp [h a (ints_mem.1 ha)]
theorem ckSeq_of {m : Int} {l : List Stp} (h1 : 1 ≤ m ∧ m ≤ 6) (h2 : 0 < l.length ∧ l.length ≤ 64) (h3 : ckWalk m none6 l = 0) (h4 : ∀ a, 0 ≤ a ∧ a < m → behAll none6 l a = false) (h5 : ∀ a, 0 ≤ a ∧ a < m → movedIn a l = true) : ckSeq (m, l) = 0 := by
  have h4' := (ints_all (behAll none6 l) m).2 h4
  have h5' : (ints m).any (fun a => !movedIn a l) = false := (ints_all _ m).2 fun a ha => by rw [h5 a ha]; rfl
  unfold ckSeq
  dsimp only
  rw [if_neg (by omega), if_neg (by omega), if_neg (by omega), if_neg (by simp [h3]), h4', h5']
  rfl
structure Right (m : Int) (l : List Stp) : Prop where
  act : 1 ≤ m ∧ m ≤ 6
  len : 0 < l.length ∧ l.length ≤ 64
  walk : ckWalk m none6 l = 0
  back : ∀ a, 0 ≤ a ∧ a < m → behAll none6 l a = false
  moved : ∀ a, 0 ≤ a ∧ a < m → movedIn a l = true
theorem ckSeq_right {m : Int} {l : List Stp} (h : ckSeq (m, l) = 0) : Right m l := by
  obtain ⟨h1, h2, h3, h4, h5, h6, h7⟩ := ckSeq_zero h
  refine ⟨⟨h1, h2⟩, ⟨h3, h4⟩, h5, (ints_all _ _).1 h6, fun a ha => ?_⟩
  have := (ints_all _ _).1 h7 a ha
  simpa using this
theorem Right.fine {m : Int} {l : List Stp} (h : Right m l) : ∀ x ∈ l, FineP (In m) x := (ckWalk_fine h.walk).all
/-- what is renamed can be carried out -/
theorem ckSeq_ren (h : Bij (In n) n f g) {l : List Stp} (hk : ckSeq (n, l) = 0) : ckSeq (ren f (n, l)) = 0 := by
  have hr := ckSeq_right hk
  have hn := hr.act.2
  show ckSeq (n, l.map (renStep f)) = 0
  refine ckSeq_of hr.act (by rw [List.length_map]; exact hr.len) (ckWalk_ren h hn hr.fine (fun _ _ => rfl) hr.walk) (fun a ha => ?_) (fun a ha => ?_)
  · rw [← h.fg a ha, behAll_ren h hn hr.fine (fun _ _ => rfl) _ (h.gp a ha)]
    exact hr.back _ (h.gp a ha)
  · rw [← h.fg a ha, movedIn_ren h hn hr.fine (h.gp a ha)]
    exact hr.moved _ (h.gp a ha)
/-- the opposite renaming cancels out -/
theorem ren_back (h : Bij (In n) n f g) {l : List Stp} (hk : ckSeq (n, l) = 0) : ren g (ren f (n, l)) = (n, l) := by
  have hr := ckSeq_right hk
  show (n, (l.map (renStep f)).map (renStep g)) = (n, l)
  rw [List.map_map]
  congr 1
  conv => rhs; rw [← List.map_id l]
  exact List.map_congr_left fun x hx => renStep_back h hr.act.2 (hr.fine x hx)
theorem ren_lens (h : Bij P n f g) (hn : n ≤ 6) {l : List Stp} (hl : ∀ x ∈ l, FineP P x) : (l.map (renStep f)).map (fun x => x.1.length) = l.map (fun x => x.1.length) := by
  rw [List.map_map]
  exact List.map_congr_left fun x hx => renStep_len h hn (hl x hx)
end
theorem sub_len {α : Type} [DecidableEq α] {l m : List α} (hd : l.Nodup) (h : ∀ x ∈ l, x ∈ m) : l.length ≤ m.length := by
  induction l generalizing m with
  | nil => simp
  | cons x l ih =>
    obtain ⟨h1, h2⟩ := List.nodup_cons.1 hd
    have hm := h x (List.mem_cons_self ..)
    have := ih (m := m.erase x) h2 fun y hy => (List.mem_erase_of_ne (fun e => by subst e; exact h1 hy)).2 (h y (List.mem_cons_of_mem _ hy))
    rw [List.length_erase_of_mem hm] at this
    have := List.length_pos_of_mem hm
    simp only [List.length_cons]
    omega
theorem ints_nodup (n : Int) : (ints n).Nodup := (ints_asc n).imp fun h e => by omega
/-- as many are told by p as by p behind f -/
theorem count_ren {n : Int} {f g : Int → Int} (h : Bij (In n) n f g) (p : Int → Bool) : ((ints n).filter fun b => p (f b)).length = ((ints n).filter p).length := by
  have key : ∀ (f g : Int → Int) (p : Int → Bool), Bij (In n) n f g → ((ints n).filter fun b => p (f b)).length ≤ ((ints n).filter p).length := fun f g p h => by
    rw [← List.length_map (f := f)]
    refine sub_len ?_ fun x hx => ?_
    · unfold List.Nodup
      rw [List.pairwise_map]
      refine List.Pairwise.imp_of_mem (fun {a b} ha hb hab e => hab (h.inj (ints_mem.1 (List.mem_filter.1 ha).1) (ints_mem.1 (List.mem_filter.1 hb).1) e)) ((ints_nodup n).filter _)
    · obtain ⟨b, hb, rfl⟩ := List.mem_map.1 hx
      obtain ⟨h1, h2⟩ := List.mem_filter.1 hb
      exact List.mem_filter.2 ⟨ints_mem.2 (h.rng b (ints_mem.1 h1)), h2⟩
  have hb : Bij (In n) n g f := ⟨h.gp, h.rng, h.fg, h.gf⟩
  have k1 := key f g p h
  have k2 := key g f (fun b => p (f b)) hb
  have e : ((ints n).filter fun b => p (f (g b))) = (ints n).filter p := List.filter_congr fun b hb => by rw [h.fg b (ints_mem.1 hb)]
  rw [e] at k2
  omega
theorem count_two {l : List Int} {p q r : Int → Bool} (hp : ∀ a ∈ l, p a = true → r a = true) (hq : ∀ a ∈ l, q a = true → r a = true) (hd : ∀ a ∈ l, p a = true → q a = false) : (l.filter p).length + (l.filter q).length ≤ (l.filter r).length := by
  induction l with
  | nil => simp
  | cons x l ih =>
    have := ih (fun a ha => hp a (List.mem_cons_of_mem _ ha)) (fun a ha => hq a (List.mem_cons_of_mem _ ha)) (fun a ha => hd a (List.mem_cons_of_mem _ ha))
    have h1 := hp x (List.mem_cons_self ..)
    have h2 := hq x (List.mem_cons_self ..)
    have h3 := hd x (List.mem_cons_self ..)
    rw [List.filter_cons, List.filter_cons, List.filter_cons]
    cases hx : p x <;> cases hy : q x <;> cases hz : r x <;> simp_all <;> omega
/-- actuators with the same letter, before and behind a renaming, move in the same steps -/
theorem letter_same {n : Int} {f g : Int → Int} (h : Bij (In n) n f g) {l m : List Stp} (hm : ∀ a, In n a → movesOf m (f a) = movesOf l a) {a b : Int} (ha : In n a) (hb : In n b) (e : letterOf (n, l) a = letterOf (n, m) (f b)) : movesOf l a = movesOf l b := by
  have hbb : letterOf (n, m) (f b) = (((ints n).filter fun c => lexLt (movesOf l c) (movesOf l b) || (decide (f c < f b) && (movesOf l c == movesOf l b))).length : Nat) := by
    unfold letterOf
    dsimp only
    rw [← count_ren h]
    congr 2
    exact List.filter_congr fun c hc => by rw [hm c (ints_mem.1 hc), hm b hb]
  have hlt : ∀ (u v : Int) (q : Int → Bool), In n u → q u = false → lexLt (movesOf l u) (movesOf l v) = true →
      ((ints n).filter fun c => lexLt (movesOf l c) (movesOf l u) || (q c && (movesOf l c == movesOf l u))).length < ((ints n).filter fun c => lexLt (movesOf l c) (movesOf l v)).length := fun u v q hu hq hl => by
    have h1 := count_two (l := ints n) (p := fun c => lexLt (movesOf l c) (movesOf l u) || (q c && (movesOf l c == movesOf l u))) (q := fun c => decide (c = u)) (r := fun c => lexLt (movesOf l c) (movesOf l v)) (fun c _ hc => ?_) (fun c _ hc => ?_) (fun c _ hc => ?_)
    · have h2 : 0 < ((ints n).filter fun c => decide (c = u)).length := List.length_pos_of_mem (List.mem_filter.2 ⟨ints_mem.2 hu, by simp⟩)
      omega
    · simp only [Bool.or_eq_true, Bool.and_eq_true, beq_iff_eq] at hc
      rcases hc with hc | ⟨_, hc⟩
      · exact lexLt_trans hc hl
      · rw [hc]; exact hl
    · have : c = u := by simpa using hc
      rw [this]; exact hl
    · by_cases hcu : c = u
      · subst hcu
        rw [lexLt_irrefl, hq] at hc
        simp at hc
      · simp [hcu]
  have hge : ∀ (v : Int) (q : Int → Bool), ((ints n).filter fun c => lexLt (movesOf l c) (movesOf l v)).length ≤ ((ints n).filter fun c => lexLt (movesOf l c) (movesOf l v) || (q c && (movesOf l c == movesOf l v))).length := fun v q => by
    have := count_two (l := ints n) (p := fun c => lexLt (movesOf l c) (movesOf l v)) (q := fun _ => false) (r := fun c => lexLt (movesOf l c) (movesOf l v) || (q c && (movesOf l c == movesOf l v))) (fun c _ hc => by rw [hc]; rfl) (fun c _ hc => by cases hc) (fun c _ _ => rfl)
    omega
  by_cases hne : movesOf l a = movesOf l b
  · exact hne
  exfalso
  rw [hbb] at e
  unfold letterOf at e
  dsimp only at e
  cases hl : lexLt (movesOf l a) (movesOf l b)
  · have hl := lexLt_total hl hne
    have h1 := hlt b a (fun c => decide (f c < f b)) hb (by simp) hl
    have h2 := hge a (fun c => decide (c < a))
    (try dsimp only at h1 h2)
    omega
  · have h1 := hlt a b (fun c => decide (c < a)) ha (by simp) hl
    have h2 := hge b (fun c => decide (f c < f b))
    (try dsimp only at h1 h2)
    omega
theorem movesOf_mem (l : List Stp) (a : Int) {k : Nat} (hk : k < l.length) : (k : Int) ∈ movesOf l a ↔ movesIn a (l.getD k stp0) = true := by
  unfold movesOf
  rw [List.mem_filter, ints_mem]
  constructor
  · intro h; exact h.2
  · intro h; exact ⟨⟨by omega, by omega⟩, h⟩
theorem movesOf_ren {P : Int → Prop} {n : Int} {f g : Int → Int} (h : Bij P n f g) (hn : n ≤ 6) {l : List Stp} (hl : ∀ x ∈ l, FineP P x) {a : Int} (ha : P a) : movesOf (l.map (renStep f)) (f a) = movesOf l a := by
  unfold movesOf
  rw [List.length_map]
  refine List.filter_congr fun k hk => ?_
  have hk := ints_mem.1 hk
  have hk' : k.toNat < l.length := by omega
  rw [List.getD_eq_getElem?_getD, List.getD_eq_getElem?_getD, List.getElem?_map, List.getElem?_eq_getElem hk']
  exact movesIn_ren h hn (hl _ (List.getElem_mem hk')) ha
/-- which way an actuator moves follows from the steps in which it moves -/
theorem dir_same {m : Int} {l : List Stp} {e : Int → Bool} (hw : ckWalk m e l = 0) {a b : Int} (he : e a = e b) (hm : ∀ k, k < l.length → movesIn a (l.getD k stp0) = movesIn b (l.getD k stp0)) :
    ∀ k, k < l.length → ∀ d, (a, d) ∈ (l.getD k stp0).1 → (b, d) ∈ (l.getD k stp0).1 := by
  induction l generalizing e with
  | nil => intro k hk; simp at hk
  | cons x l ih =>
    obtain ⟨h1, h2⟩ := ckWalk_iff.1 hw
    obtain ⟨c1, _, h3⟩ := ckFit_iff.1 h1
    have hd : Diff x.1 := (ckStrokes_asc (ckStep_strokes c1).1).1.diff
    have hm0 : movesIn a x = movesIn b x := hm 0 (by simp)
    have hdir : ∀ d, (a, d) ∈ x.1 → (b, d) ∈ x.1 := fun d hy => by
      have hb : movesIn b x = true := by rw [← hm0]; exact (movesIn_iff a x).2 ⟨_, hy, rfl⟩
      obtain ⟨y, hy2, rfl⟩ := (movesIn_iff b x).1 hb
      have e1 := h3 _ hy
      have e2 := h3 _ hy2
      dsimp only at e1
      have : y.2 = d := by rw [he, e2] at e1; cases hh : y.2 <;> cases d <;> simp_all
      rw [← this]; exact hy2
    have hbeh : beh e x.1 a = beh e x.1 b := by
      cases hma : movesIn a x
      · have hmb := hma; rw [hm0] at hmb
        rw [beh_not (fun y hy e => by have := (movesIn_iff a x).2 ⟨y, hy, e⟩; rw [hma] at this; cases this), beh_not (fun y hy e => by have := (movesIn_iff b x).2 ⟨y, hy, e⟩; rw [hmb] at this; cases this), he]
      · obtain ⟨y, hy, rfl⟩ := (movesIn_iff a x).1 hma
        rw [beh_mem hd hy]
        exact (beh_mem hd (y := (b, y.2)) (hdir y.2 hy)).symm
    intro k hk
    cases k with
    | zero => exact hdir
    | succ k => exact ih h2 hbeh (fun k hk => hm (k + 1) (by simpa using hk)) k (by simpa using hk)
theorem bij_letters (n : Int) (l : List Stp) : ∃ g, Bij (In n) n (listFn (lettersOf (n, l))) g := by
  have hsur : ∀ v, In n v → ∃ a, In n a ∧ letterOf (n, l) a = v := fun v hv => by
    have hj : v.toNat < (isortI (cmpM l) (ints n)).length := by rw [isortI_len]; have := hv.1; have := hv.2; omega
    refine ⟨_, isortI_rng n l (j := v.toNat) (by have := hv.1; have := hv.2; omega), ?_⟩
    rw [letterOf_at n l hj]; have := hv.1; omega
  classical
  refine ⟨fun v => if h : In n v then Classical.choose (hsur v h) else 0, fun a ha => ?_, fun a ha => ?_, fun a ha => ?_, fun a ha => ?_⟩
  · rw [listFn_letters n l ha]; exact letterOf_rng n l ha
  · (try dsimp only)
    rw [dif_pos (show In n a from ha)]; exact (Classical.choose_spec (hsur a ha)).1
  · have hr := letterOf_rng n l ha
    rw [listFn_letters n l ha]
    (try dsimp only)
    rw [dif_pos (show In n (letterOf (n, l) a) from hr)]
    have hs := Classical.choose_spec (hsur _ hr)
    exact letterOf_inj n l hs.1 ha hs.2
  · (try dsimp only)
    rw [dif_pos (show In n a from ha)]
    have hs := Classical.choose_spec (hsur a ha)
    rw [listFn_letters n l hs.1]; exact hs.2
/-- the standard letters of what is renamed are those of the sequence itself -/
theorem standard_ren {n : Int} {f g : Int → Int} (h : Bij (In n) n f g) {l : List Stp} (hk : ckSeq (n, l) = 0) : standard (ren f (n, l)) = standard (n, l) := by
  have hr := ckSeq_right hk
  have hn := hr.act.2
  obtain ⟨gs, hs⟩ := bij_letters n l
  obtain ⟨gt, ht⟩ := bij_letters n (l.map (renStep f))
  show (n, (l.map (renStep f)).map (renStep (listFn (lettersOf (n, l.map (renStep f)))))) = (n, l.map (renStep (listFn (lettersOf (n, l)))))
  congr 1
  rw [List.map_map]
  have hfr : ∀ x ∈ l, FineP (In n) (renStep f x) := fun x hx => renStep_fine h hn (hr.fine x hx)
  have hms : ∀ a, In n a → movesOf (l.map (renStep f)) (f a) = movesOf l a := fun a ha => movesOf_ren h hn hr.fine ha
  have hsame : ∀ a b, In n a → In n b → listFn (lettersOf (n, l)) a = listFn (lettersOf (n, l.map (renStep f))) (f b) → ∀ k, k < l.length → ∀ d, (a, d) ∈ (l.getD k stp0).1 ↔ (b, d) ∈ (l.getD k stp0).1 := fun a b ha hb e => by
    rw [listFn_letters n l ha, listFn_letters n _ (h.rng b hb)] at e
    have hmm := letter_same h hms ha hb e
    have hmk : ∀ k, k < l.length → movesIn a (l.getD k stp0) = movesIn b (l.getD k stp0) := fun k hk => by
      apply bool_iff
      rw [← movesOf_mem l a hk, ← movesOf_mem l b hk, hmm]
    exact fun k hk d => ⟨dir_same (a := a) (b := b) hr.walk rfl hmk k hk d, dir_same (a := b) (b := a) hr.walk rfl (fun k hk => (hmk k hk).symm) k hk d⟩
  refine list_ext_getD stp0 (by simp) fun k hk => ?_
  have hk' : k < l.length := by simpa using hk
  have hx : l.getD k stp0 ∈ l := by rw [List.getD_eq_getElem?_getD, List.getElem?_eq_getElem hk']; exact List.getElem_mem hk'
  have e1 : (l.map (renStep (listFn (lettersOf (n, l.map (renStep f)))) ∘ renStep f)).getD k stp0 = renStep (listFn (lettersOf (n, l.map (renStep f)))) (renStep f (l.getD k stp0)) := by
    simp [List.getD, hk']
  have e2 : (l.map (renStep (listFn (lettersOf (n, l))))).getD k stp0 = renStep (listFn (lettersOf (n, l))) (l.getD k stp0) := by
    simp [List.getD, hk']
  rw [e1, e2]
  have hfx := hr.fine _ hx
  have hffx := hfr _ hx
  have hsm := fun a b ha hb e => hsame a b ha hb e k hk'
  refine Prod.ext (asc_ext (renStep_asc ht hffx) (renStep_asc hs hfx) fun z => ?_) rfl
  rw [ren_mem ht hn hffx, ren_mem hs hn hfx]
  constructor
  · rintro ⟨y, hy, rfl⟩
    obtain ⟨u, hu, rfl⟩ := (ren_mem h hn hfx y).1 hy
    have hiu := hfx.2 u hu
    have hr1 := ht.rng _ (h.rng _ hiu)
    have ha := hs.gp _ hr1
    have he := hs.fg _ hr1
    exact ⟨(gs _, u.2), (hsm _ u.1 ha hiu he u.2).2 hu, by dsimp only; rw [he]⟩
  · rintro ⟨u, hu, rfl⟩
    have hiu := hfx.2 u hu
    have hr1 := hs.rng _ hiu
    have hb := ht.gp _ hr1
    have he := ht.fg _ hr1
    have hgb := h.gp _ hb
    have he2 := h.fg _ hb
    refine ⟨(gt (listFn (lettersOf (n, l)) u.1), u.2), (ren_mem h hn hfx _).2 ⟨(g (gt (listFn (lettersOf (n, l)) u.1)), u.2), (hsm u.1 _ hiu hgb (by rw [he2, he]) u.2).1 hu, by dsimp only; rw [he2]⟩, by dsimp only; rw [he]⟩
/-- a right renaming has an opposite -/
theorem renGo_zero {n : Int} : ∀ (l bef : List Int), renGo n bef l = 0 → (∀ x ∈ l, 0 ≤ x ∧ x < n) ∧ l.Nodup ∧ ∀ x ∈ l, x ∉ bef := by
  intro l
  induction l with
  | nil => intro bef _; exact ⟨by simp, List.Pairwise.nil, by simp⟩
  | cons y l ih =>
    intro bef h
    unfold renGo at h
    by_cases h1 : y < 0 ∨ n ≤ y
    · rw [if_pos h1] at h; cases h
    · rw [if_neg h1] at h
      by_cases h2 : bef.contains y = true
      · rw [if_pos h2] at h; cases h
      · rw [if_neg h2] at h
        obtain ⟨i1, i2, i3⟩ := ih _ h
        refine ⟨fun x hx => ?_, List.nodup_cons.2 ⟨fun hy => i3 y hy (by simp), i2⟩, fun x hx => ?_⟩
        · rcases List.mem_cons.1 hx with rfl | hx
          · omega
          · exact i1 x hx
        · rcases List.mem_cons.1 hx with rfl | hx
          · intro hb; exact h2 (by simpa using hb)
          · intro hb; exact i3 x hx (by simp [hb])
theorem listFn_at (t : List Int) {k : Nat} : listFn t (k : Int) = t.getD k 0 := by
  unfold listFn
  rw [if_neg (by omega)]; rfl
theorem bij_list {t b : List Int} {n : Int} (ht : renE t n = 0) (hb : ∀ k, k < t.length → b.getD (t.getD k 0).toNat 0 = (k : Int)) : Bij (In n) n (listFn t) (listFn b) := by
  unfold renE at ht
  by_cases hl : (t.length : Int) ≠ n
  · rw [if_pos hl] at ht; cases ht
  rw [if_neg hl] at ht
  have hl : (t.length : Int) = n := by omega
  obtain ⟨h1, h2, _⟩ := renGo_zero t [] ht
  have hrng : ∀ a, In n a → In n (listFn t a) := fun a ha => by
    obtain ⟨k, rfl⟩ := Int.eq_ofNat_of_zero_le ha.1
    have hk : k < t.length := by have := ha.2; omega
    rw [listFn_at]
    exact h1 _ (by rw [List.getD_eq_getElem?_getD, List.getElem?_eq_getElem hk]; exact List.getElem_mem hk)
  have hgf : ∀ a, In n a → listFn b (listFn t a) = a := fun a ha => by
    have hr := hrng a ha
    obtain ⟨k, rfl⟩ := Int.eq_ofNat_of_zero_le ha.1
    have hk : k < t.length := by have := ha.2; omega
    rw [listFn_at] at hr ⊢
    unfold listFn
    rw [if_neg (by have := hr.1; omega)]
    exact hb k hk
  have hsur : ∀ v, In n v → ∃ a, In n a ∧ listFn t a = v := fun v hv => by
    by_cases hm : v ∈ t
    · obtain ⟨k, hk, e⟩ := List.mem_iff_getElem.1 hm
      refine ⟨(k : Int), ⟨by omega, by omega⟩, ?_⟩
      rw [listFn_at, List.getD_eq_getElem?_getD, List.getElem?_eq_getElem hk]; exact e
    · exfalso
      have := sub_len (l := v :: t) (m := ints n) (List.nodup_cons.2 ⟨hm, h2⟩) (fun x hx => by
        rcases List.mem_cons.1 hx with rfl | hx
        · exact ints_mem.2 hv
        · exact ints_mem.2 (h1 x hx))
      rw [ints_length, List.length_cons] at this
      omega
  refine ⟨hrng, fun v hv => ?_, hgf, fun v hv => ?_⟩
  · obtain ⟨a, ha, rfl⟩ := hsur v hv
    rw [hgf a ha]; exact ha
  · obtain ⟨a, ha, rfl⟩ := hsur v hv
    rw [hgf a ha]
end Go.Proofs.YtnhbogmihnnpjaaGreat
/- variant.Rename. -/
namespace Go.Proofs.YtnhbogmihnnpjaaGreat
open Go.RowKit
open Go.Maps

theorem renE_inj {t : List Int} {n : Int} (ht : renE t n = 0) : (t.length : Int) = n ∧ (∀ k, k < t.length → 0 ≤ t.getD k 0 ∧ t.getD k 0 < n) ∧ ∀ a b, In n a → In n b → listFn t a = listFn t b → a = b := by
  unfold renE at ht
  by_cases hl : (t.length : Int) ≠ n
  · rw [if_pos hl] at ht; cases ht
  rw [if_neg hl] at ht
  have hl : (t.length : Int) = n := by omega
  obtain ⟨h1, h2, _⟩ := renGo_zero t [] ht
  refine ⟨hl, fun k hk => h1 _ (by rw [List.getD_eq_getElem?_getD, List.getElem?_eq_getElem hk]; exact List.getElem_mem hk), fun a b ha hb e => ?_⟩
  obtain ⟨i, rfl⟩ := Int.eq_ofNat_of_zero_le ha.1
  obtain ⟨j, rfl⟩ := Int.eq_ofNat_of_zero_le hb.1
  have hi : i < t.length := by have := ha.2; omega
  have hj : j < t.length := by have := hb.2; omega
  rw [listFn_at, listFn_at, List.getD_eq_getElem?_getD, List.getD_eq_getElem?_getD, List.getElem?_eq_getElem hi, List.getElem?_eq_getElem hj] at e
  have e : t[i] = t[j] := e
  have hp := List.pairwise_iff_getElem.1 h2
  rcases Nat.lt_trichotomy i j with h | h | h
  · exact absurd e (hp i j hi hj h)
  · rw [h]
  · exact absurd e.symm (hp j i hj hi h)
theorem renOk_list {t : List Int} {n : Int} {l : List Stp} (ht : renE t n = 0) (hf : Fine n l) (hn : n ≤ 6) : RenOk (listFn t) l := by
  obtain ⟨h1, h2, h3⟩ := renE_inj ht
  refine renOk_inj hf (fun a b ha hb e => h3 a b ha hb e) (fun a ha => ?_)
  obtain ⟨k, rfl⟩ := Int.eq_ofNat_of_zero_le ha.1
  have := h2 k (by omega)
  rw [listFn_at]
  omega
/-- the error of Rename -/
def rnmE (s : Sq) (t : List Int) : Int := if ckSeq s ≠ 0 then ckSeq s else renE t s.1

set_option maxHeartbeats 8000000 in
set_option maxRecDepth 100000 in
theorem Rename_any (n : Int) (l : List Stp) (a : Option Addr) (cap : Nat) (t : List Int) (ta : Option Addr) (tc : Nat) (w : World) (hl : l.length ≤ maxLen) (hc : CellsP w a l) (htl : t.length ≤ tc) (htm : tc ≤ maxLen) (hct : CellsI w ta t) :
    Calls Tryz.prog 32 #[.agg #[.int .i64 n, .slice a l.length cap], .slice ta t.length tc] w (SeqErr (if rnmE (n, l) t = 0 then ren (listFn t) (n, l) else sq0) (rnmE (n, l) t) w) := by
  have HC := Lib.hid hc
  have HL := Lib.hid hl
  have HT := Lib.hid hct
  obtain ⟨er, her⟩ : ∃ er, er = rnmE (n, l) t := ⟨_, rfl⟩
  obtain ⟨s, hs⟩ : ∃ s, s = if er = 0 then ren (listFn t) (n, l) else sq0 := ⟨_, rfl⟩
  obtain ⟨ck, hck⟩ : ∃ ck, ck = ckSeq (n, l) := ⟨_, rfl⟩
  rw [← her, ← hs]
  replace her : er = if ck ≠ 0 then ck else renE t n := by rw [her, hck]; rfl
  have HER := Lib.hid her
  have HS := Lib.hid hs
  have HCK := Lib.hid hck
  unfold maxLen at hl htm
  have hzs : ∀ w, (zeroValue 24).run Tryz.prog w = .ok (.agg #[.int .i64 0, .slice none 0 0]) w := fun _ => by kernel_rfl
  clear hc her hs hck hct
  go_enter Tryz.func32, Tryz.ntmps32
  go_wp2_with fail
  have E1 : Ext w ((w.alloc (.cells #[.int .i64 n, .slice a l.length cap] 24)).alloc (.cells #[.int .i64 0, .slice none 0 0] 24)) := (by repeat (first | with_reducible exact Ext.refl _ | with_reducible assumption | with_reducible apply Ext.drewN | with_reducible apply Ext.drew | with_reducible apply Ext.alloc | ((with_reducible refine Ext.set ?_ ?_ _); rotate_left; first | omega | (simp; omega)) | (with_reducible refine Ext.trans ?_ (by with_reducible assumption))))
  have c0 : (((w.alloc (.cells #[.int .i64 n, .slice a l.length cap] 24)).alloc (.cells #[.int .i64 0, .slice none 0 0] 24))).cell? ⟨w.heap.size, 0, none⟩ = some (.int .i64 n) := by go_simp
  have c1 : (((w.alloc (.cells #[.int .i64 n, .slice a l.length cap] 24)).alloc (.cells #[.int .i64 0, .slice none 0 0] 24))).cell? ⟨w.heap.size, 1, none⟩ = some (.slice a l.length cap) := by go_simp
  have c2 : (((w.alloc (.cells #[.int .i64 n, .slice a l.length cap] 24)).alloc (.cells #[.int .i64 0, .slice none 0 0] 24))).cell? ⟨w.heap.size + 1, 0, none⟩ = some (.int .i64 0) := by go_simp
  have c3 : (((w.alloc (.cells #[.int .i64 n, .slice a l.length cap] 24)).alloc (.cells #[.int .i64 0, .slice none 0 0] 24))).cell? ⟨w.heap.size + 1, 1, none⟩ = some (.slice none 0 0) := by go_simp
  have d2 : (((w.alloc (.cells #[.int .i64 n, .slice a l.length cap] 24)).alloc (.cells #[.int .i64 0, .slice none 0 0] 24))).frozen? ⟨w.heap.size + 1, 0, none⟩ = false := by go_simp
  have d3 : (((w.alloc (.cells #[.int .i64 n, .slice a l.length cap] 24)).alloc (.cells #[.int .i64 0, .slice none 0 0] 24))).frozen? ⟨w.heap.size + 1, 1, none⟩ = false := by go_simp
  generalize ((w.alloc (.cells #[.int .i64 n, .slice a l.length cap] 24)).alloc (.cells #[.int .i64 0, .slice none 0 0] 24)) = W at E1 c0 c1 c2 c3 d2 d3 ⊢
  refine (Check_any n l a cap _ HL.out (HC.out.ext E1)).mono ?_
  rintro e w1 ⟨rfl, hE⟩
  rw [← HCK.out]
  have E2 := E1.trans hE
  have d2 := (Below.frozen (p := ⟨w.heap.size + 1, 0, none⟩) hE (cell_lt c2)).trans d2
  have d3 := (Below.frozen (p := ⟨w.heap.size + 1, 1, none⟩) hE (cell_lt c3)).trans d3
  have c0 := (hE).cell c0
  have c1 := (hE).cell c1
  have c2 := (hE).cell c2
  have c3 := (hE).cell c3
  clear hE
  by_cases h0 : ck = 0
  · subst h0
    have hck := HCK.out.symm
    obtain ⟨hN1, hN6, hl0, hl64, hwk, _, _⟩ := ckSeq_zero hck
    have HFI := Lib.hid (ckWalk_fine hwk)
    have her := HER.out
    rw [if_neg (by decide)] at her
    clear hck hwk HER
    by_cases hn : (t.length : Int) = n
    · subst hn
      have her2 : renGo (t.length : Int) [] t = er := by rw [her]; unfold renE; rw [if_neg (by simp)]
      have HR := Lib.hid her2
      have HRE := Lib.hid her
      have hnn : ((t.length : Int) != (t.length : Int)) = false := by simp
      clear her her2
      go_wp2
      go_loopw [23] (fun i wr => ∃ k : Nat, k ≤ t.length ∧ i = .int .i64 k ∧ Hid (renGo (t.length : Int) (t.take k) (t.drop k) = er) ∧ Ext w1 wr) (fun i _ => t.length - (intOf i).toNat)
      case atStart => exact ⟨0, Nat.zero_le _, rfl, HR, Ext.refl _⟩
      case round =>
        obtain ⟨k, hk, rfl, hz, he⟩ := hrel
        have E3 := E2.trans he
        have d2 := (Below.frozen (p := ⟨w.heap.size + 1, 0, none⟩) he (cell_lt c2)).trans d2
        have d3 := (Below.frozen (p := ⟨w.heap.size + 1, 1, none⟩) he (cell_lt c3)).trans d3
        have c0 := (he).cell c0
        have c1 := (he).cell c1
        have c2 := (he).cell c2
        have c3 := (he).cell c3
        by_cases hlt : k < t.length
        · obtain ⟨b, off, rfl, e1⟩ := HT.out k hlt
          have e1 := (E2.trans he).cell e1
          have HZ := Lib.hid (renGo_drop (t.length : Int) t k hlt _ hz.out)
          have HTK : Hid (CellsI wr (some ⟨b, off, none⟩) (t.take k)) := (HT.out.ext E3).take k
          clear hz
          generalize t.getD k 0 = x at e1 HZ
          have z1 := cell_lt e1
          have z0 := cell_lt c0
          dsimp only at z1 z0
          by_cases hb : x < 0 ∨ (t.length : Int) ≤ x
          · have hee := HZ.out.1 hb
            have hs := HS.out
            rw [hee, if_neg (by decide)] at hs
            subst hee
            subst hs
            have EF : Ext w ((wr.setCell ⟨w.heap.size + 1, 0, none⟩ (.int .i64 0)).setCell ⟨w.heap.size + 1, 1, none⟩ (.slice none 0 0)) := (E3.set (by omega) _).set (by omega) _
            clear HZ HRE HS HR
            by_cases h2 : x < 0
            · go_wp2
              exact bodyPost_ret (v := .tuple #[.agg #[.int .i64 0, .slice none 0 0], .int .i64 2]) (by rw [results_cell_tmp1 rfl]; go_simp) rfl ⟨_, rfl, seqV_zero _, EF⟩
            · have h3 : (t.length : Int) ≤ x := by omega
              go_wp2
              exact bodyPost_ret (v := .tuple #[.agg #[.int .i64 0, .slice none 0 0], .int .i64 2]) (by rw [results_cell_tmp1 rfl]; go_simp) rfl ⟨_, rfl, seqV_zero _, EF⟩
          · have HZ2 := Lib.hid (HZ.out.2 hb)
            have h2 : ¬ x < 0 := by omega
            have h3 : ¬ (t.length : Int) ≤ x := by omega
            have hkc : k ≤ tc := by omega
            obtain ⟨T, hT⟩ : ∃ T, T = t.take k := ⟨_, rfl⟩
            have hTl : T.length = k := by rw [hT, List.length_take]; omega
            rw [← hT] at HTK HZ2
            have HPL := Lib.hid (ContainsI_any T x (some ⟨b, off, none⟩) tc wr (by unfold maxLen; omega) HTK.out)
            rw [hTl] at HPL
            have HTL := Lib.hid hTl
            clear hT hTl HZ hb
            go_wp2_with fail
            refine HPL.out.mono ?_
            rintro e w5 ⟨rfl, hE⟩
            have E5 := he.trans hE
            have E6 := E3.trans hE
            have d2 := (Below.frozen (p := ⟨w.heap.size + 1, 0, none⟩) hE (cell_lt c2)).trans d2
            have d3 := (Below.frozen (p := ⟨w.heap.size + 1, 1, none⟩) hE (cell_lt c3)).trans d3
            have c0 := (hE).cell c0
            have c1 := (hE).cell c1
            have c2 := (hE).cell c2
            have c3 := (hE).cell c3
            clear hE HPL
            cases hm : mem1 T x
            · have HZ3 := Lib.hid (HZ2.out.2 hm)
              clear HZ2 hm
              go_wp2
              refine ⟨⟨k + 1, by omega, by go_num, HZ3, E5⟩, by simp [intOf]; omega⟩
            · have hee := HZ2.out.1 hm
              have hs := HS.out
              rw [hee, if_neg (by decide)] at hs
              subst hee
              subst hs
              have EF : Ext w ((w5.setCell ⟨w.heap.size + 1, 0, none⟩ (.int .i64 0)).setCell ⟨w.heap.size + 1, 1, none⟩ (.slice none 0 0)) := (E6.set (by omega) _).set (by omega) _
              clear HZ2 hm HRE HS HR
              go_wp2
              exact bodyPost_ret (v := .tuple #[.agg #[.int .i64 0, .slice none 0 0], .int .i64 7]) (by rw [results_cell_tmp1 rfl]; go_simp) rfl ⟨_, rfl, seqV_zero _, EF⟩
        · have hz2 := hz.out
          rw [drop_end t (k := k) (by omega)] at hz2
          have hz3 : (0 : Int) = er := by rw [← hz2]; rfl
          subst hz3
          have hs := HS.out
          rw [if_pos rfl] at hs
          have HSS := Lib.hid hs
          have HRZ := Lib.hid HRE.out.symm
          clear hz hz2 hs HS HR HRE
          go_wp2
          refine wp_region_heldE 4 (fun w' => w'.cell? ⟨w.heap.size, 0, none⟩ = some (.int .i64 (t.length : Int)) ∧ w'.cell? ⟨w.heap.size, 1, none⟩ = some (.slice a l.length cap)) (by kernel_rfl) ?_
          have ED : Ext wr wr.drew := (by repeat (first | with_reducible exact Ext.refl _ | with_reducible assumption | with_reducible apply Ext.drewN | with_reducible apply Ext.drew | with_reducible apply Ext.alloc | ((with_reducible refine Ext.set ?_ ?_ _); rotate_left; first | omega | (simp; omega)) | (with_reducible refine Ext.trans ?_ (by with_reducible assumption))))
          have d2 := (Below.frozen (p := ⟨w.heap.size + 1, 0, none⟩) ED (cell_lt c2)).trans d2
          have d3 := (Below.frozen (p := ⟨w.heap.size + 1, 1, none⟩) ED (cell_lt c3)).trans d3
          have c0 := (ED).cell c0
          have c1 := (ED).cell c1
          have c2 := (ED).cell c2
          have c3 := (ED).cell c3
          have E8 := E3.trans ED
          generalize wr.drew = W8 at E8 c0 c1 c2 c3 d2 d3 ⊢
          have hS : W8.cell? ⟨w.heap.size, 0, none⟩ = some (.int .i64 (t.length : Int)) ∧ W8.cell? ⟨w.heap.size, 1, none⟩ = some (.slice a l.length cap) := ⟨c0, c1⟩
          have hc2 := c2
          have hc3 := c3
          have HLE := Lib.hid (letters_any t ta tc W8 (by omega) (HT.out.ext E8) (fun k hk => by have := (renE_inj HRZ.out).2.1 k hk; omega))
          ((refine wpAnyE_take (i := 0) (oi := ?_) (v := ?_) ?_ (by kernel_rfl) ?_ ?_ (by assumption) ?_; rotate_left 2; (focus ((simp only [List.getElem?_toArray, List.getElem?_cons_zero]; exact rfl))); (focus (exact fun _ _ _ h => h)); (focus (refine Or.inl ⟨by rfl, ?_⟩; intro w hSw; (try dsimp only at hSw); (first | (go_simp; done) | (go_simp; with_reducible rfl)))); (try simp only [Act.put, List.setIfInBounds_toArray, List.set_cons_zero, List.set_cons_succ]))); (refine wpAnyE_pure (i := 1) (oi := ?_) (v := ?_) ?_ (by kernel_rfl) ?_ ?_ ?_ ?_; rotate_left 2; (focus ((simp only [List.getElem?_toArray, List.getElem?_cons_succ, List.getElem?_cons_zero]; exact rfl))); (focus (exact fun _ _ _ h => h)); (focus (refine Or.inl ⟨by rfl, ?_⟩; intro w hSw; clear hSw; (first | (go_simp; done) | (go_simp; with_reducible rfl)))); (focus (first | exact (fun _ => by assumption) | (intro hlst; exact absurd hlst (by kernel_rfl)) | (intro hlst; cases hlst))); (try simp only [Act.put, List.setIfInBounds_toArray, List.set_cons_zero, List.set_cons_succ]))
          (refine wpAnyE_one (i := 2) (o := ?_) ?_ (by kernel_rfl) (fun K hK => ?_); rotate_left; (focus ((simp only [List.getElem?_toArray, List.getElem?_cons_succ, List.getElem?_cons_zero]; exact rfl))); go_simp; refine HLE.out.mono ?_; rintro e w9 ⟨mb, rfl, hma, hmz, hE⟩; have HMA := Lib.hid hma; clear hma; go_wp2_with fail; refine hK.out _ _ ?_ (fun hHeld => ?_); rotate_left; clear hK K; (try simp only [Act.put, List.setIfInBounds_toArray, List.set_cons_zero, List.set_cons_succ]))
          rotate_left
          · exact ⟨hE.cell hS.1, hE.cell hS.2⟩
          clear hHeld HLE
          have c2 := hE.cell c2
          have c3 := hE.cell c3
          have HRN := Lib.hid (renamed_own (t.length : Int) l a cap mb t.length (listFn t) w9 (by omega) (renOk_list HRZ.out HFI.out hN6) (HC.out.ext (E8.trans hE)) (by omega) HMA.out)
          obtain ⟨P, hP⟩ : ∃ P, P = l.map (renStep (listFn t)) := ⟨_, rfl⟩
          have hren : ren (listFn t) ((t.length : Int), l) = ((t.length : Int), P) := by rw [hP]; rfl
          rw [hren] at HRN HSS
          clear hP hren
          (refine wpAnyE_one (i := 3) (o := ?_) ?_ (by kernel_rfl) (fun K hK => ?_); rotate_left; (focus ((simp only [List.getElem?_toArray, List.getElem?_cons_succ, List.getElem?_cons_zero]; exact rfl))); go_simp; refine HRN.out.mono ?_; rintro e w10 ⟨o, ov, ho, rfl, hO, hob, hE2⟩; dsimp only at hO; have HO := Lib.hid hO; have HOB := Lib.hid hob; obtain ⟨ua, uc, rfl, _, _⟩ := hO.reads; clear hO hob; go_wp2_with fail; refine hK.out _ _ ?_ (fun hHeld => ?_); rotate_left; clear hK K; (try simp only [Act.put, List.setIfInBounds_toArray, List.set_cons_zero, List.set_cons_succ]))
          rotate_left
          · exact ⟨hE2.cell (hE.cell hS.1), hE2.cell (hE.cell hS.2)⟩
          clear hHeld HRN
          have z8 : w.heap.size + 1 < W8.heap.size := cell_lt hc2
          have z10 := hE.size
          have d2 := (Below.frozen (p := ⟨w.heap.size + 1, 0, none⟩) (hE.trans hE2) (cell_lt hc2)).trans d2
          have d3 := (Below.frozen (p := ⟨w.heap.size + 1, 1, none⟩) (hE.trans hE2) (cell_lt hc3)).trans d3
          have c2 := hE2.cell c2
          have c3 := hE2.cell c3
          have E10 := (E8.trans hE).trans hE2
          clear hE hE2
          (refine wpAnyE_free (i := 4) (o := ?_) ?_ (by kernel_rfl) (by kernel_rfl) (fun K hK => ?_); rotate_left; (focus ((simp only [List.getElem?_toArray, List.getElem?_cons_succ, List.getElem?_cons_zero]; exact rfl))); go_simp; refine hK.out _ _ ?_; clear hK K; (try simp only [Act.put, List.setIfInBounds_toArray, List.set_cons_zero, List.set_cons_succ]))
          (refine wpAnyE_pure (i := 5) (oi := ?_) (v := ?_) ?_ (by kernel_rfl) ?_ ?_ ?_ ?_; rotate_left 2; (focus ((simp only [List.getElem?_toArray, List.getElem?_cons_succ, List.getElem?_cons_zero]; exact rfl))); (focus (exact fun _ _ _ h => h)); (focus (refine Or.inl ⟨by rfl, ?_⟩; intro w hSw; clear hSw; (first | (go_simp; done) | (go_simp; with_reducible rfl)))); (focus (first | exact (fun _ => by assumption) | (intro hlst; exact absurd hlst (by kernel_rfl)) | (intro hlst; cases hlst))); (try simp only [Act.put, List.setIfInBounds_toArray, List.set_cons_zero, List.set_cons_succ]))
          refine wpAnyE_done (by kernel_rfl) ?_ _
          have EF : Ext w ((w10.setCell ⟨w.heap.size + 1, 0, none⟩ (.int .i64 (t.length : Int))).setCell ⟨w.heap.size + 1, 1, none⟩ (.slice ua P.length uc)) := (E10.set (by omega) _).set (by omega) _
          have HSV : Hid (SeqV ((w10.setCell ⟨w.heap.size + 1, 0, none⟩ (.int .i64 (t.length : Int))).setCell ⟨w.heap.size + 1, 1, none⟩ (.slice ua P.length uc)) (.agg #[.int .i64 (t.length : Int), .slice ua P.length uc]) s) := by
            have cc : Chg (fun b => b ≤ o) w10 ((w10.setCell ⟨w.heap.size + 1, 0, none⟩ (.int .i64 (t.length : Int))).setCell ⟨w.heap.size + 1, 1, none⟩ (.slice ua P.length uc)) :=
              (Chg.setCell (B := fun b => b ≤ o) ⟨w.heap.size + 1, 0, none⟩ _ (by show w.heap.size + 1 ≤ o; omega)).trans (Chg.setCell (B := fun b => b ≤ o) ⟨w.heap.size + 1, 1, none⟩ _ (by show w.heap.size + 1 ≤ o; omega))
            have h1 := (HO.out.chg cc (fun b' hb' e => by have := HOB.out b' hb'; omega)).reads
            show SeqV _ _ _
            rw [HSS.out]
            exact ⟨_, rfl, h1⟩
          go_wp2
          exact bodyPost_ret (v := .tuple #[.agg #[.int .i64 (t.length : Int), .slice ua P.length uc], .int .i64 0]) (by rw [results_cell_tmp1 rfl]; go_simp) rfl ⟨_, rfl, HSV.out, EF⟩
    · have hnn : ((t.length : Int) != n) = true := by simpa using hn
      have hre : er = 8 := by rw [her]; unfold renE; rw [if_pos hn]
      have hs := HS.out
      rw [hre, if_neg (by decide)] at hs
      subst hre
      subst hs
      have EF : Ext w ((w1.setCell ⟨w.heap.size + 1, 0, none⟩ (.int .i64 0)).setCell ⟨w.heap.size + 1, 1, none⟩ (.slice none 0 0)) := (E2.set (by omega) _).set (by omega) _
      clear hn HS her
      go_wp2
      exact bodyPost_ret (v := .tuple #[.agg #[.int .i64 0, .slice none 0 0], .int .i64 8]) (by rw [results_cell_tmp1 rfl]; go_simp) rfl ⟨_, rfl, seqV_zero _, EF⟩
  · have hn : (ck != 0) = true := by simp [h0]
    have hee := HER.out
    rw [if_pos h0] at hee
    subst hee
    have hs := HS.out
    rw [if_neg h0] at hs
    subst hs
    have EF : Ext w ((w1.setCell ⟨w.heap.size + 1, 0, none⟩ (.int .i64 0)).setCell ⟨w.heap.size + 1, 1, none⟩ (.slice none 0 0)) := (E2.set (by omega) _).set (by omega) _
    clear h0 HS HER HCK
    go_wp2
    exact bodyPost_ret (v := .tuple #[.agg #[.int .i64 0, .slice none 0 0], .int .i64 er]) (by rw [results_cell_tmp1 rfl]; go_simp) rfl ⟨_, rfl, seqV_zero _, EF⟩
end Go.Proofs.YtnhbogmihnnpjaaGreat
/- The reference's Rename. -/
namespace Go.Proofs.YtnhbogmihnnpjaaGreat
open Go.RowKit

set_option maxHeartbeats 4000000 in
set_option maxRecDepth 100000 in
theorem RenameR_any (n : Int) (l : List Stp) (a : Option Addr) (cap : Nat) (t : List Int) (ta : Option Addr) (tc : Nat) (w : World) (hl : l.length ≤ maxLen) (hc : CellsP w a l) (htl : t.length ≤ tc) (htm : tc ≤ maxLen) (hct : CellsI w ta t) :
    Calls Tryz.prog 33 #[.agg #[.int .i64 n, .slice a l.length cap], .slice ta t.length tc] w (SeqErr (if rnmE (n, l) t = 0 then ren (listFn t) (n, l) else sq0) (rnmE (n, l) t) w) := by
  have HC := Lib.hid hc
  have HL := Lib.hid hl
  have HT := Lib.hid hct
  have HTM := Lib.hid htm
  obtain ⟨er, her⟩ : ∃ er, er = rnmE (n, l) t := ⟨_, rfl⟩
  obtain ⟨s, hs⟩ : ∃ s, s = if er = 0 then ren (listFn t) (n, l) else sq0 := ⟨_, rfl⟩
  obtain ⟨ck, hck⟩ : ∃ ck, ck = ckSeq (n, l) := ⟨_, rfl⟩
  obtain ⟨re, hre⟩ : ∃ re, re = renE t n := ⟨_, rfl⟩
  rw [← her, ← hs]
  replace her : er = if ck ≠ 0 then ck else re := by rw [her, hck, hre]; rfl
  have HER := Lib.hid her
  have HS := Lib.hid hs
  have HCK := Lib.hid hck
  have HRE := Lib.hid hre
  clear hc hl her hs hck hre hct
  go_enter Tryz.func33, Tryz.ntmps33
  go_wp2_with fail
  have E1 : Ext w ((w.alloc (.cells #[.int .i64 n, .slice a l.length cap] 24)).alloc (.cells #[.int .i64 0, .slice none 0 0] 24)) := (by repeat (first | with_reducible exact Ext.refl _ | with_reducible assumption | with_reducible apply Ext.drewN | with_reducible apply Ext.drew | with_reducible apply Ext.alloc | ((with_reducible refine Ext.set ?_ ?_ _); rotate_left; first | omega | (simp; omega)) | (with_reducible refine Ext.trans ?_ (by with_reducible assumption))))
  have c0 : (((w.alloc (.cells #[.int .i64 n, .slice a l.length cap] 24)).alloc (.cells #[.int .i64 0, .slice none 0 0] 24))).cell? ⟨w.heap.size, 0, none⟩ = some (.int .i64 n) := by go_simp
  have c1 : (((w.alloc (.cells #[.int .i64 n, .slice a l.length cap] 24)).alloc (.cells #[.int .i64 0, .slice none 0 0] 24))).cell? ⟨w.heap.size, 1, none⟩ = some (.slice a l.length cap) := by go_simp
  have c2 : (((w.alloc (.cells #[.int .i64 n, .slice a l.length cap] 24)).alloc (.cells #[.int .i64 0, .slice none 0 0] 24))).cell? ⟨w.heap.size + 1, 0, none⟩ = some (.int .i64 0) := by go_simp
  have c3 : (((w.alloc (.cells #[.int .i64 n, .slice a l.length cap] 24)).alloc (.cells #[.int .i64 0, .slice none 0 0] 24))).cell? ⟨w.heap.size + 1, 1, none⟩ = some (.slice none 0 0) := by go_simp
  have d2 : (((w.alloc (.cells #[.int .i64 n, .slice a l.length cap] 24)).alloc (.cells #[.int .i64 0, .slice none 0 0] 24))).frozen? ⟨w.heap.size + 1, 0, none⟩ = false := by go_simp
  have d3 : (((w.alloc (.cells #[.int .i64 n, .slice a l.length cap] 24)).alloc (.cells #[.int .i64 0, .slice none 0 0] 24))).frozen? ⟨w.heap.size + 1, 1, none⟩ = false := by go_simp
  generalize ((w.alloc (.cells #[.int .i64 n, .slice a l.length cap] 24)).alloc (.cells #[.int .i64 0, .slice none 0 0] 24)) = W at E1 c0 c1 c2 c3 d2 d3 ⊢
  refine (CheckR_any n l a cap _ HL.out (HC.out.ext E1)).mono ?_
  rintro e w1 ⟨rfl, hE⟩
  rw [← HCK.out]
  have E2 := E1.trans hE
  have d2 := (Below.frozen (p := ⟨w.heap.size + 1, 0, none⟩) hE (cell_lt c2)).trans d2
  have d3 := (Below.frozen (p := ⟨w.heap.size + 1, 1, none⟩) hE (cell_lt c3)).trans d3
  have c0 := (hE).cell c0
  have c1 := (hE).cell c1
  have c2 := (hE).cell c2
  have c3 := (hE).cell c3
  have hz1 := cell_lt c2
  dsimp only at hz1
  clear hE E1
  by_cases h1 : ck = 0
  · subst h1
    have hck : ckSeq (n, l) = 0 := HCK.out.symm
    obtain ⟨hN1, hN6, hl0, hl64, hwk, _, _⟩ := ckSeq_zero hck
    have HFI := Lib.hid (ckWalk_fine hwk)
    have her := HER.out
    rw [if_neg (by decide)] at her
    subst her
    clear hck hwk HER HCK
    go_wp2_with fail
    refine (RenamingR_any t n ta tc _ (Nat.le_trans htl HTM.out) htl HTM.out (HT.out.ext E2)).mono ?_
    rintro e w3 ⟨rfl, hE⟩
    rw [← HRE.out]
    have E3 := E2.trans hE
    have d2 := (Below.frozen (p := ⟨w.heap.size + 1, 0, none⟩) hE (cell_lt c2)).trans d2
    have d3 := (Below.frozen (p := ⟨w.heap.size + 1, 1, none⟩) hE (cell_lt c3)).trans d3
    have c0 := (hE).cell c0
    have c1 := (hE).cell c1
    have c2 := (hE).cell c2
    have c3 := (hE).cell c3
    have hz3 := hE.size
    clear hE E2
    by_cases h2 : er = 0
    · subst h2
      have hs := HS.out
      rw [if_pos rfl] at hs
      have HSS := Lib.hid hs
      have hrz := HRE.out.symm
      obtain ⟨hln, _, _⟩ := renE_inj hrz
      have HLN := Lib.hid hln
      have ht6 : t.length ≤ 1000 := by omega
      clear hs HS HRE hrz hln
      go_wp2_with fail
      refine (RenamedR_any n l a cap t ta tc _ (by omega) (HC.out.ext E3) (HT.out.ext E3) ht6 (by rw [HLN.out]; exact HFI.out.renIn (Int.le_refl _))).mono ?_
      rintro e w4 ⟨o, u, hoo, rfl, hu, hub, hE⟩
      rw [← HSS.out] at hu ⊢
      obtain ⟨ua, uc, rfl, _, _⟩ := hu.reads
      have HU := Lib.hid hu
      have HUB := Lib.hid hub
      have E4 := E3.trans hE
      have d2 := (Below.frozen (p := ⟨w.heap.size + 1, 0, none⟩) hE (cell_lt c2)).trans d2
      have d3 := (Below.frozen (p := ⟨w.heap.size + 1, 1, none⟩) hE (cell_lt c3)).trans d3
      have c2 := (hE).cell c2
      have c3 := (hE).cell c3
      clear hE hu hub E3
      have EF : Ext w ((w4.setCell ⟨w.heap.size + 1, 0, none⟩ (.int .i64 s.1)).setCell ⟨w.heap.size + 1, 1, none⟩ (.slice ua s.2.length uc)) := (E4.set (by omega) _).set (by omega) _
      have hF1 : Hid (SeqV ((w4.setCell ⟨w.heap.size + 1, 0, none⟩ (.int .i64 s.1)).setCell ⟨w.heap.size + 1, 1, none⟩ (.slice ua s.2.length uc)) (.agg #[.int .i64 s.1, .slice ua s.2.length uc]) s) :=
        ⟨_, rfl, (HU.out.chg ((Chg.setCell (B := fun b => b ≤ o) ⟨w.heap.size + 1, 0, none⟩ (.int .i64 s.1) (by show w.heap.size + 1 ≤ o; omega)).trans (Chg.setCell (B := fun b => b ≤ o) ⟨w.heap.size + 1, 1, none⟩ (.slice ua s.2.length uc) (by show w.heap.size + 1 ≤ o; omega))) (fun b hb e => by have := HUB.out b hb; omega)).reads⟩
      clear HU HUB HSS
      go_wp2
      exact bodyPost_ret (v := .tuple #[.agg #[.int .i64 s.1, .slice ua s.2.length uc], .int .i64 0]) (by rw [results_cell_tmp1 rfl]; go_simp) rfl ⟨_, rfl, hF1.out, EF⟩
    · have hs := HS.out
      rw [if_neg h2] at hs
      subst hs
      have hn : (er != 0) = true := by simp [h2]
      have EF : Ext w ((w3.setCell ⟨w.heap.size + 1, 0, none⟩ (.int .i64 0)).setCell ⟨w.heap.size + 1, 1, none⟩ (.slice none 0 0)) := (E3.set (by omega) _).set (by omega) _
      clear h2 HS HRE
      go_wp2
      exact bodyPost_ret (v := .tuple #[.agg #[.int .i64 0, .slice none 0 0], .int .i64 er]) (by rw [results_cell_tmp1 rfl]; go_simp) rfl ⟨_, rfl, seqV_zero _, EF⟩
  · have hn : (ck != 0) = true := by simp [h1]
    have hee := HER.out
    rw [if_pos h1] at hee
    subst hee
    have hs := HS.out
    rw [if_neg h1] at hs
    subst hs
    have EF : Ext w ((w1.setCell ⟨w.heap.size + 1, 0, none⟩ (.int .i64 0)).setCell ⟨w.heap.size + 1, 1, none⟩ (.slice none 0 0)) := (E2.set (by omega) _).set (by omega) _
    clear h1 HS HER HCK HRE
    go_wp2
    exact bodyPost_ret (v := .tuple #[.agg #[.int .i64 0, .slice none 0 0], .int .i64 er]) (by rw [results_cell_tmp1 rfl]; go_simp) rfl ⟨_, rfl, seqV_zero _, EF⟩
end Go.Proofs.YtnhbogmihnnpjaaGreat
