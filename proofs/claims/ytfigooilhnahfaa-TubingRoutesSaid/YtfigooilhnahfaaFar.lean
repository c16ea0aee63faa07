/- The reference's lengths from a cell. -/
import Derived.Test.YtfigooilhnahfaaNear
import Derived.Test.YtfigooilhnahfaaFarS
import Derived.Test.YtfigooilhnahfaaOwnI
import Derived.Test.YtfigooilhnahfaaMeet
import Derived.Test.YtfigooilhnahfaaRoute
import Derived.BigRegion
import Derived.Test.YtfigooilhnahfaaVerify
namespace Go.Proofs.Ytfigooilhnahfaa
open Go.RowKit

def kx (g : Gr) (q : Pt) : Nat := q.1.toNat * g.cols.toNat + q.2.toNat
theorem kx_lt {g : Gr} {q : Pt} (h : inside g q = true) : kx g q < g.rows.toNat * g.cols.toNat := by
  unfold inside at h
  simp only [Bool.and_eq_true, decide_eq_true_eq] at h
  have h1 : (q.1.toNat + 1) * g.cols.toNat ≤ g.rows.toNat * g.cols.toNat := Nat.mul_le_mul_right _ (by omega)
  rw [Nat.add_mul, Nat.one_mul] at h1
  unfold kx
  omega
theorem kx_cellAt {g : Gr} (k : Nat) : kx g (cellAt g k) = k := by
  unfold kx cellAt
  simp only [Int.toNat_natCast]
  rw [Nat.mul_comm]
  exact Nat.div_add_mod k _
theorem cellAt_kx {g : Gr} {q : Pt} (h : inside g q = true) : cellAt g (kx g q) = q := by
  unfold inside at h
  simp only [Bool.and_eq_true, decide_eq_true_eq] at h
  unfold kx
  rw [cellAt_mk (by omega)]
  exact Prod.ext (by show ((q.1.toNat : Nat) : Int) = q.1; omega) (by show ((q.2.toNat : Nat) : Int) = q.2; omega)
theorem kxF {g : Gr} (hr : Right g) {q : Pt} (h : inside g q = true) : ∃ a : Nat, IntKind.i64.wrap (q.1 * g.cols) = (a : Int) ∧ IntKind.i64.wrap ((a : Int) + q.2) = (kx g q : Int) ∧ kx g q < g.rows.toNat * g.cols.toNat := by
  have h0 := h
  unfold inside at h
  simp only [Bool.and_eq_true, decide_eq_true_eq] at h
  have c1 := hr.c1; have c2 := hr.c2; have r2 := hr.r2
  have e : q.1 * g.cols = ((q.1.toNat * g.cols.toNat : Nat) : Int) := by
    rw [Int.natCast_mul, Int.toNat_of_nonneg (by omega), Int.toNat_of_nonneg (by omega)]
  have b : q.1.toNat * g.cols.toNat ≤ 64 * 64 := Nat.mul_le_mul (by omega) (by omega)
  refine ⟨q.1.toNat * g.cols.toNat, ?_, ?_, kx_lt h0⟩
  · rw [e]; exact IntWalk.i64_in _ (by omega)
  · unfold kx
    generalize q.1.toNat * g.cols.toNat = a at b ⊢
    rw [IntWalk.i64_in _ (by omega)]
    omega
def tabL (g : Gr) (D : Pt → Int) : List Int := (List.range (g.rows.toNat * g.cols.toNat)).map fun k => D (cellAt g k)
theorem tabL_len (g : Gr) (D : Pt → Int) : (tabL g D).length = g.rows.toNat * g.cols.toNat := by simp [tabL]
theorem tabL_get {g : Gr} {D : Pt → Int} {k : Nat} (h : k < g.rows.toNat * g.cols.toNat) : (tabL g D).getD k 0 = D (cellAt g k) := by simp [tabL, List.getD, h]

/-- the numbers of the array ob -/
def OutN (w : World) (ob n : Nat) (L : Nat → Int) : Prop := ∀ k, k < n → w.cell? ⟨ob, k, none⟩ = some (.int .i64 (L k)) ∧ w.frozen? ⟨ob, k, none⟩ = false
theorem OutN.set {w : World} {ob n : Nat} {L : Nat → Int} (h : OutN w ob n L) {i : Nat} (hi : i < n) (x : Int) : OutN (w.setCell ⟨ob, i, none⟩ (.int .i64 x)) ob n (fun k => if k = i then x else L k) := fun k hk => by
  refine ⟨?_, by rw [World.frozen?_setCell]; exact (h k hk).2⟩
  by_cases e : k = i
  · subst e
    rw [World.cell?_setCell_same _ _ _ (h k hk).1]; simp
  · rw [World.cell?_setCell_other _ _ _ _ (fun h => by simp only [Addr.mk.injEq] at h; omega), (h k hk).1]; simp [e]
theorem OutN.congr {w : World} {ob n : Nat} {L M : Nat → Int} (h : OutN w ob n L) (e : ∀ k, k < n → L k = M k) : OutN w ob n M := fun k hk => by rw [← e k hk]; exact h k hk
theorem OutN.kept {X : Nat → Prop} {m ob n : Nat} {L : Nat → Int} {A B : World} (h : OutN A ob n L) (k : Kept X m A B) (hx : X ob) : OutN B ob n L := fun i hi =>
  ⟨k.cell (p := ⟨ob, i, none⟩) hx (h i hi).1, (k.frozen (p := ⟨ob, i, none⟩) hx (h i hi).1).trans (h i hi).2⟩
theorem OutN.ext {ob n : Nat} {L : Nat → Int} {A B : World} (h : OutN A ob n L) (x : Ext A B) : OutN B ob n L := h.kept (Kept.ext x (fun _ => True) 0) trivial

/-- the array says of each cell seen how far it is -/
def OutD (g : Gr) (p : Pt) (w : World) (ob : Nat) (sn : List Pt) : Prop := OutN w ob (g.rows.toNat * g.cols.toNat) (fun k => if cellAt g k ∈ sn then dst g p (cellAt g k) else -1)

structure FrL (g : Gr) (p : Pt) (W : World) (ob : Nat) (i : Nat) (Wv sn : List Pt) (v : Value) (w : World) : Prop where
  q : QInv g p i Wv sn
  o : OutD g p w ob sn
  own : Owns w v Wv
  vb : ∀ b, v.ownBlock = some b → W.heap.size ≤ b
  be : Below ob W w

structure FiL (g : Gr) (p c : Pt) (w1 : World) (ob bb : Nat) (Wv sn : List Pt) (nv : Value) (j : Nat) (sj Nv : List Pt) (v : Value) (w : World) : Prop where
  e : addN sn [] ((near g c).take j) = (sj, Nv)
  o : OutD g p w ob sj
  own : Owns w v (Wv ++ Nv)
  vb : ∀ b, v.ownBlock = some b → w1.heap.size ≤ b ∧ nv.ownBlock ≠ some b ∧ b ≠ bb
  be : Below ob w1 w
  nn : Owns w nv (near g c)
  b1 : w.cell? ⟨bb, 0, none⟩ = some (.int .i64 c.1)
  b2 : w.cell? ⟨bb, 1, none⟩ = some (.int .i64 c.2)
theorem FiL.ext {g : Gr} {p c : Pt} {w1 : World} {ob bb : Nat} {Wv sn : List Pt} {nv : Value} {j : Nat} {sj Nv : List Pt} {v : Value} {A B : World} (h : FiL g p c w1 ob bb Wv sn nv j sj Nv v A) (x : Ext A B) (hob : ob < A.heap.size) : FiL g p c w1 ob bb Wv sn nv j sj Nv v B :=
  ⟨h.e, h.o.ext x, h.own.ext x, h.vb, h.be.trans (x.mono (Nat.le_of_lt hob)), h.nn.ext x, x.cell h.b1, x.cell h.b2⟩
theorem two_cells {w : World} {b : Nat} {x y : Value} (h0 : w.cell? ⟨b, 0, none⟩ = some x) (h1 : w.cell? ⟨b, 1, none⟩ = some y) : ∀ j u, ([x, y] : List Value)[j]? = some u → w.cell? ((⟨b, 0, none⟩ : Addr).add j) = some u := by
  intro j u h
  match j, h with
  | 0, h => simp at h; subst h; rw [Addr.add_lit]; exact h0
  | 1, h => simp at h; subst h; rw [Addr.add_lit]; exact h1
theorem take_near {g : Gr} {c : Pt} {j : Nat} (h : j < (near g c).length) : (near g c).take (j + 1) = (near g c).take j ++ [pt (near g c) j] := by
  rw [List.take_succ_eq_append_getElem h]
  congr 2
  unfold pt
  rw [List.getD_eq_getElem?_getD, List.getElem?_eq_getElem h]; simp
theorem addN_len (qs : List Pt) : ∀ (s n : List Pt), (addN s n qs).2.length ≤ n.length + qs.length := by
  induction qs with
  | nil => intro s n; simp [addN]
  | cons q qs ih =>
    intro s n
    unfold addN
    split
    · have := ih s n; simp; omega
    · have := ih (q :: s) (n ++ [q]); simp at this ⊢; omega
theorem near_len (g : Gr) (c : Pt) : (near g c).length ≤ 4 := Nat.le_trans (List.length_filter_le _ _) (by simp [nbs])

set_option maxHeartbeats 4000000 in
set_option maxRecDepth 100000 in
theorem Far_any (g : Gr) (p : Pt) (ga : Option Addr) (gc : Nat) (w : World) (hr : Right g) (hp : inside g p = true) (hc : Cells2 w ga g.bl) :
    Calls Try.prog 51 #[.agg #[.int .i64 g.rows, .int .i64 g.cols, .slice ga g.bl.length gc], .agg #[.int .i64 p.1, .int .i64 p.2]] w fun e w' => ∃ a cap, e = .returned (.slice a (tabL g (dst g p)).length cap) ∧ CellsI w' a (tabL g (dst g p)) ∧ Ext w w' := by
  have HC : Hid (Cells2 w ga g.bl) := hc
  have HR := Lib.hid hr
  have HP := Lib.hid hp
  have hgl : g.bl.length ≤ maxLen := by have := hr.few; unfold maxLen; omega
  have HG := Lib.hid hgl
  obtain ⟨n, hn⟩ : ∃ n, n = g.rows.toNat * g.cols.toNat := ⟨_, rfl⟩
  have hn1 : n ≤ 4096 := by rw [hn]; exact Nat.mul_le_mul (show g.rows.toNat ≤ 64 by have := hr.r2; omega) (show g.cols.toNat ≤ 64 by have := hr.c2; omega)
  have hmul : IntKind.i64.wrap (g.rows * g.cols) = (n : Int) := by
    have h1 := hr.r1; have h2 := hr.c1
    have e : g.rows * g.cols = (n : Int) := by
      rw [hn, Int.natCast_mul, Int.toNat_of_nonneg (by omega), Int.toNat_of_nonneg (by omega)]
    rw [e]; exact IntWalk.i64_in _ (by omega)
  have HNN := Lib.hid hn
  obtain ⟨i0, hi, hi0, hi1, hi2⟩ := info_parts infoInt
  clear hc hr hp hgl hn
  go_enter Try.func51, Try.ntmps51
  go_wp2_with (at_make; refine wpList_make_full _ rfl _ _ 50 rfl 0 3 i0 (.int .i64 0) 1 Try.underlying50 hi hi0 hi1 _ _ _ _ n rfl rfl rfl rfl ?b2 ?b3 ?b4 ?hK)
  case b2 => rw [hi2]; omega
  case b3 => unfold maxLen; omega
  case b4 => exact Nat.zero_le _
  case hK =>
    intro w1 hown hgr
    obtain ⟨ob, hob⟩ : ∃ ob, ob = w.heap.size + 1 + 1 := ⟨_, rfl⟩
    have hz1 : ob < w1.heap.size := by rw [hob]; exact (World.ownsRow.lt hown _ rfl).2
    have E1 : Ext ((( ((w).alloc (.cells #[.int .i64 g.rows, .int .i64 g.cols, .slice ga g.bl.length gc] 24))).alloc (.cells #[.int .i64 p.1, .int .i64 p.2] 26))) w1 := ⟨hgr.os, hgr.tape, hgr.output, hgr.size, fun k hk => hgr.block k hk (by simp)⟩
    have g1 := E1.cell (show ((( ((w).alloc (.cells #[.int .i64 g.rows, .int .i64 g.cols, .slice ga g.bl.length gc] 24))).alloc (.cells #[.int .i64 p.1, .int .i64 p.2] 26))).cell? ⟨w.heap.size, 0, none⟩ = some (.int .i64 g.rows) by clear hob hmul; go_simp)
    have g2 := E1.cell (show ((( ((w).alloc (.cells #[.int .i64 g.rows, .int .i64 g.cols, .slice ga g.bl.length gc] 24))).alloc (.cells #[.int .i64 p.1, .int .i64 p.2] 26))).cell? ⟨w.heap.size, 1, none⟩ = some (.int .i64 g.cols) by clear hob hmul; go_simp)
    have g3 := E1.cell (show ((( ((w).alloc (.cells #[.int .i64 g.rows, .int .i64 g.cols, .slice ga g.bl.length gc] 24))).alloc (.cells #[.int .i64 p.1, .int .i64 p.2] 26))).cell? ⟨w.heap.size, 2, none⟩ = some (.slice ga g.bl.length gc) by clear hob hmul; go_simp)
    have q1 := E1.cell (show ((( ((w).alloc (.cells #[.int .i64 g.rows, .int .i64 g.cols, .slice ga g.bl.length gc] 24))).alloc (.cells #[.int .i64 p.1, .int .i64 p.2] 26))).cell? ⟨w.heap.size + 1, 0, none⟩ = some (.int .i64 p.1) by clear hob hmul; go_simp)
    have q2 := E1.cell (show ((( ((w).alloc (.cells #[.int .i64 g.rows, .int .i64 g.cols, .slice ga g.bl.length gc] 24))).alloc (.cells #[.int .i64 p.1, .int .i64 p.2] 26))).cell? ⟨w.heap.size + 1, 1, none⟩ = some (.int .i64 p.2) by clear hob hmul; go_simp)
    have zw : w.heap.size + 1 < ob := by omega
    have EW : Ext w w1 := (((Ext.refl _).alloc _).alloc _).trans E1
    have HO0 : Hid (OutN w1 ob n (fun j => if j < 0 then -1 else 0)) := fun j hj => by
      rw [hob]
      refine ⟨?_, hown.frozenAt j⟩
      rw [hown.cellAt j (by omega)]
      simp [madeCells, hj, Nat.mod_one]
    have HCW := Lib.hid (HC.out.ext EW)
    have HBL : Hid (g.bl ≠ [] → ∀ b off, ga = some ⟨b, off, none⟩ → b < ob) := fun hne b off hb => by
      have := HC.out.lt hne hb
      omega
    rw [← hob]
    clear hob hown hgr E1 HC hmul hi hi0 hi1 hi2
    go_wp2
    go_loopw [6] (fun i wr => ∃ k : Nat, k ≤ n ∧ i = .int .i64 k ∧ Hid (OutN wr ob n (fun j => if j < k then -1 else 0)) ∧ Hid (Below ob w1 wr)) (fun i _ => n - (intOf i).toNat)
    case atStart => exact ⟨0, Nat.zero_le _, rfl, HO0.out, Below.refl _ _⟩
    case round =>
      obtain ⟨k, hk, rfl, hO, hB⟩ := hrel
      have zwr : w1.heap.size ≤ wr.heap.size := hB.out.size
      by_cases hlt : k < n
      · have hlt' : (k : Int) < (n : Int) := by omega
        have c1 : wr.cell? ⟨ob, k, none⟩ = some (.int .i64 (if k < k then -1 else 0)) := (hO.out k hlt).1
        have c2 := (hO.out k hlt).2
        rw [if_neg (Nat.lt_irrefl k)] at c1
        go_wp2
        refine ⟨⟨k + 1, by omega, by go_num, (hO.out.set hlt (-1)).congr fun j hj => ?_, hB.out.setCell (p := ⟨ob, k, none⟩) (Nat.le_refl _) _⟩, by simp [intOf]; omega⟩
        try dsimp only
        by_cases e : j = k
        · rw [if_pos e, if_pos (by omega)]
        · rw [if_neg e]
          by_cases e2 : j < k
          · rw [if_pos e2, if_pos (by omega)]
          · rw [if_neg e2, if_neg (by omega)]
      · have hkn : k = n := by omega
        have HKN := Lib.hid hkn
        have hlt' : ¬ (k : Int) < (n : Int) := by omega
        have g1 : wr.cell? ⟨w.heap.size, 0, none⟩ = some (.int .i64 g.rows) := (hB.out.cell (p := ⟨w.heap.size, 0, none⟩) (by show w.heap.size < ob; omega)).trans g1
        have g2 : wr.cell? ⟨w.heap.size, 1, none⟩ = some (.int .i64 g.cols) := (hB.out.cell (p := ⟨w.heap.size, 1, none⟩) (by show w.heap.size < ob; omega)).trans g2
        have g3 : wr.cell? ⟨w.heap.size, 2, none⟩ = some (.slice ga g.bl.length gc) := (hB.out.cell (p := ⟨w.heap.size, 2, none⟩) (by show w.heap.size < ob; omega)).trans g3
        have q1 : wr.cell? ⟨w.heap.size + 1, 0, none⟩ = some (.int .i64 p.1) := (hB.out.cell (p := ⟨w.heap.size + 1, 0, none⟩) zw).trans q1
        have q2 : wr.cell? ⟨w.heap.size + 1, 1, none⟩ = some (.int .i64 p.2) := (hB.out.cell (p := ⟨w.heap.size + 1, 1, none⟩) zw).trans q2
        obtain ⟨a, ka1, ka2, ka3⟩ := kxF HR.out HP.out
        have hkp : Hid (kx g p < n) := by rw [HNN.out]; exact ka3
        obtain ⟨kp, hkpe⟩ : ∃ kp, kp = kx g p := ⟨_, rfl⟩
        rw [← hkpe] at ka2 hkp
        have kp1 : (kp : Int) < (n : Int) := by have := hkp.out; omega
        have HKP := Lib.hid hkpe
        have c1 : wr.cell? ⟨ob, kp, none⟩ = some (.int .i64 (if kp < k then -1 else 0)) := (hO.out kp hkp.out).1
        have c2 := (hO.out kp hkp.out).2
        rw [if_pos (by have := hkp.out; have := HKN.out; omega)] at c1
        have EWr : Hid (Below w.heap.size w wr) := Below.trans EW (hB.out.mono (by omega))
        have zobr : ob < wr.heap.size := by omega
        have zn1 : w.heap.size < wr.heap.size := by omega
        have zn2 : w.heap.size + 1 < wr.heap.size := by omega
        clear hkn ka3 hkpe hlt
        have HNK : Hid (∀ j, j < n → (if j < k then (-1 : Int) else 0) = -1) := fun j hj => if_pos (by have := HKN.out; omega)
        go_wp2
        have EA : Ext (wr.setCell ⟨ob, kp, none⟩ (.int .i64 0)) ((wr.setCell ⟨ob, kp, none⟩ (.int .i64 0)).alloc (.cells #[.int .i64 p.1, .int .i64 p.2] 26)) := (Ext.refl _).alloc _
        have hss : (wr.setCell ⟨ob, kp, none⟩ (.int .i64 0)).heap.size = wr.heap.size := by simp
        have F0 : Hid (FrL g p w1 ob 0 [p] [p] (.slice (some ⟨wr.heap.size, 0, none⟩) 1 1) ((wr.setCell ⟨ob, kp, none⟩ (.int .i64 0)).alloc (.cells #[.int .i64 p.1, .int .i64 p.2] 26))) := {
          q := QInv.start HP.out
          o := by
            unfold OutD
            rw [← HNN.out]
            refine ((hO.out.set hkp.out 0).congr fun j hj => ?_).ext EA
            by_cases e : j = kp
            · rw [if_pos e, if_pos (by rw [e, HKP.out, cellAt_kx HP.out]; simp), e, HKP.out, cellAt_kx HP.out, dst_of HR.out HP.out (IsD.self g p)]
              rfl
            · rw [if_neg e, HNK.out j hj, if_neg (fun hm => e (by
                rw [List.mem_singleton] at hm
                rw [HKP.out, ← hm, kx_cellAt]))]
          own := by
            have := owns_new (wr.setCell ⟨ob, kp, none⟩ (.int .i64 0)) p
            rw [hss] at this
            exact this
          vb := fun b hb => by cases hb; exact zwr
          be := ((hB.out.setCell (p := ⟨ob, kp, none⟩) (Nat.le_refl _) _)).trans (EA.mono (by rw [hss]; omega)) }
        clear EA hss c1 c2 hO
        generalize ((wr.setCell ⟨ob, kp, none⟩ (.int .i64 0)).alloc (.cells #[.int .i64 p.1, .int .i64 p.2] 26)) = W2 at F0 ⊢
        clear g1 g2 g3 q1 q2 ka1 ka2 zn1 zn2
        go_loopw [7, 8] (fun v i wr => ∃ (k : Nat) (Wv sn : List Pt) (av : Option Addr) (cv : Nat), k ≤ Wv.length ∧ i = .int .i64 k ∧ v = .slice av Wv.length cv ∧ Hid (FrL g p w1 ob k Wv sn (.slice av Wv.length cv) wr)) (fun _ i _ => 4097 - (intOf i).toNat)
        case atStart => exact ⟨0, [p], [p], _, 1, by simp, rfl, rfl, F0.out⟩
        case round =>
          obtain ⟨k, Wv, sn, av, cv, hk, rfl, rfl, hF⟩ := hrel
          obtain ⟨wi1, wi2, wi3, wi4⟩ := hF.out.q.wi
          have hlW : Wv.length ≤ 4096 := by rw [wi3]; exact nodup_pts wi1 (fun q hq => inG_of HR.out (wi2 q hq))
          have zwr2 : w1.heap.size ≤ wr.heap.size := hF.out.be.size
          have WIS := Lib.hid wi2
          have WIW := Lib.hid wi4
          clear wi1 wi2 wi3 wi4
          by_cases hlt : k < Wv.length
          · have hlt' : (k : Int) < (Wv.length : Int) := by omega
            obtain ⟨a', c', hv', hcl, hab⟩ := hF.out.own.reads
            cases hv'
            obtain ⟨vb0, vo0, rfl, d1, d2⟩ := hcl k hlt
            have HQ := Lib.hid hF.out.q
            generalize hcc : pt Wv k = c at d1 d2
            have HCC := Lib.hid hcc
            have hcs : Hid (c ∈ sn) := by rw [← hcc]; exact WIW.out _ (pt_mem hlt)
            have hci : Hid (inside g c = true) := WIS.out _ hcs.out
            have g1 : wr.cell? ⟨w.heap.size, 0, none⟩ = some (.int .i64 g.rows) := (hF.out.be.cell (p := ⟨w.heap.size, 0, none⟩) (by show w.heap.size < ob; omega)).trans g1
            have g2 : wr.cell? ⟨w.heap.size, 1, none⟩ = some (.int .i64 g.cols) := (hF.out.be.cell (p := ⟨w.heap.size, 1, none⟩) (by show w.heap.size < ob; omega)).trans g2
            have g3 : wr.cell? ⟨w.heap.size, 2, none⟩ = some (.slice ga g.bl.length gc) := (hF.out.be.cell (p := ⟨w.heap.size, 2, none⟩) (by show w.heap.size < ob; omega)).trans g3
            have HCr : Hid (Cells2 wr ga g.bl) := HCW.out.kept (Kd := fun k => k < ob) (n := 0) ⟨hF.out.be.size, fun k o hk ho _ => by rw [hF.out.be.block k hk]; exact ho⟩ (fun b off hb hne => HBL.out hne b off hb)
            have zvb := cell_lt d1
            dsimp only at zvb
            have zob2 : ob < wr.heap.size := by omega
            have zn3 : w.heap.size < wr.heap.size := by omega
            clear hcl hab hcc
            go_wp2_with fail
            refine (Near_any g c ga gc _ HG.out (inG_of HR.out hci.out) (HCr.out.ext ((Ext.refl _).alloc _))).mono ?_
            rintro e w4 ⟨nv, rfl, hnO, hnb, hE⟩
            have EE : Ext wr w4 := ((Ext.refl _).alloc _).trans hE
            obtain ⟨na, nc, rfl, _, _⟩ := hnO.reads
            have y1 : w4.cell? ⟨wr.heap.size, 0, none⟩ = some (.int .i64 c.1) := hE.cell (by go_simp)
            have y2 : w4.cell? ⟨wr.heap.size, 1, none⟩ = some (.int .i64 c.2) := hE.cell (by go_simp)
            have F1 : Hid (FiL g p c w1 ob wr.heap.size Wv sn (.slice na (near g c).length nc) 0 sn [] (.slice (some ⟨vb0, vo0, none⟩) Wv.length cv) w4) := {
              e := rfl
              o := hF.out.o.ext EE
              own := by rw [List.append_nil]; exact hF.out.own.ext EE
              vb := fun b hb => by
                have h1 := hF.out.vb b hb
                have h2 := hF.out.own.lt hb
                refine ⟨h1, fun h3 => ?_, by omega⟩
                have h4 := hnb b h3
                simp at h4
                omega
              be := hF.out.be.trans (EE.mono (by omega))
              nn := hnO
              b1 := y1
              b2 := y2 }
            have zE : wr.heap.size < w4.heap.size := cell_lt y1
            have HNB : Hid (∀ b, (Value.slice na (near g c).length nc).ownBlock = some b → ob < b) := fun b hb => by
              have h4 := hnb b hb
              simp at h4
              omega
            obtain ⟨bb, hbb⟩ : ∃ bb, bb = wr.heap.size := ⟨_, rfl⟩
            have hlN := near_len g c
            rw [← hbb] at F1 zE ⊢
            have zob4 : ob < bb := by omega
            clear hnO hnb hE EE y1 y2 d1 d2 g1 g2 g3 HCr hbb zvb
            go_wp2
            go_loopw [7, 53] (fun v i wr => ∃ (j : Nat) (sj Nv : List Pt) (av : Option Addr) (cv m : Nat), j ≤ (near g c).length ∧ i = .int .i64 j ∧ v = .slice av m cv ∧ Hid (m = (Wv ++ Nv).length) ∧ Hid (FiL g p c w1 ob bb Wv sn (.slice na (near g c).length nc) j sj Nv (.slice av m cv) wr)) (fun _ i _ => (near g c).length - (intOf i).toNat)
            case atStart => exact ⟨0, sn, [], _, cv, Wv.length, Nat.zero_le _, rfl, rfl, by show _ = _; rw [List.append_nil], F1.out⟩
            case round =>
              clear F1
              obtain ⟨j, sj, Nv, av, cv, m, hj, rfl, rfl, hm, hG⟩ := hrel
              by_cases hjl : j < (near g c).length
              · have hjl' : (j : Int) < ((near g c).length : Int) := by omega
                obtain ⟨a', c', hv', hcl, _⟩ := hG.out.nn.reads
                cases hv'
                obtain ⟨nb, no, hna, d1, d2⟩ := hcl j hjl
                subst hna
                have htk := take_near hjl
                have hqn : Hid (pt (near g c) j ∈ near g c) := pt_mem hjl
                generalize pt (near g c) j = q at d1 d2 htk hqn
                have HTK := Lib.hid htk
                have hqi : Hid (inside g q = true) := near_inside hqn.out
                have hsj : Hid (∀ x, x ∈ sj ↔ x ∈ sn ∨ x ∈ (near g c).take j) := fun x => by
                  have := (addN_mem ((near g c).take j) sn [] x).1
                  rwa [hG.out.e] at this
                have hval := HQ.out.val HR.out HP.out hlt
                rw [HCC.out] at hval
                have HVAL := Lib.hid hval
                have hpos : Hid (∀ x ∈ sj, 0 ≤ dst g p x) := fun x hx => by
                  by_cases hxs : x ∈ sn
                  · exact HQ.out.pos HR.out HP.out hxs
                  · rcases (hsj.out x).1 hx with h1 | h1
                    · exact absurd h1 hxs
                    · have := HVAL.out.2 x (List.mem_of_mem_take h1) hxs
                      have := HVAL.out.1
                      omega
                have hsnoc := addN_snoc sn [] ((near g c).take j) q
                rw [hG.out.e, ← htk] at hsnoc
                have g1 : wr.cell? ⟨w.heap.size, 0, none⟩ = some (.int .i64 g.rows) := (hG.out.be.cell (p := ⟨w.heap.size, 0, none⟩) (by show w.heap.size < ob; omega)).trans g1
                have g2 : wr.cell? ⟨w.heap.size, 1, none⟩ = some (.int .i64 g.cols) := (hG.out.be.cell (p := ⟨w.heap.size, 1, none⟩) (by show w.heap.size < ob; omega)).trans g2
                have b1 := hG.out.b1
                have b2 := hG.out.b2
                have zb := cell_lt d1
                have zbb := cell_lt b1
                dsimp only at zb zbb
                have zobr2 : ob < wr.heap.size := by omega
                have znr : w.heap.size < wr.heap.size := by omega
                obtain ⟨aq, kq1, kq2, kq3⟩ := kxF HR.out hqi.out
                obtain ⟨kq, hkq⟩ : ∃ kq, kq = kx g q := ⟨_, rfl⟩
                rw [← HNN.out, ← hkq] at kq3
                rw [← hkq] at kq2
                have HKQ := Lib.hid hkq
                have kq4 : (kq : Int) < (n : Int) := by omega
                have o1 : wr.cell? ⟨ob, kq, none⟩ = some (.int .i64 (if q ∈ sj then dst g p q else -1)) := by
                  have := (hG.out.o kq (by rw [← HNN.out]; exact kq3)).1
                  dsimp only at this
                  rw [HKQ.out, cellAt_kx hqi.out] at this
                  rw [HKQ.out]; exact this
                have o2 : wr.frozen? ⟨ob, kq, none⟩ = false := (hG.out.o kq (by rw [← HNN.out]; exact kq3)).2
                clear hcl htk hval hkq
                by_cases hqs : q ∈ sj
                · rw [if_pos hqs] at hsnoc o1
                  have hnn : ¬ dst g p q < 0 := by have := hpos.out q hqs; omega
                  have HSN := Lib.hid hsnoc
                  clear hsnoc hqs
                  go_wp2
                  have X := hG.out.ext ((Ext.refl _).alloc (.cells #[.int .i64 q.1, .int .i64 q.2] 26)) zobr2
                  exact ⟨⟨j + 1, sj, Nv, av, cv, m, by omega, by go_num, rfl, hm.out, { X with e := HSN.out }⟩, by simp [intOf]; omega⟩
                · rw [if_neg hqs] at hsnoc o1
                  have hqsn : q ∉ sn := fun h => hqs ((hsj.out q).2 (.inl h))
                  have hdq : Hid (dst g p q = dst g p c + 1) := HVAL.out.2 q hqn.out hqsn
                  have HSN := Lib.hid hsnoc
                  have HQS := Lib.hid hqs
                  clear hsnoc hqs hqsn
                  obtain ⟨ac, kc1, kc2, kc3⟩ := kxF HR.out hci.out
                  obtain ⟨kc, hkc⟩ : ∃ kc, kc = kx g c := ⟨_, rfl⟩
                  rw [← HNN.out, ← hkc] at kc3
                  rw [← hkc] at kc2
                  have HKC := Lib.hid hkc
                  have kc4 : (kc : Int) < (n : Int) := by omega
                  have o3 : wr.cell? ⟨ob, kc, none⟩ = some (.int .i64 (dst g p c)) := by
                    have := (hG.out.o kc (by rw [← HNN.out]; exact kc3)).1
                    dsimp only at this
                    rw [HKC.out, cellAt_kx hci.out, if_pos ((hsj.out c).2 (.inl hcs.out))] at this
                    rw [HKC.out]; exact this
                  obtain ⟨db1, db2⟩ := dst_bd HR.out HP.out c
                  have q9 : IntKind.i64.wrap (dst g p c + 1) = dst g p c + 1 := IntWalk.i64_in _ (by omega)
                  clear hkc
                  go_wp2_with fail
                  have E5 : Ext wr (wr.alloc (.cells #[.int .i64 q.1, .int .i64 q.2] 26)) := (Ext.refl _).alloc _
                  have X := Lib.hid (hG.out.ext E5 zobr2)
                  have g1 := E5.cell g1
                  have g2 := E5.cell g2
                  have b1 := E5.cell b1
                  have b2 := E5.cell b2
                  have o1 := E5.cell o1
                  have o3 := E5.cell o3
                  have o2 : (wr.alloc (.cells #[.int .i64 q.1, .int .i64 q.2] 26)).frozen? ⟨ob, kq, none⟩ = false := (E5.frozen (p := ⟨ob, kq, none⟩) zobr2).trans o2
                  have y1 : (wr.alloc (.cells #[.int .i64 q.1, .int .i64 q.2] 26)).cell? ⟨wr.heap.size, 0, none⟩ = some (.int .i64 q.1) := by go_simp
                  have y2 : (wr.alloc (.cells #[.int .i64 q.1, .int .i64 q.2] 26)).cell? ⟨wr.heap.size, 1, none⟩ = some (.int .i64 q.2) := by go_simp
                  obtain ⟨qb, hqb⟩ : ∃ qb, qb = wr.heap.size := ⟨_, rfl⟩
                  have zq : qb < (wr.alloc (.cells #[.int .i64 q.1, .int .i64 q.2] 26)).heap.size := by rw [hqb]; simp
                  have zqo : ob < qb := by omega
                  rw [← hqb] at y1 y2 ⊢
                  have hG2 := Lib.hid hG.out.e
                  clear hqb E5 d1 d2 hG zobr2 znr zb zbb
                  generalize (wr.alloc (.cells #[.int .i64 q.1, .int .i64 q.2] 26)) = W6 at X g1 g2 b1 b2 o1 o2 o3 y1 y2 zq ⊢
                  go_still_tail 22, (by kernel_rfl)
                  obtain ⟨i0, hi, hi0, hi1, hi2⟩ := info_parts infoPl
                  have CS : Hid (Chg (fun k => k = ob) W6 (W6.setCell ⟨ob, kq, none⟩ (.int .i64 (dst g p c + 1)))) := Chg.setCell (B := fun k => k = ob) ⟨ob, _, none⟩ _ rfl
                  have KS : Hid (Kept (fun k => k ≠ ob) 0 W6 (W6.setCell ⟨ob, kq, none⟩ (.int .i64 (dst g p c + 1)))) := CS.out.kept (fun k hk _ => hk)
                  have nown : Hid (∀ b, (Value.slice av m cv).ownBlock = some b → b ≠ ob) := fun b hb e => by have := (X.out.vb b hb).1; omega
                  have nnear : Hid (∀ b, (Value.slice (some ⟨nb, no, none⟩) (near g c).length nc).ownBlock = some b → b ≠ ob) := fun b hb e => by have := HNB.out b hb; omega
                  have OW : Hid (Owns (W6.setCell ⟨ob, kq, none⟩ (.int .i64 (dst g p c + 1))) (.slice av m cv) (Wv ++ Nv)) := X.out.own.kept KS.out nown.out
                  have hwl : (Wv ++ Nv).length ≤ 4100 := by
                    have h2 : Nv.length ≤ 4 := by
                      have h3 := addN_len ((near g c).take j) sn []
                      rw [hG2.out] at h3
                      simp at h3
                      omega
                    simp; omega
                  have hmm : m ≤ 4100 := by rw [hm.out]; exact hwl
                  go_wp2_with (at_builtin; refine wpList_append1 _ rfl _ _ 22 rfl 26 i0 (.agg #[.int .i64 0, .int .i64 0]) 2 16 Try.underlying22 hi hi0 hi1 hi2 rfl (by decide) (.slice av m cv) (Wv ++ Nv).length (flat (Wv ++ Nv)) rfl ?ho ⟨W6.heap.size, 0, none⟩ 1 1 (by decide) [.int .i64 q.1, .int .i64 q.2] rfl rfl ?hn ?c1 ?c2 ?c3 ?c4)
                  case ho => exact OW.out.ext (((Ext.refl _).alloc _).drew)
                  case hn =>
                    have := cell_two_new (W6.setCell ⟨ob, kq, none⟩ (.int .i64 (dst g p c + 1))) (.int .i64 q.1) (.int .i64 q.2) 26
                    simpa using this
                  case c1 => intro u hu; simp at hu; rcases hu with rfl | rfl <;> rfl
                  case c2 => unfold maxLen; omega
                  case c3 => omega
                  case c4 =>
                    intro v' w5 hown5 hend5
                    have O5 : Owns w5 v' ((Wv ++ Nv) ++ [q]) := owns_succ (by rw [List.length_append]; exact hown5)
                    rw [List.append_assoc] at O5
                    obtain ⟨av', cv', rfl, _, _⟩ := O5.reads
                    have HO5 := Lib.hid O5
                    have HEND := Lib.hid hend5
                    have EA : Hid (Ext (W6.setCell ⟨ob, kq, none⟩ (.int .i64 (dst g p c + 1))) ((W6.setCell ⟨ob, kq, none⟩ (.int .i64 (dst g p c + 1))).alloc (.cells #[.int .i64 q.1, .int .i64 q.2] 26)).drew) := ((Ext.refl _).alloc _).drew
                    have hss : (W6.setCell ⟨ob, kq, none⟩ (.int .i64 (dst g p c + 1))).heap.size = W6.heap.size := by simp
                    have K5 : Hid (Kept (fun k => (Value.slice av m cv).ownBlock ≠ some k) 0 ((W6.setCell ⟨ob, kq, none⟩ (.int .i64 (dst g p c + 1))).alloc (.cells #[.int .i64 q.1, .int .i64 q.2] 26)).drew w5) := Kept.grown hend5 (fun b hb hn => hn hb)
                    have S7 : ((W6.setCell ⟨ob, kq, none⟩ (.int .i64 (dst g p c + 1))).alloc (.cells #[.int .i64 q.1, .int .i64 q.2] 26)).drew.heap.size = W6.heap.size + 1 := by simp
                    clear hown5 hend5 O5
                    go_wp2
                    have vbb := X.out.vb
                    refine ⟨⟨j + 1, q :: sj, Nv ++ [q], av', cv', _, by omega, by go_num, rfl, by show _ = _; rfl, ?_⟩, by simp [intOf]; omega⟩
                    exact {
                      e := HSN.out
                      o := by
                        have h1 := (X.out.o.set (i := kq) (by rw [← HNN.out]; exact kq3) (dst g p c + 1)).congr (M := fun k => if cellAt g k ∈ q :: sj then dst g p (cellAt g k) else -1) (fun k hk => by
                          try dsimp only
                          by_cases ek : k = kq
                          · rw [if_pos ek, ek, HKQ.out, cellAt_kx hqi.out, if_pos (List.mem_cons_self ..), hdq.out]
                          · have hne : cellAt g k ≠ q := fun h => ek (by rw [HKQ.out, ← h, kx_cellAt])
                            rw [if_neg ek]
                            by_cases hm2 : cellAt g k ∈ sj
                            · rw [if_pos hm2, if_pos (List.mem_cons_of_mem _ hm2)]
                            · rw [if_neg hm2, if_neg (fun h => by
                                rcases List.mem_cons.1 h with h | h
                                · exact hne h
                                · exact hm2 h)])
                        exact (h1.ext EA.out).kept K5.out (fun e => nown.out ob e rfl)
                      own := HO5.out
                      vb := fun b hb => by
                        rcases HEND.out with ⟨h1, _, _⟩ | ⟨h1, _⟩
                        · rw [h1] at hb; exact vbb b hb
                        · rw [h1] at hb
                          have hb' : b = W6.heap.size + 1 := by rw [S7] at hb; cases hb; rfl
                          have h5 := X.out.be.size
                          have h7 : bb < W6.heap.size := cell_lt X.out.b1
                          refine ⟨by omega, fun h => ?_, by omega⟩
                          have h6 := X.out.nn.lt h
                          omega
                      be := ((X.out.be.setCell (p := ⟨ob, kq, none⟩) (Nat.le_refl _) _).trans (EA.out.mono (by rw [hss]; omega))).trans (HEND.out.below (by rw [S7]; omega) (fun b hb => by have := (vbb b hb).1; omega))
                      nn := ((X.out.nn.kept KS.out nnear.out).ext EA.out).kept K5.out (fun b hb h => (vbb b h).2.1 hb)
                      b1 := K5.out.cell (p := ⟨bb, 0, none⟩) (fun h => (vbb bb h).2.2 rfl) (EA.out.cell (KS.out.cell (p := ⟨bb, 0, none⟩) (by show bb ≠ ob; omega) X.out.b1))
                      b2 := K5.out.cell (p := ⟨bb, 1, none⟩) (fun h => (vbb bb h).2.2 rfl) (EA.out.cell (KS.out.cell (p := ⟨bb, 1, none⟩) (by show bb ≠ ob; omega) X.out.b2)) }
              · have hje : j = (near g c).length := by omega
                have HJE := Lib.hid hje
                have hjl' : ¬ (j : Int) < ((near g c).length : Int) := by omega
                clear hje
                go_wp2
                have hee := hG.out.e
                rw [HJE.out, List.take_length] at hee
                have hQ2 := HQ.out.step hlt
                rw [HCC.out, hee] at hQ2
                have hlen2 : k + 1 ≤ (Wv ++ Nv).length := by simp; omega
                refine ⟨⟨k + 1, Wv ++ Nv, sj, av, cv, hlen2, by go_num, by rw [← hm.out], by rw [← hm.out]; exact ⟨hQ2, hG.out.o, hG.out.own, fun b hb => (hG.out.vb b hb).1, hG.out.be⟩⟩, by simp [intOf]; omega⟩
          · have hke : k = Wv.length := by omega
            have HKE := Lib.hid hke
            have hlt' : ¬ (k : Int) < (Wv.length : Int) := by omega
            clear hke
            go_wp2
            go_ret
            refine ⟨some ⟨ob, 0, none⟩, ⟨n, by rw [tabL_len, ← HNN.out]; rfl⟩, fun j hj => ?_, Below.trans EW (hF.out.be.mono (by omega))⟩
            rw [tabL_len] at hj
            refine ⟨ob, 0, rfl, ?_⟩
            rw [Nat.zero_add, tabL_get hj, (hF.out.o j hj).1]
            by_cases hm : cellAt g j ∈ sn
            · simp [hm]
            · simp only [hm, if_false]
              rw [hF.out.q.done HKE.out hm]
end Go.Proofs.Ytfigooilhnahfaa
