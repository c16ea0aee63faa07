/- Ducts. -/
import Derived.Test.YtfigooilhnahfaaDuctS
import Derived.Test.YtfigooilhnahfaaRouteA
namespace Go.Proofs.Ytfigooilhnahfaa
open Go.RowKit Go.Maps

def setIns {α : Type} [DecidableEq α] (S : List α) (a : α) : List α := if a ∈ S then S else a :: S
theorem wpList_setAdd {α : Type} [DecidableEq α] {P : Program} {ev : α → Value} (w : World) {ops : Array Oper} {rest : List Oper} {o : Oper} {a : Act} {Q : Exit → Act → World → Prop}
    (hg : o.guard = none) (m x v : Operand) (t : TypeId) (hop : o.op = Op.mapUpdate t m x v) (k e : TypeId) (K : Keyed P k) (ht : P.underlying t = some (.map k e)) (he : P.underlying e = some .bool) (b n : Nat) (S : List α)
    (hm : a.eval m = .map (some b)) (hs : SetAt P k e ev w b n S) (hn : n < maxLen) (hinj : ∀ x y, ev x = ev y → x = y) (y : α) (kl : Lit) (hx : a.eval x = ev y) (hv : a.eval v = .bool true) (hkey : keyOf P k (ev y) = some kl)
    (hK : ∀ w', SetAt P k e ev w' b (n + 1) (setIns S y) → w.grownBy w' (some b) → wpList P ops Q rest (a.put o.dst undef) w') :
    wpList P ops Q (o :: rest) a w := by
  refine wpList_plain hg fun K' hK' => ?_
  obtain ⟨w', hrun, r1, r2⟩ := hs.update K ht he hn hinj hkey
  unfold Oper.wp
  simp [execOp, hop, hm, hx, hv, hrun, Result.andThen]
  exact hK' _ _ (hK w' r1 r2)

theorem SetAt.len {α : Type} [DecidableEq α] {P : Program} {k e : TypeId} {ev : α → Value} {w : World} {b n : Nat} {S : List α} (h : SetAt P k e ev w b n S) {t e' : TypeId} (ht : P.underlying t = some (.map k e')) (ty : TypeId) : (Builtin.len_ #[t] ty #[.map (some b)]).run P w = .ok (.int .i64 S.length) w := by
  obtain ⟨D, h1, _, h3, _⟩ := h
  rw [← h3]
  exact h1.len ht ty
theorem wpList_setLen {α : Type} [DecidableEq α] {P : Program} {ev : α → Value} (w : World) {ops : Array Oper} {rest : List Oper} {o : Oper} {a : Act} {Q : Exit → Act → World → Prop}
    (hg : o.guard = none) (m : Operand) (t : TypeId) (hop : o.op = Op.call { callee := Callee.builtin Builtin.len, args := #[m], argTypes := #[t] }) (k e : TypeId) (ht : P.underlying t = some (.map k e)) (b n : Nat) (S : List α)
    (hm : a.eval m = .map (some b)) (hs : SetAt P k e ev w b n S) (hK : wpList P ops Q rest (a.put o.dst (.int .i64 S.length)) w) :
    wpList P ops Q (o :: rest) a w := by
  refine wpList_plain hg fun K' hK' => ?_
  unfold Oper.wp
  simp [execOp, hop, resolve, invoke, builtin, hm, hs.len ht o.type, Result.andThen]
  exact hK' _ _ hK

theorem hosesErr_step {g : Gr} {hs : List Hose} {n k : Nat} (h : hoseErr g (ph hs k) = 0) : hosesErr g hs (n + 1) k = hosesErr g hs n (k + 1) := by
  conv => lhs; unfold hosesErr
  rw [if_neg (by simp [h])]
theorem hosesErr_stop {g : Gr} {hs : List Hose} {n k : Nat} (h : hoseErr g (ph hs k) ≠ 0) : hosesErr g hs (n + 1) k = hoseErr g (ph hs k) := by
  conv => lhs; unfold hosesErr
  rw [if_pos h]
theorem opn_of_cells {g : Gr} {p q : Pt} (h : cellsErr g [p, q] = 0) : opn g p = true ∧ opn g q = true := ⟨cells_ok h p (by simp), cells_ok h q (by simp)⟩

structure DkL (g : Gr) (hs : List Hose) (W0 : World) (mb k : Nat) (v : Value) (w : World) : Prop where
  se : ∃ n, n ≤ k * 4097 ∧ SetAt Try.prog 74 4 evPr w mb n (ductK g hs k)
  be : Below mb W0 w
  own : RowsO w v (ways g hs k)
  vb : ∀ b, v.ownBlock = some b → W0.heap.size ≤ b
theorem DkL.ext {g : Gr} {hs : List Hose} {W0 : World} {mb k : Nat} {v : Value} {A B : World} (h : DkL g hs W0 mb k v A) (x : Ext A B) : DkL g hs W0 mb k v B := by
  obtain ⟨n, h1, h2⟩ := h.se
  exact ⟨⟨n, h1, h2.ext x⟩, h.be.trans (x.mono (Nat.le_of_lt h2.lt)), h.own.ext x, h.vb⟩

def DuctsPost (g : Gr) (hs : List Hose) (w : World) (e : Ending) (w' : World) : Prop :=
  ∃ a cap, e = .returned (.tuple #[.slice a (ductL g hs).length cap, .int .i64 (ductN g hs), .int .i64 (ductE g hs)]) ∧ RowsR w' a (ductL g hs) ∧ Ext w w'
theorem DuctsPost.bad {g : Gr} {hs : List Hose} {w w' : World} {e : Int} (he : ductE g hs = e) (hne : e ≠ 0) (hx : Ext w w') : DuctsPost g hs w (.returned (.tuple #[.slice none 0 0, .int .i64 0, .int .i64 e])) w' := by
  subst he
  unfold DuctsPost ductL ductN
  rw [if_pos hne, if_pos hne]
  exact ⟨none, 0, rfl, RowsR.nil _ _, hx⟩

set_option maxHeartbeats 4000000 in
set_option maxRecDepth 100000 in
theorem Ducts_any (g : Gr) (hs : List Hose) (ga : Option Addr) (gc : Nat) (ha : Option Addr) (hcap : Nat) (w : World) (hg : g.bl.length ≤ maxLen) (hc : Cells2 w ga g.bl) (hl : hs.length ≤ maxLen) (hch : Cells4 w ha hs) (hwf : ∀ i, i < hs.length → True) :
    Calls Try.prog 17 #[.agg #[.int .i64 g.rows, .int .i64 g.cols, .slice ga g.bl.length gc], .slice ha hs.length hcap] w fun e w' => DuctsPost g hs w e w' := by
  have HC : Hid (Cells2 w ga g.bl) := hc
  have HH : Hid (Cells4 w ha hs) := hch
  have HG := Lib.hid hg
  clear hc hg hch hwf
  have E0 : Ext w (((w).alloc (.cells #[.int .i64 g.rows, .int .i64 g.cols, .slice ga g.bl.length gc] 33))) := (Ext.refl _).alloc _
  have a1 : (((w).alloc (.cells #[.int .i64 g.rows, .int .i64 g.cols, .slice ga g.bl.length gc] 33))).cell? ⟨w.heap.size, 0, none⟩ = some (.int .i64 g.rows) := by go_simp
  have a2 : (((w).alloc (.cells #[.int .i64 g.rows, .int .i64 g.cols, .slice ga g.bl.length gc] 33))).cell? ⟨w.heap.size, 1, none⟩ = some (.int .i64 g.cols) := by go_simp
  have a3 : (((w).alloc (.cells #[.int .i64 g.rows, .int .i64 g.cols, .slice ga g.bl.length gc] 33))).cell? ⟨w.heap.size, 2, none⟩ = some (.slice ga g.bl.length gc) := by go_simp
  have hmm := @run_makeMap Try.prog
  have hl' : hs.length ≤ 9223372036854775807 := hl
  clear hl
  go_enter Try.func17, Try.ntmps17
  go_wp2_with fail
  refine (Check_any g ga gc _ HG.out (HC.out.ext E0)).mono ?_
  rintro e w1 ⟨rfl, hE⟩
  have b1 := hE.cell a1
  have b2 := hE.cell a2
  have b3 := hE.cell a3
  have E1 : Ext w w1 := E0.trans hE
  have z1 : w.heap.size < w1.heap.size := cell_lt b1
  clear hE E0 a1 a2 a3
  by_cases h0 : chk g = 0
  · have HR := Lib.hid (right_of_chk h0)
    have H0 := Lib.hid h0
    rw [h0]
    clear h0
    by_cases hlen : 256 < hs.length
    · have hE : Hid (ductE g hs = 5) := by show _ = _; unfold ductE; rw [if_neg (by simp [H0.out]), if_pos hlen]
      have hlen' : (256 : Int) < (hs.length : Int) := by omega
      go_wp2
      go_ret3
      exact DuctsPost.bad hE.out (by decide) E1
    · have hE : Hid (ductE g hs = hosesErr g hs hs.length 0) := by show _ = _; unfold ductE; rw [if_neg (by simp [H0.out]), if_neg hlen]
      have hlen' : ¬ (256 : Int) < (hs.length : Int) := by omega
      go_wp2_with fail
      have E3 : Ext w1 (w1.alloc (.map #[] 0)) := (Ext.refl _).alloc _
      obtain ⟨mb, hmb⟩ : ∃ mb, mb = w1.heap.size := ⟨_, rfl⟩
      have M1 : Hid (SetAt Try.prog 74 4 evPr (w1.alloc (.map #[] 0)) w1.heap.size 0 []) := SetAt.made _ _ _ _ _
      have zW : (w1.alloc (.map #[] 0)).heap.size = w1.heap.size + 1 := by simp
      have c1 := E3.cell b1
      have c2 := E3.cell b2
      have c3 := E3.cell b3
      have EW := E1.trans E3
      rw [← hmb] at M1 zW ⊢
      have zn : w.heap.size < mb := by omega
      have HBL : Hid (g.bl ≠ [] → ∀ b off, ga = some ⟨b, off, none⟩ → b < mb) := fun hne b off hb => by
        have h1 := HC.out.lt hne hb
        have h2 := E1.size
        omega
      have HBH : Hid (hs ≠ [] → ∀ b off, ha = some ⟨b, off, none⟩ → b < mb) := fun hne b off hb => by
        have h1 := HH.out.lt hne hb
        have h2 := E1.size
        omega
      clear hmb E3 E1 b1 b2 b3 z1 hmm
      generalize (w1.alloc (.map #[] 0)) = W0 at M1 zW c1 c2 c3 EW ⊢
      have HCW := Lib.hid (HC.out.ext EW)
      have HHW := Lib.hid (HH.out.ext EW)
      go_loopw [8, 29] (fun v i wr => ∃ (k : Nat) (av : Option Addr) (cv : Nat), k ≤ hs.length ∧ i = .int .i64 k ∧ v = .slice av k cv ∧ Hid (hosesErr g hs hs.length 0 = hosesErr g hs (hs.length - k) k) ∧ Hid (DkL g hs W0 mb k (.slice av k cv) wr)) (fun _ i _ => hs.length - (Go.RowKit.intOf i).toNat)
      case atStart => exact ⟨0, none, 0, Nat.zero_le _, rfl, rfl, rfl, ⟨⟨0, by omega, M1.out⟩, Below.refl _ _, RowsO.nil _, fun b hb => by cases hb⟩⟩
      case round =>
        obtain ⟨k, av, cv, hk, rfl, rfl, hn, hd⟩ := hrel
        have g1 : wr.cell? ⟨w.heap.size, 0, none⟩ = some (.int .i64 g.rows) := (hd.out.be.cell (p := ⟨w.heap.size, 0, none⟩) zn).trans c1
        have g2 : wr.cell? ⟨w.heap.size, 1, none⟩ = some (.int .i64 g.cols) := (hd.out.be.cell (p := ⟨w.heap.size, 1, none⟩) zn).trans c2
        have g3 : wr.cell? ⟨w.heap.size, 2, none⟩ = some (.slice ga g.bl.length gc) := (hd.out.be.cell (p := ⟨w.heap.size, 2, none⟩) zn).trans c3
        have HCr : Hid (Cells2 wr ga g.bl) := HCW.out.below hd.out.be HBL.out
        by_cases hlt : k < hs.length
        · have hlt' : (k : Int) < (hs.length : Int) := by omega
          obtain ⟨hb, hoff, rfl, e1, e2, e3, e4⟩ := (HHW.out.below hd.out.be HBH.out) k hlt
          generalize hx : ph hs k = x at e1 e2 e3 e4
          have HX := Lib.hid hx
          clear hx
          have zh := cell_lt e1
          dsimp only at zh
          have zmb : mb < wr.heap.size := by obtain ⟨_, _, h⟩ := hd.out.se; exact h.lt
          have zn2 : w.heap.size < wr.heap.size := by omega
          go_wp2_with fail
          have V0 : Ext wr (wr.alloc (.cells #[.int .i64 x.1.1, .int .i64 x.1.2, .int .i64 x.2.1, .int .i64 x.2.2] 74)) := (Ext.refl _).alloc _
          have p1 : (wr.alloc (.cells #[.int .i64 x.1.1, .int .i64 x.1.2, .int .i64 x.2.1, .int .i64 x.2.2] 74)).cell? ⟨wr.heap.size, 0, none⟩ = some (.int .i64 x.1.1) := by go_simp
          have p2 : (wr.alloc (.cells #[.int .i64 x.1.1, .int .i64 x.1.2, .int .i64 x.2.1, .int .i64 x.2.2] 74)).cell? ⟨wr.heap.size, 1, none⟩ = some (.int .i64 x.1.2) := by go_simp
          have p3 : (wr.alloc (.cells #[.int .i64 x.1.1, .int .i64 x.1.2, .int .i64 x.2.1, .int .i64 x.2.2] 74)).cell? ⟨wr.heap.size, 2, none⟩ = some (.int .i64 x.2.1) := by go_simp
          have p4 : (wr.alloc (.cells #[.int .i64 x.1.1, .int .i64 x.1.2, .int .i64 x.2.1, .int .i64 x.2.2] 74)).cell? ⟨wr.heap.size, 3, none⟩ = some (.int .i64 x.2.2) := by go_simp
          have g1 := V0.cell g1
          have g2 := V0.cell g2
          have g3 := V0.cell g3
          have HD1 := Lib.hid (hd.out.ext V0)
          have HC1 := Lib.hid (HCr.out.ext V0)
          have zp : wr.heap.size < (wr.alloc (.cells #[.int .i64 x.1.1, .int .i64 x.1.2, .int .i64 x.2.1, .int .i64 x.2.2] 74)).heap.size := by simp
          have HE1 : Hid (Ext w (wr.alloc (.cells #[.int .i64 x.1.1, .int .i64 x.1.2, .int .i64 x.2.1, .int .i64 x.2.2] 74))) := (Below.trans EW (hd.out.be.mono (by omega))).alloc (by omega) _
          clear hd HCr e1 e2 e3 e4 V0
          generalize (wr.alloc (.cells #[.int .i64 x.1.1, .int .i64 x.1.2, .int .i64 x.2.1, .int .i64 x.2.2] 74)) = W1 at p1 p2 p3 p4 g1 g2 g3 HD1 HC1 HE1 zp ⊢
          have zg := cell_lt g1
          dsimp only at zg
          go_region_held3 (fun w' => Sees W1 w') ((repeat (first | exact Sees.refl _ | assumption | apply Sees.drew | apply Sees.alloc | (refine Sees.ext ?_ (by assumption))))) (first | (go_at_call 53; refine (cells_any g [x.1, x.2] ga gc _ _ _ HR.out (HC1.out.ext (by exact (show Sees W1 _ by assumption).2.2)) (by simp [maxLen]) ((cells2_two p1 p2 p3 p4).ext (by exact (show Sees W1 _ by assumption).2.2))).mono ?_; rintro e w' ⟨rfl, hE2⟩))
          have hS := (show Sees W1 _ by assumption).2.2
          have p1 := hS.cell p1
          have p2 := hS.cell p2
          have p3 := hS.cell p3
          have p4 := hS.cell p4
          have g1 := hS.cell g1
          have g2 := hS.cell g2
          have g3 := hS.cell g3
          have HD2 := Lib.hid (HD1.out.ext hS)
          have HC2 := Lib.hid (HC1.out.ext hS)
          have HE2 := Lib.hid (HE1.out.trans hS)
          have hz2 : W1.heap.size ≤ w'.heap.size := hS.size
          clear HD1 HC1 HE1 hS
          generalize w' = W2 at p1 p2 p3 p4 g1 g2 g3 HD2 HC2 HE2 hz2 ⊢
          have zp2 : wr.heap.size < W2.heap.size := by omega
          have zn3 : w.heap.size < W2.heap.size := by omega
          by_cases hce : cellsErr g [x.1, x.2] = 0
          · obtain ⟨ho1, ho2⟩ := opn_of_cells hce
            have HO1 := Lib.hid ho1
            have HO2 := Lib.hid ho2
            have HCE := Lib.hid hce
            rw [hce]
            clear hce ho1 ho2
            go_wp2_with fail
            refine (route_any g x.1 x.2 ga gc _ HR.out HO1.out HO2.out HC2.out).mono ?_
            rintro e W3 ⟨lv, rfl, hO, hE3⟩
            by_cases hneg : dst g x.2 x.1 < 0
            · have HBAD : Hid (ductE g hs = 6) := by
                show _ = _
                have h9 : hoseErr g x = 6 := by unfold hoseErr; rw [if_neg (by simp [HCE.out]), if_pos hneg]
                rw [hE.out, hn.out, show hs.length - k = (hs.length - (k + 1)) + 1 by omega, hosesErr_stop (by rw [HX.out, h9]; decide), HX.out, h9]
              rw [if_pos hneg]
              go_wp2
              go_ret3
              exact DuctsPost.bad HBAD.out (by decide) (HE2.out.trans hE3)
            · rw [if_neg hneg]
              have HOK : Hid (hosesErr g hs hs.length 0 = hosesErr g hs (hs.length - (k + 1)) (k + 1)) := by
                show _ = _
                have h9 : hoseErr g x = 0 := by unfold hoseErr; rw [if_neg (by simp [HCE.out]), if_neg hneg]
                rw [hn.out, show hs.length - k = (hs.length - (k + 1)) + 1 by omega, hosesErr_step (by rw [HX.out, h9])]
              have HD3 := Lib.hid (HD2.out.ext hE3)
              have HE3 := Lib.hid (HE2.out.trans hE3)
              have hrl : routeL g x.1 x.2 = way g x.1 x.2 := by unfold routeL; rw [if_neg hneg]
              rw [hrl] at hO
              have hLlen : (way g x.1 x.2).length ≤ 4097 ∧ 1 ≤ (way g x.1 x.2).length := by
                rw [way_len]
                have := dst_bd HR.out (opn_inside HO2.out) x.1
                omega
              have HIN : Hid (∀ i, i < (way g x.1 x.2).length → InG (pt (way g x.1 x.2) i)) := fun i hi => inG_of HR.out (opn_inside (way_opn HR.out HO1.out HO2.out hneg _ (pt_mem hi)))
              obtain ⟨la, lc, rfl, hLc, hLb⟩ := hO.reads
              have HO3 := Lib.hid hO
              have HLC := Lib.hid hLc
              have HW := Lib.hid hrl
              obtain ⟨n0, hn0, hS0⟩ := HD3.out.se
              have HS0 := Lib.hid hS0
              have hz3 : W2.heap.size ≤ W3.heap.size := hE3.size
              obtain ⟨L, hLeq⟩ : ∃ L, L = way g x.1 x.2 := ⟨_, rfl⟩
              rw [← hLeq] at hLlen HIN HO3 HLC ⊢
              have HLEQ := Lib.hid hLeq
              clear hS0 hO hLc hLb hrl hE3 p1 p2 p3 p4 g1 g2 g3 hLeq HW
              have hmW : mb < W3.heap.size := by omega
              go_wp2
              go_loopw [15] (fun i wr => ∃ j : Nat, j < L.length ∧ i = .int .i64 ((j : Int) + 1) ∧ Hid (SetAt Try.prog 74 4 evPr wr mb (n0 + j) (pairK (ductK g hs k) L j)) ∧ Hid (Chg (fun b => b = mb) W3 wr) ∧ Hid (Below mb W3 wr)) (fun i _ => L.length + 1 - (Go.RowKit.intOf i).toNat)
              case atStart => exact ⟨0, by omega, rfl, HS0.out, Chg.refl _ _, Below.refl _ _⟩
              case round =>
                obtain ⟨j, hj, rfl, HS, HCH, HBB⟩ := hrel
                by_cases hjl : j + 1 < L.length
                · have hjl' : (j : Int) + 1 < (L.length : Int) := by omega
                  obtain ⟨la', lc', hv', HLr, _⟩ := (HO3.out.kept (X := fun k => k ≠ mb) (n := 0) (HCH.out.kept (fun k hk _ => hk)) (fun b hb e => by
                    obtain ⟨c1, f1, e1⟩ := ownsRow_at HO3.out hb
                    obtain ⟨es, cl, h8⟩ := HS0.out.at
                    rw [e, h8] at e1; cases e1)).reads
                  cases hv'
                  have HLr := Lib.hid HLr
                  obtain ⟨lb, loff, rfl, d1, d2⟩ := HLr.out j (by omega)
                  obtain ⟨lb', loff', hla, d3, d4⟩ := HLr.out (j + 1) hjl
                  cases hla
                  have i1 := Lib.hid (HIN.out j (by omega))
                  have i2 := Lib.hid (HIN.out (j + 1) hjl)
                  have q0 : IntKind.i64.wrap ((j : Int) + 1 - 1) = (j : Int) := by
                    rw [show (j : Int) + 1 - 1 = (j : Int) by omega]; exact IntWalk.i64_in _ (by omega)
                  have zb := cell_lt d1
                  dsimp only at zb
                  have zm2 : mb < wr.heap.size := HS.out.lt
                  have q1 : ((j : Int) + 1).toNat = j + 1 := by omega
                  have q2 : IntKind.i64.wrap (j : Int) = (j : Int) := IntWalk.i64_in _ (by omega)
                  have q3 : (j : Int) < (L.length : Int) := by omega
                  have hkn : n0 + j ≤ 2000000 := by omega
                  by_cases hg0 : 0 < ordP (pt L j) (pt L (j + 1))
                  · have hgt : 0 < ordP (pt L j) (pt L (j + 1)) := by assumption
                    go_wp2_with fail
                    go_region
                    · have E3 : Ext wr (((wr.alloc (.cells #[.int .i64 (pt L j).1, .int .i64 (pt L j).2] 26)).alloc (.cells #[.int .i64 (pt L (j + 1)).1, .int .i64 (pt L (j + 1)).2] 26)).drew) := (((Ext.refl _).alloc _).alloc _).drew
                      have p1 : (((wr.alloc (.cells #[.int .i64 (pt L j).1, .int .i64 (pt L j).2] 26)).alloc (.cells #[.int .i64 (pt L (j + 1)).1, .int .i64 (pt L (j + 1)).2] 26)).drew).cell? ⟨wr.heap.size, 0, none⟩ = some (.int .i64 (pt L j).1) := by go_simp
                      have p2 : (((wr.alloc (.cells #[.int .i64 (pt L j).1, .int .i64 (pt L j).2] 26)).alloc (.cells #[.int .i64 (pt L (j + 1)).1, .int .i64 (pt L (j + 1)).2] 26)).drew).cell? ⟨wr.heap.size, 1, none⟩ = some (.int .i64 (pt L j).2) := by go_simp
                      have p3 : (((wr.alloc (.cells #[.int .i64 (pt L j).1, .int .i64 (pt L j).2] 26)).alloc (.cells #[.int .i64 (pt L (j + 1)).1, .int .i64 (pt L (j + 1)).2] 26)).drew).cell? ⟨wr.heap.size + 1, 0, none⟩ = some (.int .i64 (pt L (j + 1)).1) := by go_simp
                      have p4 : (((wr.alloc (.cells #[.int .i64 (pt L j).1, .int .i64 (pt L j).2] 26)).alloc (.cells #[.int .i64 (pt L (j + 1)).1, .int .i64 (pt L (j + 1)).2] 26)).drew).cell? ⟨wr.heap.size + 1, 1, none⟩ = some (.int .i64 (pt L (j + 1)).2) := by go_simp
                      have y1 : (((wr.alloc (.cells #[.int .i64 (pt L j).1, .int .i64 (pt L j).2] 26)).alloc (.cells #[.int .i64 (pt L (j + 1)).1, .int .i64 (pt L (j + 1)).2] 26)).drew).frozen? ⟨wr.heap.size, 0, none⟩ = false := by go_simp
                      have y2 : (((wr.alloc (.cells #[.int .i64 (pt L j).1, .int .i64 (pt L j).2] 26)).alloc (.cells #[.int .i64 (pt L (j + 1)).1, .int .i64 (pt L (j + 1)).2] 26)).drew).frozen? ⟨wr.heap.size, 1, none⟩ = false := by go_simp
                      have y3 : (((wr.alloc (.cells #[.int .i64 (pt L j).1, .int .i64 (pt L j).2] 26)).alloc (.cells #[.int .i64 (pt L (j + 1)).1, .int .i64 (pt L (j + 1)).2] 26)).drew).frozen? ⟨wr.heap.size + 1, 0, none⟩ = false := by go_simp
                      have y4 : (((wr.alloc (.cells #[.int .i64 (pt L j).1, .int .i64 (pt L j).2] 26)).alloc (.cells #[.int .i64 (pt L (j + 1)).1, .int .i64 (pt L (j + 1)).2] 26)).drew).frozen? ⟨wr.heap.size + 1, 1, none⟩ = false := by go_simp
                      have zz : wr.heap.size + 1 < (((wr.alloc (.cells #[.int .i64 (pt L j).1, .int .i64 (pt L j).2] 26)).alloc (.cells #[.int .i64 (pt L (j + 1)).1, .int .i64 (pt L (j + 1)).2] 26)).drew).heap.size := by simp
                      clear d1 d2 d3 d4
                      generalize (((wr.alloc (.cells #[.int .i64 (pt L j).1, .int .i64 (pt L j).2] 26)).alloc (.cells #[.int .i64 (pt L (j + 1)).1, .int .i64 (pt L (j + 1)).2] 26)).drew) = V at E3 p1 p2 p3 p4 y1 y2 y3 y4 zz ⊢
                      have x1 : wr.heap.size < V.heap.size := by omega
                      go_wp2_with fail
                      refine (order_any (pt L j) (pt L (j + 1)) _).mono ?_
                      rintro e W5 ⟨rfl, hE5⟩
                      have q1 := hE5.cell p1
                      have q2 := hE5.cell p2
                      have q3 := hE5.cell p3
                      have q4 := hE5.cell p4
                      have t1 := (hE5.frozen (p := ⟨wr.heap.size, 0, none⟩) (by show wr.heap.size < _; omega)).trans y1
                      have t2 := (hE5.frozen (p := ⟨wr.heap.size, 1, none⟩) (by show wr.heap.size < _; omega)).trans y2
                      have t3 := (hE5.frozen (p := ⟨wr.heap.size + 1, 0, none⟩) (by show wr.heap.size + 1 < _; omega)).trans y3
                      have t4 := (hE5.frozen (p := ⟨wr.heap.size + 1, 1, none⟩) (by show wr.heap.size + 1 < _; omega)).trans y4
                      have HS5 := Lib.hid (HS.out.ext (E3.trans hE5))
                      have EE := Lib.hid (E3.trans hE5)
                      clear p1 p2 p3 p4 y1 y2 y3 y4 E3 hE5
                      have HS6 : Hid (SetAt Try.prog 74 4 evPr ((((W5.setCell ⟨wr.heap.size, 0, none⟩ (.int .i64 (pt L (j + 1)).1)).setCell ⟨wr.heap.size, 1, none⟩ (.int .i64 (pt L (j + 1)).2)).setCell ⟨wr.heap.size + 1, 0, none⟩ (.int .i64 (pt L j).1)).setCell ⟨wr.heap.size + 1, 1, none⟩ (.int .i64 (pt L j).2)) mb (n0 + j) (pairK (ductK g hs k) L j)) := HS5.out.same (by rw [Below.heap_setCell _ _ _ _ (by show mb ≠ wr.heap.size + 1; omega), Below.heap_setCell _ _ _ _ (by show mb ≠ wr.heap.size + 1; omega), Below.heap_setCell _ _ _ _ (by show mb ≠ wr.heap.size; omega), Below.heap_setCell _ _ _ _ (by show mb ≠ wr.heap.size; omega)])
                      have EE6 : Hid (Below wr.heap.size wr ((((W5.setCell ⟨wr.heap.size, 0, none⟩ (.int .i64 (pt L (j + 1)).1)).setCell ⟨wr.heap.size, 1, none⟩ (.int .i64 (pt L (j + 1)).2)).setCell ⟨wr.heap.size + 1, 0, none⟩ (.int .i64 (pt L j).1)).setCell ⟨wr.heap.size + 1, 1, none⟩ (.int .i64 (pt L j).2))) := Below.setCell (p := ⟨wr.heap.size + 1, 1, none⟩) (Below.setCell (p := ⟨wr.heap.size + 1, 0, none⟩) (Below.setCell (p := ⟨wr.heap.size, 1, none⟩) (Below.setCell (p := ⟨wr.heap.size, 0, none⟩) EE.out (by show wr.heap.size ≤ wr.heap.size; omega) _) (by show wr.heap.size ≤ wr.heap.size; omega) _) (by show wr.heap.size ≤ wr.heap.size + 1; omega) _) (by show wr.heap.size ≤ wr.heap.size + 1; omega) _
                      obtain ⟨kl, hkl⟩ := keyPr (p := (pt L (j + 1), pt L j)) (wf_inG i2.out).1 (wf_inG i2.out).2 (wf_inG i1.out).1 (wf_inG i1.out).2
                      have HKL := Lib.hid hkl
                      clear hkl
                      go_wp2_with (at_mapUpdate; refine wpList_setAdd _ rfl _ _ _ 93 rfl 74 4 lawPr Try.underlying93 Try.underlying4 mb (n0 + j) (pairK (ductK g hs k) L j) rfl HS6.out ?hn evPr_inj (pt L (j + 1), pt L j) kl rfl rfl HKL.out ?hK)
                      case hn => unfold maxLen; omega
                      case hK =>
                        intro w6 hs6 hg6
                        have HS7 := Lib.hid hs6
                        have HG6 := Lib.hid hg6
                        clear hs6 hg6
                        go_wp2
                        refine ⟨⟨j + 1, by omega, by go_num, ?_, ?_, ?_⟩, by simp [Go.RowKit.intOf]; omega⟩
                        · have h9 := HS7.out
                          have hp : pairOf (pt L j) (pt L (j + 1)) = (pt L (j + 1), pt L j) := by unfold pairOf; rw [if_pos hgt]
                          show SetAt _ _ _ _ _ _ _ (insP _ _)
                          rw [hp]
                          unfold insP
                          unfold setIns at h9
                          rw [Nat.add_assoc] at h9
                          split at h9 <;> split <;> first | exact h9 | contradiction
                        · exact HCH.out.trans ⟨Nat.le_trans EE6.out.size HG6.out.size, fun b hb hn => (HG6.out.block b (Nat.lt_of_lt_of_le hb EE6.out.size) (fun e => hn (by cases e; rfl))).trans (EE6.out.block b hb)⟩
                        · exact (HBB.out.trans (EE6.out.mono (by omega))).grown HG6.out (Nat.le_trans (by omega) EE6.out.size) (fun j hj => by cases hj; exact Nat.le_refl _)
                    · have E3 : Ext wr (((wr.alloc (.cells #[.int .i64 (pt L (j + 1)).1, .int .i64 (pt L (j + 1)).2] 26)).alloc (.cells #[.int .i64 (pt L j).1, .int .i64 (pt L j).2] 26)).drew) := (((Ext.refl _).alloc _).alloc _).drew
                      have p1 : (((wr.alloc (.cells #[.int .i64 (pt L (j + 1)).1, .int .i64 (pt L (j + 1)).2] 26)).alloc (.cells #[.int .i64 (pt L j).1, .int .i64 (pt L j).2] 26)).drew).cell? ⟨wr.heap.size + 1, 0, none⟩ = some (.int .i64 (pt L j).1) := by go_simp
                      have p2 : (((wr.alloc (.cells #[.int .i64 (pt L (j + 1)).1, .int .i64 (pt L (j + 1)).2] 26)).alloc (.cells #[.int .i64 (pt L j).1, .int .i64 (pt L j).2] 26)).drew).cell? ⟨wr.heap.size + 1, 1, none⟩ = some (.int .i64 (pt L j).2) := by go_simp
                      have p3 : (((wr.alloc (.cells #[.int .i64 (pt L (j + 1)).1, .int .i64 (pt L (j + 1)).2] 26)).alloc (.cells #[.int .i64 (pt L j).1, .int .i64 (pt L j).2] 26)).drew).cell? ⟨wr.heap.size, 0, none⟩ = some (.int .i64 (pt L (j + 1)).1) := by go_simp
                      have p4 : (((wr.alloc (.cells #[.int .i64 (pt L (j + 1)).1, .int .i64 (pt L (j + 1)).2] 26)).alloc (.cells #[.int .i64 (pt L j).1, .int .i64 (pt L j).2] 26)).drew).cell? ⟨wr.heap.size, 1, none⟩ = some (.int .i64 (pt L (j + 1)).2) := by go_simp
                      have y1 : (((wr.alloc (.cells #[.int .i64 (pt L (j + 1)).1, .int .i64 (pt L (j + 1)).2] 26)).alloc (.cells #[.int .i64 (pt L j).1, .int .i64 (pt L j).2] 26)).drew).frozen? ⟨wr.heap.size + 1, 0, none⟩ = false := by go_simp
                      have y2 : (((wr.alloc (.cells #[.int .i64 (pt L (j + 1)).1, .int .i64 (pt L (j + 1)).2] 26)).alloc (.cells #[.int .i64 (pt L j).1, .int .i64 (pt L j).2] 26)).drew).frozen? ⟨wr.heap.size + 1, 1, none⟩ = false := by go_simp
                      have y3 : (((wr.alloc (.cells #[.int .i64 (pt L (j + 1)).1, .int .i64 (pt L (j + 1)).2] 26)).alloc (.cells #[.int .i64 (pt L j).1, .int .i64 (pt L j).2] 26)).drew).frozen? ⟨wr.heap.size, 0, none⟩ = false := by go_simp
                      have y4 : (((wr.alloc (.cells #[.int .i64 (pt L (j + 1)).1, .int .i64 (pt L (j + 1)).2] 26)).alloc (.cells #[.int .i64 (pt L j).1, .int .i64 (pt L j).2] 26)).drew).frozen? ⟨wr.heap.size, 1, none⟩ = false := by go_simp
                      have zz : wr.heap.size + 1 < (((wr.alloc (.cells #[.int .i64 (pt L (j + 1)).1, .int .i64 (pt L (j + 1)).2] 26)).alloc (.cells #[.int .i64 (pt L j).1, .int .i64 (pt L j).2] 26)).drew).heap.size := by simp
                      clear d1 d2 d3 d4
                      generalize (((wr.alloc (.cells #[.int .i64 (pt L (j + 1)).1, .int .i64 (pt L (j + 1)).2] 26)).alloc (.cells #[.int .i64 (pt L j).1, .int .i64 (pt L j).2] 26)).drew) = V at E3 p1 p2 p3 p4 y1 y2 y3 y4 zz ⊢
                      have x1 : wr.heap.size < V.heap.size := by omega
                      go_wp2_with fail
                      refine (order_any (pt L j) (pt L (j + 1)) _).mono ?_
                      rintro e W5 ⟨rfl, hE5⟩
                      have q1 := hE5.cell p1
                      have q2 := hE5.cell p2
                      have q3 := hE5.cell p3
                      have q4 := hE5.cell p4
                      have t1 := (hE5.frozen (p := ⟨wr.heap.size + 1, 0, none⟩) (by show wr.heap.size + 1 < _; omega)).trans y1
                      have t2 := (hE5.frozen (p := ⟨wr.heap.size + 1, 1, none⟩) (by show wr.heap.size + 1 < _; omega)).trans y2
                      have t3 := (hE5.frozen (p := ⟨wr.heap.size, 0, none⟩) (by show wr.heap.size < _; omega)).trans y3
                      have t4 := (hE5.frozen (p := ⟨wr.heap.size, 1, none⟩) (by show wr.heap.size < _; omega)).trans y4
                      have HS5 := Lib.hid (HS.out.ext (E3.trans hE5))
                      have EE := Lib.hid (E3.trans hE5)
                      clear p1 p2 p3 p4 y1 y2 y3 y4 E3 hE5
                      have HS6 : Hid (SetAt Try.prog 74 4 evPr ((((W5.setCell ⟨wr.heap.size + 1, 0, none⟩ (.int .i64 (pt L (j + 1)).1)).setCell ⟨wr.heap.size + 1, 1, none⟩ (.int .i64 (pt L (j + 1)).2)).setCell ⟨wr.heap.size, 0, none⟩ (.int .i64 (pt L j).1)).setCell ⟨wr.heap.size, 1, none⟩ (.int .i64 (pt L j).2)) mb (n0 + j) (pairK (ductK g hs k) L j)) := HS5.out.same (by rw [Below.heap_setCell _ _ _ _ (by show mb ≠ wr.heap.size; omega), Below.heap_setCell _ _ _ _ (by show mb ≠ wr.heap.size; omega), Below.heap_setCell _ _ _ _ (by show mb ≠ wr.heap.size + 1; omega), Below.heap_setCell _ _ _ _ (by show mb ≠ wr.heap.size + 1; omega)])
                      have EE6 : Hid (Below wr.heap.size wr ((((W5.setCell ⟨wr.heap.size + 1, 0, none⟩ (.int .i64 (pt L (j + 1)).1)).setCell ⟨wr.heap.size + 1, 1, none⟩ (.int .i64 (pt L (j + 1)).2)).setCell ⟨wr.heap.size, 0, none⟩ (.int .i64 (pt L j).1)).setCell ⟨wr.heap.size, 1, none⟩ (.int .i64 (pt L j).2))) := Below.setCell (p := ⟨wr.heap.size, 1, none⟩) (Below.setCell (p := ⟨wr.heap.size, 0, none⟩) (Below.setCell (p := ⟨wr.heap.size + 1, 1, none⟩) (Below.setCell (p := ⟨wr.heap.size + 1, 0, none⟩) EE.out (by show wr.heap.size ≤ wr.heap.size + 1; omega) _) (by show wr.heap.size ≤ wr.heap.size + 1; omega) _) (by show wr.heap.size ≤ wr.heap.size; omega) _) (by show wr.heap.size ≤ wr.heap.size; omega) _
                      obtain ⟨kl, hkl⟩ := keyPr (p := (pt L (j + 1), pt L j)) (wf_inG i2.out).1 (wf_inG i2.out).2 (wf_inG i1.out).1 (wf_inG i1.out).2
                      have HKL := Lib.hid hkl
                      clear hkl
                      go_wp2_with (at_mapUpdate; refine wpList_setAdd _ rfl _ _ _ 93 rfl 74 4 lawPr Try.underlying93 Try.underlying4 mb (n0 + j) (pairK (ductK g hs k) L j) rfl HS6.out ?hn evPr_inj (pt L (j + 1), pt L j) kl rfl rfl HKL.out ?hK)
                      case hn => unfold maxLen; omega
                      case hK =>
                        intro w6 hs6 hg6
                        have HS7 := Lib.hid hs6
                        have HG6 := Lib.hid hg6
                        clear hs6 hg6
                        go_wp2
                        refine ⟨⟨j + 1, by omega, by go_num, ?_, ?_, ?_⟩, by simp [Go.RowKit.intOf]; omega⟩
                        · have h9 := HS7.out
                          have hp : pairOf (pt L j) (pt L (j + 1)) = (pt L (j + 1), pt L j) := by unfold pairOf; rw [if_pos hgt]
                          show SetAt _ _ _ _ _ _ _ (insP _ _)
                          rw [hp]
                          unfold insP
                          unfold setIns at h9
                          rw [Nat.add_assoc] at h9
                          split at h9 <;> split <;> first | exact h9 | contradiction
                        · exact HCH.out.trans ⟨Nat.le_trans EE6.out.size HG6.out.size, fun b hb hn => (HG6.out.block b (Nat.lt_of_lt_of_le hb EE6.out.size) (fun e => hn (by cases e; rfl))).trans (EE6.out.block b hb)⟩
                        · exact (HBB.out.trans (EE6.out.mono (by omega))).grown HG6.out (Nat.le_trans (by omega) EE6.out.size) (fun j hj => by cases hj; exact Nat.le_refl _)
                  · have hgt : ¬ 0 < ordP (pt L j) (pt L (j + 1)) := by assumption
                    go_wp2_with fail
                    go_region
                    · have E3 : Ext wr (((wr.alloc (.cells #[.int .i64 (pt L j).1, .int .i64 (pt L j).2] 26)).alloc (.cells #[.int .i64 (pt L (j + 1)).1, .int .i64 (pt L (j + 1)).2] 26)).drew) := (((Ext.refl _).alloc _).alloc _).drew
                      have p1 : (((wr.alloc (.cells #[.int .i64 (pt L j).1, .int .i64 (pt L j).2] 26)).alloc (.cells #[.int .i64 (pt L (j + 1)).1, .int .i64 (pt L (j + 1)).2] 26)).drew).cell? ⟨wr.heap.size, 0, none⟩ = some (.int .i64 (pt L j).1) := by go_simp
                      have p2 : (((wr.alloc (.cells #[.int .i64 (pt L j).1, .int .i64 (pt L j).2] 26)).alloc (.cells #[.int .i64 (pt L (j + 1)).1, .int .i64 (pt L (j + 1)).2] 26)).drew).cell? ⟨wr.heap.size, 1, none⟩ = some (.int .i64 (pt L j).2) := by go_simp
                      have p3 : (((wr.alloc (.cells #[.int .i64 (pt L j).1, .int .i64 (pt L j).2] 26)).alloc (.cells #[.int .i64 (pt L (j + 1)).1, .int .i64 (pt L (j + 1)).2] 26)).drew).cell? ⟨wr.heap.size + 1, 0, none⟩ = some (.int .i64 (pt L (j + 1)).1) := by go_simp
                      have p4 : (((wr.alloc (.cells #[.int .i64 (pt L j).1, .int .i64 (pt L j).2] 26)).alloc (.cells #[.int .i64 (pt L (j + 1)).1, .int .i64 (pt L (j + 1)).2] 26)).drew).cell? ⟨wr.heap.size + 1, 1, none⟩ = some (.int .i64 (pt L (j + 1)).2) := by go_simp
                      have y1 : (((wr.alloc (.cells #[.int .i64 (pt L j).1, .int .i64 (pt L j).2] 26)).alloc (.cells #[.int .i64 (pt L (j + 1)).1, .int .i64 (pt L (j + 1)).2] 26)).drew).frozen? ⟨wr.heap.size, 0, none⟩ = false := by go_simp
                      have y2 : (((wr.alloc (.cells #[.int .i64 (pt L j).1, .int .i64 (pt L j).2] 26)).alloc (.cells #[.int .i64 (pt L (j + 1)).1, .int .i64 (pt L (j + 1)).2] 26)).drew).frozen? ⟨wr.heap.size, 1, none⟩ = false := by go_simp
                      have y3 : (((wr.alloc (.cells #[.int .i64 (pt L j).1, .int .i64 (pt L j).2] 26)).alloc (.cells #[.int .i64 (pt L (j + 1)).1, .int .i64 (pt L (j + 1)).2] 26)).drew).frozen? ⟨wr.heap.size + 1, 0, none⟩ = false := by go_simp
                      have y4 : (((wr.alloc (.cells #[.int .i64 (pt L j).1, .int .i64 (pt L j).2] 26)).alloc (.cells #[.int .i64 (pt L (j + 1)).1, .int .i64 (pt L (j + 1)).2] 26)).drew).frozen? ⟨wr.heap.size + 1, 1, none⟩ = false := by go_simp
                      have zz : wr.heap.size + 1 < (((wr.alloc (.cells #[.int .i64 (pt L j).1, .int .i64 (pt L j).2] 26)).alloc (.cells #[.int .i64 (pt L (j + 1)).1, .int .i64 (pt L (j + 1)).2] 26)).drew).heap.size := by simp
                      clear d1 d2 d3 d4
                      generalize (((wr.alloc (.cells #[.int .i64 (pt L j).1, .int .i64 (pt L j).2] 26)).alloc (.cells #[.int .i64 (pt L (j + 1)).1, .int .i64 (pt L (j + 1)).2] 26)).drew) = V at E3 p1 p2 p3 p4 y1 y2 y3 y4 zz ⊢
                      have x1 : wr.heap.size < V.heap.size := by omega
                      go_wp2_with fail
                      refine (order_any (pt L j) (pt L (j + 1)) _).mono ?_
                      rintro e W5 ⟨rfl, hE5⟩
                      have q1 := hE5.cell p1
                      have q2 := hE5.cell p2
                      have q3 := hE5.cell p3
                      have q4 := hE5.cell p4
                      have t1 := (hE5.frozen (p := ⟨wr.heap.size, 0, none⟩) (by show wr.heap.size < _; omega)).trans y1
                      have t2 := (hE5.frozen (p := ⟨wr.heap.size, 1, none⟩) (by show wr.heap.size < _; omega)).trans y2
                      have t3 := (hE5.frozen (p := ⟨wr.heap.size + 1, 0, none⟩) (by show wr.heap.size + 1 < _; omega)).trans y3
                      have t4 := (hE5.frozen (p := ⟨wr.heap.size + 1, 1, none⟩) (by show wr.heap.size + 1 < _; omega)).trans y4
                      have HS5 := Lib.hid (HS.out.ext (E3.trans hE5))
                      have EE := Lib.hid (E3.trans hE5)
                      clear p1 p2 p3 p4 y1 y2 y3 y4 E3 hE5
                      have HS6 := HS5
                      have EE6 : Hid (Below wr.heap.size wr W5) := EE.out
                      obtain ⟨kl, hkl⟩ := keyPr (p := (pt L j, pt L (j + 1))) (wf_inG i1.out).1 (wf_inG i1.out).2 (wf_inG i2.out).1 (wf_inG i2.out).2
                      have HKL := Lib.hid hkl
                      clear hkl
                      go_wp2_with (at_mapUpdate; refine wpList_setAdd _ rfl _ _ _ 93 rfl 74 4 lawPr Try.underlying93 Try.underlying4 mb (n0 + j) (pairK (ductK g hs k) L j) rfl HS6.out ?hn evPr_inj (pt L j, pt L (j + 1)) kl rfl rfl HKL.out ?hK)
                      case hn => unfold maxLen; omega
                      case hK =>
                        intro w6 hs6 hg6
                        have HS7 := Lib.hid hs6
                        have HG6 := Lib.hid hg6
                        clear hs6 hg6
                        go_wp2
                        refine ⟨⟨j + 1, by omega, by go_num, ?_, ?_, ?_⟩, by simp [Go.RowKit.intOf]; omega⟩
                        · have h9 := HS7.out
                          have hp : pairOf (pt L j) (pt L (j + 1)) = (pt L j, pt L (j + 1)) := by unfold pairOf; rw [if_neg (by omega)]
                          show SetAt _ _ _ _ _ _ _ (insP _ _)
                          rw [hp]
                          unfold insP
                          unfold setIns at h9
                          rw [Nat.add_assoc] at h9
                          split at h9 <;> split <;> first | exact h9 | contradiction
                        · exact HCH.out.trans ⟨Nat.le_trans EE6.out.size HG6.out.size, fun b hb hn => (HG6.out.block b (Nat.lt_of_lt_of_le hb EE6.out.size) (fun e => hn (by cases e; rfl))).trans (EE6.out.block b hb)⟩
                        · exact (HBB.out.trans (EE6.out.mono (by omega))).grown HG6.out (Nat.le_trans (by omega) EE6.out.size) (fun j hj => by cases hj; exact Nat.le_refl _)
                    · have E3 : Ext wr (((wr.alloc (.cells #[.int .i64 (pt L (j + 1)).1, .int .i64 (pt L (j + 1)).2] 26)).alloc (.cells #[.int .i64 (pt L j).1, .int .i64 (pt L j).2] 26)).drew) := (((Ext.refl _).alloc _).alloc _).drew
                      have p1 : (((wr.alloc (.cells #[.int .i64 (pt L (j + 1)).1, .int .i64 (pt L (j + 1)).2] 26)).alloc (.cells #[.int .i64 (pt L j).1, .int .i64 (pt L j).2] 26)).drew).cell? ⟨wr.heap.size + 1, 0, none⟩ = some (.int .i64 (pt L j).1) := by go_simp
                      have p2 : (((wr.alloc (.cells #[.int .i64 (pt L (j + 1)).1, .int .i64 (pt L (j + 1)).2] 26)).alloc (.cells #[.int .i64 (pt L j).1, .int .i64 (pt L j).2] 26)).drew).cell? ⟨wr.heap.size + 1, 1, none⟩ = some (.int .i64 (pt L j).2) := by go_simp
                      have p3 : (((wr.alloc (.cells #[.int .i64 (pt L (j + 1)).1, .int .i64 (pt L (j + 1)).2] 26)).alloc (.cells #[.int .i64 (pt L j).1, .int .i64 (pt L j).2] 26)).drew).cell? ⟨wr.heap.size, 0, none⟩ = some (.int .i64 (pt L (j + 1)).1) := by go_simp
                      have p4 : (((wr.alloc (.cells #[.int .i64 (pt L (j + 1)).1, .int .i64 (pt L (j + 1)).2] 26)).alloc (.cells #[.int .i64 (pt L j).1, .int .i64 (pt L j).2] 26)).drew).cell? ⟨wr.heap.size, 1, none⟩ = some (.int .i64 (pt L (j + 1)).2) := by go_simp
                      have y1 : (((wr.alloc (.cells #[.int .i64 (pt L (j + 1)).1, .int .i64 (pt L (j + 1)).2] 26)).alloc (.cells #[.int .i64 (pt L j).1, .int .i64 (pt L j).2] 26)).drew).frozen? ⟨wr.heap.size + 1, 0, none⟩ = false := by go_simp
                      have y2 : (((wr.alloc (.cells #[.int .i64 (pt L (j + 1)).1, .int .i64 (pt L (j + 1)).2] 26)).alloc (.cells #[.int .i64 (pt L j).1, .int .i64 (pt L j).2] 26)).drew).frozen? ⟨wr.heap.size + 1, 1, none⟩ = false := by go_simp
                      have y3 : (((wr.alloc (.cells #[.int .i64 (pt L (j + 1)).1, .int .i64 (pt L (j + 1)).2] 26)).alloc (.cells #[.int .i64 (pt L j).1, .int .i64 (pt L j).2] 26)).drew).frozen? ⟨wr.heap.size, 0, none⟩ = false := by go_simp
                      have y4 : (((wr.alloc (.cells #[.int .i64 (pt L (j + 1)).1, .int .i64 (pt L (j + 1)).2] 26)).alloc (.cells #[.int .i64 (pt L j).1, .int .i64 (pt L j).2] 26)).drew).frozen? ⟨wr.heap.size, 1, none⟩ = false := by go_simp
                      have zz : wr.heap.size + 1 < (((wr.alloc (.cells #[.int .i64 (pt L (j + 1)).1, .int .i64 (pt L (j + 1)).2] 26)).alloc (.cells #[.int .i64 (pt L j).1, .int .i64 (pt L j).2] 26)).drew).heap.size := by simp
                      clear d1 d2 d3 d4
                      generalize (((wr.alloc (.cells #[.int .i64 (pt L (j + 1)).1, .int .i64 (pt L (j + 1)).2] 26)).alloc (.cells #[.int .i64 (pt L j).1, .int .i64 (pt L j).2] 26)).drew) = V at E3 p1 p2 p3 p4 y1 y2 y3 y4 zz ⊢
                      have x1 : wr.heap.size < V.heap.size := by omega
                      go_wp2_with fail
                      refine (order_any (pt L j) (pt L (j + 1)) _).mono ?_
                      rintro e W5 ⟨rfl, hE5⟩
                      have q1 := hE5.cell p1
                      have q2 := hE5.cell p2
                      have q3 := hE5.cell p3
                      have q4 := hE5.cell p4
                      have t1 := (hE5.frozen (p := ⟨wr.heap.size + 1, 0, none⟩) (by show wr.heap.size + 1 < _; omega)).trans y1
                      have t2 := (hE5.frozen (p := ⟨wr.heap.size + 1, 1, none⟩) (by show wr.heap.size + 1 < _; omega)).trans y2
                      have t3 := (hE5.frozen (p := ⟨wr.heap.size, 0, none⟩) (by show wr.heap.size < _; omega)).trans y3
                      have t4 := (hE5.frozen (p := ⟨wr.heap.size, 1, none⟩) (by show wr.heap.size < _; omega)).trans y4
                      have HS5 := Lib.hid (HS.out.ext (E3.trans hE5))
                      have EE := Lib.hid (E3.trans hE5)
                      clear p1 p2 p3 p4 y1 y2 y3 y4 E3 hE5
                      have HS6 := HS5
                      have EE6 : Hid (Below wr.heap.size wr W5) := EE.out
                      obtain ⟨kl, hkl⟩ := keyPr (p := (pt L j, pt L (j + 1))) (wf_inG i1.out).1 (wf_inG i1.out).2 (wf_inG i2.out).1 (wf_inG i2.out).2
                      have HKL := Lib.hid hkl
                      clear hkl
                      go_wp2_with (at_mapUpdate; refine wpList_setAdd _ rfl _ _ _ 93 rfl 74 4 lawPr Try.underlying93 Try.underlying4 mb (n0 + j) (pairK (ductK g hs k) L j) rfl HS6.out ?hn evPr_inj (pt L j, pt L (j + 1)) kl rfl rfl HKL.out ?hK)
                      case hn => unfold maxLen; omega
                      case hK =>
                        intro w6 hs6 hg6
                        have HS7 := Lib.hid hs6
                        have HG6 := Lib.hid hg6
                        clear hs6 hg6
                        go_wp2
                        refine ⟨⟨j + 1, by omega, by go_num, ?_, ?_, ?_⟩, by simp [Go.RowKit.intOf]; omega⟩
                        · have h9 := HS7.out
                          have hp : pairOf (pt L j) (pt L (j + 1)) = (pt L j, pt L (j + 1)) := by unfold pairOf; rw [if_neg (by omega)]
                          show SetAt _ _ _ _ _ _ _ (insP _ _)
                          rw [hp]
                          unfold insP
                          unfold setIns at h9
                          rw [Nat.add_assoc] at h9
                          split at h9 <;> split <;> first | exact h9 | contradiction
                        · exact HCH.out.trans ⟨Nat.le_trans EE6.out.size HG6.out.size, fun b hb hn => (HG6.out.block b (Nat.lt_of_lt_of_le hb EE6.out.size) (fun e => hn (by cases e; rfl))).trans (EE6.out.block b hb)⟩
                        · exact (HBB.out.trans (EE6.out.mono (by omega))).grown HG6.out (Nat.le_trans (by omega) EE6.out.size) (fun j hj => by cases hj; exact Nat.le_refl _)
                · have hjl' : ¬ (j : Int) + 1 < (L.length : Int) := by omega
                  have nmb : ∀ b cur e fr, W3.heap[b]? = some (.cells cur e fr) → b ≠ mb := fun b cur e fr h0 h1 => by
                    obtain ⟨es, cl, h8⟩ := HS0.out.at
                    rw [h1, h8] at h0; cases h0
                  have KK : Kept (fun k => k ≠ mb) 0 W3 wr := HCH.out.kept (fun k hk _ => hk)
                  have HOr : Hid (Owns wr (.slice la L.length lc) L) := HO3.out.kept KK (fun b hb => by
                    obtain ⟨c1, f1, e1⟩ := ownsRow_at HO3.out hb
                    exact nmb _ _ _ _ e1)
                  have HRr : Hid (RowsO wr (.slice av k cv) (ways g hs k)) := HD3.out.own.kept KK (fun b hb => by
                    obtain ⟨c1, f1, e1⟩ := HD3.out.own.at hb
                    exact nmb _ _ _ _ e1) (fun b cur fr h => nmb _ _ _ _ h)
                  have zm2 : mb < wr.heap.size := HS.out.lt
                  have zr3 : W3.heap.size ≤ wr.heap.size := HCH.out.1
                  clear KK nmb
                  have X1 : Ext wr (wr.alloc (.cells #[.slice la L.length lc] 22)) := (Ext.refl _).alloc _
                  obtain ⟨vs, h1, h2, h3⟩ := HRr.out.ext X1
                  rw [ways_len] at h1
                  have H1 := Lib.hid h1
                  have H2 := Lib.hid h2
                  have H3 := Lib.hid h3
                  have HX1 := Lib.hid X1
                  clear h1 h2 h3 X1
                  obtain ⟨i0, hi, hi0, hi1, hi2⟩ := info_parts infoRow
                  go_wp2_with (at_builtin; refine wpList_append1 _ rfl _ _ 39 rfl 22 i0 (.slice none 0 0) 1 24 Try.underlying39 hi hi0 hi1 hi2 rfl (by decide) (.slice av k cv) _ _ rfl H1.out ⟨wr.heap.size, 0, none⟩ 1 1 (by decide) [.slice la L.length lc] rfl rfl (cell_one_int _ _ _) ?c1 ?c2 ?c3 ?c4)
                  case c1 => first | (intro u hu; simp at hu; subst hu; rfl) | rfl | simp
                  case c2 => unfold maxLen; omega
                  case c3 => omega
                  case c4 =>
                    intro v' w5 hown5 hend5
                    have hlk : (ways g hs k).length = k := ways_len g hs k
                    have RO := rows_app (by rw [hlk]; exact H1.out) H2.out H3.out (HOr.out.ext HX1.out) hend5 (by rw [hlk]; exact hown5)
                    have hw1 : ways g hs k ++ [L] = ways g hs (k + 1) := by rw [HLEQ.out]; show _ = ways g hs k ++ [way g (ph hs k).1 (ph hs k).2]; rw [HX.out]
                    rw [hw1] at RO
                    obtain ⟨av', cv', hsh⟩ := RO.shape
                    rw [ways_len] at hsh
                    subst hsh
                    have HRO := Lib.hid RO
                    have HEND := Lib.hid hend5
                    have CA := Lib.hid (Chg.app hend5 (B := fun b => (Value.slice av k cv).ownBlock = some b) (fun b hb => hb))
                    clear hown5 hend5 hlk hw1 RO
                    go_wp2
                    refine ⟨⟨k + 1, av', cv', by omega, by go_num, rfl, HOK.out, ?_⟩, by simp [Go.RowKit.intOf]; omega⟩
                    have nvb : ∀ b, (Value.slice av k cv).ownBlock = some b → W0.heap.size ≤ b := HD3.out.vb
                    exact {
                      se := by
                        refine ⟨n0 + j, ?_, ?_⟩
                        · rw [Nat.add_mul]; omega
                        · have hdk : ductK g hs (k + 1) = pairK (ductK g hs k) L j := by
                            show pairsIn _ _ = _
                            rw [HX.out, ← HLEQ.out]
                            unfold pairsIn
                            rw [show L.length - 1 = j by omega]
                          rw [hdk]
                          exact (HS.out.ext HX1.out).same (CA.out.2 mb (Nat.lt_of_lt_of_le zm2 HX1.out.size) (fun e => by have := nvb mb e; omega))
                      be := ((HD3.out.be.trans HBB.out).trans (HX1.out.mono (by omega))).trans (HEND.out.below (by have := HX1.out.size; omega) (fun b hb => by have := nvb b hb; omega))
                      own := HRO.out
                      vb := fun b hb => by
                        rcases HEND.out with ⟨h1, _, _⟩ | ⟨h1, _⟩
                        · rw [h1] at hb; exact nvb b hb
                        · rw [h1] at hb
                          have hb' : b = (wr.alloc (.cells #[.slice la L.length lc] 22)).heap.size := by cases hb; rfl
                          simp at hb'
                          omega }
          · have HBAD : Hid (ductE g hs = cellsErr g [x.1, x.2]) := by
              show _ = _
              have h9 : hoseErr g x = cellsErr g [x.1, x.2] := by unfold hoseErr; rw [if_pos hce]
              rw [hE.out, hn.out, show hs.length - k = (hs.length - (k + 1)) + 1 by omega, hosesErr_stop (by rw [HX.out, h9]; exact hce), HX.out, h9]
            have HNE := Lib.hid hce
            have hb : (cellsErr g [x.1, x.2] != 0) = true := by simp [hce]
            have hb2 : (cellsErr g [x.1, x.2] == 0) = false := by simp [hce]
            clear hce
            go_wp2
            go_ret3
            exact DuctsPost.bad HBAD.out HNE.out HE2.out
        · have hk2 : k = hs.length := by omega
          have hlt' : ¬ (k : Int) < (hs.length : Int) := by omega
          obtain ⟨n, hn1, hS1⟩ := hd.out.se
          have HS1 := Lib.hid hS1
          clear hS1
          go_wp2_with (at_len; refine wpList_setLen _ rfl _ 93 rfl 74 4 Try.underlying93 mb _ (ductK g hs k) rfl HS1.out ?_)
          go_wp2
          go_ret3
          subst hk2
          obtain ⟨a', c', hv', hrr⟩ := hd.out.own.reads
          rw [ways_len] at hv'
          have hz : ductE g hs = 0 := by rw [hE.out, hn.out, Nat.sub_self]; rfl
          have hL1 : ductL g hs = ways g hs hs.length := by unfold ductL; rw [if_neg (by simp [hz])]
          have hN1 : ductN g hs = ((ductK g hs hs.length).length : Int) := by unfold ductN; rw [if_neg (by simp [hz])]
          refine ⟨a', c', ?_, by rw [hL1]; exact hrr, Below.trans EW (hd.out.be.mono (by omega))⟩
          show Ending.returned (.tuple #[.slice av hs.length cv, .int .i64 ((ductK g hs hs.length).length : Int), .int .i64 0]) = _
          rw [hL1, hN1, hz, ways_len, ← hv']
  · have hE : Hid (ductE g hs = chk g) := by show _ = _; unfold ductE; rw [if_pos h0]
    have hb : (chk g != 0) = true := by simp [h0]
    have hb2 : (chk g == 0) = false := by simp [h0]
    have H0 := Lib.hid h0
    clear h0
    go_wp2
    go_ret3
    exact DuctsPost.bad hE.out H0.out E1
end Go.Proofs.Ytfigooilhnahfaa
