/- Steps of the proof: Ducts, StockA, BuyS, Buy, Useful, BuyW. No conditions. -/
import Derived.Laws.IdiomCopy
import Derived.OwnWalk
import Derived.Test.YtechakkdcllgoaaZRows1
import Derived.Test.YtechakkdcllgoaaZRows2
import Derived.Test.YtechakkdcllgoaaZRows3
/- Ducts. -/
namespace Go.Proofs.Ytechakkdcllgoaa
open Go.RowKit Go.Maps

def setIns {α : Type} [DecidableEq α] (S : List α) (a : α) : List α := if a ∈ S then S else a :: S
theorem wpList_setAdd {α : Type} [DecidableEq α] {P : Program} {ev : α → Value} (w : World) {ops : Array Oper} {rest : List Oper} {o : Oper} {a : Act} {Q : Exit → Act → World → Prop}
    (hg : o.guard = none) (m x v : Operand) (t : TypeId) (hop : o.op = Op.mapUpdate t m x v) (k e : TypeId) (K : Keyed P k) (ht : P.underlying t = some (.map k e)) (he : P.underlying e = some .bool) (b n : Nat) (S : List α)
    (hm : a.eval m = .map (some b)) (hs : SetAt P k e ev w b n S) (hn : n < maxLen) (hinj : ∀ x y, ev x = ev y → x = y) (y : α) (kl : Lit) (hx : a.eval x = ev y) (hv : a.eval v = .bool true) (hkey : keyOf P k (ev y) = some kl)
    (hK : ∀ w', SetAt P k e ev w' b (n + 1) (setIns S y) → w.grownBy w' (some b) → wpList P ops Q rest (a.put o.dst undef) w') :
    wpList P ops Q (o :: rest) a w := by
  refine wpList_plain hg fun K' hK' => ?_
  obtain ⟨w', hrun, r1, r2⟩ := hs.update K ht he hn hinj hkey
  unfold Oper.wp
  simp [execOp, hop, hm, hx, hv, hrun, Result.andThen]
  exact hK' _ _ (hK w' r1 r2)

theorem SetAt.len {α : Type} [DecidableEq α] {P : Program} {k e : TypeId} {ev : α → Value} {w : World} {b n : Nat} {S : List α} (h : SetAt P k e ev w b n S) {t e' : TypeId} (ht : P.underlying t = some (.map k e')) (ty : TypeId) : (Builtin.len_ #[t] ty #[.map (some b)]).run P w = .ok (.int .i64 S.length) w := by
  obtain ⟨D, h1, _, h3, _⟩ := h
  rw [← h3]
  exact h1.len ht ty
theorem wpList_setLen {α : Type} [DecidableEq α] {P : Program} {ev : α → Value} (w : World) {ops : Array Oper} {rest : List Oper} {o : Oper} {a : Act} {Q : Exit → Act → World → Prop}
    (hg : o.guard = none) (m : Operand) (t : TypeId) (hop : o.op = Op.call { callee := Callee.builtin Builtin.len, args := #[m], argTypes := #[t] }) (k e : TypeId) (ht : P.underlying t = some (.map k e)) (b n : Nat) (S : List α)
    (hm : a.eval m = .map (some b)) (hs : SetAt P k e ev w b n S) (hK : wpList P ops Q rest (a.put o.dst (.int .i64 S.length)) w) :
    wpList P ops Q (o :: rest) a w := by
  refine wpList_plain hg fun K' hK' => ?_
  unfold Oper.wp
  simp [execOp, hop, resolve, invoke, builtin, hm, hs.len ht o.type, Result.andThen]
  exact hK' _ _ hK

theorem hosesErr_step {g : Gr} {hs : List Hose} {n k : Nat} (h : hoseErr g (ph hs k) = 0) : hosesErr g hs (n + 1) k = hosesErr g hs n (k + 1) := by
  conv => lhs; unfold hosesErr
  rw [if_neg (by simp [h])]
theorem hosesErr_stop {g : Gr} {hs : List Hose} {n k : Nat} (h : hoseErr g (ph hs k) ≠ 0) : hosesErr g hs (n + 1) k = hoseErr g (ph hs k) := by
  conv => lhs; unfold hosesErr
  rw [if_pos h]
theorem opn_of_cells {g : Gr} {p q : Pt} (h : cellsErr g [p, q] = 0) : opn g p = true ∧ opn g q = true := ⟨cells_ok h p (by simp), cells_ok h q (by simp)⟩

structure DkL (g : Gr) (hs : List Hose) (W0 : World) (mb k : Nat) (v : Value) (w : World) : Prop where
  se : ∃ n, n ≤ k * 4097 ∧ SetAt Try.prog 36 4 evPr w mb n (ductK g hs k)
  be : Below mb W0 w
  own : RowsO w v (ways g hs k)
  vb : ∀ b, v.ownBlock = some b → W0.heap.size ≤ b
theorem DkL.ext {g : Gr} {hs : List Hose} {W0 : World} {mb k : Nat} {v : Value} {A B : World} (h : DkL g hs W0 mb k v A) (x : Ext A B) : DkL g hs W0 mb k v B := by
  obtain ⟨n, h1, h2⟩ := h.se
  exact ⟨⟨n, h1, h2.ext x⟩, h.be.trans (x.mono (Nat.le_of_lt h2.lt)), h.own.ext x, h.vb⟩

def DuctsPost (g : Gr) (hs : List Hose) (w : World) (e : Ending) (w' : World) : Prop :=
  ∃ a cap, e = .returned (.tuple #[.slice a (ductL g hs).length cap, .int .i64 (ductN g hs), .int .i64 (ductE g hs)]) ∧ RowsR w' a (ductL g hs) ∧ Ext w w'
theorem DuctsPost.bad {g : Gr} {hs : List Hose} {w w' : World} {e : Int} (he : ductE g hs = e) (hne : e ≠ 0) (hx : Ext w w') : DuctsPost g hs w (.returned (.tuple #[.slice none 0 0, .int .i64 0, .int .i64 e])) w' := by
  subst he
  unfold DuctsPost ductL ductN
  rw [if_pos hne, if_pos hne]
  exact ⟨none, 0, rfl, RowsR.nil _ _, hx⟩

set_option maxHeartbeats 4000000 in
set_option maxRecDepth 100000 in
theorem Ducts_any (g : Gr) (hs : List Hose) (ga : Option Addr) (gc : Nat) (ha : Option Addr) (hcap : Nat) (w : World) (hg : g.bl.length ≤ maxLen) (hc : Cells2 w ga g.bl) (hl : hs.length ≤ maxLen) (hch : Cells4 w ha hs) (_hwf : ∀ i, i < hs.length → True) :
    Calls Try.prog 6 #[.agg #[.int .i64 g.rows, .int .i64 g.cols, .slice ga g.bl.length gc], .slice ha hs.length hcap] w fun e w' => DuctsPost g hs w e w' := by
  have HC : Hid (Cells2 w ga g.bl) := hc
  have HH : Hid (Cells4 w ha hs) := hch
  have HG := Lib.hid hg
  clear hc hg hch _hwf
  have E0 : Ext w (((w).alloc (.cells #[.int .i64 g.rows, .int .i64 g.cols, .slice ga g.bl.length gc] 25))) := (Ext.refl _).alloc _
  have a1 : (((w).alloc (.cells #[.int .i64 g.rows, .int .i64 g.cols, .slice ga g.bl.length gc] 25))).cell? ⟨w.heap.size, 0, none⟩ = some (.int .i64 g.rows) := by go_simp
  have a2 : (((w).alloc (.cells #[.int .i64 g.rows, .int .i64 g.cols, .slice ga g.bl.length gc] 25))).cell? ⟨w.heap.size, 1, none⟩ = some (.int .i64 g.cols) := by go_simp
  have a3 : (((w).alloc (.cells #[.int .i64 g.rows, .int .i64 g.cols, .slice ga g.bl.length gc] 25))).cell? ⟨w.heap.size, 2, none⟩ = some (.slice ga g.bl.length gc) := by go_simp
  have hmm := @run_makeMap Try.prog
  have hl' : hs.length ≤ 9223372036854775807 := hl
  clear hl
  go_enter Try.func6, Try.ntmps6
  go_wp2_with fail
  refine (Check_any g ga gc _ HG.out (HC.out.ext E0)).mono ?_
  rintro e w1 ⟨rfl, hE⟩
  have b1 := hE.cell a1
  have b2 := hE.cell a2
  have b3 := hE.cell a3
  have E1 : Ext w w1 := E0.trans hE
  have z1 : w.heap.size < w1.heap.size := cell_lt b1
  clear hE E0 a1 a2 a3
  by_cases h0 : chk g = 0
  · have HR := Lib.hid (right_of_chk h0)
    have H0 := Lib.hid h0
    rw [h0]
    clear h0
    by_cases hlen : 256 < hs.length
    · have hE : Hid (ductE g hs = 5) := by show _ = _; unfold ductE; rw [if_neg (by simp [H0.out]), if_pos hlen]
      have hlen' : (256 : Int) < (hs.length : Int) := by omega
      go_wp2
      go_ret3
      exact DuctsPost.bad hE.out (by decide) E1
    · have hE : Hid (ductE g hs = hosesErr g hs hs.length 0) := by show _ = _; unfold ductE; rw [if_neg (by simp [H0.out]), if_neg hlen]
      have hlen' : ¬ (256 : Int) < (hs.length : Int) := by omega
      go_wp2_with fail
      have E3 : Ext w1 (w1.alloc (.map #[] 0)) := (Ext.refl _).alloc _
      obtain ⟨mb, hmb⟩ : ∃ mb, mb = w1.heap.size := ⟨_, rfl⟩
      have M1 : Hid (SetAt Try.prog 36 4 evPr (w1.alloc (.map #[] 0)) w1.heap.size 0 []) := SetAt.made _ _ _ _ _
      have zW : (w1.alloc (.map #[] 0)).heap.size = w1.heap.size + 1 := by simp
      have c1 := E3.cell b1
      have c2 := E3.cell b2
      have c3 := E3.cell b3
      have EW := E1.trans E3
      rw [← hmb] at M1 zW ⊢
      have zn : w.heap.size < mb := by omega
      have HBL : Hid (g.bl ≠ [] → ∀ b off, ga = some ⟨b, off, none⟩ → b < mb) := fun hne b off hb => by
        have h1 := HC.out.lt hne hb
        have h2 := E1.size
        omega
      have HBH : Hid (hs ≠ [] → ∀ b off, ha = some ⟨b, off, none⟩ → b < mb) := fun hne b off hb => by
        have h1 := HH.out.lt hne hb
        have h2 := E1.size
        omega
      clear hmb E3 E1 b1 b2 b3 z1 hmm
      generalize (w1.alloc (.map #[] 0)) = W0 at M1 zW c1 c2 c3 EW ⊢
      have HCW := Lib.hid (HC.out.ext EW)
      have HHW := Lib.hid (HH.out.ext EW)
      go_loopw [8, 29] (fun v i wr => ∃ (k : Nat) (av : Option Addr) (cv : Nat), k ≤ hs.length ∧ i = .int .i64 k ∧ v = .slice av k cv ∧ Hid (hosesErr g hs hs.length 0 = hosesErr g hs (hs.length - k) k) ∧ Hid (DkL g hs W0 mb k (.slice av k cv) wr)) (fun _ i _ => hs.length - (Go.RowKit.intOf i).toNat)
      case atStart => exact ⟨0, none, 0, Nat.zero_le _, rfl, rfl, rfl, ⟨⟨0, by omega, M1.out⟩, Below.refl _ _, RowsO.nil _, fun b hb => by cases hb⟩⟩
      case round =>
        obtain ⟨k, av, cv, hk, rfl, rfl, hn, hd⟩ := hrel
        have g1 : wr.cell? ⟨w.heap.size, 0, none⟩ = some (.int .i64 g.rows) := (hd.out.be.cell (p := ⟨w.heap.size, 0, none⟩) zn).trans c1
        have g2 : wr.cell? ⟨w.heap.size, 1, none⟩ = some (.int .i64 g.cols) := (hd.out.be.cell (p := ⟨w.heap.size, 1, none⟩) zn).trans c2
        have g3 : wr.cell? ⟨w.heap.size, 2, none⟩ = some (.slice ga g.bl.length gc) := (hd.out.be.cell (p := ⟨w.heap.size, 2, none⟩) zn).trans c3
        have HCr : Hid (Cells2 wr ga g.bl) := HCW.out.below hd.out.be HBL.out
        by_cases hlt : k < hs.length
        · have hlt' : (k : Int) < (hs.length : Int) := by omega
          obtain ⟨hb, hoff, rfl, e1, e2, e3, e4⟩ := (HHW.out.below hd.out.be HBH.out) k hlt
          generalize hx : ph hs k = x at e1 e2 e3 e4
          have HX := Lib.hid hx
          clear hx
          have zh := cell_lt e1
          dsimp only at zh
          have zmb : mb < wr.heap.size := by obtain ⟨_, _, h⟩ := hd.out.se; exact h.lt
          have zn2 : w.heap.size < wr.heap.size := by omega
          go_wp2_with fail
          have V0 : Ext wr (wr.alloc (.cells #[.int .i64 x.1.1, .int .i64 x.1.2, .int .i64 x.2.1, .int .i64 x.2.2] 36)) := (Ext.refl _).alloc _
          have p1 : (wr.alloc (.cells #[.int .i64 x.1.1, .int .i64 x.1.2, .int .i64 x.2.1, .int .i64 x.2.2] 36)).cell? ⟨wr.heap.size, 0, none⟩ = some (.int .i64 x.1.1) := by go_simp
          have p2 : (wr.alloc (.cells #[.int .i64 x.1.1, .int .i64 x.1.2, .int .i64 x.2.1, .int .i64 x.2.2] 36)).cell? ⟨wr.heap.size, 1, none⟩ = some (.int .i64 x.1.2) := by go_simp
          have p3 : (wr.alloc (.cells #[.int .i64 x.1.1, .int .i64 x.1.2, .int .i64 x.2.1, .int .i64 x.2.2] 36)).cell? ⟨wr.heap.size, 2, none⟩ = some (.int .i64 x.2.1) := by go_simp
          have p4 : (wr.alloc (.cells #[.int .i64 x.1.1, .int .i64 x.1.2, .int .i64 x.2.1, .int .i64 x.2.2] 36)).cell? ⟨wr.heap.size, 3, none⟩ = some (.int .i64 x.2.2) := by go_simp
          have g1 := V0.cell g1
          have g2 := V0.cell g2
          have g3 := V0.cell g3
          have HD1 := Lib.hid (hd.out.ext V0)
          have HC1 := Lib.hid (HCr.out.ext V0)
          have zp : wr.heap.size < (wr.alloc (.cells #[.int .i64 x.1.1, .int .i64 x.1.2, .int .i64 x.2.1, .int .i64 x.2.2] 36)).heap.size := by simp
          have HE1 : Hid (Ext w (wr.alloc (.cells #[.int .i64 x.1.1, .int .i64 x.1.2, .int .i64 x.2.1, .int .i64 x.2.2] 36))) := (Below.trans EW (hd.out.be.mono (by omega))).alloc (by omega) _
          clear hd HCr e1 e2 e3 e4 V0
          generalize (wr.alloc (.cells #[.int .i64 x.1.1, .int .i64 x.1.2, .int .i64 x.2.1, .int .i64 x.2.2] 36)) = W1 at p1 p2 p3 p4 g1 g2 g3 HD1 HC1 HE1 zp ⊢
          have zg := cell_lt g1
          dsimp only at zg
          go_region_held3 (fun w' => Sees W1 w') ((repeat (first | exact Sees.refl _ | assumption | apply Sees.drew | apply Sees.alloc | (refine Sees.ext ?_ (by assumption))))) (first | (go_at_call 12; refine (cells_any g [x.1, x.2] ga gc _ _ _ HR.out (HC1.out.ext (by exact (show Sees W1 _ by assumption).2.2)) (by simp [maxLen]) ((cells2_two p1 p2 p3 p4).ext (by exact (show Sees W1 _ by assumption).2.2))).mono ?_; rintro e w' ⟨rfl, hE2⟩))
          have hS := (show Sees W1 _ by assumption).2.2
          have p1 := hS.cell p1
          have p2 := hS.cell p2
          have p3 := hS.cell p3
          have p4 := hS.cell p4
          have g1 := hS.cell g1
          have g2 := hS.cell g2
          have g3 := hS.cell g3
          have HD2 := Lib.hid (HD1.out.ext hS)
          have HC2 := Lib.hid (HC1.out.ext hS)
          have HE2 := Lib.hid (HE1.out.trans hS)
          have hz2 : W1.heap.size ≤ w'.heap.size := hS.size
          clear HD1 HC1 HE1 hS
          generalize w' = W2 at p1 p2 p3 p4 g1 g2 g3 HD2 HC2 HE2 hz2 ⊢
          have zp2 : wr.heap.size < W2.heap.size := by omega
          have zn3 : w.heap.size < W2.heap.size := by omega
          by_cases hce : cellsErr g [x.1, x.2] = 0
          · obtain ⟨ho1, ho2⟩ := opn_of_cells hce
            have HO1 := Lib.hid ho1
            have HO2 := Lib.hid ho2
            have HCE := Lib.hid hce
            rw [hce]
            clear hce ho1 ho2
            go_wp2_with fail
            refine (route_any g x.1 x.2 ga gc _ HR.out HO1.out HO2.out HC2.out).mono ?_
            rintro e W3 ⟨lv, rfl, hO, hE3⟩
            by_cases hneg : dst g x.2 x.1 < 0
            · have HBAD : Hid (ductE g hs = 6) := by
                show _ = _
                have h9 : hoseErr g x = 6 := by unfold hoseErr; rw [if_neg (by simp [HCE.out]), if_pos hneg]
                rw [hE.out, hn.out, show hs.length - k = (hs.length - (k + 1)) + 1 by omega, hosesErr_stop (by rw [HX.out, h9]; decide), HX.out, h9]
              rw [if_pos hneg]
              go_wp2
              go_ret3
              exact DuctsPost.bad HBAD.out (by decide) (HE2.out.trans hE3)
            · rw [if_neg hneg]
              have HOK : Hid (hosesErr g hs hs.length 0 = hosesErr g hs (hs.length - (k + 1)) (k + 1)) := by
                show _ = _
                have h9 : hoseErr g x = 0 := by unfold hoseErr; rw [if_neg (by simp [HCE.out]), if_neg hneg]
                rw [hn.out, show hs.length - k = (hs.length - (k + 1)) + 1 by omega, hosesErr_step (by rw [HX.out, h9])]
              have HD3 := Lib.hid (HD2.out.ext hE3)
              have HE3 := Lib.hid (HE2.out.trans hE3)
              have hrl : routeL g x.1 x.2 = way g x.1 x.2 := by unfold routeL; rw [if_neg hneg]
              rw [hrl] at hO
              have hLlen : (way g x.1 x.2).length ≤ 4097 ∧ 1 ≤ (way g x.1 x.2).length := by
                rw [way_len]
                have := dst_bd HR.out (opn_inside HO2.out) x.1
                omega
              have HIN : Hid (∀ i, i < (way g x.1 x.2).length → InG (pt (way g x.1 x.2) i)) := fun i hi => inG_of HR.out (opn_inside (way_opn HR.out HO1.out HO2.out hneg _ (pt_mem hi)))
              obtain ⟨la, lc, rfl, hLc, hLb⟩ := hO.reads
              have HO3 := Lib.hid hO
              have HLC := Lib.hid hLc
              have HW := Lib.hid hrl
              obtain ⟨n0, hn0, hS0⟩ := HD3.out.se
              have HS0 := Lib.hid hS0
              have hz3 : W2.heap.size ≤ W3.heap.size := hE3.size
              obtain ⟨L, hLeq⟩ : ∃ L, L = way g x.1 x.2 := ⟨_, rfl⟩
              rw [← hLeq] at hLlen HIN HO3 HLC ⊢
              have HLEQ := Lib.hid hLeq
              clear hS0 hO hLc hLb hrl hE3 p1 p2 p3 p4 g1 g2 g3 hLeq HW
              have hmW : mb < W3.heap.size := by omega
              go_wp2
              go_loopw [15] (fun i wr => ∃ j : Nat, j < L.length ∧ i = .int .i64 ((j : Int) + 1) ∧ Hid (SetAt Try.prog 36 4 evPr wr mb (n0 + j) (pairK (ductK g hs k) L j)) ∧ Hid (Chg (fun b => b = mb) W3 wr) ∧ Hid (Below mb W3 wr)) (fun i _ => L.length + 1 - (Go.RowKit.intOf i).toNat)
              case atStart => exact ⟨0, by omega, rfl, HS0.out, Chg.refl _ _, Below.refl _ _⟩
              case round =>
                obtain ⟨j, hj, rfl, HS, HCH, HBB⟩ := hrel
                by_cases hjl : j + 1 < L.length
                · have hjl' : (j : Int) + 1 < (L.length : Int) := by omega
                  obtain ⟨la', lc', hv', HLr, _⟩ := (HO3.out.kept (X := fun k => k ≠ mb) (n := 0) (HCH.out.kept (fun k hk _ => hk)) (fun b hb e => by
                    obtain ⟨c1, f1, e1⟩ := ownsRow_at HO3.out hb
                    obtain ⟨es, cl, h8⟩ := HS0.out.at
                    rw [e, h8] at e1; cases e1)).reads
                  cases hv'
                  have HLr := Lib.hid HLr
                  obtain ⟨lb, loff, rfl, d1, d2⟩ := HLr.out j (by omega)
                  obtain ⟨lb', loff', hla, d3, d4⟩ := HLr.out (j + 1) hjl
                  cases hla
                  have i1 := Lib.hid (HIN.out j (by omega))
                  have i2 := Lib.hid (HIN.out (j + 1) hjl)
                  have q0 : IntKind.i64.wrap ((j : Int) + 1 - 1) = (j : Int) := by
                    rw [show (j : Int) + 1 - 1 = (j : Int) by omega]; exact IntWalk.i64_in _ (by omega)
                  have zb := cell_lt d1
                  dsimp only at zb
                  have zm2 : mb < wr.heap.size := HS.out.lt
                  have q1 : ((j : Int) + 1).toNat = j + 1 := by omega
                  have q2 : IntKind.i64.wrap (j : Int) = (j : Int) := IntWalk.i64_in _ (by omega)
                  have q3 : (j : Int) < (L.length : Int) := by omega
                  have hkn : n0 + j ≤ 2000000 := by omega
                  by_cases hg0 : 0 < ordP (pt L j) (pt L (j + 1))
                  · have hgt : 0 < ordP (pt L j) (pt L (j + 1)) := by assumption
                    go_wp2_with fail
                    go_region
                    · have E3 : Ext wr (((wr.alloc (.cells #[.int .i64 (pt L j).1, .int .i64 (pt L j).2] 27)).alloc (.cells #[.int .i64 (pt L (j + 1)).1, .int .i64 (pt L (j + 1)).2] 27)).drew) := (((Ext.refl _).alloc _).alloc _).drew
                      have p1 : (((wr.alloc (.cells #[.int .i64 (pt L j).1, .int .i64 (pt L j).2] 27)).alloc (.cells #[.int .i64 (pt L (j + 1)).1, .int .i64 (pt L (j + 1)).2] 27)).drew).cell? ⟨wr.heap.size, 0, none⟩ = some (.int .i64 (pt L j).1) := by go_simp
                      have p2 : (((wr.alloc (.cells #[.int .i64 (pt L j).1, .int .i64 (pt L j).2] 27)).alloc (.cells #[.int .i64 (pt L (j + 1)).1, .int .i64 (pt L (j + 1)).2] 27)).drew).cell? ⟨wr.heap.size, 1, none⟩ = some (.int .i64 (pt L j).2) := by go_simp
                      have p3 : (((wr.alloc (.cells #[.int .i64 (pt L j).1, .int .i64 (pt L j).2] 27)).alloc (.cells #[.int .i64 (pt L (j + 1)).1, .int .i64 (pt L (j + 1)).2] 27)).drew).cell? ⟨wr.heap.size + 1, 0, none⟩ = some (.int .i64 (pt L (j + 1)).1) := by go_simp
                      have p4 : (((wr.alloc (.cells #[.int .i64 (pt L j).1, .int .i64 (pt L j).2] 27)).alloc (.cells #[.int .i64 (pt L (j + 1)).1, .int .i64 (pt L (j + 1)).2] 27)).drew).cell? ⟨wr.heap.size + 1, 1, none⟩ = some (.int .i64 (pt L (j + 1)).2) := by go_simp
                      have y1 : (((wr.alloc (.cells #[.int .i64 (pt L j).1, .int .i64 (pt L j).2] 27)).alloc (.cells #[.int .i64 (pt L (j + 1)).1, .int .i64 (pt L (j + 1)).2] 27)).drew).frozen? ⟨wr.heap.size, 0, none⟩ = false := by go_simp
                      have y2 : (((wr.alloc (.cells #[.int .i64 (pt L j).1, .int .i64 (pt L j).2] 27)).alloc (.cells #[.int .i64 (pt L (j + 1)).1, .int .i64 (pt L (j + 1)).2] 27)).drew).frozen? ⟨wr.heap.size, 1, none⟩ = false := by go_simp
                      have y3 : (((wr.alloc (.cells #[.int .i64 (pt L j).1, .int .i64 (pt L j).2] 27)).alloc (.cells #[.int .i64 (pt L (j + 1)).1, .int .i64 (pt L (j + 1)).2] 27)).drew).frozen? ⟨wr.heap.size + 1, 0, none⟩ = false := by go_simp
                      have y4 : (((wr.alloc (.cells #[.int .i64 (pt L j).1, .int .i64 (pt L j).2] 27)).alloc (.cells #[.int .i64 (pt L (j + 1)).1, .int .i64 (pt L (j + 1)).2] 27)).drew).frozen? ⟨wr.heap.size + 1, 1, none⟩ = false := by go_simp
                      have zz : wr.heap.size + 1 < (((wr.alloc (.cells #[.int .i64 (pt L j).1, .int .i64 (pt L j).2] 27)).alloc (.cells #[.int .i64 (pt L (j + 1)).1, .int .i64 (pt L (j + 1)).2] 27)).drew).heap.size := by simp
                      clear d1 d2 d3 d4
                      generalize (((wr.alloc (.cells #[.int .i64 (pt L j).1, .int .i64 (pt L j).2] 27)).alloc (.cells #[.int .i64 (pt L (j + 1)).1, .int .i64 (pt L (j + 1)).2] 27)).drew) = V at E3 p1 p2 p3 p4 y1 y2 y3 y4 zz ⊢
                      have x1 : wr.heap.size < V.heap.size := by omega
                      go_wp2_with fail
                      refine (order_any (pt L j) (pt L (j + 1)) _).mono ?_
                      rintro e W5 ⟨rfl, hE5⟩
                      have q1 := hE5.cell p1
                      have q2 := hE5.cell p2
                      have q3 := hE5.cell p3
                      have q4 := hE5.cell p4
                      have t1 := (hE5.frozen (p := ⟨wr.heap.size, 0, none⟩) (by show wr.heap.size < _; omega)).trans y1
                      have t2 := (hE5.frozen (p := ⟨wr.heap.size, 1, none⟩) (by show wr.heap.size < _; omega)).trans y2
                      have t3 := (hE5.frozen (p := ⟨wr.heap.size + 1, 0, none⟩) (by show wr.heap.size + 1 < _; omega)).trans y3
                      have t4 := (hE5.frozen (p := ⟨wr.heap.size + 1, 1, none⟩) (by show wr.heap.size + 1 < _; omega)).trans y4
                      have HS5 := Lib.hid (HS.out.ext (E3.trans hE5))
                      have EE := Lib.hid (E3.trans hE5)
                      clear p1 p2 p3 p4 y1 y2 y3 y4 E3 hE5
                      have HS6 : Hid (SetAt Try.prog 36 4 evPr ((((W5.setCell ⟨wr.heap.size, 0, none⟩ (.int .i64 (pt L (j + 1)).1)).setCell ⟨wr.heap.size, 1, none⟩ (.int .i64 (pt L (j + 1)).2)).setCell ⟨wr.heap.size + 1, 0, none⟩ (.int .i64 (pt L j).1)).setCell ⟨wr.heap.size + 1, 1, none⟩ (.int .i64 (pt L j).2)) mb (n0 + j) (pairK (ductK g hs k) L j)) := HS5.out.same (by rw [Below.heap_setCell _ _ _ _ (by show mb ≠ wr.heap.size + 1; omega), Below.heap_setCell _ _ _ _ (by show mb ≠ wr.heap.size + 1; omega), Below.heap_setCell _ _ _ _ (by show mb ≠ wr.heap.size; omega), Below.heap_setCell _ _ _ _ (by show mb ≠ wr.heap.size; omega)])
                      have EE6 : Hid (Below wr.heap.size wr ((((W5.setCell ⟨wr.heap.size, 0, none⟩ (.int .i64 (pt L (j + 1)).1)).setCell ⟨wr.heap.size, 1, none⟩ (.int .i64 (pt L (j + 1)).2)).setCell ⟨wr.heap.size + 1, 0, none⟩ (.int .i64 (pt L j).1)).setCell ⟨wr.heap.size + 1, 1, none⟩ (.int .i64 (pt L j).2))) := Below.setCell (p := ⟨wr.heap.size + 1, 1, none⟩) (Below.setCell (p := ⟨wr.heap.size + 1, 0, none⟩) (Below.setCell (p := ⟨wr.heap.size, 1, none⟩) (Below.setCell (p := ⟨wr.heap.size, 0, none⟩) EE.out (by show wr.heap.size ≤ wr.heap.size; omega) _) (by show wr.heap.size ≤ wr.heap.size; omega) _) (by show wr.heap.size ≤ wr.heap.size + 1; omega) _) (by show wr.heap.size ≤ wr.heap.size + 1; omega) _
                      obtain ⟨kl, hkl⟩ := keyPr (p := (pt L (j + 1), pt L j)) (wf_inG i2.out).1 (wf_inG i2.out).2 (wf_inG i1.out).1 (wf_inG i1.out).2
                      have HKL := Lib.hid hkl
                      clear hkl
                      go_wp2_with (at_mapUpdate; refine wpList_setAdd _ rfl _ _ _ 47 rfl 36 4 lawPr Try.underlying47 Try.underlying4 mb (n0 + j) (pairK (ductK g hs k) L j) rfl HS6.out ?hn evPr_inj (pt L (j + 1), pt L j) kl rfl rfl HKL.out ?hK)
                      case hn => unfold maxLen; omega
                      case hK =>
                        intro w6 hs6 hg6
                        have HS7 := Lib.hid hs6
                        have HG6 := Lib.hid hg6
                        clear hs6 hg6
                        go_wp2
                        refine ⟨⟨j + 1, by omega, by go_num, ?_, ?_, ?_⟩, by simp [Go.RowKit.intOf]; omega⟩
                        · have h9 := HS7.out
                          have hp : pairOf (pt L j) (pt L (j + 1)) = (pt L (j + 1), pt L j) := by unfold pairOf; rw [if_pos hgt]
                          show SetAt _ _ _ _ _ _ _ (insP _ _)
                          rw [hp]
                          unfold insP
                          unfold setIns at h9
                          rw [Nat.add_assoc] at h9
                          split at h9 <;> split <;> first | exact h9 | contradiction
                        · exact HCH.out.trans ⟨Nat.le_trans EE6.out.size HG6.out.size, fun b hb hn => (HG6.out.block b (Nat.lt_of_lt_of_le hb EE6.out.size) (fun e => hn (by cases e; rfl))).trans (EE6.out.block b hb)⟩
                        · exact (HBB.out.trans (EE6.out.mono (by omega))).grown HG6.out (Nat.le_trans (by omega) EE6.out.size) (fun j hj => by cases hj; exact Nat.le_refl _)
                    · have E3 : Ext wr (((wr.alloc (.cells #[.int .i64 (pt L (j + 1)).1, .int .i64 (pt L (j + 1)).2] 27)).alloc (.cells #[.int .i64 (pt L j).1, .int .i64 (pt L j).2] 27)).drew) := (((Ext.refl _).alloc _).alloc _).drew
                      have p1 : (((wr.alloc (.cells #[.int .i64 (pt L (j + 1)).1, .int .i64 (pt L (j + 1)).2] 27)).alloc (.cells #[.int .i64 (pt L j).1, .int .i64 (pt L j).2] 27)).drew).cell? ⟨wr.heap.size + 1, 0, none⟩ = some (.int .i64 (pt L j).1) := by go_simp
                      have p2 : (((wr.alloc (.cells #[.int .i64 (pt L (j + 1)).1, .int .i64 (pt L (j + 1)).2] 27)).alloc (.cells #[.int .i64 (pt L j).1, .int .i64 (pt L j).2] 27)).drew).cell? ⟨wr.heap.size + 1, 1, none⟩ = some (.int .i64 (pt L j).2) := by go_simp
                      have p3 : (((wr.alloc (.cells #[.int .i64 (pt L (j + 1)).1, .int .i64 (pt L (j + 1)).2] 27)).alloc (.cells #[.int .i64 (pt L j).1, .int .i64 (pt L j).2] 27)).drew).cell? ⟨wr.heap.size, 0, none⟩ = some (.int .i64 (pt L (j + 1)).1) := by go_simp
                      have p4 : (((wr.alloc (.cells #[.int .i64 (pt L (j + 1)).1, .int .i64 (pt L (j + 1)).2] 27)).alloc (.cells #[.int .i64 (pt L j).1, .int .i64 (pt L j).2] 27)).drew).cell? ⟨wr.heap.size, 1, none⟩ = some (.int .i64 (pt L (j + 1)).2) := by go_simp
                      have y1 : (((wr.alloc (.cells #[.int .i64 (pt L (j + 1)).1, .int .i64 (pt L (j + 1)).2] 27)).alloc (.cells #[.int .i64 (pt L j).1, .int .i64 (pt L j).2] 27)).drew).frozen? ⟨wr.heap.size + 1, 0, none⟩ = false := by go_simp
                      have y2 : (((wr.alloc (.cells #[.int .i64 (pt L (j + 1)).1, .int .i64 (pt L (j + 1)).2] 27)).alloc (.cells #[.int .i64 (pt L j).1, .int .i64 (pt L j).2] 27)).drew).frozen? ⟨wr.heap.size + 1, 1, none⟩ = false := by go_simp
                      have y3 : (((wr.alloc (.cells #[.int .i64 (pt L (j + 1)).1, .int .i64 (pt L (j + 1)).2] 27)).alloc (.cells #[.int .i64 (pt L j).1, .int .i64 (pt L j).2] 27)).drew).frozen? ⟨wr.heap.size, 0, none⟩ = false := by go_simp
                      have y4 : (((wr.alloc (.cells #[.int .i64 (pt L (j + 1)).1, .int .i64 (pt L (j + 1)).2] 27)).alloc (.cells #[.int .i64 (pt L j).1, .int .i64 (pt L j).2] 27)).drew).frozen? ⟨wr.heap.size, 1, none⟩ = false := by go_simp
                      have zz : wr.heap.size + 1 < (((wr.alloc (.cells #[.int .i64 (pt L (j + 1)).1, .int .i64 (pt L (j + 1)).2] 27)).alloc (.cells #[.int .i64 (pt L j).1, .int .i64 (pt L j).2] 27)).drew).heap.size := by simp
                      clear d1 d2 d3 d4
                      generalize (((wr.alloc (.cells #[.int .i64 (pt L (j + 1)).1, .int .i64 (pt L (j + 1)).2] 27)).alloc (.cells #[.int .i64 (pt L j).1, .int .i64 (pt L j).2] 27)).drew) = V at E3 p1 p2 p3 p4 y1 y2 y3 y4 zz ⊢
                      have x1 : wr.heap.size < V.heap.size := by omega
                      go_wp2_with fail
                      refine (order_any (pt L j) (pt L (j + 1)) _).mono ?_
                      rintro e W5 ⟨rfl, hE5⟩
                      have q1 := hE5.cell p1
                      have q2 := hE5.cell p2
                      have q3 := hE5.cell p3
                      have q4 := hE5.cell p4
                      have t1 := (hE5.frozen (p := ⟨wr.heap.size + 1, 0, none⟩) (by show wr.heap.size + 1 < _; omega)).trans y1
                      have t2 := (hE5.frozen (p := ⟨wr.heap.size + 1, 1, none⟩) (by show wr.heap.size + 1 < _; omega)).trans y2
                      have t3 := (hE5.frozen (p := ⟨wr.heap.size, 0, none⟩) (by show wr.heap.size < _; omega)).trans y3
                      have t4 := (hE5.frozen (p := ⟨wr.heap.size, 1, none⟩) (by show wr.heap.size < _; omega)).trans y4
                      have HS5 := Lib.hid (HS.out.ext (E3.trans hE5))
                      have EE := Lib.hid (E3.trans hE5)
                      clear p1 p2 p3 p4 y1 y2 y3 y4 E3 hE5
                      have HS6 : Hid (SetAt Try.prog 36 4 evPr ((((W5.setCell ⟨wr.heap.size + 1, 0, none⟩ (.int .i64 (pt L (j + 1)).1)).setCell ⟨wr.heap.size + 1, 1, none⟩ (.int .i64 (pt L (j + 1)).2)).setCell ⟨wr.heap.size, 0, none⟩ (.int .i64 (pt L j).1)).setCell ⟨wr.heap.size, 1, none⟩ (.int .i64 (pt L j).2)) mb (n0 + j) (pairK (ductK g hs k) L j)) := HS5.out.same (by rw [Below.heap_setCell _ _ _ _ (by show mb ≠ wr.heap.size; omega), Below.heap_setCell _ _ _ _ (by show mb ≠ wr.heap.size; omega), Below.heap_setCell _ _ _ _ (by show mb ≠ wr.heap.size + 1; omega), Below.heap_setCell _ _ _ _ (by show mb ≠ wr.heap.size + 1; omega)])
                      have EE6 : Hid (Below wr.heap.size wr ((((W5.setCell ⟨wr.heap.size + 1, 0, none⟩ (.int .i64 (pt L (j + 1)).1)).setCell ⟨wr.heap.size + 1, 1, none⟩ (.int .i64 (pt L (j + 1)).2)).setCell ⟨wr.heap.size, 0, none⟩ (.int .i64 (pt L j).1)).setCell ⟨wr.heap.size, 1, none⟩ (.int .i64 (pt L j).2))) := Below.setCell (p := ⟨wr.heap.size, 1, none⟩) (Below.setCell (p := ⟨wr.heap.size, 0, none⟩) (Below.setCell (p := ⟨wr.heap.size + 1, 1, none⟩) (Below.setCell (p := ⟨wr.heap.size + 1, 0, none⟩) EE.out (by show wr.heap.size ≤ wr.heap.size + 1; omega) _) (by show wr.heap.size ≤ wr.heap.size + 1; omega) _) (by show wr.heap.size ≤ wr.heap.size; omega) _) (by show wr.heap.size ≤ wr.heap.size; omega) _
                      obtain ⟨kl, hkl⟩ := keyPr (p := (pt L (j + 1), pt L j)) (wf_inG i2.out).1 (wf_inG i2.out).2 (wf_inG i1.out).1 (wf_inG i1.out).2
                      have HKL := Lib.hid hkl
                      clear hkl
                      go_wp2_with (at_mapUpdate; refine wpList_setAdd _ rfl _ _ _ 47 rfl 36 4 lawPr Try.underlying47 Try.underlying4 mb (n0 + j) (pairK (ductK g hs k) L j) rfl HS6.out ?hn evPr_inj (pt L (j + 1), pt L j) kl rfl rfl HKL.out ?hK)
                      case hn => unfold maxLen; omega
                      case hK =>
                        intro w6 hs6 hg6
                        have HS7 := Lib.hid hs6
                        have HG6 := Lib.hid hg6
                        clear hs6 hg6
                        go_wp2
                        refine ⟨⟨j + 1, by omega, by go_num, ?_, ?_, ?_⟩, by simp [Go.RowKit.intOf]; omega⟩
                        · have h9 := HS7.out
                          have hp : pairOf (pt L j) (pt L (j + 1)) = (pt L (j + 1), pt L j) := by unfold pairOf; rw [if_pos hgt]
                          show SetAt _ _ _ _ _ _ _ (insP _ _)
                          rw [hp]
                          unfold insP
                          unfold setIns at h9
                          rw [Nat.add_assoc] at h9
                          split at h9 <;> split <;> first | exact h9 | contradiction
                        · exact HCH.out.trans ⟨Nat.le_trans EE6.out.size HG6.out.size, fun b hb hn => (HG6.out.block b (Nat.lt_of_lt_of_le hb EE6.out.size) (fun e => hn (by cases e; rfl))).trans (EE6.out.block b hb)⟩
                        · exact (HBB.out.trans (EE6.out.mono (by omega))).grown HG6.out (Nat.le_trans (by omega) EE6.out.size) (fun j hj => by cases hj; exact Nat.le_refl _)
                  · have hgt : ¬ 0 < ordP (pt L j) (pt L (j + 1)) := by assumption
                    go_wp2_with fail
                    go_region
                    · have E3 : Ext wr (((wr.alloc (.cells #[.int .i64 (pt L j).1, .int .i64 (pt L j).2] 27)).alloc (.cells #[.int .i64 (pt L (j + 1)).1, .int .i64 (pt L (j + 1)).2] 27)).drew) := (((Ext.refl _).alloc _).alloc _).drew
                      have p1 : (((wr.alloc (.cells #[.int .i64 (pt L j).1, .int .i64 (pt L j).2] 27)).alloc (.cells #[.int .i64 (pt L (j + 1)).1, .int .i64 (pt L (j + 1)).2] 27)).drew).cell? ⟨wr.heap.size, 0, none⟩ = some (.int .i64 (pt L j).1) := by go_simp
                      have p2 : (((wr.alloc (.cells #[.int .i64 (pt L j).1, .int .i64 (pt L j).2] 27)).alloc (.cells #[.int .i64 (pt L (j + 1)).1, .int .i64 (pt L (j + 1)).2] 27)).drew).cell? ⟨wr.heap.size, 1, none⟩ = some (.int .i64 (pt L j).2) := by go_simp
                      have p3 : (((wr.alloc (.cells #[.int .i64 (pt L j).1, .int .i64 (pt L j).2] 27)).alloc (.cells #[.int .i64 (pt L (j + 1)).1, .int .i64 (pt L (j + 1)).2] 27)).drew).cell? ⟨wr.heap.size + 1, 0, none⟩ = some (.int .i64 (pt L (j + 1)).1) := by go_simp
                      have p4 : (((wr.alloc (.cells #[.int .i64 (pt L j).1, .int .i64 (pt L j).2] 27)).alloc (.cells #[.int .i64 (pt L (j + 1)).1, .int .i64 (pt L (j + 1)).2] 27)).drew).cell? ⟨wr.heap.size + 1, 1, none⟩ = some (.int .i64 (pt L (j + 1)).2) := by go_simp
                      have y1 : (((wr.alloc (.cells #[.int .i64 (pt L j).1, .int .i64 (pt L j).2] 27)).alloc (.cells #[.int .i64 (pt L (j + 1)).1, .int .i64 (pt L (j + 1)).2] 27)).drew).frozen? ⟨wr.heap.size, 0, none⟩ = false := by go_simp
                      have y2 : (((wr.alloc (.cells #[.int .i64 (pt L j).1, .int .i64 (pt L j).2] 27)).alloc (.cells #[.int .i64 (pt L (j + 1)).1, .int .i64 (pt L (j + 1)).2] 27)).drew).frozen? ⟨wr.heap.size, 1, none⟩ = false := by go_simp
                      have y3 : (((wr.alloc (.cells #[.int .i64 (pt L j).1, .int .i64 (pt L j).2] 27)).alloc (.cells #[.int .i64 (pt L (j + 1)).1, .int .i64 (pt L (j + 1)).2] 27)).drew).frozen? ⟨wr.heap.size + 1, 0, none⟩ = false := by go_simp
                      have y4 : (((wr.alloc (.cells #[.int .i64 (pt L j).1, .int .i64 (pt L j).2] 27)).alloc (.cells #[.int .i64 (pt L (j + 1)).1, .int .i64 (pt L (j + 1)).2] 27)).drew).frozen? ⟨wr.heap.size + 1, 1, none⟩ = false := by go_simp
                      have zz : wr.heap.size + 1 < (((wr.alloc (.cells #[.int .i64 (pt L j).1, .int .i64 (pt L j).2] 27)).alloc (.cells #[.int .i64 (pt L (j + 1)).1, .int .i64 (pt L (j + 1)).2] 27)).drew).heap.size := by simp
                      clear d1 d2 d3 d4
                      generalize (((wr.alloc (.cells #[.int .i64 (pt L j).1, .int .i64 (pt L j).2] 27)).alloc (.cells #[.int .i64 (pt L (j + 1)).1, .int .i64 (pt L (j + 1)).2] 27)).drew) = V at E3 p1 p2 p3 p4 y1 y2 y3 y4 zz ⊢
                      have x1 : wr.heap.size < V.heap.size := by omega
                      go_wp2_with fail
                      refine (order_any (pt L j) (pt L (j + 1)) _).mono ?_
                      rintro e W5 ⟨rfl, hE5⟩
                      have q1 := hE5.cell p1
                      have q2 := hE5.cell p2
                      have q3 := hE5.cell p3
                      have q4 := hE5.cell p4
                      have t1 := (hE5.frozen (p := ⟨wr.heap.size, 0, none⟩) (by show wr.heap.size < _; omega)).trans y1
                      have t2 := (hE5.frozen (p := ⟨wr.heap.size, 1, none⟩) (by show wr.heap.size < _; omega)).trans y2
                      have t3 := (hE5.frozen (p := ⟨wr.heap.size + 1, 0, none⟩) (by show wr.heap.size + 1 < _; omega)).trans y3
                      have t4 := (hE5.frozen (p := ⟨wr.heap.size + 1, 1, none⟩) (by show wr.heap.size + 1 < _; omega)).trans y4
                      have HS5 := Lib.hid (HS.out.ext (E3.trans hE5))
                      have EE := Lib.hid (E3.trans hE5)
                      clear p1 p2 p3 p4 y1 y2 y3 y4 E3 hE5
                      have HS6 := HS5
                      have EE6 : Hid (Below wr.heap.size wr W5) := EE.out
                      obtain ⟨kl, hkl⟩ := keyPr (p := (pt L j, pt L (j + 1))) (wf_inG i1.out).1 (wf_inG i1.out).2 (wf_inG i2.out).1 (wf_inG i2.out).2
                      have HKL := Lib.hid hkl
                      clear hkl
                      go_wp2_with (at_mapUpdate; refine wpList_setAdd _ rfl _ _ _ 47 rfl 36 4 lawPr Try.underlying47 Try.underlying4 mb (n0 + j) (pairK (ductK g hs k) L j) rfl HS6.out ?hn evPr_inj (pt L j, pt L (j + 1)) kl rfl rfl HKL.out ?hK)
                      case hn => unfold maxLen; omega
                      case hK =>
                        intro w6 hs6 hg6
                        have HS7 := Lib.hid hs6
                        have HG6 := Lib.hid hg6
                        clear hs6 hg6
                        go_wp2
                        refine ⟨⟨j + 1, by omega, by go_num, ?_, ?_, ?_⟩, by simp [Go.RowKit.intOf]; omega⟩
                        · have h9 := HS7.out
                          have hp : pairOf (pt L j) (pt L (j + 1)) = (pt L j, pt L (j + 1)) := by unfold pairOf; rw [if_neg (by omega)]
                          show SetAt _ _ _ _ _ _ _ (insP _ _)
                          rw [hp]
                          unfold insP
                          unfold setIns at h9
                          rw [Nat.add_assoc] at h9
                          split at h9 <;> split <;> first | exact h9 | contradiction
                        · exact HCH.out.trans ⟨Nat.le_trans EE6.out.size HG6.out.size, fun b hb hn => (HG6.out.block b (Nat.lt_of_lt_of_le hb EE6.out.size) (fun e => hn (by cases e; rfl))).trans (EE6.out.block b hb)⟩
                        · exact (HBB.out.trans (EE6.out.mono (by omega))).grown HG6.out (Nat.le_trans (by omega) EE6.out.size) (fun j hj => by cases hj; exact Nat.le_refl _)
                    · have E3 : Ext wr (((wr.alloc (.cells #[.int .i64 (pt L (j + 1)).1, .int .i64 (pt L (j + 1)).2] 27)).alloc (.cells #[.int .i64 (pt L j).1, .int .i64 (pt L j).2] 27)).drew) := (((Ext.refl _).alloc _).alloc _).drew
                      have p1 : (((wr.alloc (.cells #[.int .i64 (pt L (j + 1)).1, .int .i64 (pt L (j + 1)).2] 27)).alloc (.cells #[.int .i64 (pt L j).1, .int .i64 (pt L j).2] 27)).drew).cell? ⟨wr.heap.size + 1, 0, none⟩ = some (.int .i64 (pt L j).1) := by go_simp
                      have p2 : (((wr.alloc (.cells #[.int .i64 (pt L (j + 1)).1, .int .i64 (pt L (j + 1)).2] 27)).alloc (.cells #[.int .i64 (pt L j).1, .int .i64 (pt L j).2] 27)).drew).cell? ⟨wr.heap.size + 1, 1, none⟩ = some (.int .i64 (pt L j).2) := by go_simp
                      have p3 : (((wr.alloc (.cells #[.int .i64 (pt L (j + 1)).1, .int .i64 (pt L (j + 1)).2] 27)).alloc (.cells #[.int .i64 (pt L j).1, .int .i64 (pt L j).2] 27)).drew).cell? ⟨wr.heap.size, 0, none⟩ = some (.int .i64 (pt L (j + 1)).1) := by go_simp
                      have p4 : (((wr.alloc (.cells #[.int .i64 (pt L (j + 1)).1, .int .i64 (pt L (j + 1)).2] 27)).alloc (.cells #[.int .i64 (pt L j).1, .int .i64 (pt L j).2] 27)).drew).cell? ⟨wr.heap.size, 1, none⟩ = some (.int .i64 (pt L (j + 1)).2) := by go_simp
                      have y1 : (((wr.alloc (.cells #[.int .i64 (pt L (j + 1)).1, .int .i64 (pt L (j + 1)).2] 27)).alloc (.cells #[.int .i64 (pt L j).1, .int .i64 (pt L j).2] 27)).drew).frozen? ⟨wr.heap.size + 1, 0, none⟩ = false := by go_simp
                      have y2 : (((wr.alloc (.cells #[.int .i64 (pt L (j + 1)).1, .int .i64 (pt L (j + 1)).2] 27)).alloc (.cells #[.int .i64 (pt L j).1, .int .i64 (pt L j).2] 27)).drew).frozen? ⟨wr.heap.size + 1, 1, none⟩ = false := by go_simp
                      have y3 : (((wr.alloc (.cells #[.int .i64 (pt L (j + 1)).1, .int .i64 (pt L (j + 1)).2] 27)).alloc (.cells #[.int .i64 (pt L j).1, .int .i64 (pt L j).2] 27)).drew).frozen? ⟨wr.heap.size, 0, none⟩ = false := by go_simp
                      have y4 : (((wr.alloc (.cells #[.int .i64 (pt L (j + 1)).1, .int .i64 (pt L (j + 1)).2] 27)).alloc (.cells #[.int .i64 (pt L j).1, .int .i64 (pt L j).2] 27)).drew).frozen? ⟨wr.heap.size, 1, none⟩ = false := by go_simp
                      have zz : wr.heap.size + 1 < (((wr.alloc (.cells #[.int .i64 (pt L (j + 1)).1, .int .i64 (pt L (j + 1)).2] 27)).alloc (.cells #[.int .i64 (pt L j).1, .int .i64 (pt L j).2] 27)).drew).heap.size := by simp
                      clear d1 d2 d3 d4
                      generalize (((wr.alloc (.cells #[.int .i64 (pt L (j + 1)).1, .int .i64 (pt L (j + 1)).2] 27)).alloc (.cells #[.int .i64 (pt L j).1, .int .i64 (pt L j).2] 27)).drew) = V at E3 p1 p2 p3 p4 y1 y2 y3 y4 zz ⊢
                      have x1 : wr.heap.size < V.heap.size := by omega
                      go_wp2_with fail
                      refine (order_any (pt L j) (pt L (j + 1)) _).mono ?_
                      rintro e W5 ⟨rfl, hE5⟩
                      have q1 := hE5.cell p1
                      have q2 := hE5.cell p2
                      have q3 := hE5.cell p3
                      have q4 := hE5.cell p4
                      have t1 := (hE5.frozen (p := ⟨wr.heap.size + 1, 0, none⟩) (by show wr.heap.size + 1 < _; omega)).trans y1
                      have t2 := (hE5.frozen (p := ⟨wr.heap.size + 1, 1, none⟩) (by show wr.heap.size + 1 < _; omega)).trans y2
                      have t3 := (hE5.frozen (p := ⟨wr.heap.size, 0, none⟩) (by show wr.heap.size < _; omega)).trans y3
                      have t4 := (hE5.frozen (p := ⟨wr.heap.size, 1, none⟩) (by show wr.heap.size < _; omega)).trans y4
                      have HS5 := Lib.hid (HS.out.ext (E3.trans hE5))
                      have EE := Lib.hid (E3.trans hE5)
                      clear p1 p2 p3 p4 y1 y2 y3 y4 E3 hE5
                      have HS6 := HS5
                      have EE6 : Hid (Below wr.heap.size wr W5) := EE.out
                      obtain ⟨kl, hkl⟩ := keyPr (p := (pt L j, pt L (j + 1))) (wf_inG i1.out).1 (wf_inG i1.out).2 (wf_inG i2.out).1 (wf_inG i2.out).2
                      have HKL := Lib.hid hkl
                      clear hkl
                      go_wp2_with (at_mapUpdate; refine wpList_setAdd _ rfl _ _ _ 47 rfl 36 4 lawPr Try.underlying47 Try.underlying4 mb (n0 + j) (pairK (ductK g hs k) L j) rfl HS6.out ?hn evPr_inj (pt L j, pt L (j + 1)) kl rfl rfl HKL.out ?hK)
                      case hn => unfold maxLen; omega
                      case hK =>
                        intro w6 hs6 hg6
                        have HS7 := Lib.hid hs6
                        have HG6 := Lib.hid hg6
                        clear hs6 hg6
                        go_wp2
                        refine ⟨⟨j + 1, by omega, by go_num, ?_, ?_, ?_⟩, by simp [Go.RowKit.intOf]; omega⟩
                        · have h9 := HS7.out
                          have hp : pairOf (pt L j) (pt L (j + 1)) = (pt L j, pt L (j + 1)) := by unfold pairOf; rw [if_neg (by omega)]
                          show SetAt _ _ _ _ _ _ _ (insP _ _)
                          rw [hp]
                          unfold insP
                          unfold setIns at h9
                          rw [Nat.add_assoc] at h9
                          split at h9 <;> split <;> first | exact h9 | contradiction
                        · exact HCH.out.trans ⟨Nat.le_trans EE6.out.size HG6.out.size, fun b hb hn => (HG6.out.block b (Nat.lt_of_lt_of_le hb EE6.out.size) (fun e => hn (by cases e; rfl))).trans (EE6.out.block b hb)⟩
                        · exact (HBB.out.trans (EE6.out.mono (by omega))).grown HG6.out (Nat.le_trans (by omega) EE6.out.size) (fun j hj => by cases hj; exact Nat.le_refl _)
                · have hjl' : ¬ (j : Int) + 1 < (L.length : Int) := by omega
                  have nmb : ∀ b cur e fr, W3.heap[b]? = some (.cells cur e fr) → b ≠ mb := fun b cur e fr h0 h1 => by
                    obtain ⟨es, cl, h8⟩ := HS0.out.at
                    rw [h1, h8] at h0; cases h0
                  have KK : Kept (fun k => k ≠ mb) 0 W3 wr := HCH.out.kept (fun k hk _ => hk)
                  have HOr : Hid (Owns wr (.slice la L.length lc) L) := HO3.out.kept KK (fun b hb => by
                    obtain ⟨c1, f1, e1⟩ := ownsRow_at HO3.out hb
                    exact nmb _ _ _ _ e1)
                  have HRr : Hid (RowsO wr (.slice av k cv) (ways g hs k)) := HD3.out.own.kept KK (fun b hb => by
                    obtain ⟨c1, f1, e1⟩ := HD3.out.own.at hb
                    exact nmb _ _ _ _ e1) (fun b cur fr h => nmb _ _ _ _ h)
                  have zm2 : mb < wr.heap.size := HS.out.lt
                  have zr3 : W3.heap.size ≤ wr.heap.size := HCH.out.1
                  clear KK nmb
                  have X1 : Ext wr (wr.alloc (.cells #[.slice la L.length lc] 23)) := (Ext.refl _).alloc _
                  obtain ⟨vs, h1, h2, h3⟩ := HRr.out.ext X1
                  rw [ways_len] at h1
                  have H1 := Lib.hid h1
                  have H2 := Lib.hid h2
                  have H3 := Lib.hid h3
                  have HX1 := Lib.hid X1
                  clear h1 h2 h3 X1
                  obtain ⟨i0, hi, hi0, hi1, hi2⟩ := info_parts infoRow
                  go_wp2_with (at_builtin; refine wpList_append1 _ rfl _ _ 33 rfl 23 i0 (.slice none 0 0) 1 24 Try.underlying33 hi hi0 hi1 hi2 rfl (by decide) (.slice av k cv) _ _ rfl H1.out ⟨wr.heap.size, 0, none⟩ 1 1 (by decide) [.slice la L.length lc] rfl rfl (cell_one_int _ _ _) ?c1 ?c2 ?c3 ?c4)
                  case c1 => first | (intro u hu; simp at hu; subst hu; rfl) | rfl | simp
                  case c2 => unfold maxLen; omega
                  case c3 => omega
                  case c4 =>
                    intro v' w5 hown5 hend5
                    have hlk : (ways g hs k).length = k := ways_len g hs k
                    have RO := rows_app (by rw [hlk]; exact H1.out) H2.out H3.out (HOr.out.ext HX1.out) hend5 (by rw [hlk]; exact hown5)
                    have hw1 : ways g hs k ++ [L] = ways g hs (k + 1) := by rw [HLEQ.out]; show _ = ways g hs k ++ [way g (ph hs k).1 (ph hs k).2]; rw [HX.out]
                    rw [hw1] at RO
                    obtain ⟨av', cv', hsh⟩ := RO.shape
                    rw [ways_len] at hsh
                    subst hsh
                    have HRO := Lib.hid RO
                    have HEND := Lib.hid hend5
                    have CA := Lib.hid (Chg.app hend5 (B := fun b => (Value.slice av k cv).ownBlock = some b) (fun b hb => hb))
                    clear hown5 hend5 hlk hw1 RO
                    go_wp2
                    refine ⟨⟨k + 1, av', cv', by omega, by go_num, rfl, HOK.out, ?_⟩, by simp [Go.RowKit.intOf]; omega⟩
                    have nvb : ∀ b, (Value.slice av k cv).ownBlock = some b → W0.heap.size ≤ b := HD3.out.vb
                    exact {
                      se := by
                        refine ⟨n0 + j, ?_, ?_⟩
                        · rw [Nat.add_mul]; omega
                        · have hdk : ductK g hs (k + 1) = pairK (ductK g hs k) L j := by
                            show pairsIn _ _ = _
                            rw [HX.out, ← HLEQ.out]
                            unfold pairsIn
                            rw [show L.length - 1 = j by omega]
                          rw [hdk]
                          exact (HS.out.ext HX1.out).same (CA.out.2 mb (Nat.lt_of_lt_of_le zm2 HX1.out.size) (fun e => by have := nvb mb e; omega))
                      be := ((HD3.out.be.trans HBB.out).trans (HX1.out.mono (by omega))).trans (HEND.out.below (by have := HX1.out.size; omega) (fun b hb => by have := nvb b hb; omega))
                      own := HRO.out
                      vb := fun b hb => by
                        rcases HEND.out with ⟨h1, _, _⟩ | ⟨h1, _⟩
                        · rw [h1] at hb; exact nvb b hb
                        · rw [h1] at hb
                          have hb' : b = (wr.alloc (.cells #[.slice la L.length lc] 23)).heap.size := by cases hb; rfl
                          simp at hb'
                          omega }
          · have HBAD : Hid (ductE g hs = cellsErr g [x.1, x.2]) := by
              show _ = _
              have h9 : hoseErr g x = cellsErr g [x.1, x.2] := by unfold hoseErr; rw [if_pos hce]
              rw [hE.out, hn.out, show hs.length - k = (hs.length - (k + 1)) + 1 by omega, hosesErr_stop (by rw [HX.out, h9]; exact hce), HX.out, h9]
            have HNE := Lib.hid hce
            have hb : (cellsErr g [x.1, x.2] != 0) = true := by simp [hce]
            have hb2 : (cellsErr g [x.1, x.2] == 0) = false := by simp [hce]
            clear hce
            go_wp2
            go_ret3
            exact DuctsPost.bad HBAD.out HNE.out HE2.out
        · have hk2 : k = hs.length := by omega
          have hlt' : ¬ (k : Int) < (hs.length : Int) := by omega
          obtain ⟨n, hn1, hS1⟩ := hd.out.se
          have HS1 := Lib.hid hS1
          clear hS1
          go_wp2_with (at_len; refine wpList_setLen _ rfl _ 47 rfl 36 4 Try.underlying47 mb _ (ductK g hs k) rfl HS1.out ?_)
          go_wp2
          go_ret3
          subst hk2
          obtain ⟨a', c', hv', hrr⟩ := hd.out.own.reads
          rw [ways_len] at hv'
          have hz : ductE g hs = 0 := by rw [hE.out, hn.out, Nat.sub_self]; rfl
          have hL1 : ductL g hs = ways g hs hs.length := by unfold ductL; rw [if_neg (by simp [hz])]
          have hN1 : ductN g hs = ((ductK g hs hs.length).length : Int) := by unfold ductN; rw [if_neg (by simp [hz])]
          refine ⟨a', c', ?_, by rw [hL1]; exact hrr, Below.trans EW (hd.out.be.mono (by omega))⟩
          show Ending.returned (.tuple #[.slice av hs.length cv, .int .i64 ((ductK g hs hs.length).length : Int), .int .i64 0]) = _
          rw [hL1, hN1, hz, ways_len, ← hv']
  · have hE : Hid (ductE g hs = chk g) := by show _ = _; unfold ductE; rw [if_pos h0]
    have hb : (chk g != 0) = true := by simp [h0]
    have hb2 : (chk g == 0) = false := by simp [h0]
    have H0 := Lib.hid h0
    clear h0
    go_wp2
    go_ret3
    exact DuctsPost.bad hE.out H0.out E1
end Go.Proofs.Ytechakkdcllgoaa
/- Small functions of the layer stock. -/
namespace Go.Proofs.Ytechakkdcllgoaa
open Go.RowKit

def isNeg (x : Int) : Bool := decide (x < 0) || decide (1048576 < x)
theorem isNeg_any (x : Int) (w : World) : Calls Try.prog 36 #[.int .i64 x] w fun e w' => e = .returned (.bool (isNeg x)) ∧ Ext w w' := by
  unfold isNeg
  by_cases h1 : x < 0
  · go_enter Try.func36, Try.ntmps36
    go_wp2
    all_goals go_ret
    all_goals exact ⟨ret_bool (by first | (simp; done) | (simp; omega)), Ext.refl _⟩
  · go_enter Try.func36, Try.ntmps36
    go_wp2
    all_goals go_ret
    all_goals exact ⟨ret_bool (by first | (simp; done) | (simp; omega)), Ext.refl _⟩
set_option maxHeartbeats 1000000 in
theorem IndexNeg_any (l : List Int) (n : Nat) (a : Option Addr) (cap : Nat) (w : World) (hn : n = l.length) (hl : n ≤ maxLen) (hc : CellsI w a l) :
    Calls Try.prog 35 #[.slice a n cap, .func (.func 36) #[] #[]] w fun e w' => ∃ r : Int, e = .returned (.int .i64 r) ∧ decide (0 ≤ r) = l.any isNeg ∧ Ext w w' := by
  unfold maxLen at hl
  have HC := Lib.hid hc
  have HN := Lib.hid hn
  clear hc hn
  go_enter Try.func35, Try.ntmps35
  go_wp2
  go_loopw [8] (fun i wr => ∃ k : Nat, k ≤ n ∧ i = .int .i64 k ∧ Hid (∀ j, j < k → isNeg (l.getD j 0) = false) ∧ Ext w wr) (fun i _ => n - (intOf i).toNat)
  case atStart => exact ⟨0, Nat.zero_le _, rfl, fun j hj => by omega, Ext.refl _⟩
  case round =>
    obtain ⟨k, hk, rfl, hnn, he⟩ := hrel
    by_cases hlt : k < n
    · have hlt' : (k : Int) < (n : Int) := by omega
      obtain ⟨b, off, rfl, c1⟩ := HC.out.ext he k (by rw [← HN.out]; exact hlt)
      have HM : Hid (l.getD k 0 ∈ l) := by
        show _ ∈ _
        have h := HN.out
        rw [List.getD_eq_getElem?_getD, List.getElem?_eq_getElem (show k < l.length by omega)]; simp
      generalize hx : l.getD k 0 = x at c1 HM
      have HX := Lib.hid hx
      clear hx
      have z1 := cell_lt c1
      dsimp only at z1
      go_wp2_with fail
      refine (isNeg_any x _).mono ?_
      rintro e w1 ⟨rfl, hE⟩
      have E1 := he.trans hE
      cases hp : isNeg x
      · go_wp2
        refine ⟨⟨k + 1, by omega, by go_num, fun j hj => ?_, E1⟩, by simp [intOf]; omega⟩
        rcases Nat.lt_or_eq_of_le (Nat.le_of_lt_succ hj) with h | rfl
        · exact hnn.out j h
        · rw [HX.out]; exact hp
      · have HA : Hid (l.any isNeg = true) := List.any_eq_true.2 ⟨x, HM.out, hp⟩
        go_wp2
        go_ret
        exact ⟨(k : Int), rfl, by rw [HA.out]; simp, E1⟩
    · have hlt' : ¬ (k : Int) < (n : Int) := by omega
      have HA : Hid (l.any isNeg = false) := by
        show _ = _
        rw [List.any_eq_false]
        intro x hx
        obtain ⟨i, hi, e⟩ := List.mem_iff_getElem.1 hx
        have := hnn.out i (by have h := HN.out; omega)
        rw [List.getD_eq_getElem?_getD, List.getElem?_eq_getElem hi] at this
        simp at this
        rw [← e, this]; simp
      go_wp2
      go_ret
      exact ⟨-1, rfl, by rw [HA.out]; simp, he⟩
set_option maxHeartbeats 2000000 in
theorem ContainsNeg_any (l : List Int) (n : Nat) (a : Option Addr) (cap : Nat) (w : World) (hn : n = l.length) (hl : n ≤ maxLen) (hc : CellsI w a l) :
    Calls Try.prog 27 #[.slice a n cap, .func (.func 36) #[] #[]] w fun e w' => e = .returned (.bool (l.any isNeg)) ∧ Ext w w' := by
  have HC := Lib.hid hc
  have HN := Lib.hid hn
  have HL := Lib.hid hl
  clear hc hn hl
  go_enter Try.func27, Try.ntmps27
  go_wp2_with fail
  refine (IndexNeg_any l n a cap _ HN.out HL.out HC.out).mono ?_
  rintro e w1 ⟨r, rfl, hr, hE⟩
  have HR := Lib.hid hr
  clear hr
  go_wp2
  all_goals go_ret
  all_goals exact ⟨ret_bool HR.out, hE⟩
def isPos (x : Int) : Bool := decide (0 < x)
theorem isPos_any (x : Int) (w : World) : Calls Try.prog 28 #[.int .i64 x] w fun e w' => e = .returned (.bool (isPos x)) ∧ Ext w w' := by
  unfold isPos
  by_cases h1 : 0 < x
  · go_enter Try.func28, Try.ntmps28
    go_wp2
    all_goals go_ret
    all_goals exact ⟨ret_bool (by first | (simp; done) | (simp; omega)), Ext.refl _⟩
  · go_enter Try.func28, Try.ntmps28
    go_wp2
    all_goals go_ret
    all_goals exact ⟨ret_bool (by first | (simp; done) | (simp; omega)), Ext.refl _⟩
set_option maxHeartbeats 1000000 in
theorem IndexPos_any (l : List Int) (n : Nat) (a : Option Addr) (cap : Nat) (w : World) (hn : n = l.length) (hl : n ≤ maxLen) (hc : CellsI w a l) :
    Calls Try.prog 35 #[.slice a n cap, .func (.func 28) #[] #[]] w fun e w' => ∃ r : Int, e = .returned (.int .i64 r) ∧ decide (0 ≤ r) = l.any isPos ∧ Ext w w' := by
  unfold maxLen at hl
  have HC := Lib.hid hc
  have HN := Lib.hid hn
  clear hc hn
  go_enter Try.func35, Try.ntmps35
  go_wp2
  go_loopw [8] (fun i wr => ∃ k : Nat, k ≤ n ∧ i = .int .i64 k ∧ Hid (∀ j, j < k → isPos (l.getD j 0) = false) ∧ Ext w wr) (fun i _ => n - (intOf i).toNat)
  case atStart => exact ⟨0, Nat.zero_le _, rfl, fun j hj => by omega, Ext.refl _⟩
  case round =>
    obtain ⟨k, hk, rfl, hnn, he⟩ := hrel
    by_cases hlt : k < n
    · have hlt' : (k : Int) < (n : Int) := by omega
      obtain ⟨b, off, rfl, c1⟩ := HC.out.ext he k (by rw [← HN.out]; exact hlt)
      have HM : Hid (l.getD k 0 ∈ l) := by
        show _ ∈ _
        have h := HN.out
        rw [List.getD_eq_getElem?_getD, List.getElem?_eq_getElem (show k < l.length by omega)]; simp
      generalize hx : l.getD k 0 = x at c1 HM
      have HX := Lib.hid hx
      clear hx
      have z1 := cell_lt c1
      dsimp only at z1
      go_wp2_with fail
      refine (isPos_any x _).mono ?_
      rintro e w1 ⟨rfl, hE⟩
      have E1 := he.trans hE
      cases hp : isPos x
      · go_wp2
        refine ⟨⟨k + 1, by omega, by go_num, fun j hj => ?_, E1⟩, by simp [intOf]; omega⟩
        rcases Nat.lt_or_eq_of_le (Nat.le_of_lt_succ hj) with h | rfl
        · exact hnn.out j h
        · rw [HX.out]; exact hp
      · have HA : Hid (l.any isPos = true) := List.any_eq_true.2 ⟨x, HM.out, hp⟩
        go_wp2
        go_ret
        exact ⟨(k : Int), rfl, by rw [HA.out]; simp, E1⟩
    · have hlt' : ¬ (k : Int) < (n : Int) := by omega
      have HA : Hid (l.any isPos = false) := by
        show _ = _
        rw [List.any_eq_false]
        intro x hx
        obtain ⟨i, hi, e⟩ := List.mem_iff_getElem.1 hx
        have := hnn.out i (by have h := HN.out; omega)
        rw [List.getD_eq_getElem?_getD, List.getElem?_eq_getElem hi] at this
        simp at this
        rw [← e, this]; simp
      go_wp2
      go_ret
      exact ⟨-1, rfl, by rw [HA.out]; simp, he⟩
set_option maxHeartbeats 2000000 in
theorem ContainsPos_any (l : List Int) (n : Nat) (a : Option Addr) (cap : Nat) (w : World) (hn : n = l.length) (hl : n ≤ maxLen) (hc : CellsI w a l) :
    Calls Try.prog 27 #[.slice a n cap, .func (.func 28) #[] #[]] w fun e w' => e = .returned (.bool (l.any isPos)) ∧ Ext w w' := by
  have HC := Lib.hid hc
  have HN := Lib.hid hn
  have HL := Lib.hid hl
  clear hc hn hl
  go_enter Try.func27, Try.ntmps27
  go_wp2_with fail
  refine (IndexPos_any l n a cap _ HN.out HL.out HC.out).mono ?_
  rintro e w1 ⟨r, rfl, hr, hE⟩
  have HR := Lib.hid hr
  clear hr
  go_wp2
  all_goals go_ret
  all_goals exact ⟨ret_bool HR.out, hE⟩
theorem counts_any (l : List Int) (n : Nat) (a : Option Addr) (cap : Nat) (w : World) (hn : n = l.length) (hl : n ≤ maxLen) (hc : CellsI w a l) :
    Calls Try.prog 34 #[.slice a n cap] w fun e w' => e = .returned (.bool (!l.any isNeg)) ∧ Ext w w' := by
  have HC := Lib.hid hc
  have HN := Lib.hid hn
  have HL := Lib.hid hl
  clear hc hn hl
  go_enter Try.func34, Try.ntmps34
  go_wp2_with fail
  refine (ContainsNeg_any l n a cap _ HN.out HL.out HC.out).mono ?_
  rintro e w1 ⟨rfl, hE⟩
  go_wp2
  go_ret
  exact ⟨rfl, hE⟩

def betterS (found : Bool) (bp bs price size : Int) : Bool := !found || (decide (price < bp) || (decide (price = bp) && decide (size < bs)))
set_option maxHeartbeats 1000000 in
theorem better_any (bb : Nat) (found : Bool) (bp bs price size : Int) (w : World) (h1 : w.cell? ⟨bb, 1, none⟩ = some (.int .i64 bp)) (h2 : w.cell? ⟨bb, 2, none⟩ = some (.int .i64 bs)) (h3 : w.cell? ⟨bb, 3, none⟩ = some (.bool found)) :
    Calls Try.prog 26 #[.pointer (some ⟨bb, 0, none⟩), .int .i64 price, .int .i64 size] w fun e w' => e = .returned (.bool (betterS found bp bs price size)) ∧ Ext w w' := by
  unfold betterS
  have z1 := cell_lt h1
  dsimp only at z1
  cases found
  · go_enter Try.func26, Try.ntmps26
    go_wp2
    all_goals go_ret
    all_goals exact ⟨rfl, Ext.refl _⟩
  · by_cases k1 : price < bp
    · go_enter Try.func26, Try.ntmps26
      go_wp2
      all_goals go_ret
      all_goals exact ⟨ret_bool (by simp [k1]), Ext.refl _⟩
    · by_cases k2 : price = bp
      · have k2' : (price == bp) = true := by simp [k2]
        go_enter Try.func26, Try.ntmps26
        go_wp2
        all_goals go_ret
        all_goals exact ⟨ret_bool (by simp), Ext.refl _⟩
      · have k2' : (price == bp) = false := by simp [k2]
        go_enter Try.func26, Try.ntmps26
        go_wp2
        all_goals go_ret
        all_goals exact ⟨ret_bool (by simp [k1]), Ext.refl _⟩

def maxK (l : List Int) : Nat → Int
  | 0 => l.getD 0 0
  | k + 1 => max (maxK l k) (l.getD (k + 1) 0)
set_option maxHeartbeats 1000000 in
theorem Max_any (l : List Int) (n : Nat) (a : Option Addr) (cap : Nat) (w : World) (hn : n + 1 = l.length) (hl : n + 1 ≤ maxLen) (hc : CellsI w a l) :
    Calls Try.prog 24 #[.slice a (n + 1) cap] w fun e w' => e = .returned (.int .i64 (maxK l n)) ∧ Ext w w' := by
  unfold maxLen at hl
  have HC := Lib.hid hc
  have HN := Lib.hid hn
  obtain ⟨b, off, rfl, c0⟩ := hc 0 (by omega)
  have c0 : w.cell? ⟨b, off, none⟩ = some (.int .i64 (l.getD 0 0)) := by simpa using c0
  have z0 := cell_lt c0
  dsimp only at z0
  have q0 : ¬ (n : Int) + 1 < 1 := by omega
  have q1 : (0 : Int) < (n : Int) + 1 := by omega
  clear hc hn
  go_enter Try.func24, Try.ntmps24
  go_wp2
  go_loopw [3, 4] (fun m i wr => ∃ k : Nat, k ≤ n ∧ i = .int .i64 ((k : Int) + 1) ∧ m = .int .i64 (maxK l k) ∧ Ext w wr) (fun _ i _ => n + 1 - (intOf i).toNat)
  case atStart => exact ⟨0, Nat.zero_le _, rfl, rfl, Ext.refl _⟩
  case round =>
    obtain ⟨k, hk, rfl, rfl, he⟩ := hrel
    by_cases hlt : k < n
    · have hlt' : (k : Int) + 1 < (n : Int) + 1 := by omega
      obtain ⟨b', off', hb', c1⟩ := HC.out.ext he (k + 1) (by rw [← HN.out]; omega)
      cases hb'
      have hm : maxK l (k + 1) = max (maxK l k) (l.getD (k + 1) 0) := rfl
      generalize l.getD (k + 1) 0 = x at c1 hm
      generalize maxK l k = y at hm ⊢
      have HM := Lib.hid hm
      clear hm
      have i5 : IntKind.i64.wrap ((k : Int) + 1 + 1) = (k : Int) + 1 + 1 := IntWalk.i64_in _ (by omega)
      have i3 : (0 : Int) ≤ (k : Int) + 1 := by omega
      have z1 := cell_lt c1
      dsimp only at z1
      go_wp2
      all_goals refine ⟨⟨k + 1, by omega, by go_num, ?_, he⟩, by simp [intOf]; omega⟩
      all_goals (first | (rw [HM.out]; done) | (rw [HM.out]; congr 1; omega))
    · have hke : k = n := by omega
      subst hke
      have hlt' : ¬ (k : Int) + 1 < (k : Int) + 1 := by omega
      go_wp2
      go_ret
      exact ⟨rfl, he⟩
end Go.Proofs.Ytechakkdcllgoaa
/- The search for the best order, in plain Lean. -/
namespace Go.Proofs.Ytechakkdcllgoaa

structure Pk where
  parts : List Int
  price : Int
  most : Int
structure Bst where
  order : List Int
  price : Int
  size : Int
  found : Bool
def pk0 : Pk := ⟨[], 0, 0⟩
def useK (p : Pk) (need : List Int) : Nat → Int
  | 0 => 0
  | k + 1 => if 0 < p.parts.getD k 0 ∧ 0 < need.getD k 0 then max (useK p need k) ((need.getD k 0 + p.parts.getD k 0 - 1).tdiv (p.parts.getD k 0)) else useK p need k
def usefulS (p : Pk) (need : List Int) : Int := min (useK p need p.parts.length) p.most
/-- what is left behind the first j kinds -/
def leftJ (need parts : List Int) (n : Int) (j : Nat) : List Int := (List.range need.length).map fun k => if k < j then need.getD k 0 - n * parts.getD k 0 else need.getD k 0
def leftS (need parts : List Int) (n : Int) : List Int := leftJ need parts n need.length
def iterS {σ : Type} (step : Nat → σ → σ) (s : σ) : Nat → σ
  | 0 => s
  | n + 1 => step n (iterS step s n)
def stopS (need : List Int) (price size : Int) (f : Nat) (s : List Int × Bst) : Option (List Int × Bst) :=
  if betterS s.2.found s.2.price s.2.size price size = false then some s
  else if need.any isPos = false then some (s.1, ⟨s.1.take (s.1.length - f) ++ List.replicate f 0, price, size, true⟩)
  else none
def buyS (pks : List Pk) : Nat → List Int → Int → Int → List Int × Bst → List Int × Bst
  | 0, need, price, size, s => (stopS need price size 0 s).getD s
  | f + 1, need, price, size, s => (stopS need price size (f + 1) s).getD
      (iterS (fun n t => buyS pks f (leftS need (pks.getD (pks.length - (f + 1)) pk0).parts n) (price + n * (pks.getD (pks.length - (f + 1)) pk0).price) (size + n) (t.1.set (pks.length - (f + 1)) n, t.2)) s (usefulS (pks.getD (pks.length - (f + 1)) pk0) need + 1).toNat)

theorem leftJ_len (need parts : List Int) (n : Int) (j : Nat) : (leftJ need parts n j).length = need.length := by simp [leftJ]
theorem leftJ_get (need parts : List Int) (n : Int) (j : Nat) {k : Nat} (h : k < need.length) : (leftJ need parts n j).getD k 0 = if k < j then need.getD k 0 - n * parts.getD k 0 else need.getD k 0 := by
  unfold leftJ
  simp [List.getD, h]

/-- what is asked of a task -/
structure TaskOk (pks : List Pk) (K : Nat) : Prop where
  len : pks.length ≤ 5
  kinds : K ≤ 16
  parts : ∀ p ∈ pks, p.parts.length = K
  num : ∀ p ∈ pks, ∀ x ∈ p.parts, 0 ≤ x ∧ x ≤ 1048576
  price : ∀ p ∈ pks, 0 ≤ p.price ∧ p.price ≤ 1048576
  most : ∀ p ∈ pks, 0 ≤ p.most ∧ p.most ≤ 1048576
/-- what holds of a state of the search that has gone through i packages -/
structure NeedOk (need : List Int) (price size : Int) (K i : Nat) : Prop where
  len : need.length = K
  num : ∀ k, k < K → -(i * 67108864 : Int) ≤ need.getD k 0 ∧ need.getD k 0 ≤ 20
  price : 0 ≤ price ∧ price ≤ i * 67108864
  size : 0 ≤ size ∧ size ≤ i * 20
theorem useK_bd {p : Pk} {need : List Int} {K : Nat} (hp : ∀ x ∈ p.parts, 0 ≤ x ∧ x ≤ 1048576) (hn : ∀ k, k < K → need.getD k 0 ≤ 20) : ∀ k, k ≤ K → k ≤ p.parts.length → 0 ≤ useK p need k ∧ useK p need k ≤ 20 := by
  intro k
  induction k with
  | zero => intro _ _; simp [useK]
  | succ k ih =>
    intro h1 h2
    have hi := ih (by omega) (by omega)
    have h3 := hn k (by omega)
    have h4 : 0 ≤ p.parts.getD k 0 ∧ p.parts.getD k 0 ≤ 1048576 := hp _ (by rw [List.getD_eq_getElem?_getD, List.getElem?_eq_getElem (by omega)]; simp)
    unfold useK
    generalize need.getD k 0 = x at h3 ⊢
    generalize p.parts.getD k 0 = y at h4 ⊢
    split
    · rename_i h
      obtain ⟨hy, hx⟩ := h
      have hd : 0 ≤ (x + y - 1).tdiv y ∧ (x + y - 1).tdiv y ≤ 20 := by
        rw [Int.tdiv_eq_ediv_of_nonneg (by omega)]
        refine ⟨Int.ediv_nonneg (by omega) (by omega), ?_⟩
        have h9 : (x + y - 1) / y ≤ x := by
          have : x + y - 1 < (x + 1) * y := by
            have h10 : 0 ≤ x * (y - 1) := Int.mul_nonneg (by omega) (by omega)
            have h11 : (x + 1) * y = x * (y - 1) + x + y := by rw [Int.add_mul, Int.mul_sub]; omega
            omega
          have := Int.ediv_lt_of_lt_mul (by omega) this
          omega
        omega
      omega
    · exact hi
theorem usefulS_bd {p : Pk} {need : List Int} {price size : Int} {K i : Nat} {pks : List Pk} (ht : TaskOk pks K) (hp : p ∈ pks) (hn : NeedOk need price size K i) : 0 ≤ usefulS p need ∧ usefulS p need ≤ 20 := by
  have h1 := useK_bd (p := p) (need := need) (K := K) (ht.num p hp) (fun k hk => (hn.num k hk).2) p.parts.length (by rw [ht.parts p hp]; exact Nat.le_refl _) (Nat.le_refl _)
  have h2 := ht.most p hp
  unfold usefulS
  omega
theorem need_next {p : Pk} {need : List Int} {price size : Int} {K i n : Nat} {pks : List Pk} (ht : TaskOk pks K) (hp : p ∈ pks) (hn : NeedOk need price size K i) (h : (n : Int) ≤ 20) : NeedOk (leftS need p.parts n) (price + n * p.price) (size + n) K (i + 1) := by
  have h2 := ht.price p hp
  have h3 := hn.price
  have h4 := hn.size
  have hpr : 0 ≤ (n : Int) * p.price ∧ (n : Int) * p.price ≤ 20 * 1048576 := ⟨Int.mul_nonneg (by omega) h2.1, Int.mul_le_mul h h2.2 h2.1 (by omega)⟩
  refine ⟨by unfold leftS; rw [leftJ_len]; exact hn.len, fun k hk => ?_, ⟨by omega, by push_cast; omega⟩, ⟨by omega, by push_cast; omega⟩⟩
  unfold leftS
  have hk2 : k < need.length := by rw [hn.len]; exact hk
  rw [leftJ_get _ _ _ _ hk2, if_pos hk2]
  have h5 := hn.num k hk
  have h6 : 0 ≤ p.parts.getD k 0 ∧ p.parts.getD k 0 ≤ 1048576 := ht.num p hp _ (by rw [List.getD_eq_getElem?_getD, List.getElem?_eq_getElem (by rw [ht.parts p hp]; exact hk)]; simp)
  have h7 : 0 ≤ (n : Int) * p.parts.getD k 0 ∧ (n : Int) * p.parts.getD k 0 ≤ 20 * 1048576 := ⟨Int.mul_nonneg (by omega) h6.1, Int.mul_le_mul h h6.2 h6.1 (by omega)⟩
  push_cast
  omega
theorem buyS_len (pks : List Pk) : ∀ f need price size s, (buyS pks f need price size s).1.length = s.1.length := by
  intro f
  induction f with
  | zero =>
    intro need price size s
    unfold buyS stopS
    split
    · rfl
    · split <;> rfl
  | succ f ih =>
    intro need price size s
    unfold buyS stopS
    split
    · rfl
    · split
      · rfl
      · simp only [Option.getD_none]
        generalize (usefulS (pks.getD (pks.length - (f + 1)) pk0) need + 1).toNat = u
        induction u with
        | zero => rfl
        | succ u iu =>
          show (buyS pks f _ _ _ _).1.length = _
          rw [ih, List.length_set]
          exact iu
/-- the example of the chapter -/
def threeP : List Pk := [⟨[1, 0], 5, 9⟩, ⟨[0, 1], 4, 9⟩, ⟨[2, 2], 12, 9⟩]
theorem three_best : (buyS threeP 3 [3, 2] 0 0 ([0, 0, 0], ⟨[], 0, 0, false⟩)).2.price = 17 ∧ (buyS threeP 3 [3, 2] 0 0 ([0, 0, 0], ⟨[], 0, 0, false⟩)).2.found = true := by decide +kernel
end Go.Proofs.Ytechakkdcllgoaa
/- The search for the best order: the contract of the closure that calls itself. -/
namespace Go.Proofs.Ytechakkdcllgoaa
open Go.RowKit

theorem infoIn : (Try.prog.info? 3).map (fun i => (i.zero, i.size, i.bytes)) = some (some (.int .i64 0), 1, 8) := by kernel_rfl
theorem sizeIn : (Try.prog.info? 3).map (·.size) = some 1 := by kernel_rfl
/-- copy of numbers into a block of the call's own, by its run -/
theorem run_copyI {P : Program} (w : World) (T : TypeId) (elem : TypeId) (hu : P.underlying T = some (.slice elem)) (hsz : (P.info? elem).map (·.size) = some 1)
    (g dLen dCap : Nat) (sp : Option Addr) (sLen sCap : Nat) (cs : List Int) (hn : cs.length = Nat.min sLen dLen) (hsrc : CellsI w sp cs) (hc : ∀ j, j < cs.length → (w.cell? ⟨g, j, none⟩).isSome = true) (hf : ∀ j, j < cs.length → w.frozen? ⟨g, j, none⟩ = false) (ty : TypeId) :
    (Builtin.copy_ #[T, T] ty #[.slice (some ⟨g, 0, none⟩) dLen dCap, .slice sp sLen sCap]).run P w = .ok (goInt cs.length) (w.setCells g 0 (vals cs)) := by
  by_cases h0 : cs.length = 0
  · have hz : cs = [] := List.eq_nil_of_length_eq_zero h0
    subst hz
    exact run_copy_none w T T ty elem (some ⟨g, 0, none⟩) sp dLen dCap sLen sCap hu hsz (by simpa using hn.symm)
  · obtain ⟨b, off, rfl, _⟩ := hsrc 0 (by omega)
    have hv : (vals cs).length = cs.length := by simp [vals]
    have := run_copy_cells (P := P) w T T ty elem g 0 dLen dCap ⟨b, off, none⟩ sLen sCap (vals cs) hu hsz (by rw [hv, hn]) (fun j v hj => by
      have hjl : j < cs.length := by rw [← hv]; exact (List.getElem?_eq_some_iff.1 hj).1
      obtain ⟨b', off', h1, h2⟩ := hsrc j hjl
      cases h1
      rw [Addr.add_lit, h2, ← hj]
      simp [vals, List.getD, hjl]) (fun j hj => by rw [Nat.zero_add]; exact hc j (by rwa [hv] at hj)) (fun j hj => by rw [Nat.zero_add]; exact hf j (by rwa [hv] at hj)) (fun v hv2 => by
      obtain ⟨x, _, rfl⟩ := List.mem_map.1 hv2; rfl)
    rw [hv] at this
    exact this

/-- the numbers l lie in the block b, from its head on -/
def ArrI (w : World) (b : Nat) (l : List Int) : Prop := ∀ j, j < l.length → w.cell? ⟨b, j, none⟩ = some (.int .i64 (l.getD j 0)) ∧ w.frozen? ⟨b, j, none⟩ = false
theorem ArrI.cells {w : World} {b : Nat} {l : List Int} (h : ArrI w b l) : CellsI w (some ⟨b, 0, none⟩) l := fun i hi => ⟨b, 0, rfl, by rw [Nat.zero_add]; exact (h i hi).1⟩
theorem ArrI.set {w : World} {b : Nat} {l : List Int} (h : ArrI w b l) {i : Nat} (hi : i < l.length) (x : Int) : ArrI (w.setCell ⟨b, i, none⟩ (.int .i64 x)) b (l.set i x) := fun j hj => by
  rw [List.length_set] at hj
  refine ⟨?_, by rw [World.frozen?_setCell]; exact (h j hj).2⟩
  have hg : (l.set i x).getD j 0 = if j = i then x else l.getD j 0 := by
    rw [List.getD_eq_getElem?_getD, List.getElem?_set]
    by_cases e : i = j
    · subst e; simp [hi]
    · rw [if_neg e, if_neg (fun h => e h.symm), List.getD_eq_getElem?_getD]
  rw [hg]
  by_cases e : j = i
  · subst e; rw [World.cell?_setCell_same _ _ _ (h j hj).1, if_pos rfl]
  · rw [World.cell?_setCell_other _ _ _ _ (fun h => e (by simp only [Addr.mk.injEq, true_and, and_true] at h; exact h.symm)), (h j hj).1, if_neg e]
theorem ArrI.same {w w' : World} {b : Nat} {l : List Int} (h : ArrI w b l) (he : w'.heap[b]? = w.heap[b]?) : ArrI w' b l := fun j hj =>
  ⟨(World.cell?_of_block (w := w) (a := ⟨b, j, none⟩) he).trans (h j hj).1, (World.frozen?_of_block (w := w) (a := ⟨b, j, none⟩) he).trans (h j hj).2⟩
theorem ArrI.lt {w : World} {b : Nat} {l : List Int} (h : ArrI w b l) (hl : 0 < l.length) : b < w.heap.size := cell_lt (h 0 hl).1
theorem ArrI.lay {w : World} {b : Nat} {l cs : List Int} (h : ArrI w b l) (hc : cs.length ≤ l.length) : ArrI (w.setCells b 0 (vals cs)) b (cs ++ l.drop cs.length) := fun j hj => by
  rw [List.length_append, List.length_drop] at hj
  have hv : (vals cs).length = cs.length := by simp [vals]
  refine ⟨?_, by rw [World.frozen?_setCells]; exact (h j (by omega)).2⟩
  by_cases e : j < cs.length
  · have := World.cell?_setCells_in b (vals cs) 0 w (fun t ht => by rw [Nat.zero_add, (h t (by omega)).1]; rfl) j (by omega)
    rw [Nat.zero_add] at this
    rw [this, List.getD_eq_getElem?_getD, List.getElem?_append_left e]
    simp [vals, e]
  · rw [World.cell?_setCells_out b _ 0 w _ (fun _ _ => Or.inr (by rw [hv]; dsimp only; omega)), (h j (by omega)).1, List.getD_eq_getElem?_getD, List.getD_eq_getElem?_getD, List.getElem?_append_right (by omega), List.getElem?_drop, show cs.length + (j - cs.length) = j by omega]
theorem CellsI.chg2 {B : Nat → Prop} {w w' : World} {a : Option Addr} {l : List Int} (h : CellsI w a l) (he : Chg B w w') (hm : ∀ b off, a = some ⟨b, off, none⟩ → ¬ B b) : CellsI w' a l := fun i hi => by
  obtain ⟨b, off, h1, h2⟩ := h i hi
  exact ⟨b, off, h1, (World.cell?_of_block (w := w) (a := ⟨b, _, none⟩) (he.2 b (cell_lt h2) (hm b off h1))).trans h2⟩

/-- the two blocks that the search writes -/
def BX (bb nwb : Nat) : Nat → Prop := fun k => k = bb ∨ k = nwb
def buyV (bb nb xb fb : Nat) : Value := .func (.func 25) #[] #[.pointer (some ⟨bb, 0, none⟩), .pointer (some ⟨nb, 0, none⟩), .pointer (some ⟨xb, 0, none⟩), .pointer (some ⟨fb, 0, none⟩)]
/-- a list of packages in memory, away from what is written -/
def PksAt (w : World) (X : Nat → Prop) (pa : Option Addr) (K : Nat) (pks : List Pk) : Prop :=
  ∀ i, i < pks.length → ∃ b off ai ci, pa = some ⟨b, off, none⟩ ∧ w.cell? ⟨b, off + i * 3, none⟩ = some (.slice ai K ci) ∧ w.cell? ⟨b, off + i * 3 + 1, none⟩ = some (.int .i64 (pks.getD i pk0).price) ∧ w.cell? ⟨b, off + i * 3 + 2, none⟩ = some (.int .i64 (pks.getD i pk0).most) ∧ CellsI w ai (pks.getD i pk0).parts ∧ ¬ X b ∧ ∀ b' o', ai = some ⟨b', o', none⟩ → ¬ X b'
theorem cell_chg {X : Nat → Prop} {A B : World} (c : Chg X A B) {b o : Nat} {v : Value} (h : A.cell? ⟨b, o, none⟩ = some v) (hn : ¬ X b) : B.cell? ⟨b, o, none⟩ = some v :=
  (World.cell?_of_block (w := A) (a := ⟨b, o, none⟩) (c.2 b (cell_lt h) hn)).trans h
theorem PksAt.chg {A B : World} {X : Nat → Prop} {pa : Option Addr} {K : Nat} {pks : List Pk} (h : PksAt A X pa K pks) (c : Chg X A B) : PksAt B X pa K pks := fun i hi => by
  obtain ⟨b, off, ai, ci, h1, h2, h3, h4, h5, h6, h7⟩ := h i hi
  exact ⟨b, off, ai, ci, h1, cell_chg c h2 h6, cell_chg c h3 h6, cell_chg c h4 h6, h5.chg2 c h7, h6, h7⟩
structure EnvB (w : World) (pks : List Pk) (K xb nb fb bb nwb : Nat) (pa : Option Addr) (pc : Nat) : Prop where
  x0 : w.cell? ⟨xb, 0, none⟩ = some (.slice pa pks.length pc)
  n0 : w.cell? ⟨nb, 0, none⟩ = some (.slice (some ⟨nwb, 0, none⟩) pks.length pks.length)
  f0 : w.cell? ⟨fb, 0, none⟩ = some (buyV bb nb xb fb)
  pk : PksAt w (BX bb nwb) pa K pks
  xn : ¬ BX bb nwb xb
  nn : ¬ BX bb nwb nb
  fn : ¬ BX bb nwb fb
theorem EnvB.chg {A B : World} {pks : List Pk} {K xb nb fb bb nwb : Nat} {pa : Option Addr} {pc : Nat} (h : EnvB A pks K xb nb fb bb nwb pa pc) (c : Chg (BX bb nwb) A B) : EnvB B pks K xb nb fb bb nwb pa pc :=
  ⟨cell_chg c h.x0 h.xn, cell_chg c h.n0 h.nn, cell_chg c h.f0 h.fn, h.pk.chg c, h.xn, h.nn, h.fn⟩
structure StB (w : World) (bb nwb : Nat) (now : List Int) (b : Bst) : Prop where
  nw : ArrI w nwb now
  o : ∃ oa oc, w.cell? ⟨bb, 0, none⟩ = some (.slice oa b.order.length oc) ∧ CellsI w oa b.order ∧ ∀ b' o', oa = some ⟨b', o', none⟩ → ¬ BX bb nwb b'
  p : w.cell? ⟨bb, 1, none⟩ = some (.int .i64 b.price)
  s : w.cell? ⟨bb, 2, none⟩ = some (.int .i64 b.size)
  f : w.cell? ⟨bb, 3, none⟩ = some (.bool b.found)
  z0 : w.frozen? ⟨bb, 0, none⟩ = false
  z1 : w.frozen? ⟨bb, 1, none⟩ = false
  z2 : w.frozen? ⟨bb, 2, none⟩ = false
  z3 : w.frozen? ⟨bb, 3, none⟩ = false
  ne : bb ≠ nwb
theorem StB.ext {A B : World} {bb nwb : Nat} {now : List Int} {b : Bst} (h : StB A bb nwb now b) (x : Ext A B) (hn : 0 < now.length) : StB B bb nwb now b := by
  obtain ⟨oa, oc, o1, o2, o3⟩ := h.o
  exact ⟨h.nw.same (Below.block x nwb (h.nw.lt hn)), ⟨oa, oc, x.cell o1, o2.ext x, o3⟩, x.cell h.p, x.cell h.s, x.cell h.f,
    (Below.frozen (p := ⟨bb, 0, none⟩) x (cell_lt o1)).trans h.z0, (Below.frozen (p := ⟨bb, 1, none⟩) x (cell_lt h.p)).trans h.z1, (Below.frozen (p := ⟨bb, 2, none⟩) x (cell_lt h.s)).trans h.z2, (Below.frozen (p := ⟨bb, 3, none⟩) x (cell_lt h.f)).trans h.z3, h.ne⟩
theorem buyS_stop {pks : List Pk} {f : Nat} {need : List Int} {price size : Int} {s r : List Int × Bst} (h : stopS need price size f s = some r) : buyS pks f need price size s = r := by
  cases f <;> (unfold buyS; rw [h]; rfl)
theorem buyS_zero {pks : List Pk} {need : List Int} {price size : Int} {s : List Int × Bst} (h : stopS need price size 0 s = none) : buyS pks 0 need price size s = s := by unfold buyS; rw [h]; rfl
theorem buyS_succ {pks : List Pk} {f : Nat} {need : List Int} {price size : Int} {s : List Int × Bst} (h : stopS need price size (f + 1) s = none) : buyS pks (f + 1) need price size s =
    iterS (fun n t => buyS pks f (leftS need (pks.getD (pks.length - (f + 1)) pk0).parts n) (price + n * (pks.getD (pks.length - (f + 1)) pk0).price) (size + n) (t.1.set (pks.length - (f + 1)) n, t.2)) s (usefulS (pks.getD (pks.length - (f + 1)) pk0) need + 1).toNat := by
  conv => lhs; unfold buyS
  rw [h]; rfl
end Go.Proofs.Ytechakkdcllgoaa
/- How many of a package are of use. -/
namespace Go.Proofs.Ytechakkdcllgoaa
open Go.RowKit

set_option maxHeartbeats 2000000 in
theorem useful_any (p : Pk) (need : List Int) (K : Nat) (ai na : Option Addr) (ci nc : Nat) (w : World) (hK : p.parts.length = K) (hn : need.length = K) (hk : K ≤ 16) (hp : ∀ x ∈ p.parts, 0 ≤ x ∧ x ≤ 1048576) (hb : ∀ k, k < K → -1000000000 ≤ need.getD k 0 ∧ need.getD k 0 ≤ 20) (hc : CellsI w ai p.parts) (hd : CellsI w na need) :
    Calls Try.prog 29 #[.agg #[.slice ai K ci, .int .i64 p.price, .int .i64 p.most], .slice na K nc] w fun e w' => e = .returned (.int .i64 (usefulS p need)) ∧ Ext w w' := by
  have HC := Lib.hid hc
  have HD := Lib.hid hd
  have HP := Lib.hid hp
  have HB := Lib.hid hb
  have HK := Lib.hid hK
  have HN := Lib.hid hn
  have HU : Hid (∀ k, k ≤ K → 0 ≤ useK p need k ∧ useK p need k ≤ 20) := fun k hk2 => useK_bd (K := K) hp (fun j hj => (hb j hj).2) k hk2 (by omega)
  have HV : Hid (usefulS p need = min (useK p need K) p.most) := by show _ = _; unfold usefulS; rw [hK]
  have E0 : Ext w (w.alloc (.cells #[.slice ai K ci, .int .i64 p.price, .int .i64 p.most] 79)) := (Ext.refl _).alloc _
  have a1 : (w.alloc (.cells #[.slice ai K ci, .int .i64 p.price, .int .i64 p.most] 79)).cell? ⟨w.heap.size, 0, none⟩ = some (.slice ai K ci) := by go_simp
  have a2 : (w.alloc (.cells #[.slice ai K ci, .int .i64 p.price, .int .i64 p.most] 79)).cell? ⟨w.heap.size, 2, none⟩ = some (.int .i64 p.most) := by go_simp
  clear hc hd hp hb hK hn
  go_enter Try.func29, Try.ntmps29
  go_wp2
  generalize w.alloc (.cells #[.slice ai K ci, .int .i64 p.price, .int .i64 p.most] 79) = W at E0 a1 a2 ⊢
  go_loopw [5, 11] (fun m i wr => ∃ k : Nat, k ≤ K ∧ i = .int .i64 k ∧ m = .int .i64 (useK p need k) ∧ Ext W wr) (fun _ i _ => K - (intOf i).toNat)
  case atStart => exact ⟨0, Nat.zero_le _, rfl, rfl, Ext.refl _⟩
  case round =>
    obtain ⟨k, hkk, rfl, rfl, he⟩ := hrel
    have hu := HU.out k hkk
    by_cases hlt : k < K
    · have hlt' : (k : Int) < (K : Int) := by omega
      obtain ⟨b1, o1, rfl, c1⟩ := HC.out.ext (E0.trans he) k (by rw [HK.out]; exact hlt)
      obtain ⟨b2, o2, rfl, c2⟩ := HD.out.ext (E0.trans he) k (by rw [HN.out]; exact hlt)
      have hy : 0 ≤ p.parts.getD k 0 ∧ p.parts.getD k 0 ≤ 1048576 := HP.out _ (by have h := HK.out; rw [List.getD_eq_getElem?_getD, List.getElem?_eq_getElem (show k < p.parts.length by omega)]; simp)
      have hx := HB.out k hlt
      have hu1 := HU.out (k + 1) (by omega)
      have hst : useK p need (k + 1) = if 0 < p.parts.getD k 0 ∧ 0 < need.getD k 0 then max (useK p need k) ((need.getD k 0 + p.parts.getD k 0 - 1).tdiv (p.parts.getD k 0)) else useK p need k := rfl
      rw [hst] at hu1
      generalize p.parts.getD k 0 = y at c1 hy hst hu1
      generalize need.getD k 0 = x at c2 hx hst hu1
      generalize useK p need k = m at hu hst hu1 ⊢
      have z1 := cell_lt c1
      have z2 := cell_lt c2
      dsimp only at z1 z2
      by_cases h1 : 0 < y
      · by_cases h2 : 0 < x
        · rw [if_pos ⟨h1, h2⟩] at hst hu1
          have q1 : IntKind.i64.wrap (x + y) = x + y := IntWalk.i64_in _ (by omega)
          have q2 : IntKind.i64.wrap (x + y - 1) = x + y - 1 := IntWalk.i64_in _ (by omega)
          have q3 : (y == 0) = false := by simp; omega
          have q4 : ¬ y = 0 := by omega
          have hdv : 0 ≤ (x + y - 1).tdiv y ∧ (x + y - 1).tdiv y ≤ 20 := by
            refine ⟨?_, by omega⟩
            rw [Int.tdiv_eq_ediv_of_nonneg (by omega)]
            exact Int.ediv_nonneg (by omega) (by omega)
          have q6 : (x + y - 1).tdiv y = (x + y - 1) / y := Int.tdiv_eq_ediv_of_nonneg (by omega)
          generalize hd : (x + y - 1).tdiv y = d at hst hdv q6
          have q5 : IntKind.i64.wrap d = d := IntWalk.i64_in _ (by omega)
          have HST := Lib.hid hst
          have q7 := q6.symm
          clear hst hu1 q6
          go_wp2
          all_goals refine ⟨⟨k + 1, by omega, by go_num, ?_, he⟩, by simp [intOf]; omega⟩
          all_goals (first | (rw [HST.out]; done) | (rw [HST.out]; congr 1; omega))
        · rw [if_neg (fun h => h2 h.2)] at hst
          have HST := Lib.hid hst
          clear hst hu1
          go_wp2
          exact ⟨⟨k + 1, by omega, by go_num, by rw [HST.out], he⟩, by simp [intOf]; omega⟩
      · rw [if_neg (fun h => h1 h.1)] at hst
        have HST := Lib.hid hst
        clear hst hu1
        go_wp2
        exact ⟨⟨k + 1, by omega, by go_num, by rw [HST.out], he⟩, by simp [intOf]; omega⟩
    · have hke : k = K := by omega
      subst hke
      have a1 := he.cell a1
      have a2 := he.cell a2
      have hlt' : ¬ (k : Int) < (k : Int) := by omega
      generalize useK p need k = m at hu HV ⊢
      go_wp2
      all_goals go_ret
      all_goals exact ⟨ret_int (by rw [HV.out]; omega), E0.trans he⟩
end Go.Proofs.Ytechakkdcllgoaa
/- The search for the best order: the walk of the closure. -/
namespace Go.Proofs.Ytechakkdcllgoaa
open Go.RowKit

theorem ArrI.upd {w : World} {b : Nat} {l : List Int} (h : ArrI w b l) {w' : World} (he : w'.heap[b]? = w.heap[b]?) : ArrI w' b l := h.same he
/-- a new record of the best order -/
theorem StB.put {w : World} {bb nwb : Nat} {now : List Int} {b : Bst} (h : StB w bb nwb now b) (hn : 0 < now.length) (ord : List Int) (price size : Int) (ob c : Nat) (ho : ArrI w ob ord) (hx : ¬ BX bb nwb ob) :
    StB ((((w.setCell ⟨bb, 0, none⟩ (.slice (some ⟨ob, 0, none⟩) ord.length c)).setCell ⟨bb, 1, none⟩ (.int .i64 price)).setCell ⟨bb, 2, none⟩ (.int .i64 size)).setCell ⟨bb, 3, none⟩ (.bool true)) bb nwb now ⟨ord, price, size, true⟩ ∧
    Chg (BX bb nwb) w ((((w.setCell ⟨bb, 0, none⟩ (.slice (some ⟨ob, 0, none⟩) ord.length c)).setCell ⟨bb, 1, none⟩ (.int .i64 price)).setCell ⟨bb, 2, none⟩ (.int .i64 size)).setCell ⟨bb, 3, none⟩ (.bool true)) := by
  obtain ⟨oa, oc, o1, _, _⟩ := h.o
  have s1 : w.cell? ⟨bb, 1, none⟩ = some (.int .i64 b.price) := h.p
  have s2 := h.s
  have s3 := h.f
  have c1 : Chg (fun k => k = bb) w ((((w.setCell ⟨bb, 0, none⟩ (.slice (some ⟨ob, 0, none⟩) ord.length c)).setCell ⟨bb, 1, none⟩ (.int .i64 price)).setCell ⟨bb, 2, none⟩ (.int .i64 size)).setCell ⟨bb, 3, none⟩ (.bool true)) :=
    (((Chg.setCell (B := fun k => k = bb) ⟨bb, 0, none⟩ _ rfl).trans (Chg.setCell (B := fun k => k = bb) ⟨bb, 1, none⟩ _ rfl)).trans (Chg.setCell (B := fun k => k = bb) ⟨bb, 2, none⟩ _ rfl)).trans (Chg.setCell (B := fun k => k = bb) ⟨bb, 3, none⟩ _ rfl)
  have hob : ob ≠ bb := fun e => hx (.inl e)
  refine ⟨⟨h.nw.same (c1.2 nwb (h.nw.lt hn) (fun e => h.ne e.symm)), ⟨some ⟨ob, 0, none⟩, c, ?_, ?_, fun b' o' e => (by cases e; exact hx)⟩, ?_, ?_, ?_, ?_, ?_, ?_, ?_, h.ne⟩, ⟨c1.1, fun k hk hn => c1.2 k hk (fun e => hn (.inl e))⟩⟩
  · go_simp
  · exact ArrI.cells (fun j hj => by
      obtain ⟨a1, a2⟩ := ho j hj
      exact ⟨(World.cell?_of_block (w := w) (a := ⟨ob, j, none⟩) (c1.2 ob (cell_lt a1) hob)).trans a1, (World.frozen?_of_block (w := w) (a := ⟨ob, j, none⟩) (c1.2 ob (cell_lt a1) hob)).trans a2⟩)
  · go_simp
  · go_simp
  · go_simp
  · simp only [World.frozen?_setCell]; exact h.z0
  · simp only [World.frozen?_setCell]; exact h.z1
  · simp only [World.frozen?_setCell]; exact h.z2
  · simp only [World.frozen?_setCell]; exact h.z3

theorem set_below (b : Nat) : ∀ (vs : List Value) (o : Nat) (w : World), Below b w (w.setCells b o vs) ∧ Chg (fun k => k = b) w (w.setCells b o vs) := by
  intro vs
  induction vs with
  | nil => intro o w; exact ⟨Below.refl _ _, Chg.refl _ _⟩
  | cons v r ih =>
    intro o w
    obtain ⟨h1, h2⟩ := ih (o + 1) (w.setCell ⟨b, o, none⟩ v)
    exact ⟨Below.trans ((Below.refl _ _).setCell (p := ⟨b, o, none⟩) (Nat.le_refl _) _) h1, (Chg.setCell (B := fun k => k = b) ⟨b, o, none⟩ v rfl).trans h2⟩
theorem CellsI.take {w : World} {a : Option Addr} {l : List Int} (h : CellsI w a l) (k : Nat) : CellsI w a (l.take k) := fun i hi => by
  rw [List.length_take] at hi
  obtain ⟨b, off, h1, h2⟩ := h i (by omega)
  exact ⟨b, off, h1, by rw [h2, List.getD_eq_getElem?_getD, List.getD_eq_getElem?_getD, List.getElem?_take_of_lt (by omega)]⟩
theorem ext_getD2 {l m : List Int} (h : l.length = m.length) (k : ∀ i, i < l.length → l.getD i 0 = m.getD i 0) : l = m := by
  refine List.ext_getElem h fun i h1 h2 => ?_
  have := k i h1
  simpa [List.getD, h1, h2] using this
theorem getD_set2 (l : List Int) (i : Nat) (x : Int) (j : Nat) (hi : i < l.length) : (l.set i x).getD j 0 = if j = i then x else l.getD j 0 := by
  rw [List.getD_eq_getElem?_getD, List.getElem?_set]
  by_cases e : i = j
  · subst e; simp [hi]
  · rw [if_neg e, if_neg (fun h => e h.symm), List.getD_eq_getElem?_getD]
theorem leftJ_set {need parts : List Int} {n : Int} {j : Nat} (hj : j < need.length) : (leftJ need parts n j).set j (need.getD j 0 - n * parts.getD j 0) = leftJ need parts n (j + 1) := by
  refine ext_getD2 (by rw [List.length_set, leftJ_len, leftJ_len]) fun k hk => ?_
  rw [List.length_set, leftJ_len] at hk
  rw [getD_set2 _ _ _ _ (by rw [leftJ_len]; exact hj), leftJ_get _ _ _ _ hk, leftJ_get _ _ _ _ hk]
  by_cases e : k = j
  · subst e
    rw [if_pos rfl, if_pos (by omega)]
  · rw [if_neg e]
    by_cases h : k < j
    · rw [if_pos h, if_pos (by omega)]
    · rw [if_neg h, if_neg (by omega)]
theorem leftJ_zero (need parts : List Int) (n : Int) : leftJ need parts n 0 = need := by
  refine ext_getD2 (by rw [leftJ_len]) fun k hk => ?_
  rw [leftJ_len] at hk
  rw [leftJ_get _ _ _ _ hk, if_neg (by omega)]
theorem StB.now {w : World} {bb nwb : Nat} {now : List Int} {b : Bst} (h : StB w bb nwb now b) {i : Nat} (hi : i < now.length) (x : Int) : StB (w.setCell ⟨nwb, i, none⟩ (.int .i64 x)) bb nwb (now.set i x) b ∧ Chg (BX bb nwb) w (w.setCell ⟨nwb, i, none⟩ (.int .i64 x)) := by
  have c : Chg (fun k => k = nwb) w (w.setCell ⟨nwb, i, none⟩ (.int .i64 x)) := Chg.setCell (B := fun k => k = nwb) ⟨nwb, i, none⟩ _ rfl
  obtain ⟨oa, oc, o1, o2, o3⟩ := h.o
  have hb := c.2 bb (cell_lt h.p) h.ne
  refine ⟨⟨h.nw.set hi x, ⟨oa, oc, cell_chg c o1 h.ne, o2.chg2 c (fun b' o' e e2 => o3 b' o' e (.inr e2)), o3⟩, cell_chg c h.p h.ne, cell_chg c h.s h.ne, cell_chg c h.f h.ne, ?_, ?_, ?_, ?_, h.ne⟩, ⟨c.1, fun k hk hn => c.2 k hk (fun e => hn (.inr e))⟩⟩
  · rw [World.frozen?_setCell]; exact h.z0
  · rw [World.frozen?_setCell]; exact h.z1
  · rw [World.frozen?_setCell]; exact h.z2
  · rw [World.frozen?_setCell]; exact h.z3

set_option maxHeartbeats 8000000 in
set_option maxRecDepth 100000 in
theorem buy_any {pks : List Pk} {K xb nb fb bb nwb : Nat} {pa : Option Addr} {pc : Nat} (ht : TaskOk pks K) (m0 : Nat) (hm1 : m0 ≤ bb) (hm2 : m0 ≤ nwb) (hpos : 0 < pks.length) : ∀ (f i : Nat), i + f = pks.length → ∀ (need : List Int) (price size : Int) (na : Option Addr) (nc : Nat) (now : List Int) (b : Bst) (w : World),
    NeedOk need price size K i → now.length = pks.length → EnvB w pks K xb nb fb bb nwb pa pc → StB w bb nwb now b → CellsI w na need → (∀ b' o', na = some ⟨b', o', none⟩ → ¬ BX bb nwb b') →
    Calls Try.prog 25 #[.int .i64 i, .slice na K nc, .int .i64 price, .int .i64 size, .pointer (some ⟨bb, 0, none⟩), .pointer (some ⟨nb, 0, none⟩), .pointer (some ⟨xb, 0, none⟩), .pointer (some ⟨fb, 0, none⟩)] w fun e w' =>
      e = .returned (.tuple #[]) ∧ StB w' bb nwb (buyS pks f need price size (now, b)).1 (buyS pks f need price size (now, b)).2 ∧ Chg (BX bb nwb) w w' ∧ Below m0 w w' := by
  intro f
  induction f using Nat.strongRecOn with
  | ind f ih =>
    intro i hif need price size na nc now b w hno hnl he hs hc hna
    have IH : Hid _ := ih
    have HT := Lib.hid ht
    have HNO := Lib.hid hno
    have HNL := Lib.hid hnl
    have HE := Lib.hid he
    have HS := Lib.hid hs
    have HC := Lib.hid hc
    have HNA := Lib.hid hna
    obtain ⟨N, hN⟩ : ∃ N, N = pks.length := ⟨_, rfl⟩
    have HN := Lib.hid hN
    rw [← hN] at hif hpos
    have hN5 : N ≤ 5 := by rw [hN]; exact ht.len
    have hK16 := ht.kinds
    have hm0 : m0 ≤ w.heap.size := by have := cell_lt hs.p; dsimp only at this; omega
    clear ih hno hnl he hs hc hna hN ht
    go_enter Try.func25, Try.ntmps25
    go_wp2_with fail
    refine (better_any bb b.found b.price b.size price size _ HS.out.p HS.out.s HS.out.f).mono ?_
    rintro e w1 ⟨rfl, hE⟩
    have hnp : 0 < now.length := by rw [HNL.out, ← HN.out]; exact hpos
    have HNP := Lib.hid hnp
    have HS1 := Lib.hid (HS.out.ext hE hnp)
    have HE1 := Lib.hid (HE.out.chg (Chg.ext hE))
    have HC1 := Lib.hid (HC.out.ext hE)
    have HX1 := Lib.hid hE
    clear hE hnp HS HE HC
    cases hbt : betterS b.found b.price b.size price size
    · have HR : Hid (buyS pks f need price size (now, b) = (now, b)) := buyS_stop (by unfold stopS; rw [if_pos hbt])
      go_wp2
      (try simp only [Exit.inBlock, Exit.then])
      refine bodyPost_ret (results_none rfl _ _ _) rfl ⟨rfl, ?_, Chg.ext HX1.out, HX1.out.mono hm0⟩
      rw [HR.out]; exact HS1.out
    · have HBT := Lib.hid hbt
      clear hbt
      go_wp2_with fail
      refine (ContainsPos_any need K na nc _ HNO.out.len.symm (by unfold maxLen; omega) HC1.out).mono ?_
      rintro e w2 ⟨rfl, hE⟩
      have HS2 := Lib.hid (HS1.out.ext hE HNP.out)
      have HE2 := Lib.hid (HE1.out.chg (Chg.ext hE))
      have HC2 := Lib.hid (HC1.out.ext hE)
      have HX2 := Lib.hid (HX1.out.trans hE)
      have n0 : w2.cell? ⟨nb, 0, none⟩ = some (.slice (some ⟨nwb, 0, none⟩) N N) := by have := HE2.out.n0; rwa [← HN.out] at this
      have zn := cell_lt n0
      dsimp only at zn
      clear hE HS1 HE1 HC1 HX1
      cases hap : need.any isPos
      · have HR : Hid (buyS pks f need price size (now, b) = (now, ⟨now.take i ++ List.replicate f 0, price, size, true⟩)) := buyS_stop (by
          unfold stopS
          rw [if_neg (by rw [HBT.out]; simp), if_pos hap]
          dsimp only
          rw [HNL.out, ← HN.out, show N - f = i by omega])
        clear hap
        obtain ⟨i0, hi, hi0, hi1, hi2⟩ := info_parts infoIn
        go_wp2_with (at_make; refine wpList_make_full _ rfl _ _ 52 rfl 0 3 i0 (.int .i64 0) 1 Try.underlying52 hi hi0 hi1 _ _ _ _ N rfl rfl rfl rfl ?b2 ?b3 ?b4 ?hK)
        case b2 => rw [hi2]; omega
        case b3 => unfold maxLen; omega
        case b4 => exact Nat.zero_le _
        case hK =>
          intro w3 hown hgr
          obtain ⟨ob, hob⟩ : ∃ ob, ob = w2.heap.size := ⟨_, rfl⟩
          have E3 : Ext w2 w3 := ⟨hgr.os, hgr.tape, hgr.output, hgr.size, fun k hk => hgr.block k hk (by simp)⟩
          have HA3 : Hid (ArrI w3 ob (List.replicate N 0)) := fun j hj => by
            rw [List.length_replicate] at hj
            rw [hob]
            refine ⟨?_, hown.frozenAt j⟩
            rw [hown.cellAt j (by omega)]
            simp [madeCells, hj, Nat.mod_one, List.getD]
          have hob1 : w2.heap.size ≤ ob := by omega
          have n0 := E3.cell n0
          have HS3 := Lib.hid (HS2.out.ext E3 HNP.out)
          have HX3 := Lib.hid (HX2.out.trans E3)
          have HE3 := Lib.hid E3
          rw [← hob]
          clear hob hown hgr E3 hi hi0 hi1 hi2 i0
          have j1 : (0 : Int) ≤ (i : Int) := Int.natCast_nonneg i
          have j2 : (i : Int) ≤ (N : Int) := by omega
          obtain ⟨W4, hW4⟩ : ∃ W, W = w3.setCells ob 0 (vals (now.take i)) := ⟨_, rfl⟩
          have hti : (now.take i).length = i := by rw [List.length_take, HNL.out, ← HN.out]; omega
          have hcp : ∀ ty, (Builtin.copy_ #[52, 52] ty #[.slice (some ⟨ob, 0, none⟩) N N, .slice (some ⟨nwb, 0, none⟩) i N]).run Try.prog w3 = .ok (goInt (i : Nat)) W4 := fun ty => by
            rw [hW4]
            have := run_copyI (P := Try.prog) w3 52 3 Try.underlying52 sizeIn ob N N (some ⟨nwb, 0, none⟩) i N (now.take i) (by rw [hti]; show i = min i N; omega) ((HS3.out.nw.cells).take i) (fun j hj => by rw [(HA3.out j (by rw [List.length_replicate]; omega)).1]; rfl) (fun j hj => (HA3.out j (by rw [List.length_replicate]; omega)).2) ty
            rw [hti] at this
            exact this
          have hA4 := HA3.out.lay (cs := now.take i) (by rw [hti, List.length_replicate]; omega)
          have he4 : now.take i ++ (List.replicate N (0 : Int)).drop (now.take i).length = now.take i ++ List.replicate f 0 := by rw [hti, List.drop_replicate, show N - i = f by omega]
          rw [he4] at hA4
          rw [← hW4] at hA4
          have E4 : Ext w2 W4 := by
            rw [hW4]
            exact Below.trans HE3.out ((set_below ob _ _ _).1.mono hob1)
          have hol : (now.take i ++ List.replicate f (0 : Int)).length = N := by rw [List.length_append, hti, List.length_replicate]; omega
          have HS4 := Lib.hid (HS2.out.ext E4 HNP.out)
          have HX4 := Lib.hid (HX2.out.trans E4)
          have HA4 := Lib.hid hA4
          have HOL := Lib.hid hol
          have hxo : ¬ BX bb nwb ob := fun h => by
            have h1 := cell_lt HS2.out.p
            have h2 := HS2.out.nw.lt HNP.out
            dsimp only at h1
            rcases h with h | h <;> omega
          have HXO := Lib.hid hxo
          clear hW4 hti hA4 he4 E4 hol hxo HS3 HX3 HE3 HA3 HS2 HX2
          generalize now.take i ++ List.replicate f (0 : Int) = ord at HA4 HOL HR
          obtain ⟨oa, oc, k0, _, _⟩ := HS4.out.o
          have k1 := HS4.out.p
          have k2 := HS4.out.s
          have k3 := HS4.out.f
          have f0 := HS4.out.z0
          have f1 := HS4.out.z1
          have f2 := HS4.out.z2
          have f3 := HS4.out.z3
          go_wp2
          (try simp only [Exit.inBlock, Exit.then])
          obtain ⟨p1, p2⟩ := HS4.out.put HNP.out ord price size ob N HA4.out HXO.out
          rw [HOL.out] at p1 p2
          refine bodyPost_ret (results_none rfl _ _ _) rfl ⟨rfl, ?_, (Chg.ext HX4.out).trans p2, ?_⟩
          · rw [HR.out]; exact p1
          · exact Below.setCell (p := ⟨bb, 3, none⟩) (Below.setCell (p := ⟨bb, 2, none⟩) (Below.setCell (p := ⟨bb, 1, none⟩) (Below.setCell (p := ⟨bb, 0, none⟩) (HX4.out.mono hm0) hm1 _) hm1 _) hm1 _) hm1 _
      · have HST : Hid (stopS need price size f (now, b) = none) := by
          show _ = _
          unfold stopS
          rw [if_neg (by rw [HBT.out]; simp), if_neg (by rw [hap]; simp)]
        clear hap
        cases f with
        | zero =>
          have hiN : (i : Int) = (N : Int) := by omega
          have hiN2 : ((i : Int) == (N : Int)) = true := by simp [hiN]
          have HR : Hid (buyS pks 0 need price size (now, b) = (now, b)) := buyS_zero HST.out
          go_wp2
          (try simp only [Exit.inBlock, Exit.then])
          refine bodyPost_ret (results_none rfl _ _ _) rfl ⟨rfl, ?_, Chg.ext HX2.out, HX2.out.mono hm0⟩
          rw [HR.out]; exact HS2.out
        | succ f =>
          have hiN : ¬ (i : Int) = (N : Int) := by omega
          have hiN2 : ((i : Int) == (N : Int)) = false := by simp [hiN]
          have hi' : i < pks.length := by rw [← HN.out]; omega
          have hidx : pks.length - (f + 1) = i := by rw [← HN.out]; omega
          have HR : Hid (buyS pks (f + 1) need price size (now, b) = iterS (fun n t => buyS pks f (leftS need (pks.getD i pk0).parts n) (price + n * (pks.getD i pk0).price) (size + n) (t.1.set i n, t.2)) (now, b) (usefulS (pks.getD i pk0) need + 1).toNat) := by
            have := buyS_succ (pks := pks) HST.out
            rw [hidx] at this
            exact this
          have hmem : pks.getD i pk0 ∈ pks := by rw [List.getD_eq_getElem?_getD, List.getElem?_eq_getElem hi']; simp
          obtain ⟨kb, koff, ai, ci, rfl, c1, c2, c3, c4, c5, c6⟩ := HE2.out.pk i hi'
          generalize pks.getD i pk0 = p at HR hmem c2 c3 c4
          have HMEM := Lib.hid hmem
          have HAI := Lib.hid c4
          have HAN := Lib.hid c6
          have hub := usefulS_bd HT.out hmem HNO.out
          have j0 : (0 : Int) ≤ (i : Int) := Int.natCast_nonneg i
          have j1 : (i : Int) < (N : Int) := by omega
          have x0 : w2.cell? ⟨xb, 0, none⟩ = some (.slice (some ⟨kb, koff, none⟩) N pc) := by have := HE2.out.x0; rwa [← HN.out] at this
          have zk := cell_lt c1
          have zx := cell_lt x0
          dsimp only at zk zx
          have hbw : bb < w2.heap.size ∧ nwb < w2.heap.size := ⟨cell_lt HS2.out.p, HS2.out.nw.lt HNP.out⟩
          have HBW := Lib.hid hbw
          clear hmem c4 c5 c6 hidx hi' hbw
          go_wp2_with fail
          have E3 : Ext w2 (w2.alloc (.cells #[.slice ai K ci, .int .i64 p.price, .int .i64 p.most] 79)) := (Ext.refl _).alloc _
          have y1 : (w2.alloc (.cells #[.slice ai K ci, .int .i64 p.price, .int .i64 p.most] 79)).cell? ⟨w2.heap.size, 0, none⟩ = some (.slice ai K ci) := by go_simp
          have y2 : (w2.alloc (.cells #[.slice ai K ci, .int .i64 p.price, .int .i64 p.most] 79)).cell? ⟨w2.heap.size, 1, none⟩ = some (.int .i64 p.price) := by go_simp
          have hno16 := HNO.out
          refine (useful_any p need K ai na ci nc _ (HT.out.parts p HMEM.out) HNO.out.len hK16 (HT.out.num p HMEM.out) (fun k hk => ⟨by have := (HNO.out.num k hk).1; omega, (HNO.out.num k hk).2⟩) (HAI.out.ext E3) (HC2.out.ext E3)).mono ?_
          rintro e w4 ⟨rfl, hE⟩
          have E4 := E3.trans hE
          have d1 := hE.cell y1
          have d2 := hE.cell y2
          have HS4 := Lib.hid (HS2.out.ext E4 HNP.out)
          have HE4 := Lib.hid (HE2.out.chg (Chg.ext E4))
          have HC4 := Lib.hid (HC2.out.ext E4)
          have HAI4 := Lib.hid (HAI.out.ext E4)
          have HX4 := Lib.hid (HX2.out.trans E4)
          have HP3 : Hid (¬ BX bb nwb w2.heap.size) := fun h => by have := HBW.out; rcases h with h | h <;> omega
          obtain ⟨pb, hpb⟩ : ∃ pb, pb = w2.heap.size := ⟨_, rfl⟩
          have HZ4 : Hid (bb < w4.heap.size ∧ nwb < w4.heap.size) := by have := HBW.out; have := E4.size; exact ⟨by omega, by omega⟩
          rw [← hpb] at d1 d2 HP3 ⊢
          clear hpb E3 E4 hE n0 zn c1 c2 c3 x0 zk zx HS2 HE2 HC2 HX2 HAI HBW hno16
          generalize hu : usefulS p need = u at hub HR ⊢
          obtain ⟨U, hU⟩ : ∃ U : Nat, (u + 1).toNat = U := ⟨_, rfl⟩
          rw [hU] at HR
          have huU : u + 1 = (U : Int) := by omega
          have q1 : IntKind.i64.wrap (u + 1) = (U : Int) := by rw [IntWalk.i64_in _ (by omega)]; exact huU
          have hU21 : U ≤ 21 := by omega
          clear hu hU huU hub
          obtain ⟨step, hstep⟩ : ∃ step : Nat → List Int × Bst → List Int × Bst, step = fun (n : Nat) (t : List Int × Bst) => buyS pks f (leftS need p.parts n) (price + n * p.price) (size + n) (t.1.set i n, t.2) := ⟨_, rfl⟩
          have HSTEP : Hid (∀ (n : Nat) (t : List Int × Bst), step n t = buyS pks f (leftS need p.parts n) (price + n * p.price) (size + n) (t.1.set i n, t.2)) := by rw [hstep]; exact fun _ _ => rfl
          rw [← hstep] at HR
          clear hstep
          go_wp2
          go_loopw [50] (fun t wr => ∃ n : Nat, n ≤ U ∧ t = .int .i64 n ∧ Hid (StB wr bb nwb (iterS step (now, b) n).1 (iterS step (now, b) n).2 ∧ (iterS step (now, b) n).1.length = N) ∧ Hid (Chg (BX bb nwb) w4 wr) ∧ Hid (Below m0 w4 wr)) (fun t _ => U - (intOf t).toNat)
          case atStart => exact ⟨0, Nat.zero_le _, rfl, ⟨HS4.out, by rw [HN.out]; exact HNL.out⟩, Chg.refl _ _, Below.refl _ _⟩
          case round =>
            obtain ⟨n, hnU, rfl, hst, hch, hbe⟩ := hrel
            by_cases hlt : n < U
            · have hlt' : (n : Int) < (U : Int) := by omega
              have HNX : Hid (iterS step (now, b) (n + 1) = buyS pks f (leftS need p.parts n) (price + n * p.price) (size + n) ((iterS step (now, b) n).1.set i n, (iterS step (now, b) n).2)) := HSTEP.out n _
              generalize iterS step (now, b) n = st at hst HNX
              generalize wr = V at hst hch hbe ⊢
              have HEV := Lib.hid (HE4.out.chg hch.out)
              have HCV := Lib.hid (HC4.out.chg2 hch.out HNA.out)
              have HAV := Lib.hid (HAI4.out.chg2 hch.out HAN.out)
              have d1 := cell_chg hch.out d1 HP3.out
              have d2 := cell_chg hch.out d2 HP3.out
              have HVZ : Hid (bb < V.heap.size ∧ nwb < V.heap.size ∧ m0 ≤ V.heap.size) := by have := HZ4.out; have := hch.out.1; exact ⟨by omega, by omega, by omega⟩
              obtain ⟨i0, hi, hi0, hi1, hi2⟩ := info_parts infoIn
              have hnn : (n : Int) ≤ 20 := by omega
              go_wp2_with (at_make; refine wpList_make_full _ rfl _ _ 52 rfl 0 3 i0 (.int .i64 0) 1 Try.underlying52 hi hi0 hi1 _ _ _ _ K rfl rfl rfl rfl ?b2 ?b3 ?b4 ?hK)
              case b2 => rw [hi2]; omega
              case b3 => unfold maxLen; omega
              case b4 => exact Nat.zero_le _
              case hK =>
                intro w5 hown hgr
                obtain ⟨lb, hlb⟩ : ∃ lb, lb = V.heap.size := ⟨_, rfl⟩
                have E5 : Ext V w5 := ⟨hgr.os, hgr.tape, hgr.output, hgr.size, fun k hk => hgr.block k hk (by simp)⟩
                have HA5 : Hid (ArrI w5 lb (List.replicate K 0)) := fun j hj => by
                  rw [List.length_replicate] at hj
                  rw [hlb]
                  refine ⟨?_, hown.frozenAt j⟩
                  rw [hown.cellAt j (by omega)]
                  simp [madeCells, hj, Nat.mod_one, List.getD]
                have HE5 := Lib.hid E5
                have HCW := Lib.hid (HCV.out.ext E5)
                have HLB := Lib.hid hlb
                rw [← hlb]
                clear hlb hown hgr E5 hi hi0 hi1 hi2 i0
                obtain ⟨W6, hW6⟩ : ∃ W, W = w5.setCells lb 0 (vals need) := ⟨_, rfl⟩
                have hcp : ∀ ty, (Builtin.copy_ #[52, 52] ty #[.slice (some ⟨lb, 0, none⟩) K K, .slice na K nc]).run Try.prog w5 = .ok (goInt (K : Nat)) W6 := fun ty => by
                  rw [hW6]
                  have := run_copyI (P := Try.prog) w5 52 3 Try.underlying52 sizeIn lb K K na K nc need (by rw [HNO.out.len]; exact (Nat.min_self K).symm) HCW.out (fun j hj => by rw [(HA5.out j (by rw [List.length_replicate, ← HNO.out.len]; exact hj)).1]; rfl) (fun j hj => (HA5.out j (by rw [List.length_replicate, ← HNO.out.len]; exact hj)).2) ty
                  rw [HNO.out.len] at this
                  exact this
                have hA6 := HA5.out.lay (cs := need) (by rw [List.length_replicate, HNO.out.len]; exact Nat.le_refl _)
                rw [HNO.out.len, List.drop_replicate, Nat.sub_self, List.replicate_zero, List.append_nil] at hA6
                rw [← hW6] at hA6
                have E6 : Ext V W6 := by
                  rw [hW6]
                  exact Below.trans HE5.out ((set_below lb _ _ _).1.mono (by rw [HLB.out]; exact Nat.le_refl _))
                have HA6 : Hid (ArrI W6 lb (leftJ need p.parts n 0)) := by rw [leftJ_zero]; exact hA6
                have HE6 := Lib.hid E6
                have HAV6 := Lib.hid (HAV.out.ext E6)
                have d1' := E6.cell d1
                clear hW6 hA6 E6 HE5 HCW HA5
                have zd := cell_lt d1'
                dsimp only at zd
                go_wp2
                go_loopw [62] (fun t wz => ∃ j : Nat, j ≤ K ∧ t = .int .i64 j ∧ Hid (ArrI wz lb (leftJ need p.parts n j)) ∧ Hid (Ext V wz)) (fun t _ => K - (intOf t).toNat)
                case atStart => exact ⟨0, Nat.zero_le _, rfl, HA6.out, HE6.out⟩
                case round =>
                  obtain ⟨j, hj, rfl, ha, hx⟩ := hrel
                  by_cases hjl : j < K
                  · have hjl' : (j : Int) < (K : Int) := by omega
                    have hjn : j < need.length := by rw [HNO.out.len]; exact hjl
                    obtain ⟨e1, e2⟩ := ha.out j (by rw [leftJ_len]; exact hjn)
                    rw [leftJ_get _ _ _ _ hjn, if_neg (Nat.lt_irrefl j)] at e1
                    obtain ⟨b1, o1, hai, c1⟩ := (HAV.out.ext hx.out) j (by rw [HT.out.parts p HMEM.out]; exact hjl)
                    subst hai
                    have hls := leftJ_set (need := need) (parts := p.parts) (n := n) hjn
                    have hxb := HNO.out.num j hjl
                    have hyb : 0 ≤ p.parts.getD j 0 ∧ p.parts.getD j 0 ≤ 1048576 := HT.out.num p HMEM.out _ (by have h := HT.out.parts p HMEM.out; rw [List.getD_eq_getElem?_getD, List.getElem?_eq_getElem (show j < p.parts.length by omega)]; simp)
                    have hny : 0 ≤ (n : Int) * p.parts.getD j 0 ∧ (n : Int) * p.parts.getD j 0 ≤ 20 * 1048576 := ⟨Int.mul_nonneg (by omega) hyb.1, Int.mul_le_mul hnn hyb.2 hyb.1 (by omega)⟩
                    generalize need.getD j 0 = x at e1 hls hxb
                    generalize p.parts.getD j 0 = y at c1 hls hyb hny
                    have HLS := Lib.hid hls
                    have q2 : IntKind.i64.wrap ((n : Int) * y) = (n : Int) * y := IntWalk.i64_in _ (by omega)
                    have q3 : IntKind.i64.wrap (x - (n : Int) * y) = x - (n : Int) * y := IntWalk.i64_in _ (by omega)
                    have z1 := cell_lt c1
                    have z2 := cell_lt e1
                    dsimp only at z1 z2
                    clear hls
                    go_wp2
                    refine ⟨⟨j + 1, by omega, by go_num, ?_, ?_⟩, by simp [intOf]; omega⟩
                    · show ArrI _ _ _
                      rw [← HLS.out]
                      exact ha.out.set (by rw [leftJ_len]; exact hjn) _
                    · exact Below.setCell (p := ⟨lb, _, none⟩) hx.out (by rw [HLB.out]; exact Nat.le_refl _) _
                  · have hjk : j = K := by omega
                    subst hjk
                    have hjl' : ¬ (j : Int) < (j : Int) := by omega
                    have hleft : leftJ need p.parts n j = leftS need p.parts n := by unfold leftS; rw [HNO.out.len]
                    rw [hleft] at ha
                    have HSr := Lib.hid (hst.out.1.ext hx.out (by rw [hst.out.2]; exact hpos))
                    have HEr := Lib.hid (HEV.out.chg (Chg.ext hx.out))
                    have n0 : wr.cell? ⟨nb, 0, none⟩ = some (.slice (some ⟨nwb, 0, none⟩) N N) := by have := HEr.out.n0; rwa [← HN.out] at this
                    obtain ⟨v1, v2⟩ := HSr.out.nw i (by rw [hst.out.2]; omega)
                    have f0 := HEr.out.f0
                    unfold buyV at f0
                    have d2' := hx.out.cell d2
                    have g1 : nb ≠ nwb := fun e => HEr.out.nn (.inr e)
                    have g2 : fb ≠ nwb := fun e => HEr.out.fn (.inr e)
                    have g3 : pb ≠ nwb := fun e => HP3.out (.inr e)
                    have hne := need_next HT.out HMEM.out HNO.out hnn
                    have hpr := HT.out.price p HMEM.out
                    have hpn : 0 ≤ (n : Int) * p.price ∧ (n : Int) * p.price ≤ 20 * 1048576 := ⟨Int.mul_nonneg (by omega) hpr.1, Int.mul_le_mul hnn hpr.2 hpr.1 (by omega)⟩
                    have hp1 := HNO.out.price
                    have hp2 := HNO.out.size
                    have q2 : IntKind.i64.wrap ((n : Int) * p.price) = (n : Int) * p.price := IntWalk.i64_in _ (by omega)
                    have q3 : IntKind.i64.wrap (price + (n : Int) * p.price) = price + (n : Int) * p.price := IntWalk.i64_in _ (by omega)
                    have q4 : IntKind.i64.wrap (size + (n : Int)) = size + (n : Int) := IntWalk.i64_in _ (by omega)
                    have q5 : IntKind.i64.wrap ((i : Int) + 1) = (i : Int) + 1 := IntWalk.i64_in _ (by omega)
                    obtain ⟨HSn, hcn⟩ := HSr.out.now (i := i) (by rw [hst.out.2]; omega) (n : Int)
                    have hlx : ¬ BX bb nwb lb := fun h => by
                      have h1 := HVZ.out
                      have h2 := HLB.out
                      rcases h with h | h <;> omega
                    have hlc : CellsI (wr.setCell ⟨nwb, i, none⟩ (.int .i64 n)) (some ⟨lb, 0, none⟩) (leftS need p.parts n) := (ha.out.cells).chg2 hcn (fun b' o' e => (by cases e; exact hlx))
                    have HCALL : Hid (Calls Try.prog 25 #[.int .i64 ((i : Int) + 1), .slice (some ⟨lb, 0, none⟩) j j, .int .i64 (price + n * p.price), .int .i64 (size + n), .pointer (some ⟨bb, 0, none⟩), .pointer (some ⟨nb, 0, none⟩), .pointer (some ⟨xb, 0, none⟩), .pointer (some ⟨fb, 0, none⟩)] (wr.setCell ⟨nwb, i, none⟩ (.int .i64 n)) fun e w' =>
                        e = .returned (.tuple #[]) ∧ StB w' bb nwb (iterS step (now, b) (n + 1)).1 (iterS step (now, b) (n + 1)).2 ∧ Chg (BX bb nwb) (wr.setCell ⟨nwb, i, none⟩ (.int .i64 n)) w' ∧ Below m0 (wr.setCell ⟨nwb, i, none⟩ (.int .i64 n)) w') := by
                      have := IH.out f (Nat.lt_succ_self f) (i + 1) (by rw [← HN.out]; omega) (leftS need p.parts n) (price + n * p.price) (size + n) (some ⟨lb, 0, none⟩) j (st.1.set i n) st.2 (wr.setCell ⟨nwb, i, none⟩ (.int .i64 n)) hne (by rw [List.length_set, hst.out.2, HN.out]) (HEr.out.chg hcn) HSn hlc (fun b' o' e => (by cases e; exact hlx))
                      rw [← HNX.out] at this
                      exact this
                    have HLEN : Hid ((iterS step (now, b) (n + 1)).1.length = N) := by
                      show _ = _
                      rw [HNX.out, buyS_len, List.length_set]; exact hst.out.2
                    have HCN := Lib.hid hcn
                    clear hne hpr hpn hp1 hp2 HSn hcn hlx hlc hleft
                    go_wp2_with fail
                    refine HCALL.out.mono ?_
                    rintro e w9 ⟨rfl, k1, k2, k3⟩
                    have K1 := Lib.hid k1
                    have K2 := Lib.hid k2
                    have K3 := Lib.hid k3
                    clear k1 k2 k3
                    go_wp2
                    refine ⟨⟨n + 1, by omega, by go_num, ⟨K1.out, HLEN.out⟩, ((hch.out.trans (Chg.ext hx.out)).trans HCN.out).trans K2.out, ?_⟩, by simp [intOf]; omega⟩
                    exact Below.trans (Below.setCell (p := ⟨nwb, _, none⟩) (Below.trans hbe.out (hx.out.mono HVZ.out.2.2)) hm2 _) K3.out
            · have hnu : n = U := by omega
              subst hnu
              have hlt' : ¬ (n : Int) < (n : Int) := by omega
              go_wp2
              go_end0
              refine ⟨rfl, ?_, (Chg.ext HX4.out).trans hch.out, (HX4.out.mono hm0).trans hbe.out⟩
              rw [HR.out]; exact hst.out.1
end Go.Proofs.Ytechakkdcllgoaa
