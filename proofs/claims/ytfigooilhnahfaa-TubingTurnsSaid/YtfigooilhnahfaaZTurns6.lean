/- Steps of the proof: Ducts, Bends, WallE, Same, SameI, Awake, LTurns, Open. No conditions. -/
import Derived.ProofKit
import Derived.OpenShut
import Derived.Lib.SmallJoins
import Derived.Deep.Slices
import Derived.Test.YtfigooilhnahfaaZTurns1
import Derived.Test.YtfigooilhnahfaaZTurns2
import Derived.Test.YtfigooilhnahfaaZTurns3
import Derived.Test.YtfigooilhnahfaaZTurns4
import Derived.Test.YtfigooilhnahfaaZTurns5
/- Ducts. -/
namespace Go.Proofs.Ytfigooilhnahfaa
open Go.RowKit Go.Maps

def setIns {α : Type} [DecidableEq α] (S : List α) (a : α) : List α := if a ∈ S then S else a :: S
theorem wpList_setAdd {α : Type} [DecidableEq α] {P : Program} {ev : α → Value} (w : World) {ops : Array Oper} {rest : List Oper} {o : Oper} {a : Act} {Q : Exit → Act → World → Prop}
    (hg : o.guard = none) (m x v : Operand) (t : TypeId) (hop : o.op = Op.mapUpdate t m x v) (k e : TypeId) (K : Keyed P k) (ht : P.underlying t = some (.map k e)) (he : P.underlying e = some .bool) (b n : Nat) (S : List α)
    (hm : a.eval m = .map (some b)) (hs : SetAt P k e ev w b n S) (hn : n < maxLen) (hinj : ∀ x y, ev x = ev y → x = y) (y : α) (kl : Lit) (hx : a.eval x = ev y) (hv : a.eval v = .bool true) (hkey : keyOf P k (ev y) = some kl)
    (hK : ∀ w', SetAt P k e ev w' b (n + 1) (setIns S y) → w.grownBy w' (some b) → wpList P ops Q rest (a.put o.dst undef) w') :
    wpList P ops Q (o :: rest) a w := by
  refine wpList_plain hg fun K' hK' => ?_
  obtain ⟨w', hrun, r1, r2⟩ := hs.update K ht he hn hinj hkey
  unfold Oper.wp
  simp [execOp, hop, hm, hx, hv, hrun, Result.andThen]
  exact hK' _ _ (hK w' r1 r2)

theorem SetAt.len {α : Type} [DecidableEq α] {P : Program} {k e : TypeId} {ev : α → Value} {w : World} {b n : Nat} {S : List α} (h : SetAt P k e ev w b n S) {t e' : TypeId} (ht : P.underlying t = some (.map k e')) (ty : TypeId) : (Builtin.len_ #[t] ty #[.map (some b)]).run P w = .ok (.int .i64 S.length) w := by
  obtain ⟨D, h1, _, h3, _⟩ := h
  rw [← h3]
  exact h1.len ht ty
theorem wpList_setLen {α : Type} [DecidableEq α] {P : Program} {ev : α → Value} (w : World) {ops : Array Oper} {rest : List Oper} {o : Oper} {a : Act} {Q : Exit → Act → World → Prop}
    (hg : o.guard = none) (m : Operand) (t : TypeId) (hop : o.op = Op.call { callee := Callee.builtin Builtin.len, args := #[m], argTypes := #[t] }) (k e : TypeId) (ht : P.underlying t = some (.map k e)) (b n : Nat) (S : List α)
    (hm : a.eval m = .map (some b)) (hs : SetAt P k e ev w b n S) (hK : wpList P ops Q rest (a.put o.dst (.int .i64 S.length)) w) :
    wpList P ops Q (o :: rest) a w := by
  refine wpList_plain hg fun K' hK' => ?_
  unfold Oper.wp
  simp [execOp, hop, resolve, invoke, builtin, hm, hs.len ht o.type, Result.andThen]
  exact hK' _ _ hK

theorem hosesErr_step {g : Gr} {hs : List Hose} {n k : Nat} (h : hoseErr g (ph hs k) = 0) : hosesErr g hs (n + 1) k = hosesErr g hs n (k + 1) := by
  conv => lhs; unfold hosesErr
  rw [if_neg (by simp [h])]
theorem hosesErr_stop {g : Gr} {hs : List Hose} {n k : Nat} (h : hoseErr g (ph hs k) ≠ 0) : hosesErr g hs (n + 1) k = hoseErr g (ph hs k) := by
  conv => lhs; unfold hosesErr
  rw [if_pos h]
theorem opn_of_cells {g : Gr} {p q : Pt} (h : cellsErr g [p, q] = 0) : opn g p = true ∧ opn g q = true := ⟨cells_ok h p (by simp), cells_ok h q (by simp)⟩

structure DkL (g : Gr) (hs : List Hose) (W0 : World) (mb k : Nat) (v : Value) (w : World) : Prop where
  se : ∃ n, n ≤ k * 4097 ∧ SetAt Try.prog 74 4 evPr w mb n (ductK g hs k)
  be : Below mb W0 w
  own : RowsO w v (ways g hs k)
  vb : ∀ b, v.ownBlock = some b → W0.heap.size ≤ b
theorem DkL.ext {g : Gr} {hs : List Hose} {W0 : World} {mb k : Nat} {v : Value} {A B : World} (h : DkL g hs W0 mb k v A) (x : Ext A B) : DkL g hs W0 mb k v B := by
  obtain ⟨n, h1, h2⟩ := h.se
  exact ⟨⟨n, h1, h2.ext x⟩, h.be.trans (x.mono (Nat.le_of_lt h2.lt)), h.own.ext x, h.vb⟩

def DuctsPost (g : Gr) (hs : List Hose) (w : World) (e : Ending) (w' : World) : Prop :=
  ∃ a cap, e = .returned (.tuple #[.slice a (ductL g hs).length cap, .int .i64 (ductN g hs), .int .i64 (ductE g hs)]) ∧ RowsR w' a (ductL g hs) ∧ Ext w w'
theorem DuctsPost.bad {g : Gr} {hs : List Hose} {w w' : World} {e : Int} (he : ductE g hs = e) (hne : e ≠ 0) (hx : Ext w w') : DuctsPost g hs w (.returned (.tuple #[.slice none 0 0, .int .i64 0, .int .i64 e])) w' := by
  subst he
  unfold DuctsPost ductL ductN
  rw [if_pos hne, if_pos hne]
  exact ⟨none, 0, rfl, RowsR.nil _ _, hx⟩

set_option maxHeartbeats 4000000 in
set_option maxRecDepth 100000 in
theorem Ducts_any (g : Gr) (hs : List Hose) (ga : Option Addr) (gc : Nat) (ha : Option Addr) (hcap : Nat) (w : World) (hg : g.bl.length ≤ maxLen) (hc : Cells2 w ga g.bl) (hl : hs.length ≤ maxLen) (hch : Cells4 w ha hs) (_hwf : ∀ i, i < hs.length → True) :
    Calls Try.prog 17 #[.agg #[.int .i64 g.rows, .int .i64 g.cols, .slice ga g.bl.length gc], .slice ha hs.length hcap] w fun e w' => DuctsPost g hs w e w' := by
  have HC : Hid (Cells2 w ga g.bl) := hc
  have HH : Hid (Cells4 w ha hs) := hch
  have HG := Lib.hid hg
  clear hc hg hch _hwf
  have E0 : Ext w (((w).alloc (.cells #[.int .i64 g.rows, .int .i64 g.cols, .slice ga g.bl.length gc] 33))) := (Ext.refl _).alloc _
  have a1 : (((w).alloc (.cells #[.int .i64 g.rows, .int .i64 g.cols, .slice ga g.bl.length gc] 33))).cell? ⟨w.heap.size, 0, none⟩ = some (.int .i64 g.rows) := by go_simp
  have a2 : (((w).alloc (.cells #[.int .i64 g.rows, .int .i64 g.cols, .slice ga g.bl.length gc] 33))).cell? ⟨w.heap.size, 1, none⟩ = some (.int .i64 g.cols) := by go_simp
  have a3 : (((w).alloc (.cells #[.int .i64 g.rows, .int .i64 g.cols, .slice ga g.bl.length gc] 33))).cell? ⟨w.heap.size, 2, none⟩ = some (.slice ga g.bl.length gc) := by go_simp
  have hmm := @run_makeMap Try.prog
  have hl' : hs.length ≤ 9223372036854775807 := hl
  clear hl
  go_enter Try.func17, Try.ntmps17
  go_wp2_with fail
  refine (Check_any g ga gc _ HG.out (HC.out.ext E0)).mono ?_
  rintro e w1 ⟨rfl, hE⟩
  have b1 := hE.cell a1
  have b2 := hE.cell a2
  have b3 := hE.cell a3
  have E1 : Ext w w1 := E0.trans hE
  have z1 : w.heap.size < w1.heap.size := cell_lt b1
  clear hE E0 a1 a2 a3
  by_cases h0 : chk g = 0
  · have HR := Lib.hid (right_of_chk h0)
    have H0 := Lib.hid h0
    rw [h0]
    clear h0
    by_cases hlen : 256 < hs.length
    · have hE : Hid (ductE g hs = 5) := by show _ = _; unfold ductE; rw [if_neg (by simp [H0.out]), if_pos hlen]
      have hlen' : (256 : Int) < (hs.length : Int) := by omega
      go_wp2
      go_ret3
      exact DuctsPost.bad hE.out (by decide) E1
    · have hE : Hid (ductE g hs = hosesErr g hs hs.length 0) := by show _ = _; unfold ductE; rw [if_neg (by simp [H0.out]), if_neg hlen]
      have hlen' : ¬ (256 : Int) < (hs.length : Int) := by omega
      go_wp2_with fail
      have E3 : Ext w1 (w1.alloc (.map #[] 0)) := (Ext.refl _).alloc _
      obtain ⟨mb, hmb⟩ : ∃ mb, mb = w1.heap.size := ⟨_, rfl⟩
      have M1 : Hid (SetAt Try.prog 74 4 evPr (w1.alloc (.map #[] 0)) w1.heap.size 0 []) := SetAt.made _ _ _ _ _
      have zW : (w1.alloc (.map #[] 0)).heap.size = w1.heap.size + 1 := by simp
      have c1 := E3.cell b1
      have c2 := E3.cell b2
      have c3 := E3.cell b3
      have EW := E1.trans E3
      rw [← hmb] at M1 zW ⊢
      have zn : w.heap.size < mb := by omega
      have HBL : Hid (g.bl ≠ [] → ∀ b off, ga = some ⟨b, off, none⟩ → b < mb) := fun hne b off hb => by
        have h1 := HC.out.lt hne hb
        have h2 := E1.size
        omega
      have HBH : Hid (hs ≠ [] → ∀ b off, ha = some ⟨b, off, none⟩ → b < mb) := fun hne b off hb => by
        have h1 := HH.out.lt hne hb
        have h2 := E1.size
        omega
      clear hmb E3 E1 b1 b2 b3 z1 hmm
      generalize (w1.alloc (.map #[] 0)) = W0 at M1 zW c1 c2 c3 EW ⊢
      have HCW := Lib.hid (HC.out.ext EW)
      have HHW := Lib.hid (HH.out.ext EW)
      go_loopw [8, 29] (fun v i wr => ∃ (k : Nat) (av : Option Addr) (cv : Nat), k ≤ hs.length ∧ i = .int .i64 k ∧ v = .slice av k cv ∧ Hid (hosesErr g hs hs.length 0 = hosesErr g hs (hs.length - k) k) ∧ Hid (DkL g hs W0 mb k (.slice av k cv) wr)) (fun _ i _ => hs.length - (Go.RowKit.intOf i).toNat)
      case atStart => exact ⟨0, none, 0, Nat.zero_le _, rfl, rfl, rfl, ⟨⟨0, by omega, M1.out⟩, Below.refl _ _, RowsO.nil _, fun b hb => by cases hb⟩⟩
      case round =>
        obtain ⟨k, av, cv, hk, rfl, rfl, hn, hd⟩ := hrel
        have g1 : wr.cell? ⟨w.heap.size, 0, none⟩ = some (.int .i64 g.rows) := (hd.out.be.cell (p := ⟨w.heap.size, 0, none⟩) zn).trans c1
        have g2 : wr.cell? ⟨w.heap.size, 1, none⟩ = some (.int .i64 g.cols) := (hd.out.be.cell (p := ⟨w.heap.size, 1, none⟩) zn).trans c2
        have g3 : wr.cell? ⟨w.heap.size, 2, none⟩ = some (.slice ga g.bl.length gc) := (hd.out.be.cell (p := ⟨w.heap.size, 2, none⟩) zn).trans c3
        have HCr : Hid (Cells2 wr ga g.bl) := HCW.out.below hd.out.be HBL.out
        by_cases hlt : k < hs.length
        · have hlt' : (k : Int) < (hs.length : Int) := by omega
          obtain ⟨hb, hoff, rfl, e1, e2, e3, e4⟩ := (HHW.out.below hd.out.be HBH.out) k hlt
          generalize hx : ph hs k = x at e1 e2 e3 e4
          have HX := Lib.hid hx
          clear hx
          have zh := cell_lt e1
          dsimp only at zh
          have zmb : mb < wr.heap.size := by obtain ⟨_, _, h⟩ := hd.out.se; exact h.lt
          have zn2 : w.heap.size < wr.heap.size := by omega
          go_wp2_with fail
          have V0 : Ext wr (wr.alloc (.cells #[.int .i64 x.1.1, .int .i64 x.1.2, .int .i64 x.2.1, .int .i64 x.2.2] 74)) := (Ext.refl _).alloc _
          have p1 : (wr.alloc (.cells #[.int .i64 x.1.1, .int .i64 x.1.2, .int .i64 x.2.1, .int .i64 x.2.2] 74)).cell? ⟨wr.heap.size, 0, none⟩ = some (.int .i64 x.1.1) := by go_simp
          have p2 : (wr.alloc (.cells #[.int .i64 x.1.1, .int .i64 x.1.2, .int .i64 x.2.1, .int .i64 x.2.2] 74)).cell? ⟨wr.heap.size, 1, none⟩ = some (.int .i64 x.1.2) := by go_simp
          have p3 : (wr.alloc (.cells #[.int .i64 x.1.1, .int .i64 x.1.2, .int .i64 x.2.1, .int .i64 x.2.2] 74)).cell? ⟨wr.heap.size, 2, none⟩ = some (.int .i64 x.2.1) := by go_simp
          have p4 : (wr.alloc (.cells #[.int .i64 x.1.1, .int .i64 x.1.2, .int .i64 x.2.1, .int .i64 x.2.2] 74)).cell? ⟨wr.heap.size, 3, none⟩ = some (.int .i64 x.2.2) := by go_simp
          have g1 := V0.cell g1
          have g2 := V0.cell g2
          have g3 := V0.cell g3
          have HD1 := Lib.hid (hd.out.ext V0)
          have HC1 := Lib.hid (HCr.out.ext V0)
          have zp : wr.heap.size < (wr.alloc (.cells #[.int .i64 x.1.1, .int .i64 x.1.2, .int .i64 x.2.1, .int .i64 x.2.2] 74)).heap.size := by simp
          have HE1 : Hid (Ext w (wr.alloc (.cells #[.int .i64 x.1.1, .int .i64 x.1.2, .int .i64 x.2.1, .int .i64 x.2.2] 74))) := (Below.trans EW (hd.out.be.mono (by omega))).alloc (by omega) _
          clear hd HCr e1 e2 e3 e4 V0
          generalize (wr.alloc (.cells #[.int .i64 x.1.1, .int .i64 x.1.2, .int .i64 x.2.1, .int .i64 x.2.2] 74)) = W1 at p1 p2 p3 p4 g1 g2 g3 HD1 HC1 HE1 zp ⊢
          have zg := cell_lt g1
          dsimp only at zg
          go_region_held3 (fun w' => Sees W1 w') ((repeat (first | exact Sees.refl _ | assumption | apply Sees.drew | apply Sees.alloc | (refine Sees.ext ?_ (by assumption))))) (first | (go_at_call 53; refine (cells_any g [x.1, x.2] ga gc _ _ _ HR.out (HC1.out.ext (by exact (show Sees W1 _ by assumption).2.2)) (by simp [maxLen]) ((cells2_two p1 p2 p3 p4).ext (by exact (show Sees W1 _ by assumption).2.2))).mono ?_; rintro e w' ⟨rfl, hE2⟩))
          have hS := (show Sees W1 _ by assumption).2.2
          have p1 := hS.cell p1
          have p2 := hS.cell p2
          have p3 := hS.cell p3
          have p4 := hS.cell p4
          have g1 := hS.cell g1
          have g2 := hS.cell g2
          have g3 := hS.cell g3
          have HD2 := Lib.hid (HD1.out.ext hS)
          have HC2 := Lib.hid (HC1.out.ext hS)
          have HE2 := Lib.hid (HE1.out.trans hS)
          have hz2 : W1.heap.size ≤ w'.heap.size := hS.size
          clear HD1 HC1 HE1 hS
          generalize w' = W2 at p1 p2 p3 p4 g1 g2 g3 HD2 HC2 HE2 hz2 ⊢
          have zp2 : wr.heap.size < W2.heap.size := by omega
          have zn3 : w.heap.size < W2.heap.size := by omega
          by_cases hce : cellsErr g [x.1, x.2] = 0
          · obtain ⟨ho1, ho2⟩ := opn_of_cells hce
            have HO1 := Lib.hid ho1
            have HO2 := Lib.hid ho2
            have HCE := Lib.hid hce
            rw [hce]
            clear hce ho1 ho2
            go_wp2_with fail
            refine (route_any g x.1 x.2 ga gc _ HR.out HO1.out HO2.out HC2.out).mono ?_
            rintro e W3 ⟨lv, rfl, hO, hE3⟩
            by_cases hneg : dst g x.2 x.1 < 0
            · have HBAD : Hid (ductE g hs = 6) := by
                show _ = _
                have h9 : hoseErr g x = 6 := by unfold hoseErr; rw [if_neg (by simp [HCE.out]), if_pos hneg]
                rw [hE.out, hn.out, show hs.length - k = (hs.length - (k + 1)) + 1 by omega, hosesErr_stop (by rw [HX.out, h9]; decide), HX.out, h9]
              rw [if_pos hneg]
              go_wp2
              go_ret3
              exact DuctsPost.bad HBAD.out (by decide) (HE2.out.trans hE3)
            · rw [if_neg hneg]
              have HOK : Hid (hosesErr g hs hs.length 0 = hosesErr g hs (hs.length - (k + 1)) (k + 1)) := by
                show _ = _
                have h9 : hoseErr g x = 0 := by unfold hoseErr; rw [if_neg (by simp [HCE.out]), if_neg hneg]
                rw [hn.out, show hs.length - k = (hs.length - (k + 1)) + 1 by omega, hosesErr_step (by rw [HX.out, h9])]
              have HD3 := Lib.hid (HD2.out.ext hE3)
              have HE3 := Lib.hid (HE2.out.trans hE3)
              have hrl : routeL g x.1 x.2 = way g x.1 x.2 := by unfold routeL; rw [if_neg hneg]
              rw [hrl] at hO
              have hLlen : (way g x.1 x.2).length ≤ 4097 ∧ 1 ≤ (way g x.1 x.2).length := by
                rw [way_len]
                have := dst_bd HR.out (opn_inside HO2.out) x.1
                omega
              have HIN : Hid (∀ i, i < (way g x.1 x.2).length → InG (pt (way g x.1 x.2) i)) := fun i hi => inG_of HR.out (opn_inside (way_opn HR.out HO1.out HO2.out hneg _ (pt_mem hi)))
              obtain ⟨la, lc, rfl, hLc, hLb⟩ := hO.reads
              have HO3 := Lib.hid hO
              have HLC := Lib.hid hLc
              have HW := Lib.hid hrl
              obtain ⟨n0, hn0, hS0⟩ := HD3.out.se
              have HS0 := Lib.hid hS0
              have hz3 : W2.heap.size ≤ W3.heap.size := hE3.size
              obtain ⟨L, hLeq⟩ : ∃ L, L = way g x.1 x.2 := ⟨_, rfl⟩
              rw [← hLeq] at hLlen HIN HO3 HLC ⊢
              have HLEQ := Lib.hid hLeq
              clear hS0 hO hLc hLb hrl hE3 p1 p2 p3 p4 g1 g2 g3 hLeq HW
              have hmW : mb < W3.heap.size := by omega
              go_wp2
              go_loopw [15] (fun i wr => ∃ j : Nat, j < L.length ∧ i = .int .i64 ((j : Int) + 1) ∧ Hid (SetAt Try.prog 74 4 evPr wr mb (n0 + j) (pairK (ductK g hs k) L j)) ∧ Hid (Chg (fun b => b = mb) W3 wr) ∧ Hid (Below mb W3 wr)) (fun i _ => L.length + 1 - (Go.RowKit.intOf i).toNat)
              case atStart => exact ⟨0, by omega, rfl, HS0.out, Chg.refl _ _, Below.refl _ _⟩
              case round =>
                obtain ⟨j, hj, rfl, HS, HCH, HBB⟩ := hrel
                by_cases hjl : j + 1 < L.length
                · have hjl' : (j : Int) + 1 < (L.length : Int) := by omega
                  obtain ⟨la', lc', hv', HLr, _⟩ := (HO3.out.kept (X := fun k => k ≠ mb) (n := 0) (HCH.out.kept (fun k hk _ => hk)) (fun b hb e => by
                    obtain ⟨c1, f1, e1⟩ := ownsRow_at HO3.out hb
                    obtain ⟨es, cl, h8⟩ := HS0.out.at
                    rw [e, h8] at e1; cases e1)).reads
                  cases hv'
                  have HLr := Lib.hid HLr
                  obtain ⟨lb, loff, rfl, d1, d2⟩ := HLr.out j (by omega)
                  obtain ⟨lb', loff', hla, d3, d4⟩ := HLr.out (j + 1) hjl
                  cases hla
                  have i1 := Lib.hid (HIN.out j (by omega))
                  have i2 := Lib.hid (HIN.out (j + 1) hjl)
                  have q0 : IntKind.i64.wrap ((j : Int) + 1 - 1) = (j : Int) := by
                    rw [show (j : Int) + 1 - 1 = (j : Int) by omega]; exact IntWalk.i64_in _ (by omega)
                  have zb := cell_lt d1
                  dsimp only at zb
                  have zm2 : mb < wr.heap.size := HS.out.lt
                  have q1 : ((j : Int) + 1).toNat = j + 1 := by omega
                  have q2 : IntKind.i64.wrap (j : Int) = (j : Int) := IntWalk.i64_in _ (by omega)
                  have q3 : (j : Int) < (L.length : Int) := by omega
                  have hkn : n0 + j ≤ 2000000 := by omega
                  by_cases hg0 : 0 < ordP (pt L j) (pt L (j + 1))
                  · have hgt : 0 < ordP (pt L j) (pt L (j + 1)) := by assumption
                    go_wp2_with fail
                    go_region
                    · have E3 : Ext wr (((wr.alloc (.cells #[.int .i64 (pt L j).1, .int .i64 (pt L j).2] 26)).alloc (.cells #[.int .i64 (pt L (j + 1)).1, .int .i64 (pt L (j + 1)).2] 26)).drew) := (((Ext.refl _).alloc _).alloc _).drew
                      have p1 : (((wr.alloc (.cells #[.int .i64 (pt L j).1, .int .i64 (pt L j).2] 26)).alloc (.cells #[.int .i64 (pt L (j + 1)).1, .int .i64 (pt L (j + 1)).2] 26)).drew).cell? ⟨wr.heap.size, 0, none⟩ = some (.int .i64 (pt L j).1) := by go_simp
                      have p2 : (((wr.alloc (.cells #[.int .i64 (pt L j).1, .int .i64 (pt L j).2] 26)).alloc (.cells #[.int .i64 (pt L (j + 1)).1, .int .i64 (pt L (j + 1)).2] 26)).drew).cell? ⟨wr.heap.size, 1, none⟩ = some (.int .i64 (pt L j).2) := by go_simp
                      have p3 : (((wr.alloc (.cells #[.int .i64 (pt L j).1, .int .i64 (pt L j).2] 26)).alloc (.cells #[.int .i64 (pt L (j + 1)).1, .int .i64 (pt L (j + 1)).2] 26)).drew).cell? ⟨wr.heap.size + 1, 0, none⟩ = some (.int .i64 (pt L (j + 1)).1) := by go_simp
                      have p4 : (((wr.alloc (.cells #[.int .i64 (pt L j).1, .int .i64 (pt L j).2] 26)).alloc (.cells #[.int .i64 (pt L (j + 1)).1, .int .i64 (pt L (j + 1)).2] 26)).drew).cell? ⟨wr.heap.size + 1, 1, none⟩ = some (.int .i64 (pt L (j + 1)).2) := by go_simp
                      have y1 : (((wr.alloc (.cells #[.int .i64 (pt L j).1, .int .i64 (pt L j).2] 26)).alloc (.cells #[.int .i64 (pt L (j + 1)).1, .int .i64 (pt L (j + 1)).2] 26)).drew).frozen? ⟨wr.heap.size, 0, none⟩ = false := by go_simp
                      have y2 : (((wr.alloc (.cells #[.int .i64 (pt L j).1, .int .i64 (pt L j).2] 26)).alloc (.cells #[.int .i64 (pt L (j + 1)).1, .int .i64 (pt L (j + 1)).2] 26)).drew).frozen? ⟨wr.heap.size, 1, none⟩ = false := by go_simp
                      have y3 : (((wr.alloc (.cells #[.int .i64 (pt L j).1, .int .i64 (pt L j).2] 26)).alloc (.cells #[.int .i64 (pt L (j + 1)).1, .int .i64 (pt L (j + 1)).2] 26)).drew).frozen? ⟨wr.heap.size + 1, 0, none⟩ = false := by go_simp
                      have y4 : (((wr.alloc (.cells #[.int .i64 (pt L j).1, .int .i64 (pt L j).2] 26)).alloc (.cells #[.int .i64 (pt L (j + 1)).1, .int .i64 (pt L (j + 1)).2] 26)).drew).frozen? ⟨wr.heap.size + 1, 1, none⟩ = false := by go_simp
                      have zz : wr.heap.size + 1 < (((wr.alloc (.cells #[.int .i64 (pt L j).1, .int .i64 (pt L j).2] 26)).alloc (.cells #[.int .i64 (pt L (j + 1)).1, .int .i64 (pt L (j + 1)).2] 26)).drew).heap.size := by simp
                      clear d1 d2 d3 d4
                      generalize (((wr.alloc (.cells #[.int .i64 (pt L j).1, .int .i64 (pt L j).2] 26)).alloc (.cells #[.int .i64 (pt L (j + 1)).1, .int .i64 (pt L (j + 1)).2] 26)).drew) = V at E3 p1 p2 p3 p4 y1 y2 y3 y4 zz ⊢
                      have x1 : wr.heap.size < V.heap.size := by omega
                      go_wp2_with fail
                      refine (order_any (pt L j) (pt L (j + 1)) _).mono ?_
                      rintro e W5 ⟨rfl, hE5⟩
                      have q1 := hE5.cell p1
                      have q2 := hE5.cell p2
                      have q3 := hE5.cell p3
                      have q4 := hE5.cell p4
                      have t1 := (hE5.frozen (p := ⟨wr.heap.size, 0, none⟩) (by show wr.heap.size < _; omega)).trans y1
                      have t2 := (hE5.frozen (p := ⟨wr.heap.size, 1, none⟩) (by show wr.heap.size < _; omega)).trans y2
                      have t3 := (hE5.frozen (p := ⟨wr.heap.size + 1, 0, none⟩) (by show wr.heap.size + 1 < _; omega)).trans y3
                      have t4 := (hE5.frozen (p := ⟨wr.heap.size + 1, 1, none⟩) (by show wr.heap.size + 1 < _; omega)).trans y4
                      have HS5 := Lib.hid (HS.out.ext (E3.trans hE5))
                      have EE := Lib.hid (E3.trans hE5)
                      clear p1 p2 p3 p4 y1 y2 y3 y4 E3 hE5
                      have HS6 : Hid (SetAt Try.prog 74 4 evPr ((((W5.setCell ⟨wr.heap.size, 0, none⟩ (.int .i64 (pt L (j + 1)).1)).setCell ⟨wr.heap.size, 1, none⟩ (.int .i64 (pt L (j + 1)).2)).setCell ⟨wr.heap.size + 1, 0, none⟩ (.int .i64 (pt L j).1)).setCell ⟨wr.heap.size + 1, 1, none⟩ (.int .i64 (pt L j).2)) mb (n0 + j) (pairK (ductK g hs k) L j)) := HS5.out.same (by rw [Below.heap_setCell _ _ _ _ (by show mb ≠ wr.heap.size + 1; omega), Below.heap_setCell _ _ _ _ (by show mb ≠ wr.heap.size + 1; omega), Below.heap_setCell _ _ _ _ (by show mb ≠ wr.heap.size; omega), Below.heap_setCell _ _ _ _ (by show mb ≠ wr.heap.size; omega)])
                      have EE6 : Hid (Below wr.heap.size wr ((((W5.setCell ⟨wr.heap.size, 0, none⟩ (.int .i64 (pt L (j + 1)).1)).setCell ⟨wr.heap.size, 1, none⟩ (.int .i64 (pt L (j + 1)).2)).setCell ⟨wr.heap.size + 1, 0, none⟩ (.int .i64 (pt L j).1)).setCell ⟨wr.heap.size + 1, 1, none⟩ (.int .i64 (pt L j).2))) := Below.setCell (p := ⟨wr.heap.size + 1, 1, none⟩) (Below.setCell (p := ⟨wr.heap.size + 1, 0, none⟩) (Below.setCell (p := ⟨wr.heap.size, 1, none⟩) (Below.setCell (p := ⟨wr.heap.size, 0, none⟩) EE.out (by show wr.heap.size ≤ wr.heap.size; omega) _) (by show wr.heap.size ≤ wr.heap.size; omega) _) (by show wr.heap.size ≤ wr.heap.size + 1; omega) _) (by show wr.heap.size ≤ wr.heap.size + 1; omega) _
                      obtain ⟨kl, hkl⟩ := keyPr (p := (pt L (j + 1), pt L j)) (wf_inG i2.out).1 (wf_inG i2.out).2 (wf_inG i1.out).1 (wf_inG i1.out).2
                      have HKL := Lib.hid hkl
                      clear hkl
                      go_wp2_with (at_mapUpdate; refine wpList_setAdd _ rfl _ _ _ 93 rfl 74 4 lawPr Try.underlying93 Try.underlying4 mb (n0 + j) (pairK (ductK g hs k) L j) rfl HS6.out ?hn evPr_inj (pt L (j + 1), pt L j) kl rfl rfl HKL.out ?hK)
                      case hn => unfold maxLen; omega
                      case hK =>
                        intro w6 hs6 hg6
                        have HS7 := Lib.hid hs6
                        have HG6 := Lib.hid hg6
                        clear hs6 hg6
                        go_wp2
                        refine ⟨⟨j + 1, by omega, by go_num, ?_, ?_, ?_⟩, by simp [Go.RowKit.intOf]; omega⟩
                        · have h9 := HS7.out
                          have hp : pairOf (pt L j) (pt L (j + 1)) = (pt L (j + 1), pt L j) := by unfold pairOf; rw [if_pos hgt]
                          show SetAt _ _ _ _ _ _ _ (insP _ _)
                          rw [hp]
                          unfold insP
                          unfold setIns at h9
                          rw [Nat.add_assoc] at h9
                          split at h9 <;> split <;> first | exact h9 | contradiction
                        · exact HCH.out.trans ⟨Nat.le_trans EE6.out.size HG6.out.size, fun b hb hn => (HG6.out.block b (Nat.lt_of_lt_of_le hb EE6.out.size) (fun e => hn (by cases e; rfl))).trans (EE6.out.block b hb)⟩
                        · exact (HBB.out.trans (EE6.out.mono (by omega))).grown HG6.out (Nat.le_trans (by omega) EE6.out.size) (fun j hj => by cases hj; exact Nat.le_refl _)
                    · have E3 : Ext wr (((wr.alloc (.cells #[.int .i64 (pt L (j + 1)).1, .int .i64 (pt L (j + 1)).2] 26)).alloc (.cells #[.int .i64 (pt L j).1, .int .i64 (pt L j).2] 26)).drew) := (((Ext.refl _).alloc _).alloc _).drew
                      have p1 : (((wr.alloc (.cells #[.int .i64 (pt L (j + 1)).1, .int .i64 (pt L (j + 1)).2] 26)).alloc (.cells #[.int .i64 (pt L j).1, .int .i64 (pt L j).2] 26)).drew).cell? ⟨wr.heap.size + 1, 0, none⟩ = some (.int .i64 (pt L j).1) := by go_simp
                      have p2 : (((wr.alloc (.cells #[.int .i64 (pt L (j + 1)).1, .int .i64 (pt L (j + 1)).2] 26)).alloc (.cells #[.int .i64 (pt L j).1, .int .i64 (pt L j).2] 26)).drew).cell? ⟨wr.heap.size + 1, 1, none⟩ = some (.int .i64 (pt L j).2) := by go_simp
                      have p3 : (((wr.alloc (.cells #[.int .i64 (pt L (j + 1)).1, .int .i64 (pt L (j + 1)).2] 26)).alloc (.cells #[.int .i64 (pt L j).1, .int .i64 (pt L j).2] 26)).drew).cell? ⟨wr.heap.size, 0, none⟩ = some (.int .i64 (pt L (j + 1)).1) := by go_simp
                      have p4 : (((wr.alloc (.cells #[.int .i64 (pt L (j + 1)).1, .int .i64 (pt L (j + 1)).2] 26)).alloc (.cells #[.int .i64 (pt L j).1, .int .i64 (pt L j).2] 26)).drew).cell? ⟨wr.heap.size, 1, none⟩ = some (.int .i64 (pt L (j + 1)).2) := by go_simp
                      have y1 : (((wr.alloc (.cells #[.int .i64 (pt L (j + 1)).1, .int .i64 (pt L (j + 1)).2] 26)).alloc (.cells #[.int .i64 (pt L j).1, .int .i64 (pt L j).2] 26)).drew).frozen? ⟨wr.heap.size + 1, 0, none⟩ = false := by go_simp
                      have y2 : (((wr.alloc (.cells #[.int .i64 (pt L (j + 1)).1, .int .i64 (pt L (j + 1)).2] 26)).alloc (.cells #[.int .i64 (pt L j).1, .int .i64 (pt L j).2] 26)).drew).frozen? ⟨wr.heap.size + 1, 1, none⟩ = false := by go_simp
                      have y3 : (((wr.alloc (.cells #[.int .i64 (pt L (j + 1)).1, .int .i64 (pt L (j + 1)).2] 26)).alloc (.cells #[.int .i64 (pt L j).1, .int .i64 (pt L j).2] 26)).drew).frozen? ⟨wr.heap.size, 0, none⟩ = false := by go_simp
                      have y4 : (((wr.alloc (.cells #[.int .i64 (pt L (j + 1)).1, .int .i64 (pt L (j + 1)).2] 26)).alloc (.cells #[.int .i64 (pt L j).1, .int .i64 (pt L j).2] 26)).drew).frozen? ⟨wr.heap.size, 1, none⟩ = false := by go_simp
                      have zz : wr.heap.size + 1 < (((wr.alloc (.cells #[.int .i64 (pt L (j + 1)).1, .int .i64 (pt L (j + 1)).2] 26)).alloc (.cells #[.int .i64 (pt L j).1, .int .i64 (pt L j).2] 26)).drew).heap.size := by simp
                      clear d1 d2 d3 d4
                      generalize (((wr.alloc (.cells #[.int .i64 (pt L (j + 1)).1, .int .i64 (pt L (j + 1)).2] 26)).alloc (.cells #[.int .i64 (pt L j).1, .int .i64 (pt L j).2] 26)).drew) = V at E3 p1 p2 p3 p4 y1 y2 y3 y4 zz ⊢
                      have x1 : wr.heap.size < V.heap.size := by omega
                      go_wp2_with fail
                      refine (order_any (pt L j) (pt L (j + 1)) _).mono ?_
                      rintro e W5 ⟨rfl, hE5⟩
                      have q1 := hE5.cell p1
                      have q2 := hE5.cell p2
                      have q3 := hE5.cell p3
                      have q4 := hE5.cell p4
                      have t1 := (hE5.frozen (p := ⟨wr.heap.size + 1, 0, none⟩) (by show wr.heap.size + 1 < _; omega)).trans y1
                      have t2 := (hE5.frozen (p := ⟨wr.heap.size + 1, 1, none⟩) (by show wr.heap.size + 1 < _; omega)).trans y2
                      have t3 := (hE5.frozen (p := ⟨wr.heap.size, 0, none⟩) (by show wr.heap.size < _; omega)).trans y3
                      have t4 := (hE5.frozen (p := ⟨wr.heap.size, 1, none⟩) (by show wr.heap.size < _; omega)).trans y4
                      have HS5 := Lib.hid (HS.out.ext (E3.trans hE5))
                      have EE := Lib.hid (E3.trans hE5)
                      clear p1 p2 p3 p4 y1 y2 y3 y4 E3 hE5
                      have HS6 : Hid (SetAt Try.prog 74 4 evPr ((((W5.setCell ⟨wr.heap.size + 1, 0, none⟩ (.int .i64 (pt L (j + 1)).1)).setCell ⟨wr.heap.size + 1, 1, none⟩ (.int .i64 (pt L (j + 1)).2)).setCell ⟨wr.heap.size, 0, none⟩ (.int .i64 (pt L j).1)).setCell ⟨wr.heap.size, 1, none⟩ (.int .i64 (pt L j).2)) mb (n0 + j) (pairK (ductK g hs k) L j)) := HS5.out.same (by rw [Below.heap_setCell _ _ _ _ (by show mb ≠ wr.heap.size; omega), Below.heap_setCell _ _ _ _ (by show mb ≠ wr.heap.size; omega), Below.heap_setCell _ _ _ _ (by show mb ≠ wr.heap.size + 1; omega), Below.heap_setCell _ _ _ _ (by show mb ≠ wr.heap.size + 1; omega)])
                      have EE6 : Hid (Below wr.heap.size wr ((((W5.setCell ⟨wr.heap.size + 1, 0, none⟩ (.int .i64 (pt L (j + 1)).1)).setCell ⟨wr.heap.size + 1, 1, none⟩ (.int .i64 (pt L (j + 1)).2)).setCell ⟨wr.heap.size, 0, none⟩ (.int .i64 (pt L j).1)).setCell ⟨wr.heap.size, 1, none⟩ (.int .i64 (pt L j).2))) := Below.setCell (p := ⟨wr.heap.size, 1, none⟩) (Below.setCell (p := ⟨wr.heap.size, 0, none⟩) (Below.setCell (p := ⟨wr.heap.size + 1, 1, none⟩) (Below.setCell (p := ⟨wr.heap.size + 1, 0, none⟩) EE.out (by show wr.heap.size ≤ wr.heap.size + 1; omega) _) (by show wr.heap.size ≤ wr.heap.size + 1; omega) _) (by show wr.heap.size ≤ wr.heap.size; omega) _) (by show wr.heap.size ≤ wr.heap.size; omega) _
                      obtain ⟨kl, hkl⟩ := keyPr (p := (pt L (j + 1), pt L j)) (wf_inG i2.out).1 (wf_inG i2.out).2 (wf_inG i1.out).1 (wf_inG i1.out).2
                      have HKL := Lib.hid hkl
                      clear hkl
                      go_wp2_with (at_mapUpdate; refine wpList_setAdd _ rfl _ _ _ 93 rfl 74 4 lawPr Try.underlying93 Try.underlying4 mb (n0 + j) (pairK (ductK g hs k) L j) rfl HS6.out ?hn evPr_inj (pt L (j + 1), pt L j) kl rfl rfl HKL.out ?hK)
                      case hn => unfold maxLen; omega
                      case hK =>
                        intro w6 hs6 hg6
                        have HS7 := Lib.hid hs6
                        have HG6 := Lib.hid hg6
                        clear hs6 hg6
                        go_wp2
                        refine ⟨⟨j + 1, by omega, by go_num, ?_, ?_, ?_⟩, by simp [Go.RowKit.intOf]; omega⟩
                        · have h9 := HS7.out
                          have hp : pairOf (pt L j) (pt L (j + 1)) = (pt L (j + 1), pt L j) := by unfold pairOf; rw [if_pos hgt]
                          show SetAt _ _ _ _ _ _ _ (insP _ _)
                          rw [hp]
                          unfold insP
                          unfold setIns at h9
                          rw [Nat.add_assoc] at h9
                          split at h9 <;> split <;> first | exact h9 | contradiction
                        · exact HCH.out.trans ⟨Nat.le_trans EE6.out.size HG6.out.size, fun b hb hn => (HG6.out.block b (Nat.lt_of_lt_of_le hb EE6.out.size) (fun e => hn (by cases e; rfl))).trans (EE6.out.block b hb)⟩
                        · exact (HBB.out.trans (EE6.out.mono (by omega))).grown HG6.out (Nat.le_trans (by omega) EE6.out.size) (fun j hj => by cases hj; exact Nat.le_refl _)
                  · have hgt : ¬ 0 < ordP (pt L j) (pt L (j + 1)) := by assumption
                    go_wp2_with fail
                    go_region
                    · have E3 : Ext wr (((wr.alloc (.cells #[.int .i64 (pt L j).1, .int .i64 (pt L j).2] 26)).alloc (.cells #[.int .i64 (pt L (j + 1)).1, .int .i64 (pt L (j + 1)).2] 26)).drew) := (((Ext.refl _).alloc _).alloc _).drew
                      have p1 : (((wr.alloc (.cells #[.int .i64 (pt L j).1, .int .i64 (pt L j).2] 26)).alloc (.cells #[.int .i64 (pt L (j + 1)).1, .int .i64 (pt L (j + 1)).2] 26)).drew).cell? ⟨wr.heap.size, 0, none⟩ = some (.int .i64 (pt L j).1) := by go_simp
                      have p2 : (((wr.alloc (.cells #[.int .i64 (pt L j).1, .int .i64 (pt L j).2] 26)).alloc (.cells #[.int .i64 (pt L (j + 1)).1, .int .i64 (pt L (j + 1)).2] 26)).drew).cell? ⟨wr.heap.size, 1, none⟩ = some (.int .i64 (pt L j).2) := by go_simp
                      have p3 : (((wr.alloc (.cells #[.int .i64 (pt L j).1, .int .i64 (pt L j).2] 26)).alloc (.cells #[.int .i64 (pt L (j + 1)).1, .int .i64 (pt L (j + 1)).2] 26)).drew).cell? ⟨wr.heap.size + 1, 0, none⟩ = some (.int .i64 (pt L (j + 1)).1) := by go_simp
                      have p4 : (((wr.alloc (.cells #[.int .i64 (pt L j).1, .int .i64 (pt L j).2] 26)).alloc (.cells #[.int .i64 (pt L (j + 1)).1, .int .i64 (pt L (j + 1)).2] 26)).drew).cell? ⟨wr.heap.size + 1, 1, none⟩ = some (.int .i64 (pt L (j + 1)).2) := by go_simp
                      have y1 : (((wr.alloc (.cells #[.int .i64 (pt L j).1, .int .i64 (pt L j).2] 26)).alloc (.cells #[.int .i64 (pt L (j + 1)).1, .int .i64 (pt L (j + 1)).2] 26)).drew).frozen? ⟨wr.heap.size, 0, none⟩ = false := by go_simp
                      have y2 : (((wr.alloc (.cells #[.int .i64 (pt L j).1, .int .i64 (pt L j).2] 26)).alloc (.cells #[.int .i64 (pt L (j + 1)).1, .int .i64 (pt L (j + 1)).2] 26)).drew).frozen? ⟨wr.heap.size, 1, none⟩ = false := by go_simp
                      have y3 : (((wr.alloc (.cells #[.int .i64 (pt L j).1, .int .i64 (pt L j).2] 26)).alloc (.cells #[.int .i64 (pt L (j + 1)).1, .int .i64 (pt L (j + 1)).2] 26)).drew).frozen? ⟨wr.heap.size + 1, 0, none⟩ = false := by go_simp
                      have y4 : (((wr.alloc (.cells #[.int .i64 (pt L j).1, .int .i64 (pt L j).2] 26)).alloc (.cells #[.int .i64 (pt L (j + 1)).1, .int .i64 (pt L (j + 1)).2] 26)).drew).frozen? ⟨wr.heap.size + 1, 1, none⟩ = false := by go_simp
                      have zz : wr.heap.size + 1 < (((wr.alloc (.cells #[.int .i64 (pt L j).1, .int .i64 (pt L j).2] 26)).alloc (.cells #[.int .i64 (pt L (j + 1)).1, .int .i64 (pt L (j + 1)).2] 26)).drew).heap.size := by simp
                      clear d1 d2 d3 d4
                      generalize (((wr.alloc (.cells #[.int .i64 (pt L j).1, .int .i64 (pt L j).2] 26)).alloc (.cells #[.int .i64 (pt L (j + 1)).1, .int .i64 (pt L (j + 1)).2] 26)).drew) = V at E3 p1 p2 p3 p4 y1 y2 y3 y4 zz ⊢
                      have x1 : wr.heap.size < V.heap.size := by omega
                      go_wp2_with fail
                      refine (order_any (pt L j) (pt L (j + 1)) _).mono ?_
                      rintro e W5 ⟨rfl, hE5⟩
                      have q1 := hE5.cell p1
                      have q2 := hE5.cell p2
                      have q3 := hE5.cell p3
                      have q4 := hE5.cell p4
                      have t1 := (hE5.frozen (p := ⟨wr.heap.size, 0, none⟩) (by show wr.heap.size < _; omega)).trans y1
                      have t2 := (hE5.frozen (p := ⟨wr.heap.size, 1, none⟩) (by show wr.heap.size < _; omega)).trans y2
                      have t3 := (hE5.frozen (p := ⟨wr.heap.size + 1, 0, none⟩) (by show wr.heap.size + 1 < _; omega)).trans y3
                      have t4 := (hE5.frozen (p := ⟨wr.heap.size + 1, 1, none⟩) (by show wr.heap.size + 1 < _; omega)).trans y4
                      have HS5 := Lib.hid (HS.out.ext (E3.trans hE5))
                      have EE := Lib.hid (E3.trans hE5)
                      clear p1 p2 p3 p4 y1 y2 y3 y4 E3 hE5
                      have HS6 := HS5
                      have EE6 : Hid (Below wr.heap.size wr W5) := EE.out
                      obtain ⟨kl, hkl⟩ := keyPr (p := (pt L j, pt L (j + 1))) (wf_inG i1.out).1 (wf_inG i1.out).2 (wf_inG i2.out).1 (wf_inG i2.out).2
                      have HKL := Lib.hid hkl
                      clear hkl
                      go_wp2_with (at_mapUpdate; refine wpList_setAdd _ rfl _ _ _ 93 rfl 74 4 lawPr Try.underlying93 Try.underlying4 mb (n0 + j) (pairK (ductK g hs k) L j) rfl HS6.out ?hn evPr_inj (pt L j, pt L (j + 1)) kl rfl rfl HKL.out ?hK)
                      case hn => unfold maxLen; omega
                      case hK =>
                        intro w6 hs6 hg6
                        have HS7 := Lib.hid hs6
                        have HG6 := Lib.hid hg6
                        clear hs6 hg6
                        go_wp2
                        refine ⟨⟨j + 1, by omega, by go_num, ?_, ?_, ?_⟩, by simp [Go.RowKit.intOf]; omega⟩
                        · have h9 := HS7.out
                          have hp : pairOf (pt L j) (pt L (j + 1)) = (pt L j, pt L (j + 1)) := by unfold pairOf; rw [if_neg (by omega)]
                          show SetAt _ _ _ _ _ _ _ (insP _ _)
                          rw [hp]
                          unfold insP
                          unfold setIns at h9
                          rw [Nat.add_assoc] at h9
                          split at h9 <;> split <;> first | exact h9 | contradiction
                        · exact HCH.out.trans ⟨Nat.le_trans EE6.out.size HG6.out.size, fun b hb hn => (HG6.out.block b (Nat.lt_of_lt_of_le hb EE6.out.size) (fun e => hn (by cases e; rfl))).trans (EE6.out.block b hb)⟩
                        · exact (HBB.out.trans (EE6.out.mono (by omega))).grown HG6.out (Nat.le_trans (by omega) EE6.out.size) (fun j hj => by cases hj; exact Nat.le_refl _)
                    · have E3 : Ext wr (((wr.alloc (.cells #[.int .i64 (pt L (j + 1)).1, .int .i64 (pt L (j + 1)).2] 26)).alloc (.cells #[.int .i64 (pt L j).1, .int .i64 (pt L j).2] 26)).drew) := (((Ext.refl _).alloc _).alloc _).drew
                      have p1 : (((wr.alloc (.cells #[.int .i64 (pt L (j + 1)).1, .int .i64 (pt L (j + 1)).2] 26)).alloc (.cells #[.int .i64 (pt L j).1, .int .i64 (pt L j).2] 26)).drew).cell? ⟨wr.heap.size + 1, 0, none⟩ = some (.int .i64 (pt L j).1) := by go_simp
                      have p2 : (((wr.alloc (.cells #[.int .i64 (pt L (j + 1)).1, .int .i64 (pt L (j + 1)).2] 26)).alloc (.cells #[.int .i64 (pt L j).1, .int .i64 (pt L j).2] 26)).drew).cell? ⟨wr.heap.size + 1, 1, none⟩ = some (.int .i64 (pt L j).2) := by go_simp
                      have p3 : (((wr.alloc (.cells #[.int .i64 (pt L (j + 1)).1, .int .i64 (pt L (j + 1)).2] 26)).alloc (.cells #[.int .i64 (pt L j).1, .int .i64 (pt L j).2] 26)).drew).cell? ⟨wr.heap.size, 0, none⟩ = some (.int .i64 (pt L (j + 1)).1) := by go_simp
                      have p4 : (((wr.alloc (.cells #[.int .i64 (pt L (j + 1)).1, .int .i64 (pt L (j + 1)).2] 26)).alloc (.cells #[.int .i64 (pt L j).1, .int .i64 (pt L j).2] 26)).drew).cell? ⟨wr.heap.size, 1, none⟩ = some (.int .i64 (pt L (j + 1)).2) := by go_simp
                      have y1 : (((wr.alloc (.cells #[.int .i64 (pt L (j + 1)).1, .int .i64 (pt L (j + 1)).2] 26)).alloc (.cells #[.int .i64 (pt L j).1, .int .i64 (pt L j).2] 26)).drew).frozen? ⟨wr.heap.size + 1, 0, none⟩ = false := by go_simp
                      have y2 : (((wr.alloc (.cells #[.int .i64 (pt L (j + 1)).1, .int .i64 (pt L (j + 1)).2] 26)).alloc (.cells #[.int .i64 (pt L j).1, .int .i64 (pt L j).2] 26)).drew).frozen? ⟨wr.heap.size + 1, 1, none⟩ = false := by go_simp
                      have y3 : (((wr.alloc (.cells #[.int .i64 (pt L (j + 1)).1, .int .i64 (pt L (j + 1)).2] 26)).alloc (.cells #[.int .i64 (pt L j).1, .int .i64 (pt L j).2] 26)).drew).frozen? ⟨wr.heap.size, 0, none⟩ = false := by go_simp
                      have y4 : (((wr.alloc (.cells #[.int .i64 (pt L (j + 1)).1, .int .i64 (pt L (j + 1)).2] 26)).alloc (.cells #[.int .i64 (pt L j).1, .int .i64 (pt L j).2] 26)).drew).frozen? ⟨wr.heap.size, 1, none⟩ = false := by go_simp
                      have zz : wr.heap.size + 1 < (((wr.alloc (.cells #[.int .i64 (pt L (j + 1)).1, .int .i64 (pt L (j + 1)).2] 26)).alloc (.cells #[.int .i64 (pt L j).1, .int .i64 (pt L j).2] 26)).drew).heap.size := by simp
                      clear d1 d2 d3 d4
                      generalize (((wr.alloc (.cells #[.int .i64 (pt L (j + 1)).1, .int .i64 (pt L (j + 1)).2] 26)).alloc (.cells #[.int .i64 (pt L j).1, .int .i64 (pt L j).2] 26)).drew) = V at E3 p1 p2 p3 p4 y1 y2 y3 y4 zz ⊢
                      have x1 : wr.heap.size < V.heap.size := by omega
                      go_wp2_with fail
                      refine (order_any (pt L j) (pt L (j + 1)) _).mono ?_
                      rintro e W5 ⟨rfl, hE5⟩
                      have q1 := hE5.cell p1
                      have q2 := hE5.cell p2
                      have q3 := hE5.cell p3
                      have q4 := hE5.cell p4
                      have t1 := (hE5.frozen (p := ⟨wr.heap.size + 1, 0, none⟩) (by show wr.heap.size + 1 < _; omega)).trans y1
                      have t2 := (hE5.frozen (p := ⟨wr.heap.size + 1, 1, none⟩) (by show wr.heap.size + 1 < _; omega)).trans y2
                      have t3 := (hE5.frozen (p := ⟨wr.heap.size, 0, none⟩) (by show wr.heap.size < _; omega)).trans y3
                      have t4 := (hE5.frozen (p := ⟨wr.heap.size, 1, none⟩) (by show wr.heap.size < _; omega)).trans y4
                      have HS5 := Lib.hid (HS.out.ext (E3.trans hE5))
                      have EE := Lib.hid (E3.trans hE5)
                      clear p1 p2 p3 p4 y1 y2 y3 y4 E3 hE5
                      have HS6 := HS5
                      have EE6 : Hid (Below wr.heap.size wr W5) := EE.out
                      obtain ⟨kl, hkl⟩ := keyPr (p := (pt L j, pt L (j + 1))) (wf_inG i1.out).1 (wf_inG i1.out).2 (wf_inG i2.out).1 (wf_inG i2.out).2
                      have HKL := Lib.hid hkl
                      clear hkl
                      go_wp2_with (at_mapUpdate; refine wpList_setAdd _ rfl _ _ _ 93 rfl 74 4 lawPr Try.underlying93 Try.underlying4 mb (n0 + j) (pairK (ductK g hs k) L j) rfl HS6.out ?hn evPr_inj (pt L j, pt L (j + 1)) kl rfl rfl HKL.out ?hK)
                      case hn => unfold maxLen; omega
                      case hK =>
                        intro w6 hs6 hg6
                        have HS7 := Lib.hid hs6
                        have HG6 := Lib.hid hg6
                        clear hs6 hg6
                        go_wp2
                        refine ⟨⟨j + 1, by omega, by go_num, ?_, ?_, ?_⟩, by simp [Go.RowKit.intOf]; omega⟩
                        · have h9 := HS7.out
                          have hp : pairOf (pt L j) (pt L (j + 1)) = (pt L j, pt L (j + 1)) := by unfold pairOf; rw [if_neg (by omega)]
                          show SetAt _ _ _ _ _ _ _ (insP _ _)
                          rw [hp]
                          unfold insP
                          unfold setIns at h9
                          rw [Nat.add_assoc] at h9
                          split at h9 <;> split <;> first | exact h9 | contradiction
                        · exact HCH.out.trans ⟨Nat.le_trans EE6.out.size HG6.out.size, fun b hb hn => (HG6.out.block b (Nat.lt_of_lt_of_le hb EE6.out.size) (fun e => hn (by cases e; rfl))).trans (EE6.out.block b hb)⟩
                        · exact (HBB.out.trans (EE6.out.mono (by omega))).grown HG6.out (Nat.le_trans (by omega) EE6.out.size) (fun j hj => by cases hj; exact Nat.le_refl _)
                · have hjl' : ¬ (j : Int) + 1 < (L.length : Int) := by omega
                  have nmb : ∀ b cur e fr, W3.heap[b]? = some (.cells cur e fr) → b ≠ mb := fun b cur e fr h0 h1 => by
                    obtain ⟨es, cl, h8⟩ := HS0.out.at
                    rw [h1, h8] at h0; cases h0
                  have KK : Kept (fun k => k ≠ mb) 0 W3 wr := HCH.out.kept (fun k hk _ => hk)
                  have HOr : Hid (Owns wr (.slice la L.length lc) L) := HO3.out.kept KK (fun b hb => by
                    obtain ⟨c1, f1, e1⟩ := ownsRow_at HO3.out hb
                    exact nmb _ _ _ _ e1)
                  have HRr : Hid (RowsO wr (.slice av k cv) (ways g hs k)) := HD3.out.own.kept KK (fun b hb => by
                    obtain ⟨c1, f1, e1⟩ := HD3.out.own.at hb
                    exact nmb _ _ _ _ e1) (fun b cur fr h => nmb _ _ _ _ h)
                  have zm2 : mb < wr.heap.size := HS.out.lt
                  have zr3 : W3.heap.size ≤ wr.heap.size := HCH.out.1
                  clear KK nmb
                  have X1 : Ext wr (wr.alloc (.cells #[.slice la L.length lc] 22)) := (Ext.refl _).alloc _
                  obtain ⟨vs, h1, h2, h3⟩ := HRr.out.ext X1
                  rw [ways_len] at h1
                  have H1 := Lib.hid h1
                  have H2 := Lib.hid h2
                  have H3 := Lib.hid h3
                  have HX1 := Lib.hid X1
                  clear h1 h2 h3 X1
                  obtain ⟨i0, hi, hi0, hi1, hi2⟩ := info_parts infoRow
                  go_wp2_with (at_builtin; refine wpList_append1 _ rfl _ _ 39 rfl 22 i0 (.slice none 0 0) 1 24 Try.underlying39 hi hi0 hi1 hi2 rfl (by decide) (.slice av k cv) _ _ rfl H1.out ⟨wr.heap.size, 0, none⟩ 1 1 (by decide) [.slice la L.length lc] rfl rfl (cell_one_int _ _ _) ?c1 ?c2 ?c3 ?c4)
                  case c1 => first | (intro u hu; simp at hu; subst hu; rfl) | rfl | simp
                  case c2 => unfold maxLen; omega
                  case c3 => omega
                  case c4 =>
                    intro v' w5 hown5 hend5
                    have hlk : (ways g hs k).length = k := ways_len g hs k
                    have RO := rows_app (by rw [hlk]; exact H1.out) H2.out H3.out (HOr.out.ext HX1.out) hend5 (by rw [hlk]; exact hown5)
                    have hw1 : ways g hs k ++ [L] = ways g hs (k + 1) := by rw [HLEQ.out]; show _ = ways g hs k ++ [way g (ph hs k).1 (ph hs k).2]; rw [HX.out]
                    rw [hw1] at RO
                    obtain ⟨av', cv', hsh⟩ := RO.shape
                    rw [ways_len] at hsh
                    subst hsh
                    have HRO := Lib.hid RO
                    have HEND := Lib.hid hend5
                    have CA := Lib.hid (Chg.app hend5 (B := fun b => (Value.slice av k cv).ownBlock = some b) (fun b hb => hb))
                    clear hown5 hend5 hlk hw1 RO
                    go_wp2
                    refine ⟨⟨k + 1, av', cv', by omega, by go_num, rfl, HOK.out, ?_⟩, by simp [Go.RowKit.intOf]; omega⟩
                    have nvb : ∀ b, (Value.slice av k cv).ownBlock = some b → W0.heap.size ≤ b := HD3.out.vb
                    exact {
                      se := by
                        refine ⟨n0 + j, ?_, ?_⟩
                        · rw [Nat.add_mul]; omega
                        · have hdk : ductK g hs (k + 1) = pairK (ductK g hs k) L j := by
                            show pairsIn _ _ = _
                            rw [HX.out, ← HLEQ.out]
                            unfold pairsIn
                            rw [show L.length - 1 = j by omega]
                          rw [hdk]
                          exact (HS.out.ext HX1.out).same (CA.out.2 mb (Nat.lt_of_lt_of_le zm2 HX1.out.size) (fun e => by have := nvb mb e; omega))
                      be := ((HD3.out.be.trans HBB.out).trans (HX1.out.mono (by omega))).trans (HEND.out.below (by have := HX1.out.size; omega) (fun b hb => by have := nvb b hb; omega))
                      own := HRO.out
                      vb := fun b hb => by
                        rcases HEND.out with ⟨h1, _, _⟩ | ⟨h1, _⟩
                        · rw [h1] at hb; exact nvb b hb
                        · rw [h1] at hb
                          have hb' : b = (wr.alloc (.cells #[.slice la L.length lc] 22)).heap.size := by cases hb; rfl
                          simp at hb'
                          omega }
          · have HBAD : Hid (ductE g hs = cellsErr g [x.1, x.2]) := by
              show _ = _
              have h9 : hoseErr g x = cellsErr g [x.1, x.2] := by unfold hoseErr; rw [if_pos hce]
              rw [hE.out, hn.out, show hs.length - k = (hs.length - (k + 1)) + 1 by omega, hosesErr_stop (by rw [HX.out, h9]; exact hce), HX.out, h9]
            have HNE := Lib.hid hce
            have hb : (cellsErr g [x.1, x.2] != 0) = true := by simp [hce]
            have hb2 : (cellsErr g [x.1, x.2] == 0) = false := by simp [hce]
            clear hce
            go_wp2
            go_ret3
            exact DuctsPost.bad HBAD.out HNE.out HE2.out
        · have hk2 : k = hs.length := by omega
          have hlt' : ¬ (k : Int) < (hs.length : Int) := by omega
          obtain ⟨n, hn1, hS1⟩ := hd.out.se
          have HS1 := Lib.hid hS1
          clear hS1
          go_wp2_with (at_len; refine wpList_setLen _ rfl _ 93 rfl 74 4 Try.underlying93 mb _ (ductK g hs k) rfl HS1.out ?_)
          go_wp2
          go_ret3
          subst hk2
          obtain ⟨a', c', hv', hrr⟩ := hd.out.own.reads
          rw [ways_len] at hv'
          have hz : ductE g hs = 0 := by rw [hE.out, hn.out, Nat.sub_self]; rfl
          have hL1 : ductL g hs = ways g hs hs.length := by unfold ductL; rw [if_neg (by simp [hz])]
          have hN1 : ductN g hs = ((ductK g hs hs.length).length : Int) := by unfold ductN; rw [if_neg (by simp [hz])]
          refine ⟨a', c', ?_, by rw [hL1]; exact hrr, Below.trans EW (hd.out.be.mono (by omega))⟩
          show Ending.returned (.tuple #[.slice av hs.length cv, .int .i64 ((ductK g hs hs.length).length : Int), .int .i64 0]) = _
          rw [hL1, hN1, hz, ways_len, ← hv']
  · have hE : Hid (ductE g hs = chk g) := by show _ = _; unfold ductE; rw [if_pos h0]
    have hb : (chk g != 0) = true := by simp [h0]
    have hb2 : (chk g == 0) = false := by simp [h0]
    have H0 := Lib.hid h0
    clear h0
    go_wp2
    go_ret3
    exact DuctsPost.bad hE.out H0.out E1
end Go.Proofs.Ytfigooilhnahfaa
/- Bends. -/
namespace Go.Proofs.Ytfigooilhnahfaa
open Go.RowKit Go.Maps

/-- the bends among the first k cells -/
def bendN (l : List Pt) : Nat → Nat
  | 0 => 0
  | k + 1 => bendN l k + (if 2 ≤ k ∧ (pt l (k - 2)).1 ≠ (pt l k).1 ∧ (pt l (k - 2)).2 ≠ (pt l k).2 then 1 else 0)
theorem bendN_le (l : List Pt) : ∀ k, bendN l k ≤ k := by
  intro k
  induction k with
  | zero => exact Nat.le_refl _
  | succ k ih => unfold bendN; split <;> omega
theorem bendN_two (l : List Pt) : bendN l 2 = 0 := by simp [bendN]
def bendV (g : Gr) (l : List Pt) : Int := if listedErr g l ≠ 0 then 0 else if joinedB l = false then 0 else ((bendN l (max 2 l.length) : Nat) : Int)
def bendE (g : Gr) (l : List Pt) : Int := if listedErr g l ≠ 0 then listedErr g l else if joinedB l = false then 3 else 0

set_option maxHeartbeats 2000000 in
set_option maxRecDepth 100000 in
theorem Bends_any (g : Gr) (l : List Pt) (ga : Option Addr) (gc : Nat) (a : Option Addr) (cap : Nat) (w : World) (hg : g.bl.length ≤ maxLen) (hc : Cells2 w ga g.bl) (hl : l.length ≤ maxLen) (hcl : Cells2 w a l) :
    Calls Try.prog 34 #[.agg #[.int .i64 g.rows, .int .i64 g.cols, .slice ga g.bl.length gc], .slice a l.length cap] w fun e w' => e = .returned (.tuple #[.int .i64 (bendV g l), .int .i64 (bendE g l)]) ∧ Ext w w' := by
  have HC : Hid (Cells2 w ga g.bl) := hc
  have HL : Hid (Cells2 w a l) := hcl
  have HG := Lib.hid hg
  have HM := Lib.hid hl
  clear hc hcl hg hl
  have E0 : Ext w (((w).alloc (.cells #[.int .i64 g.rows, .int .i64 g.cols, .slice ga g.bl.length gc] 33))) := (Ext.refl _).alloc _
  have a1 : (((w).alloc (.cells #[.int .i64 g.rows, .int .i64 g.cols, .slice ga g.bl.length gc] 33))).cell? ⟨w.heap.size, 0, none⟩ = some (.int .i64 g.rows) := by go_simp
  have a2 : (((w).alloc (.cells #[.int .i64 g.rows, .int .i64 g.cols, .slice ga g.bl.length gc] 33))).cell? ⟨w.heap.size, 1, none⟩ = some (.int .i64 g.cols) := by go_simp
  have a3 : (((w).alloc (.cells #[.int .i64 g.rows, .int .i64 g.cols, .slice ga g.bl.length gc] 33))).cell? ⟨w.heap.size, 2, none⟩ = some (.slice ga g.bl.length gc) := by go_simp
  by_cases h0 : listedErr g l = 0
  · obtain ⟨hr, hne, hlen, ho⟩ := listed_ok h0
    have HR := Lib.hid hr
    have HIN : Hid (∀ i, i < l.length → inside g (pt l i) = true) := fun i hi => opn_inside (ho _ (pt_mem hi))
    have hv : Hid (bendV g l = (if joinedB l = false then 0 else ((bendN l (max 2 l.length) : Nat) : Int)) ∧ bendE g l = if joinedB l = false then 3 else 0) := by
      show _ ∧ _
      unfold bendV bendE
      exact ⟨by rw [if_neg (by simp [h0])], by rw [if_neg (by simp [h0])]⟩
    have H0 := Lib.hid h0
    have HLEN := Lib.hid hlen
    clear hr ho h0 hne
    go_enter Try.func34, Try.ntmps34
    go_wp2_with fail
    refine (listed_any g l ga gc a cap _ HG.out (HC.out.ext E0) HM.out (HL.out.ext E0)).mono ?_
    rintro e w1 ⟨rfl, hE⟩
    rw [H0.out]
    have E1 : Ext w w1 := E0.trans hE
    clear hE E0 a1 a2 a3
    go_wp2_with fail
    refine (joined_any l a cap _ HLEN.out (fun i hi => inG_of HR.out (HIN.out i hi)) (HL.out.ext E1)).mono ?_
    rintro e w2 ⟨rfl, hE⟩
    have E2 : Ext w w2 := E1.trans hE
    clear hE E1
    cases hj : joinedB l
    · have HJ := Lib.hid hj
      clear hj
      go_wp2
      go_ret2
      refine ⟨?_, E2⟩
      rw [hv.out.1, hv.out.2, HJ.out]
      rfl
    · have HJ := Lib.hid hj
      clear hj
      go_wp2
      go_loopw [7, 8] (fun n i wr => ∃ k : Nat, 2 ≤ k ∧ k ≤ max 2 l.length ∧ i = .int .i64 k ∧ n = .int .i64 (bendN l k) ∧ Ext w2 wr) (fun _ i _ => l.length - (intOf i).toNat)
      case atStart => exact ⟨2, Nat.le_refl _, by omega, rfl, by rw [bendN_two]; rfl, Ext.refl _⟩
      case round =>
        obtain ⟨k, hk2, hkm, rfl, rfl, he⟩ := hrel
        have hnb := bendN_le l k
        by_cases hlt : k < l.length
        · obtain ⟨b, off, ha, e1, e2⟩ := HL.out.ext (E2.trans he) k hlt
          obtain ⟨b', off', ha', f1, f2⟩ := HL.out.ext (E2.trans he) (k - 2) (by omega)
          subst ha
          cases ha'
          have q0 : IntKind.i64.wrap ((k : Int) - 2) = (k : Int) - 2 := IntWalk.i64_in _ (by omega)
          have q1 : ((k : Int) - 2).toNat = k - 2 := by omega
          have q2 : 0 ≤ (k : Int) - 2 := by omega
          have q3 : (2 : Int) ≤ (k : Int) := by omega
          have q4 : (k : Int) - 2 < (l.length : Int) := by omega
          have q5 : IntKind.i64.wrap ((bendN l k : Int) + 1) = (bendN l k : Int) + 1 := IntWalk.i64_in _ (by omega)
          have zb := cell_lt f1
          dsimp only at zb
          have HK := Lib.hid (show bendN l (k + 1) = bendN l k + (if 2 ≤ k ∧ (pt l (k - 2)).1 ≠ (pt l k).1 ∧ (pt l (k - 2)).2 ≠ (pt l k).2 then 1 else 0) from rfl)
          cases hx : ((pt l (k - 2)).1 != (pt l k).1)
          · go_wp2_with fail
            go_region
            · have E3 : Ext wr (((wr.alloc (.cells #[.int .i64 (pt l (k - 2)).1, .int .i64 (pt l (k - 2)).2] 26)).alloc (.cells #[.int .i64 (pt l k).1, .int .i64 (pt l k).2] 26)).drew) := (((Ext.refl _).alloc _).alloc _).drew
              have p1 : (((wr.alloc (.cells #[.int .i64 (pt l (k - 2)).1, .int .i64 (pt l (k - 2)).2] 26)).alloc (.cells #[.int .i64 (pt l k).1, .int .i64 (pt l k).2] 26)).drew).cell? ⟨wr.heap.size, 0, none⟩ = some (.int .i64 (pt l (k - 2)).1) := by go_simp
              have p2 : (((wr.alloc (.cells #[.int .i64 (pt l (k - 2)).1, .int .i64 (pt l (k - 2)).2] 26)).alloc (.cells #[.int .i64 (pt l k).1, .int .i64 (pt l k).2] 26)).drew).cell? ⟨wr.heap.size, 1, none⟩ = some (.int .i64 (pt l (k - 2)).2) := by go_simp
              have p3 : (((wr.alloc (.cells #[.int .i64 (pt l (k - 2)).1, .int .i64 (pt l (k - 2)).2] 26)).alloc (.cells #[.int .i64 (pt l k).1, .int .i64 (pt l k).2] 26)).drew).cell? ⟨wr.heap.size + 1, 0, none⟩ = some (.int .i64 (pt l k).1) := by go_simp
              have p4 : (((wr.alloc (.cells #[.int .i64 (pt l (k - 2)).1, .int .i64 (pt l (k - 2)).2] 26)).alloc (.cells #[.int .i64 (pt l k).1, .int .i64 (pt l k).2] 26)).drew).cell? ⟨wr.heap.size + 1, 1, none⟩ = some (.int .i64 (pt l k).2) := by go_simp
              clear e1 e2 f1 f2
              generalize (((wr.alloc (.cells #[.int .i64 (pt l (k - 2)).1, .int .i64 (pt l (k - 2)).2] 26)).alloc (.cells #[.int .i64 (pt l k).1, .int .i64 (pt l k).2] 26)).drew) = W at p1 p2 p3 p4 E3 ⊢
              go_wp2
              refine ⟨⟨k + 1, by omega, by omega, by go_num, ?_, he.trans E3⟩, by simp [intOf]; omega⟩
              rw [HK.out, if_neg (fun h => by first | exact absurd h.2.1 (by simpa using hx) | exact absurd h.2.2 (by simpa using hy))]
              rfl
            · have E3 : Ext wr (((wr.alloc (.cells #[.int .i64 (pt l k).1, .int .i64 (pt l k).2] 26)).alloc (.cells #[.int .i64 (pt l (k - 2)).1, .int .i64 (pt l (k - 2)).2] 26)).drew) := (((Ext.refl _).alloc _).alloc _).drew
              have p1 : (((wr.alloc (.cells #[.int .i64 (pt l k).1, .int .i64 (pt l k).2] 26)).alloc (.cells #[.int .i64 (pt l (k - 2)).1, .int .i64 (pt l (k - 2)).2] 26)).drew).cell? ⟨wr.heap.size + 1, 0, none⟩ = some (.int .i64 (pt l (k - 2)).1) := by go_simp
              have p2 : (((wr.alloc (.cells #[.int .i64 (pt l k).1, .int .i64 (pt l k).2] 26)).alloc (.cells #[.int .i64 (pt l (k - 2)).1, .int .i64 (pt l (k - 2)).2] 26)).drew).cell? ⟨wr.heap.size + 1, 1, none⟩ = some (.int .i64 (pt l (k - 2)).2) := by go_simp
              have p3 : (((wr.alloc (.cells #[.int .i64 (pt l k).1, .int .i64 (pt l k).2] 26)).alloc (.cells #[.int .i64 (pt l (k - 2)).1, .int .i64 (pt l (k - 2)).2] 26)).drew).cell? ⟨wr.heap.size, 0, none⟩ = some (.int .i64 (pt l k).1) := by go_simp
              have p4 : (((wr.alloc (.cells #[.int .i64 (pt l k).1, .int .i64 (pt l k).2] 26)).alloc (.cells #[.int .i64 (pt l (k - 2)).1, .int .i64 (pt l (k - 2)).2] 26)).drew).cell? ⟨wr.heap.size, 1, none⟩ = some (.int .i64 (pt l k).2) := by go_simp
              clear e1 e2 f1 f2
              generalize (((wr.alloc (.cells #[.int .i64 (pt l k).1, .int .i64 (pt l k).2] 26)).alloc (.cells #[.int .i64 (pt l (k - 2)).1, .int .i64 (pt l (k - 2)).2] 26)).drew) = W at p1 p2 p3 p4 E3 ⊢
              go_wp2
              refine ⟨⟨k + 1, by omega, by omega, by go_num, ?_, he.trans E3⟩, by simp [intOf]; omega⟩
              rw [HK.out, if_neg (fun h => by first | exact absurd h.2.1 (by simpa using hx) | exact absurd h.2.2 (by simpa using hy))]
              rfl
          · cases hy : ((pt l (k - 2)).2 != (pt l k).2)
            · go_wp2_with fail
              go_region
              · have E3 : Ext wr (((wr.alloc (.cells #[.int .i64 (pt l (k - 2)).1, .int .i64 (pt l (k - 2)).2] 26)).alloc (.cells #[.int .i64 (pt l k).1, .int .i64 (pt l k).2] 26)).drew) := (((Ext.refl _).alloc _).alloc _).drew
                have p1 : (((wr.alloc (.cells #[.int .i64 (pt l (k - 2)).1, .int .i64 (pt l (k - 2)).2] 26)).alloc (.cells #[.int .i64 (pt l k).1, .int .i64 (pt l k).2] 26)).drew).cell? ⟨wr.heap.size, 0, none⟩ = some (.int .i64 (pt l (k - 2)).1) := by go_simp
                have p2 : (((wr.alloc (.cells #[.int .i64 (pt l (k - 2)).1, .int .i64 (pt l (k - 2)).2] 26)).alloc (.cells #[.int .i64 (pt l k).1, .int .i64 (pt l k).2] 26)).drew).cell? ⟨wr.heap.size, 1, none⟩ = some (.int .i64 (pt l (k - 2)).2) := by go_simp
                have p3 : (((wr.alloc (.cells #[.int .i64 (pt l (k - 2)).1, .int .i64 (pt l (k - 2)).2] 26)).alloc (.cells #[.int .i64 (pt l k).1, .int .i64 (pt l k).2] 26)).drew).cell? ⟨wr.heap.size + 1, 0, none⟩ = some (.int .i64 (pt l k).1) := by go_simp
                have p4 : (((wr.alloc (.cells #[.int .i64 (pt l (k - 2)).1, .int .i64 (pt l (k - 2)).2] 26)).alloc (.cells #[.int .i64 (pt l k).1, .int .i64 (pt l k).2] 26)).drew).cell? ⟨wr.heap.size + 1, 1, none⟩ = some (.int .i64 (pt l k).2) := by go_simp
                clear e1 e2 f1 f2
                generalize (((wr.alloc (.cells #[.int .i64 (pt l (k - 2)).1, .int .i64 (pt l (k - 2)).2] 26)).alloc (.cells #[.int .i64 (pt l k).1, .int .i64 (pt l k).2] 26)).drew) = W at p1 p2 p3 p4 E3 ⊢
                go_wp2
                refine ⟨⟨k + 1, by omega, by omega, by go_num, ?_, he.trans E3⟩, by simp [intOf]; omega⟩
                rw [HK.out, if_neg (fun h => by first | exact absurd h.2.1 (by simpa using hx) | exact absurd h.2.2 (by simpa using hy))]
                rfl
              · have E3 : Ext wr (((wr.alloc (.cells #[.int .i64 (pt l k).1, .int .i64 (pt l k).2] 26)).alloc (.cells #[.int .i64 (pt l (k - 2)).1, .int .i64 (pt l (k - 2)).2] 26)).drew) := (((Ext.refl _).alloc _).alloc _).drew
                have p1 : (((wr.alloc (.cells #[.int .i64 (pt l k).1, .int .i64 (pt l k).2] 26)).alloc (.cells #[.int .i64 (pt l (k - 2)).1, .int .i64 (pt l (k - 2)).2] 26)).drew).cell? ⟨wr.heap.size + 1, 0, none⟩ = some (.int .i64 (pt l (k - 2)).1) := by go_simp
                have p2 : (((wr.alloc (.cells #[.int .i64 (pt l k).1, .int .i64 (pt l k).2] 26)).alloc (.cells #[.int .i64 (pt l (k - 2)).1, .int .i64 (pt l (k - 2)).2] 26)).drew).cell? ⟨wr.heap.size + 1, 1, none⟩ = some (.int .i64 (pt l (k - 2)).2) := by go_simp
                have p3 : (((wr.alloc (.cells #[.int .i64 (pt l k).1, .int .i64 (pt l k).2] 26)).alloc (.cells #[.int .i64 (pt l (k - 2)).1, .int .i64 (pt l (k - 2)).2] 26)).drew).cell? ⟨wr.heap.size, 0, none⟩ = some (.int .i64 (pt l k).1) := by go_simp
                have p4 : (((wr.alloc (.cells #[.int .i64 (pt l k).1, .int .i64 (pt l k).2] 26)).alloc (.cells #[.int .i64 (pt l (k - 2)).1, .int .i64 (pt l (k - 2)).2] 26)).drew).cell? ⟨wr.heap.size, 1, none⟩ = some (.int .i64 (pt l k).2) := by go_simp
                clear e1 e2 f1 f2
                generalize (((wr.alloc (.cells #[.int .i64 (pt l k).1, .int .i64 (pt l k).2] 26)).alloc (.cells #[.int .i64 (pt l (k - 2)).1, .int .i64 (pt l (k - 2)).2] 26)).drew) = W at p1 p2 p3 p4 E3 ⊢
                go_wp2
                refine ⟨⟨k + 1, by omega, by omega, by go_num, ?_, he.trans E3⟩, by simp [intOf]; omega⟩
                rw [HK.out, if_neg (fun h => by first | exact absurd h.2.1 (by simpa using hx) | exact absurd h.2.2 (by simpa using hy))]
                rfl
            · go_wp2_with fail
              go_region
              · have E3 : Ext wr (((wr.alloc (.cells #[.int .i64 (pt l (k - 2)).1, .int .i64 (pt l (k - 2)).2] 26)).alloc (.cells #[.int .i64 (pt l k).1, .int .i64 (pt l k).2] 26)).drew) := (((Ext.refl _).alloc _).alloc _).drew
                have p1 : (((wr.alloc (.cells #[.int .i64 (pt l (k - 2)).1, .int .i64 (pt l (k - 2)).2] 26)).alloc (.cells #[.int .i64 (pt l k).1, .int .i64 (pt l k).2] 26)).drew).cell? ⟨wr.heap.size, 0, none⟩ = some (.int .i64 (pt l (k - 2)).1) := by go_simp
                have p2 : (((wr.alloc (.cells #[.int .i64 (pt l (k - 2)).1, .int .i64 (pt l (k - 2)).2] 26)).alloc (.cells #[.int .i64 (pt l k).1, .int .i64 (pt l k).2] 26)).drew).cell? ⟨wr.heap.size, 1, none⟩ = some (.int .i64 (pt l (k - 2)).2) := by go_simp
                have p3 : (((wr.alloc (.cells #[.int .i64 (pt l (k - 2)).1, .int .i64 (pt l (k - 2)).2] 26)).alloc (.cells #[.int .i64 (pt l k).1, .int .i64 (pt l k).2] 26)).drew).cell? ⟨wr.heap.size + 1, 0, none⟩ = some (.int .i64 (pt l k).1) := by go_simp
                have p4 : (((wr.alloc (.cells #[.int .i64 (pt l (k - 2)).1, .int .i64 (pt l (k - 2)).2] 26)).alloc (.cells #[.int .i64 (pt l k).1, .int .i64 (pt l k).2] 26)).drew).cell? ⟨wr.heap.size + 1, 1, none⟩ = some (.int .i64 (pt l k).2) := by go_simp
                clear e1 e2 f1 f2
                generalize (((wr.alloc (.cells #[.int .i64 (pt l (k - 2)).1, .int .i64 (pt l (k - 2)).2] 26)).alloc (.cells #[.int .i64 (pt l k).1, .int .i64 (pt l k).2] 26)).drew) = W at p1 p2 p3 p4 E3 ⊢
                go_wp2
                refine ⟨⟨k + 1, by omega, by omega, by go_num, ?_, he.trans E3⟩, by simp [intOf]; omega⟩
                rw [HK.out, if_pos ⟨hk2, by simpa using hx, by simpa using hy⟩]
                first | rfl | go_num | (simp)
              · have E3 : Ext wr (((wr.alloc (.cells #[.int .i64 (pt l k).1, .int .i64 (pt l k).2] 26)).alloc (.cells #[.int .i64 (pt l (k - 2)).1, .int .i64 (pt l (k - 2)).2] 26)).drew) := (((Ext.refl _).alloc _).alloc _).drew
                have p1 : (((wr.alloc (.cells #[.int .i64 (pt l k).1, .int .i64 (pt l k).2] 26)).alloc (.cells #[.int .i64 (pt l (k - 2)).1, .int .i64 (pt l (k - 2)).2] 26)).drew).cell? ⟨wr.heap.size + 1, 0, none⟩ = some (.int .i64 (pt l (k - 2)).1) := by go_simp
                have p2 : (((wr.alloc (.cells #[.int .i64 (pt l k).1, .int .i64 (pt l k).2] 26)).alloc (.cells #[.int .i64 (pt l (k - 2)).1, .int .i64 (pt l (k - 2)).2] 26)).drew).cell? ⟨wr.heap.size + 1, 1, none⟩ = some (.int .i64 (pt l (k - 2)).2) := by go_simp
                have p3 : (((wr.alloc (.cells #[.int .i64 (pt l k).1, .int .i64 (pt l k).2] 26)).alloc (.cells #[.int .i64 (pt l (k - 2)).1, .int .i64 (pt l (k - 2)).2] 26)).drew).cell? ⟨wr.heap.size, 0, none⟩ = some (.int .i64 (pt l k).1) := by go_simp
                have p4 : (((wr.alloc (.cells #[.int .i64 (pt l k).1, .int .i64 (pt l k).2] 26)).alloc (.cells #[.int .i64 (pt l (k - 2)).1, .int .i64 (pt l (k - 2)).2] 26)).drew).cell? ⟨wr.heap.size, 1, none⟩ = some (.int .i64 (pt l k).2) := by go_simp
                clear e1 e2 f1 f2
                generalize (((wr.alloc (.cells #[.int .i64 (pt l k).1, .int .i64 (pt l k).2] 26)).alloc (.cells #[.int .i64 (pt l (k - 2)).1, .int .i64 (pt l (k - 2)).2] 26)).drew) = W at p1 p2 p3 p4 E3 ⊢
                go_wp2
                refine ⟨⟨k + 1, by omega, by omega, by go_num, ?_, he.trans E3⟩, by simp [intOf]; omega⟩
                rw [HK.out, if_pos ⟨hk2, by simpa using hx, by simpa using hy⟩]
                first | rfl | go_num | (simp)
        · go_wp2
          go_ret2
          refine ⟨?_, E2.trans he⟩
          rw [hv.out.1, hv.out.2, HJ.out, show max 2 l.length = k by omega]
          rfl
  · have hv : Hid (bendV g l = 0 ∧ bendE g l = listedErr g l) := by
      show _ ∧ _
      unfold bendV bendE
      rw [if_pos h0, if_pos h0]
      exact ⟨rfl, rfl⟩
    have hb : (listedErr g l != 0) = true := by simp [h0]
    have hb2 : (listedErr g l == 0) = false := by simp [h0]
    clear h0
    go_enter Try.func34, Try.ntmps34
    go_wp2_with fail
    refine (listed_any g l ga gc a cap _ HG.out (HC.out.ext E0) HM.out (HL.out.ext E0)).mono ?_
    rintro e w1 ⟨rfl, hE⟩
    go_wp2
    go_ret2
    rw [hv.out.1, hv.out.2]
    exact ⟨rfl, E0.trans hE⟩
end Go.Proofs.Ytfigooilhnahfaa
/- The examples of the chapter, reckoned. -/
namespace Go.Proofs.Ytfigooilhnahfaa

theorem wall_way : way wallG (0, 1) (2, 1) = [(0, 1), (0, 0), (1, 0), (2, 0), (2, 1)] := by decide +kernel
theorem wall_chk : chk wallG = 0 := by decide +kernel
theorem wall_given : givenErr wallG [(0, 1), (2, 1)] = 0 := by decide +kernel
theorem wall_dst : dst wallG (2, 1) (0, 1) = 4 := by decide +kernel
theorem wall_bends : bendV wallG [(0, 1), (0, 0), (1, 0), (2, 0), (2, 1)] = 2 ∧ bendE wallG [(0, 1), (0, 0), (1, 0), (2, 0), (2, 1)] = 0 := by decide +kernel
theorem wall_meet : meetP wallG (0, 0) (0, 3) (2, 0) = (0, 0) ∧ meetN wallG (0, 0) (0, 3) (2, 0) = 5 ∧ meetE wallG (0, 0) (0, 3) (2, 0) = 0 := by decide +kernel
theorem wall_duct : ductN wallG [((0, 0), (0, 3)), ((0, 1), (2, 0))] = 5 ∧ ductE wallG [((0, 0), (0, 3)), ((0, 1), (2, 0))] = 0 := by decide +kernel
theorem wall_route : routeV wallG (0, 1) (2, 1) = [(0, 1), (0, 0), (1, 0), (2, 0), (2, 1)] ∧ lenE wallG (0, 1) (2, 1) = 0 := by decide +kernel
theorem wall_parts : partsL wallG = [10] := by
  have h : partsU wallG = [10] := by decide +kernel
  unfold partsL
  rw [if_neg (by rw [wall_chk]; decide), h]
  simp
end Go.Proofs.Ytfigooilhnahfaa
/- Whether two lists of places are the same. -/
namespace Go.Proofs.Ytfigooilhnahfaa
open Go.RowKit

theorem pts_ext {l m : List Pt} (hl : l.length = m.length) (h : ∀ j, j < l.length → pt l j = pt m j) : l = m := by
  refine List.ext_getElem hl fun i h1 h2 => ?_
  have := h i h1
  unfold pt at this
  rw [List.getD_eq_getElem?_getD, List.getD_eq_getElem?_getD, List.getElem?_eq_getElem h1, List.getElem?_eq_getElem h2] at this
  simpa using this

set_option maxHeartbeats 1000000 in
theorem Same_any (l m : List Pt) (a a' : Option Addr) (cap cap' : Nat) (w : World) (hl : l.length ≤ maxLen) (hc : Cells2 w a l) (hd : Cells2 w a' m) :
    Calls Try.prog 31 #[.slice a l.length cap, .slice a' m.length cap'] w fun e w' => e = .returned (.bool (decide (l = m))) ∧ Ext w w' := by
  unfold maxLen at hl
  by_cases hlen : l.length = m.length
  · have HLE := Lib.hid hlen
    have hle : ((l.length : Int) != (m.length : Int)) = false := by simp [hlen]
    have hle2 : (l.length != m.length) = false := by simp [hlen]
    clear hlen
    go_enter Try.func31, Try.ntmps31
    go_wp2
    go_loopw [5] (fun i wr => ∃ k : Nat, k ≤ l.length ∧ i = .int .i64 k ∧ Hid (∀ j, j < k → pt l j = pt m j) ∧ Ext w wr) (fun i _ => l.length - (intOf i).toNat)
    case atStart => exact ⟨0, Nat.zero_le _, rfl, fun j hj => by omega, Ext.refl _⟩
    case round =>
      obtain ⟨k, hk, rfl, hn, he⟩ := hrel
      by_cases hlt : k < l.length
      · obtain ⟨b, off, ha, e1, e2⟩ := hc.ext he k hlt
        obtain ⟨b', off', ha', d1, d2⟩ := hd.ext he k (by have := HLE.out; omega)
        have HC : Hid (Cells2 w a l) := hc
        have HD : Hid (Cells2 w a' m) := hd
        subst ha ha'
        clear hc hd
        have hkm : (k : Int) < (m.length : Int) := by have := HLE.out; omega
        by_cases heq : pt l k = pt m k
        · have HN : Hid (pt l k = pt m k) := heq
          rw [heq] at e1 e2
          clear heq
          go_wp2
          go_quiet (fail)
          go_wp2
          refine ⟨⟨k + 1, by omega, by go_num, fun j hj => ?_, he.drewN _⟩, by simp [intOf]; omega⟩
          by_cases e : j = k
          · subst e; exact HN.out
          · exact hn.out j (by omega)
        · have hne : Hid (l ≠ m) := by rintro rfl; exact heq rfl
          by_cases h1 : (pt l k).1 = (pt m k).1
          · have h2 : ((pt l k).2 == (pt m k).2) = false := by
              cases hb : ((pt l k).2 == (pt m k).2)
              · rfl
              · exact absurd (Prod.ext h1 (by simpa using hb)) heq
            rw [h1] at e1
            clear heq h1
            go_wp2
            go_quiet (fail)
            go_wp2
            go_ret
            exact ⟨ret_bool (by simp [hne.out]), he.drewN _⟩
          · have h2 : ((pt l k).1 == (pt m k).1) = false := by simpa using h1
            clear heq h1
            go_wp2
            go_quiet (fail)
            go_wp2
            go_ret
            exact ⟨ret_bool (by simp [hne.out]), he.drewN _⟩
      · go_wp2
        go_ret
        refine ⟨ret_bool ?_, he⟩
        symm
        rw [decide_eq_true_eq]
        exact pts_ext HLE.out (fun j hj => hn.out j (by omega))
  · have hne : l ≠ m := by rintro rfl; exact hlen rfl
    have hle : ((l.length : Int) != (m.length : Int)) = true := by simp; omega
    have hle2 : (l.length != m.length) = true := by simp; omega
    have hle3 : ((l.length : Int) == (m.length : Int)) = false := by simp; omega
    have hle4 : (l.length == m.length) = false := by simp; omega
    have HNE := Lib.hid hne
    clear hne hlen
    go_enter Try.func31, Try.ntmps31
    go_wp2
    go_ret
    exact ⟨ret_bool (by simp [HNE.out]), Ext.refl _⟩

set_option maxHeartbeats 1000000 in
theorem EqualP_any (l m : List Pt) (a a' : Option Addr) (cap cap' : Nat) (w : World) (hl : l.length ≤ maxLen) (hc : Cells2 w a l) (hd : Cells2 w a' m) :
    Calls Try.prog 46 #[.slice a l.length cap, .slice a' m.length cap'] w fun e w' => e = .returned (.bool (decide (l = m))) ∧ Ext w w' := by
  unfold maxLen at hl
  by_cases hlen : l.length = m.length
  · have HLE := Lib.hid hlen
    have hle : ((l.length : Int) != (m.length : Int)) = false := by simp [hlen]
    have hle2 : (l.length != m.length) = false := by simp [hlen]
    clear hlen
    go_enter Try.func46, Try.ntmps46
    go_wp2
    go_loopw [13] (fun i wr => ∃ k : Nat, k ≤ l.length ∧ i = .int .i64 k ∧ Hid (∀ j, j < k → pt l j = pt m j) ∧ Ext w wr) (fun i _ => l.length - (intOf i).toNat)
    case atStart => exact ⟨0, Nat.zero_le _, rfl, fun j hj => by omega, Ext.refl _⟩
    case round =>
      obtain ⟨k, hk, rfl, hn, he⟩ := hrel
      by_cases hlt : k < l.length
      · obtain ⟨b, off, ha, e1, e2⟩ := hc.ext he k hlt
        obtain ⟨b', off', ha', d1, d2⟩ := hd.ext he k (by have := HLE.out; omega)
        have HC : Hid (Cells2 w a l) := hc
        have HD : Hid (Cells2 w a' m) := hd
        subst ha ha'
        clear hc hd
        have hkm : (k : Int) < (m.length : Int) := by have := HLE.out; omega
        by_cases heq : pt l k = pt m k
        · have HN : Hid (pt l k = pt m k) := heq
          rw [heq] at e1 e2
          clear heq
          go_wp2
          go_quiet (fail)
          go_wp2
          refine ⟨⟨k + 1, by omega, by go_num, fun j hj => ?_, he.drewN _⟩, by simp [intOf]; omega⟩
          by_cases e : j = k
          · subst e; exact HN.out
          · exact hn.out j (by omega)
        · have hne : Hid (l ≠ m) := by rintro rfl; exact heq rfl
          by_cases h1 : (pt l k).1 = (pt m k).1
          · have h2 : ((pt l k).2 == (pt m k).2) = false := by
              cases hb : ((pt l k).2 == (pt m k).2)
              · rfl
              · exact absurd (Prod.ext h1 (by simpa using hb)) heq
            rw [h1] at e1
            clear heq h1
            go_wp2
            go_quiet (fail)
            go_wp2
            go_ret
            exact ⟨ret_bool (by simp [hne.out]), he.drewN _⟩
          · have h2 : ((pt l k).1 == (pt m k).1) = false := by simpa using h1
            clear heq h1
            go_wp2
            go_quiet (fail)
            go_wp2
            go_ret
            exact ⟨ret_bool (by simp [hne.out]), he.drewN _⟩
      · go_wp2
        go_ret
        refine ⟨ret_bool ?_, he⟩
        symm
        rw [decide_eq_true_eq]
        exact pts_ext HLE.out (fun j hj => hn.out j (by omega))
  · have hne : l ≠ m := by rintro rfl; exact hlen rfl
    have hle : ((l.length : Int) != (m.length : Int)) = true := by simp; omega
    have hle2 : (l.length != m.length) = true := by simp; omega
    have hle3 : ((l.length : Int) == (m.length : Int)) = false := by simp; omega
    have hle4 : (l.length == m.length) = false := by simp; omega
    have HNE := Lib.hid hne
    clear hne hlen
    go_enter Try.func46, Try.ntmps46
    go_wp2
    go_ret
    exact ⟨ret_bool (by simp [HNE.out]), Ext.refl _⟩
end Go.Proofs.Ytfigooilhnahfaa
/- Whether two lists of numbers are the same. -/
namespace Go.Proofs.Ytfigooilhnahfaa
open Go.RowKit

set_option maxHeartbeats 1000000 in
theorem EqualI_any (l m : List Int) (a a' : Option Addr) (cap cap' : Nat) (w : World) (hl : l.length ≤ maxLen) (hc : CellsI w a l) (hd : CellsI w a' m) :
    Calls Try.prog 47 #[.slice a l.length cap, .slice a' m.length cap'] w fun e w' => e = .returned (.bool (decide (l = m))) ∧ Ext w w' := by
  unfold maxLen at hl
  by_cases hlen : l.length = m.length
  · have HLE := Lib.hid hlen
    have hle : ((l.length : Int) != (m.length : Int)) = false := by simp [hlen]
    have hle2 : (l.length != m.length) = false := by simp [hlen]
    clear hlen
    go_enter Try.func47, Try.ntmps47
    go_wp2
    go_loopw [13] (fun i wr => ∃ k : Nat, k ≤ l.length ∧ i = .int .i64 k ∧ Hid (∀ j, j < k → l.getD j 0 = m.getD j 0) ∧ Ext w wr) (fun i _ => l.length - (intOf i).toNat)
    case atStart => exact ⟨0, Nat.zero_le _, rfl, fun j hj => by omega, Ext.refl _⟩
    case round =>
      obtain ⟨k, hk, rfl, hn, he⟩ := hrel
      by_cases hlt : k < l.length
      · obtain ⟨b, off, ha, e1⟩ := hc.ext he k hlt
        obtain ⟨b', off', ha', d1⟩ := hd.ext he k (by have := HLE.out; omega)
        have HC : Hid (CellsI w a l) := hc
        have HD : Hid (CellsI w a' m) := hd
        subst ha ha'
        clear hc hd
        have hkm : (k : Int) < (m.length : Int) := by have := HLE.out; omega
        generalize hx : l.getD k 0 = x at e1
        generalize hy : m.getD k 0 = y at d1
        have HX := Lib.hid hx
        have HY := Lib.hid hy
        clear hx hy
        by_cases heq : x = y
        · subst heq
          go_wp2
          go_quiet (fail)
          go_wp2
          refine ⟨⟨k + 1, by omega, by go_num, fun j hj => ?_, he.drewN _⟩, by simp [intOf]; omega⟩
          by_cases e : j = k
          · subst e; rw [HX.out, HY.out]
          · exact hn.out j (by omega)
        · have hne : Hid (l ≠ m) := by rintro rfl; exact heq (HX.out.symm.trans HY.out)
          have h2 : (x == y) = false := by simpa using heq
          have h3 : (x != y) = true := by simpa using heq
          clear heq
          go_wp2
          go_quiet (fail)
          go_wp2
          go_ret
          exact ⟨ret_bool (by simp [hne.out]), he.drewN _⟩
      · go_wp2
        go_ret
        refine ⟨ret_bool ?_, he⟩
        symm
        rw [decide_eq_true_eq]
        refine List.ext_getElem HLE.out fun i h1 h2 => ?_
        have := hn.out i (by omega)
        rw [List.getD_eq_getElem?_getD, List.getD_eq_getElem?_getD, List.getElem?_eq_getElem h1, List.getElem?_eq_getElem h2] at this
        simpa using this
  · have hne : l ≠ m := by rintro rfl; exact hlen rfl
    have hle : ((l.length : Int) != (m.length : Int)) = true := by simp; omega
    have hle2 : (l.length != m.length) = true := by simp; omega
    have hle3 : ((l.length : Int) == (m.length : Int)) = false := by simp; omega
    have hle4 : (l.length == m.length) = false := by simp; omega
    have HNE := Lib.hid hne
    clear hne hlen
    go_enter Try.func47, Try.ntmps47
    go_wp2
    go_ret
    exact ⟨ret_bool (by simp [HNE.out]), Ext.refl _⟩

set_option maxHeartbeats 1000000 in
theorem SameInts_any (l m : List Int) (a a' : Option Addr) (cap cap' : Nat) (w : World) (hl : l.length ≤ maxLen) (hc : CellsI w a l) (hd : CellsI w a' m) :
    Calls Try.prog 26 #[.slice a l.length cap, .slice a' m.length cap'] w fun e w' => e = .returned (.bool (decide (l = m))) ∧ Ext w w' := by
  unfold maxLen at hl
  by_cases hlen : l.length = m.length
  · have HLE := Lib.hid hlen
    have hle : ((l.length : Int) != (m.length : Int)) = false := by simp [hlen]
    have hle2 : (l.length != m.length) = false := by simp [hlen]
    clear hlen
    go_enter Try.func26, Try.ntmps26
    go_wp2
    go_loopw [5] (fun i wr => ∃ k : Nat, k ≤ l.length ∧ i = .int .i64 k ∧ Hid (∀ j, j < k → l.getD j 0 = m.getD j 0) ∧ Ext w wr) (fun i _ => l.length - (intOf i).toNat)
    case atStart => exact ⟨0, Nat.zero_le _, rfl, fun j hj => by omega, Ext.refl _⟩
    case round =>
      obtain ⟨k, hk, rfl, hn, he⟩ := hrel
      by_cases hlt : k < l.length
      · obtain ⟨b, off, ha, e1⟩ := hc.ext he k hlt
        obtain ⟨b', off', ha', d1⟩ := hd.ext he k (by have := HLE.out; omega)
        have HC : Hid (CellsI w a l) := hc
        have HD : Hid (CellsI w a' m) := hd
        subst ha ha'
        clear hc hd
        have hkm : (k : Int) < (m.length : Int) := by have := HLE.out; omega
        generalize hx : l.getD k 0 = x at e1
        generalize hy : m.getD k 0 = y at d1
        have HX := Lib.hid hx
        have HY := Lib.hid hy
        clear hx hy
        by_cases heq : x = y
        · subst heq
          go_wp2
          go_quiet (fail)
          go_wp2
          refine ⟨⟨k + 1, by omega, by go_num, fun j hj => ?_, he.drewN _⟩, by simp [intOf]; omega⟩
          by_cases e : j = k
          · subst e; rw [HX.out, HY.out]
          · exact hn.out j (by omega)
        · have hne : Hid (l ≠ m) := by rintro rfl; exact heq (HX.out.symm.trans HY.out)
          have h2 : (x == y) = false := by simpa using heq
          have h3 : (x != y) = true := by simpa using heq
          clear heq
          go_wp2
          go_quiet (fail)
          go_wp2
          go_ret
          exact ⟨ret_bool (by simp [hne.out]), he.drewN _⟩
      · go_wp2
        go_ret
        refine ⟨ret_bool ?_, he⟩
        symm
        rw [decide_eq_true_eq]
        refine List.ext_getElem HLE.out fun i h1 h2 => ?_
        have := hn.out i (by omega)
        rw [List.getD_eq_getElem?_getD, List.getD_eq_getElem?_getD, List.getElem?_eq_getElem h1, List.getElem?_eq_getElem h2] at this
        simpa using this
  · have hne : l ≠ m := by rintro rfl; exact hlen rfl
    have hle : ((l.length : Int) != (m.length : Int)) = true := by simp; omega
    have hle2 : (l.length != m.length) = true := by simp; omega
    have hle3 : ((l.length : Int) == (m.length : Int)) = false := by simp; omega
    have hle4 : (l.length == m.length) = false := by simp; omega
    have HNE := Lib.hid hne
    clear hne hlen
    go_enter Try.func26, Try.ntmps26
    go_wp2
    go_ret
    exact ⟨ret_bool (by simp [HNE.out]), Ext.refl _⟩
end Go.Proofs.Ytfigooilhnahfaa
/- The examples of the chapter. -/
namespace Go.Proofs.Ytfigooilhnahfaa
open Go.RowKit

theorem cells2_five {w : World} {b : Nat} {p q r s t : Pt} (h1 : w.cell? ⟨b, 0, none⟩ = some (.int .i64 p.1)) (h2 : w.cell? ⟨b, 1, none⟩ = some (.int .i64 p.2)) (h3 : w.cell? ⟨b, 2, none⟩ = some (.int .i64 q.1)) (h4 : w.cell? ⟨b, 3, none⟩ = some (.int .i64 q.2)) (h5 : w.cell? ⟨b, 4, none⟩ = some (.int .i64 r.1)) (h6 : w.cell? ⟨b, 5, none⟩ = some (.int .i64 r.2))
    (h7 : w.cell? ⟨b, 6, none⟩ = some (.int .i64 s.1)) (h8 : w.cell? ⟨b, 7, none⟩ = some (.int .i64 s.2)) (h9 : w.cell? ⟨b, 8, none⟩ = some (.int .i64 t.1)) (h10 : w.cell? ⟨b, 9, none⟩ = some (.int .i64 t.2)) : Cells2 w (some ⟨b, 0, none⟩) [p, q, r, s, t] := fun i hi => by
  have : i = 0 ∨ i = 1 ∨ i = 2 ∨ i = 3 ∨ i = 4 := by simp at hi; omega
  rcases this with rfl | rfl | rfl | rfl | rfl
  · exact ⟨b, 0, rfl, by simpa [pt] using h1, by simpa [pt] using h2⟩
  · exact ⟨b, 0, rfl, by simpa [pt] using h3, by simpa [pt] using h4⟩
  · exact ⟨b, 0, rfl, by simpa [pt] using h5, by simpa [pt] using h6⟩
  · exact ⟨b, 0, rfl, by simpa [pt] using h7, by simpa [pt] using h8⟩
  · exact ⟨b, 0, rfl, by simpa [pt] using h9, by simpa [pt] using h10⟩
theorem cellsI_one {w : World} {b : Nat} {x : Int} (h : w.cell? ⟨b, 0, none⟩ = some (.int .i64 x)) : CellsI w (some ⟨b, 0, none⟩) [x] := fun i hi => by
  have : i = 0 := by simp at hi; omega
  subst this
  exact ⟨b, 0, rfl, by simpa using h⟩
theorem cells4_two {w : World} {b : Nat} {p q r s : Pt} (h1 : w.cell? ⟨b, 0, none⟩ = some (.int .i64 p.1)) (h2 : w.cell? ⟨b, 1, none⟩ = some (.int .i64 p.2)) (h3 : w.cell? ⟨b, 2, none⟩ = some (.int .i64 q.1)) (h4 : w.cell? ⟨b, 3, none⟩ = some (.int .i64 q.2))
    (h5 : w.cell? ⟨b, 4, none⟩ = some (.int .i64 r.1)) (h6 : w.cell? ⟨b, 5, none⟩ = some (.int .i64 r.2)) (h7 : w.cell? ⟨b, 6, none⟩ = some (.int .i64 s.1)) (h8 : w.cell? ⟨b, 7, none⟩ = some (.int .i64 s.2)) :
    Cells4 w (some ⟨b, 0, none⟩) [(p, q), (r, s)] := fun i hi => by
  have : i = 0 ∨ i = 1 := by simp at hi; omega
  rcases this with rfl | rfl
  · exact ⟨b, 0, rfl, by simpa [ph] using h1, by simpa [ph] using h2, by simpa [ph] using h3, by simpa [ph] using h4⟩
  · exact ⟨b, 0, rfl, by simpa [ph] using h5, by simpa [ph] using h6, by simpa [ph] using h7, by simpa [ph] using h8⟩

set_option maxHeartbeats 4000000 in
set_option maxRecDepth 100000 in
theorem awake_any (w : World) : Calls Try.prog 13 #[] w fun e w' => e = .returned (.bool true) ∧ Ext w w' := by
  go_enter Try.func13, Try.ntmps13
  go_wp2_with fail
  refine (Wall_any _).mono ?_
  rintro e w1 ⟨a, rfl, hW, hE⟩
  have HB := Lib.hid hW
  clear hW
  go_wp2_with fail
  refine (sent_any wallG a 2 _).mono ?_
  rintro e w2 ⟨rfl, hE2⟩
  have E2 := hE.trans hE2
  have HB2 := Lib.hid (HB.out.ext hE2)
  clear hE hE2 HB
  go_wp2_with fail
  have E3 : Ext w2 (w2.alloc (.cells #[.int .i64 wallG.rows, .int .i64 wallG.cols, .slice a wallG.bl.length 2] 33)) := (Ext.refl _).alloc _
  have a1 : (w2.alloc (.cells #[.int .i64 wallG.rows, .int .i64 wallG.cols, .slice a wallG.bl.length 2] 33)).cell? ⟨w2.heap.size, 0, none⟩ = some (.int .i64 wallG.rows) := by go_simp
  have a2 : (w2.alloc (.cells #[.int .i64 wallG.rows, .int .i64 wallG.cols, .slice a wallG.bl.length 2] 33)).cell? ⟨w2.heap.size, 1, none⟩ = some (.int .i64 wallG.cols) := by go_simp
  have a3 : (w2.alloc (.cells #[.int .i64 wallG.rows, .int .i64 wallG.cols, .slice a wallG.bl.length 2] 33)).cell? ⟨w2.heap.size, 2, none⟩ = some (.slice a wallG.bl.length 2) := by go_simp
  have HB3 := Lib.hid (HB2.out.ext E3)
  have EV3 := E2.trans E3
  obtain ⟨gb, hgb⟩ : ∃ gb, gb = w2.heap.size := ⟨_, rfl⟩
  rw [← hgb] at a1 a2 a3 ⊢
  clear hgb E2 HB2 E3
  generalize w2.alloc (.cells #[.int .i64 wallG.rows, .int .i64 wallG.cols, .slice a wallG.bl.length 2] 33) = W3 at a1 a2 a3 HB3 EV3 ⊢
  have z3 := cell_lt a1
  dsimp only at z3
  have hml : wallG.bl.length ≤ maxLen := by decide
  have HML := Lib.hid hml
  clear hml
  -- Route
  go_region_held3 (fun w' => Sees W3 w') ((repeat (first | exact Sees.refl _ | assumption | apply Sees.drew | apply Sees.alloc | (refine Sees.ext ?_ (by assumption))))) (first | (go_at_call 45; refine (at_any _ _ _).mono ?_; rintro e w' ⟨rfl, hE2⟩) | (go_at_call 29; refine (Route_any wallG (0, 1) (2, 1) a 2 _ HML.out (HB3.out.ext (by exact (show Sees W3 _ by assumption).2.2))).mono ?_; rintro e w' ⟨v, rfl, hO, hE2⟩))
  have hS := (show Sees W3 _ by assumption).2.2
  rw [wall_route.1] at hO
  rw [wall_route.2]
  obtain ⟨la, lc, rfl, hlc, _⟩ := hO.reads
  have HL := Lib.hid hlc
  have EV4 := EV3.trans hS
  have a1 := hS.cell a1
  have a2 := hS.cell a2
  have a3 := hS.cell a3
  have HB4 := Lib.hid (HB3.out.ext hS)
  clear hS hO hlc HB3 EV3 z3
  generalize w' = W4 at a1 a2 a3 HL EV4 HB4 ⊢
  -- Bends
  go_wp2_with fail
  refine (Bends_any wallG [(0, 1), (0, 0), (1, 0), (2, 0), (2, 1)] a 2 la lc _ HML.out HB4.out (by decide) HL.out).mono ?_
  rintro e W5 ⟨rfl, hE⟩
  rw [wall_bends.1, wall_bends.2]
  have EV5 := EV4.trans hE
  have a1 := hE.cell a1
  have a2 := hE.cell a2
  have a3 := hE.cell a3
  have HB5 := Lib.hid (HB4.out.ext hE)
  have HL5 := Lib.hid (HL.out.ext hE)
  clear hE HB4 EV4 HL
  have z5 := cell_lt a1
  dsimp only at z5
  go_wp2_with fail
  go_cut [6, 7, 8] (fun p n e wx => ∃ pb, p = .pointer (some ⟨pb, 0, none⟩) ∧ n = .int .i64 5 ∧ e = .int .i64 0 ∧ wx.cell? ⟨pb, 0, none⟩ = some (.int .i64 0) ∧ wx.cell? ⟨pb, 1, none⟩ = some (.int .i64 0) ∧ Ext W5 wx)
  case first =>
    have HM := Lib.hid wall_meet
    go_region_held3 (fun w' => Sees W5 w') ((repeat (first | exact Sees.refl _ | assumption | apply Sees.store | apply Sees.drew | apply Sees.alloc | (refine Sees.ext ?_ (by assumption))))) (first | (go_at_call 45; refine (at_any _ _ _).mono ?_; rintro e w' ⟨rfl, hE2⟩; (first | (have kN := (New2.made _ _ _ _).ext hE2; obtain ⟨k1, k2, k3, k4⟩ := kN) | (have kN := (New2.made _ _ _ _).drew.ext hE2; obtain ⟨k1, k2, k3, k4⟩ := kN) | (have kN := (New2.mk (by assumption) (by assumption) (by assumption) (by assumption)).ext hE2; obtain ⟨k1, k2, k3, k4⟩ := kN) | skip)) | (go_at_call 14; refine (Meet_any wallG (0, 0) (0, 3) (2, 0) a 2 _ HML.out (HB5.out.ext (by exact (show Sees W5 _ by assumption).2.2))).mono ?_; rintro e w' ⟨rfl, hE2⟩; rw [wall_meet.1, wall_meet.2.1, wall_meet.2.2]; dsimp only; (first | (have kN := (New2.made _ _ _ _).ext hE2; obtain ⟨k1, k2, k3, k4⟩ := kN) | (have kN := (New2.made _ _ _ _).drew.ext hE2; obtain ⟨k1, k2, k3, k4⟩ := kN) | (have kN := (New2.mk (by assumption) (by assumption) (by assumption) (by assumption)).ext hE2; obtain ⟨k1, k2, k3, k4⟩ := kN) | skip)))
    all_goals (go_wp2_with fail; go_meet)
    all_goals exact ⟨_, rfl, rfl, rfl, by go_simp, by go_simp, (show Sees W5 _ by assumption).2.2⟩
  case rest =>
    obtain ⟨pb, rfl, rfl, rfl, k1, k2, EX⟩ := hcut
    have EV6 := EV5.trans EX
    have a1 := EX.cell a1
    have a2 := EX.cell a2
    have a3 := EX.cell a3
    have HB6 := Lib.hid (HB5.out.ext EX)
    have HL6 := Lib.hid (HL5.out.ext EX)
    clear EX EV5 HB5 HL5 z5
    generalize wc = W6 at a1 a2 a3 HB6 HL6 EV6 k1 k2 ⊢
    have z6 := cell_lt a1
    have z7 := cell_lt k1
    dsimp only at z6 z7
    go_wp2_with fail
    go_region_held3 (fun w' => Sees W6 w') ((repeat (first | exact Sees.refl _ | assumption | apply Sees.store | apply Sees.drew | apply Sees.alloc | (refine Sees.ext ?_ (by assumption))))) (first | (go_at_call 45; refine (at_any _ _ _).mono ?_; rintro e w' ⟨rfl, hE2⟩) | (go_at_call 17; refine (Ducts_any wallG [((0, 0), (0, 3)), ((0, 1), (2, 0))] a 2 _ _ _ HML.out (HB6.out.ext (by exact (show Sees W6 _ by assumption).2.2)) (by decide) (cells4_two (by go_simp) (by go_simp) (by go_simp) (by go_simp) (by go_simp) (by go_simp) (by go_simp) (by go_simp)) (fun _ _ => trivial)).mono ?_; rintro e w' ⟨da, dc, rfl, hD, hE2⟩))
    have hS := (show Sees W6 _ by assumption).2.2
    rw [wall_duct.1, wall_duct.2]
    have EV7 := EV6.trans hS
    have a1 := hS.cell a1
    have a2 := hS.cell a2
    have a3 := hS.cell a3
    have k1 := hS.cell k1
    have k2 := hS.cell k2
    have HB7 := Lib.hid (HB6.out.ext hS)
    have HL7 := Lib.hid (HL6.out.ext hS)
    clear hS hD hE2 HB6 HL6 EV6 z6 z7
    generalize w' = W7 at a1 a2 a3 HB7 HL7 EV7 k1 k2 ⊢
    go_wp2_with fail
    refine (Parts_any wallG a 2 _ HML.out HB7.out).mono ?_
    rintro e W8 ⟨pa, pc, rfl, hP, hE⟩
    have EV8 := EV7.trans hE
    have a1 := hE.cell a1
    have k1 := hE.cell k1
    have k2 := hE.cell k2
    have HL8 := Lib.hid (HL7.out.ext hE)
    have HP8 := Lib.hid hP
    rw [wall_parts] at HP8
    rw [wall_parts, wall_chk]
    clear hE hP HB7 HL7 EV7 a2 a3
    have z8 := cell_lt k1
    dsimp only at z8
    go_wp2_with fail
    go_region_held3 (fun w' => Sees W8 w') ((repeat (first | exact Sees.refl _ | assumption | apply Sees.store | apply Sees.drew | apply Sees.alloc | (refine Sees.ext ?_ (by assumption))))) (first | (go_at_call 45; refine (at_any _ _ _).mono ?_; rintro e w' ⟨rfl, hE2⟩) | (go_at_call 46; refine (EqualP_any [(0, 1), (0, 0), (1, 0), (2, 0), (2, 1)] [(0, 1), (0, 0), (1, 0), (2, 0), (2, 1)] la _ lc _ _ (by decide) (HL8.out.ext (by exact (show Sees W8 _ by assumption).2.2)) (cells2_five (by go_simp) (by go_simp) (by go_simp) (by go_simp) (by go_simp) (by go_simp) (by go_simp) (by go_simp) (by go_simp) (by go_simp))).mono ?_; rintro e w' ⟨rfl, hE2⟩) | (go_at_call 47; refine (EqualI_any [10] [10] pa _ pc _ _ (by decide) (HP8.out.ext (by exact (show Sees W8 _ by assumption).2.2)) (cellsI_one (by go_simp))).mono ?_; rintro e w' ⟨rfl, hE2⟩))
    have hS := (show Sees W8 _ by assumption).2.2
    go_wp2
    go_ret
    exact ⟨rfl, EV8.trans hS⟩
end Go.Proofs.Ytfigooilhnahfaa
/- The law TubingTurns: its walk. -/
namespace Go.Proofs.Ytfigooilhnahfaa
open Go.RowKit

set_option maxHeartbeats 8000000 in
set_option maxRecDepth 100000 in
theorem TubingTurns_any (g : Gr) (p q : Pt) (ga : Option Addr) (gc : Nat) (w : World) (hg : g.bl.length ≤ maxLen) (hc : Cells2 w ga g.bl) :
    Calls Try.prog 11 #[.agg #[.int .i64 g.rows, .int .i64 g.cols, .slice ga g.bl.length gc], .agg #[.int .i64 p.1, .int .i64 p.2], .agg #[.int .i64 q.1, .int .i64 q.2]] w fun e w' => e = .returned (.bool true) ∧ Ext w w' := by
  have HC : Hid (Cells2 w ga g.bl) := hc
  have HG := Lib.hid hg
  clear hc hg
  have E0 : Ext w ((( (( ((w).alloc (.cells #[.int .i64 g.rows, .int .i64 g.cols, .slice ga g.bl.length gc] 24))).alloc (.cells #[.int .i64 p.1, .int .i64 p.2] 26))).alloc (.cells #[.int .i64 q.1, .int .i64 q.2] 26))) := (((Ext.refl _).alloc _).alloc _).alloc _
  have a1 : ((( (( ((w).alloc (.cells #[.int .i64 g.rows, .int .i64 g.cols, .slice ga g.bl.length gc] 24))).alloc (.cells #[.int .i64 p.1, .int .i64 p.2] 26))).alloc (.cells #[.int .i64 q.1, .int .i64 q.2] 26))).cell? ⟨w.heap.size, 0, none⟩ = some (.int .i64 g.rows) := by go_simp
  have a2 : ((( (( ((w).alloc (.cells #[.int .i64 g.rows, .int .i64 g.cols, .slice ga g.bl.length gc] 24))).alloc (.cells #[.int .i64 p.1, .int .i64 p.2] 26))).alloc (.cells #[.int .i64 q.1, .int .i64 q.2] 26))).cell? ⟨w.heap.size, 1, none⟩ = some (.int .i64 g.cols) := by go_simp
  have a3 : ((( (( ((w).alloc (.cells #[.int .i64 g.rows, .int .i64 g.cols, .slice ga g.bl.length gc] 24))).alloc (.cells #[.int .i64 p.1, .int .i64 p.2] 26))).alloc (.cells #[.int .i64 q.1, .int .i64 q.2] 26))).cell? ⟨w.heap.size, 2, none⟩ = some (.slice ga g.bl.length gc) := by go_simp
  have p1 : ((( (( ((w).alloc (.cells #[.int .i64 g.rows, .int .i64 g.cols, .slice ga g.bl.length gc] 24))).alloc (.cells #[.int .i64 p.1, .int .i64 p.2] 26))).alloc (.cells #[.int .i64 q.1, .int .i64 q.2] 26))).cell? ⟨w.heap.size + 1, 0, none⟩ = some (.int .i64 p.1) := by go_simp
  have p2 : ((( (( ((w).alloc (.cells #[.int .i64 g.rows, .int .i64 g.cols, .slice ga g.bl.length gc] 24))).alloc (.cells #[.int .i64 p.1, .int .i64 p.2] 26))).alloc (.cells #[.int .i64 q.1, .int .i64 q.2] 26))).cell? ⟨w.heap.size + 1, 1, none⟩ = some (.int .i64 p.2) := by go_simp
  have q1 : ((( (( ((w).alloc (.cells #[.int .i64 g.rows, .int .i64 g.cols, .slice ga g.bl.length gc] 24))).alloc (.cells #[.int .i64 p.1, .int .i64 p.2] 26))).alloc (.cells #[.int .i64 q.1, .int .i64 q.2] 26))).cell? ⟨w.heap.size + 1 + 1, 0, none⟩ = some (.int .i64 q.1) := by go_simp
  have q2 : ((( (( ((w).alloc (.cells #[.int .i64 g.rows, .int .i64 g.cols, .slice ga g.bl.length gc] 24))).alloc (.cells #[.int .i64 p.1, .int .i64 p.2] 26))).alloc (.cells #[.int .i64 q.1, .int .i64 q.2] 26))).cell? ⟨w.heap.size + 1 + 1, 1, none⟩ = some (.int .i64 q.2) := by go_simp
  go_enter Try.func11, Try.ntmps11
  go_wp2_with fail
  refine (right_any g ga gc _ HG.out (HC.out.ext E0)).mono ?_
  rintro e W1 ⟨rfl, hE⟩
  have E1 := E0.trans hE
  have a1 := hE.cell a1
  have a2 := hE.cell a2
  have a3 := hE.cell a3
  have p1 := hE.cell p1
  have p2 := hE.cell p2
  have q1 := hE.cell q1
  have q2 := hE.cell q2
  clear hE E0
  cases hf : rightB g
  · clear hf
    go_wp2_with fail
    refine (awake_any _).mono ?_
    rintro e W2 ⟨rfl, hE⟩
    go_wp2
    go_ret
    exact ⟨rfl, E1.trans hE⟩
  · have HF := Lib.hid hf
    clear hf
    have z1 := cell_lt a1
    have z2 := cell_lt p1
    have z3 := cell_lt q1
    dsimp only at z1 z2 z3
    go_wp2_with fail
    go_region_held3 (fun w' => Sees W1 w') ((repeat (first | exact Sees.refl _ | assumption | apply Sees.drew | apply Sees.alloc | (refine Sees.ext ?_ (by assumption))))) (first | (go_at_call 15; refine (sent_any g ga gc _).mono ?_; rintro e w' ⟨rfl, hE2⟩) | (go_at_call 27; refine (Length_any g p q ga gc _ HG.out (HC.out.ext (E1.trans (by exact (show Sees W1 _ by assumption).2.2)))).mono ?_; rintro e w' ⟨rfl, hE2⟩))
    have hS := (show Sees W1 _ by assumption).2.2
    have E2 := E1.trans hS
    have a1 := hS.cell a1
    have a2 := hS.cell a2
    have a3 := hS.cell a3
    have p1 := hS.cell p1
    have p2 := hS.cell p2
    have q1 := hS.cell q1
    have q2 := hS.cell q2
    clear hS E1 z1 z2 z3
    generalize w' = W2 at a1 a2 a3 p1 p2 q1 q2 E2 ⊢
    have z1 := cell_lt a1
    have z2 := cell_lt p1
    have z3 := cell_lt q1
    dsimp only at z1 z2 z3
    go_wp2_with fail
    go_region_held3 (fun w' => Sees W2 w') ((repeat (first | exact Sees.refl _ | assumption | apply Sees.drew | apply Sees.alloc | (refine Sees.ext ?_ (by assumption))))) (first | (go_at_call 15; refine (sent_any g ga gc _).mono ?_; rintro e w' ⟨rfl, hE2⟩) | (go_at_call 27; refine (Length_any g q p ga gc _ HG.out (HC.out.ext (E2.trans (by exact (show Sees W2 _ by assumption).2.2)))).mono ?_; rintro e w' ⟨rfl, hE2⟩))
    have hS := (show Sees W2 _ by assumption).2.2
    have E3 := E2.trans hS
    have a1 := hS.cell a1
    have a2 := hS.cell a2
    have a3 := hS.cell a3
    have p1 := hS.cell p1
    have p2 := hS.cell p2
    have q1 := hS.cell q1
    have q2 := hS.cell q2
    clear hS E2 z1 z2 z3
    generalize w' = W3 at a1 a2 a3 p1 p2 q1 q2 E3 ⊢
    by_cases h0 : lenE g p q = 0
    · have HT := Lib.hid (turn_facts HF.out h0)
      obtain ⟨hs1, hs2⟩ := len_symm h0
      obtain ⟨hk, hop, hoq, _, _⟩ := len_is h0
      have hR := right_of_chk hk
      have HIP : Hid (InG p) := inG_of hR (opn_inside hop)
      have HIQ : Hid (InG q) := inG_of hR (opn_inside hoq)
      have HR := Lib.hid hR
      rw [h0, hs1, hs2]
      have H0 := Lib.hid h0
      obtain ⟨N, hN⟩ : ∃ N : Nat, lenN g p q = (N : Int) := ⟨(lenN g p q).toNat, by have := len_bd (g := g) (p := p) (q := q); omega⟩
      obtain ⟨l, hl⟩ : ∃ l, l = routeV g p q := ⟨_, rfl⟩
      have HRL := Lib.hid hl
      rw [← hl] at HT
      have HLN : Hid (l.length = N + 1) := by have := HT.out.len; rw [hN] at this; show _ = _; omega
      have hd1 := HT.out.d1
      have hd2 := HT.out.d2
      rw [hN] at hd1 hd2 ⊢
      have hN6 : N ≤ 576 := by have := HT.out.le; rw [HLN.out] at this; omega
      clear h0 hs1 hs2 hk hop hoq hR hN hl HF
      have z1 := cell_lt a1
      have z2 := cell_lt p1
      have z3 := cell_lt q1
      dsimp only at z1 z2 z3
      go_wp2_with fail
      refine (distance_any p q _ HIP.out HIQ.out).mono ?_
      rintro e W4 ⟨rfl, hE⟩
      have E4 := E3.trans hE
      have a1 := hE.cell a1
      have a2 := hE.cell a2
      have a3 := hE.cell a3
      have p1 := hE.cell p1
      have p2 := hE.cell p2
      have q1 := hE.cell q1
      have q2 := hE.cell q2
      have hd0 : 0 ≤ awayI p q := by unfold awayI; omega
      generalize awayI p q = d at hd1 hd2 hd0 ⊢
      clear hE E3 z1 z2 z3
      have z1 := cell_lt a1
      have z2 := cell_lt p1
      have z3 := cell_lt q1
      dsimp only at z1 z2 z3
      go_wp2_with fail
      have HRT : Hid (∀ W', Ext w W' → Calls Try.prog 29 #[.agg #[.int .i64 g.rows, .int .i64 g.cols, .slice ga g.bl.length gc], .agg #[.int .i64 p.1, .int .i64 p.2], .agg #[.int .i64 q.1, .int .i64 q.2]] W' fun e w' => ∃ va vc, e = .returned (.tuple #[.slice va (N + 1) vc, .int .i64 0]) ∧ Owns w' (.slice va l.length vc) l ∧ Ext W' w') := fun W' hW => (Route_any g p q ga gc W' HG.out (HC.out.ext hW)).mono fun e w' ⟨v, h1, h2, h3⟩ => by
        rw [← HRL.out] at h2
        obtain ⟨va, vc, h4, _, _⟩ := h2.reads
        subst h4
        exact ⟨va, vc, by rw [h1, H0.out, HLN.out], h2, h3⟩
      go_region_held3 (fun w' => Sees W4 w') ((repeat (first | exact Sees.refl _ | assumption | apply Sees.drew | apply Sees.alloc | (refine Sees.ext ?_ (by assumption))))) (first | (go_at_call 15; refine (sent_any g ga gc _).mono ?_; rintro e w' ⟨rfl, hE2⟩) | (go_at_call 29; refine (HRT.out _ (E4.trans (by exact (show Sees W4 _ by assumption).2.2))).mono ?_; rintro e w' ⟨la, lc, rfl, hO, hE2⟩))
      have hS := (show Sees W4 _ by assumption).2.2
      have E5 := E4.trans hS
      have a1 := hS.cell a1
      have a2 := hS.cell a2
      have a3 := hS.cell a3
      have p1 := hS.cell p1
      have p2 := hS.cell p2
      have q1 := hS.cell q1
      have q2 := hS.cell q2
      have HO := Lib.hid hO
      clear hS E4 z1 z2 z3 hO
      generalize w' = W5 at a1 a2 a3 p1 p2 q1 q2 E5 HO ⊢
      obtain ⟨_, _, hla, hcl, _⟩ := HO.out.reads
      injection hla with hla _ hlc
      subst hla; subst hlc
      have HL := Lib.hid hcl
      clear hcl
      have z1 := cell_lt a1
      have z2 := cell_lt p1
      have z3 := cell_lt q1
      dsimp only at z1 z2 z3
      go_wp2_with fail
      have HVF : Hid (∀ (W' : World), Ext w W' → Cells2 W' la l → Calls Try.prog 32 #[.agg #[.int .i64 g.rows, .int .i64 g.cols, .slice ga g.bl.length gc], .slice la (N + 1) lc] W' fun e w' => e = .returned (.tuple #[.bool true, .int .i64 0]) ∧ Ext W' w') := fun W' hW h1 => by
        have := Verify_any g l ga gc la lc W' HG.out (HC.out.ext hW) (by have := HT.out.le; unfold maxLen; omega) h1
        rw [HT.out.ok, HT.out.err, HLN.out] at this
        exact this
      refine (sent_any g ga gc _).mono ?_
      rintro e W6 ⟨rfl, hE⟩
      have E6 := E5.trans hE
      have HL := Lib.hid (HL.out.ext hE)
      have HO := Lib.hid (HO.out.ext hE)
      have a1 := hE.cell a1
      have a2 := hE.cell a2
      have a3 := hE.cell a3
      have p1 := hE.cell p1
      have p2 := hE.cell p2
      have q1 := hE.cell q1
      have q2 := hE.cell q2
      clear hE E5
      go_wp2_with fail
      refine (HVF.out _ E6 HL.out).mono ?_
      rintro e W7 ⟨rfl, hE⟩
      have E7 := E6.trans hE
      have HL := Lib.hid (HL.out.ext hE)
      have HO := Lib.hid (HO.out.ext hE)
      have a1 := hE.cell a1
      have a2 := hE.cell a2
      have a3 := hE.cell a3
      have p1 := hE.cell p1
      have p2 := hE.cell p2
      have q1 := hE.cell q1
      have q2 := hE.cell q2
      clear hE E6 z1 z2 z3 HVF HRT
      have z1 := cell_lt a1
      have z2 := cell_lt p1
      have z3 := cell_lt q1
      dsimp only at z1 z2 z3
      obtain ⟨b, off, rfl, e1, e2⟩ := HL.out 0 (by rw [HLN.out]; omega)
      obtain ⟨b', off', hb', f1, f2⟩ := HL.out N (by rw [HLN.out]; omega)
      cases hb'
      have hhd : pt l 0 = p := HT.out.hd
      have hlast : pt l N = q := by have := HT.out.last; rwa [HLN.out] at this
      rw [hhd] at e1 e2
      rw [hlast] at f1 f2
      have e1 : W7.cell? ⟨b, off, none⟩ = some (.int .i64 p.1) := by simpa using e1
      have e2 : W7.cell? ⟨b, off + 1, none⟩ = some (.int .i64 p.2) := by simpa using e2
      have zb := cell_lt e1
      dsimp only at zb
      have g1 : ¬ (N : Int) < d := by omega
      have g2 : IntKind.i64.wrap ((N : Int) - d) = (N : Int) - d := IntWalk.i64_in _ (by omega)
      have g3 : ((N : Int) - d).tmod 2 = 0 := by rw [Int.tmod_eq_emod_of_nonneg (by omega)]; exact hd2
      have g4 : IntKind.i64.wrap ((N : Int) + 1) = (N : Int) + 1 := IntWalk.i64_in _ (by omega)
      have g5 : (0 : Int) ≤ (N : Int) := Int.natCast_nonneg N
      have g6 : (N : Int) < (N : Int) + 1 := by omega
      have g7 : (0 : Int) < (N : Int) + 1 := by omega
      clear hhd hlast
      go_wp2_with fail
      go_quiet (fail)
      --STOP1
      go_wp2_with fail
      clear e1 e2 f1 f2 g1 g2 g3 g4 g5 g6 g7 hd1 hd2 hd0 zb
      go_loopw [14] (fun i wr => ∃ k : Nat, k ≤ N ∧ i = .int .i64 ((k : Int) + 1) ∧ Ext W7 wr) (fun i _ => N + 1 - (intOf i).toNat)
      case atStart => exact ⟨0, Nat.zero_le _, rfl, (Ext.refl _).drewN _⟩
      case round =>
        obtain ⟨k, hk, rfl, he⟩ := hrel
        have a1 := he.cell a1
        have a2 := he.cell a2
        have a3 := he.cell a3
        have p1 := he.cell p1
        have p2 := he.cell p2
        have q1 := he.cell q1
        have q2 := he.cell q2
        have E8 := E7.trans he
        have HL := Lib.hid (HL.out.ext he)
        have HO := Lib.hid (HO.out.ext he)
        clear z1 z2 z3
        have z1 := cell_lt a1
        have z2 := cell_lt p1
        have z3 := cell_lt q1
        dsimp only at z1 z2 z3
        by_cases hlt : k < N
        · have hlt' : (k : Int) + 1 < (N : Int) + 1 := by omega
          have HI1 : Hid (InG (pt l k)) := inG_of HR.out (HT.out.cell k (by rw [HLN.out]; omega))
          have HI2 : Hid (InG (pt l (k + 1))) := inG_of HR.out (HT.out.cell (k + 1) (by rw [HLN.out]; omega))
          have HST : Hid (awayI (pt l k) (pt l (k + 1)) = 1) := HT.out.step k (by rw [HLN.out]; omega)
          have HFR : Hid (decide (pt l (k + 1) ∈ g.bl) = false) := by show _ = _; simp only [decide_eq_false_iff_not]; exact HT.out.free (k + 1) (by rw [HLN.out]; omega)
          obtain ⟨b', off', hb', e1, e2⟩ := HL.out k (by rw [HLN.out]; omega)
          cases hb'
          obtain ⟨b', off', hb', f1, f2⟩ := HL.out (k + 1) (by rw [HLN.out]; omega)
          cases hb'
          generalize pt l k = pa at e1 e2 HI1 HST
          generalize pt l (k + 1) = pb at f1 f2 HI2 HST HFR
          have zb := cell_lt e1
          dsimp only at zb
          have i1 : (0 : Int) ≤ (k : Int) := Int.natCast_nonneg k
          have i2 : (k : Int) < (N : Int) + 1 := by omega
          have i3 : (0 : Int) ≤ (k : Int) + 1 := by omega
          have i4 : IntKind.i64.wrap (k : Int) = (k : Int) := IntWalk.i64_in _ (by omega)
          have i5 : IntKind.i64.wrap ((k : Int) + 1 + 1) = (k : Int) + 1 + 1 := IntWalk.i64_in _ (by omega)
          have i7 : IntKind.i64.wrap ((k : Int) + 1 - 1) = (k : Int) := by rw [Int.add_sub_cancel]; exact i4
          go_wp2_with fail
          go_region_held3 (fun w' => Sees wr w') ((repeat (first | exact Sees.refl _ | assumption | apply Sees.drew | apply Sees.alloc | (refine Sees.ext ?_ (by assumption))))) (first | (go_at_call 42; refine (distance_any pa pb _ HI1.out HI2.out).mono ?_; rintro e w' ⟨rfl, hE2⟩; rw [HST.out]) | (go_at_call 43; refine (ContainsP_any g.bl pb ga gc _ HG.out (HC.out.ext (E8.trans (by exact (show Sees wr _ by assumption).2.2)))).mono ?_; rintro e w' ⟨rfl, hE2⟩; rw [HFR.out]))
          all_goals have hS := (show Sees wr _ by assumption).2.2
          all_goals go_wp2
          all_goals exact ⟨⟨k + 1, by omega, by go_num, he.trans hS⟩, by simp [intOf]; omega⟩
        · have hke : k = N := by omega
          have hlt' : ¬ (k : Int) + 1 < (N : Int) + 1 := by omega
          clear hke
          obtain ⟨i0, hi, hi0, hi1, hi2⟩ := info_parts infoPl
          have HCL : Hid (∀ (W' : World), Cells2 W' (some ⟨b, off, none⟩) l → Calls Try.prog 39 #[.slice (some ⟨b, off, none⟩) (N + 1) lc] W' fun e w' => ∃ v, e = .returned v ∧ Owns w' v l ∧ (∀ b, v.ownBlock = some b → W'.heap.size ≤ b) ∧ Ext W' w') := fun W' h1 => by
            have := CloneP_any l (some ⟨b, off, none⟩) lc W' (by intro h; have := HLN.out; rw [h] at this; simp at this) (by have := HT.out.le; omega) h1
            rw [HLN.out] at this
            exact this
          obtain ⟨M, hM⟩ : ∃ M, M = (l ++ [p]).length := ⟨_, rfl⟩
          have HM := Lib.hid hM
          clear hM
          have HVG : Hid (∀ (W' : World) (va : Option Addr) (vc : Nat), Ext w W' → Cells2 W' va (l ++ [p]) → Calls Try.prog 32 #[.agg #[.int .i64 g.rows, .int .i64 g.cols, .slice ga g.bl.length gc], .slice va M vc] W' fun e w' => e = .returned (.tuple #[.bool false, .int .i64 0]) ∧ Ext W' w') := fun W' va vc hW h1 => by
            have := Verify_any g (l ++ [p]) ga gc va vc W' HG.out (HC.out.ext hW) (by have := HT.out.le; simp; unfold maxLen; omega) h1
            rw [HT.out.ok2, HT.out.err2, ← HM.out] at this
            exact this
          have HLL : Hid (l.length + 1 ≤ 1000) := by have := HT.out.le; show _ ≤ _; omega
          have HWR := Lib.hid (Ext.refl wr)
          go_wp2_with fail
          go_region_held3 (fun w' => Sees wr w') ((repeat (first | exact Sees.refl _ | assumption | apply Sees.drew | apply Sees.alloc | (refine Sees.ext ?_ (by assumption))))) (first | (go_at_call 15; refine (sent_any g ga gc _).mono ?_; rintro e w' ⟨rfl, hE2⟩; (first | (have kN := (New2.made _ _ _ _).ext hE2; obtain ⟨k1, k2, k3, k4⟩ := kN) | (have kN := (New2.made _ _ _ _).drew.ext hE2; obtain ⟨k1, k2, k3, k4⟩ := kN) | (have kN := (New2.mk (by assumption) (by assumption) (by assumption) (by assumption)).ext hE2; obtain ⟨k1, k2, k3, k4⟩ := kN) | skip); (try have hOC := hOC.ext hE2)) | (go_at_call 39; refine (HCL.out _ (HL.out.ext (by exact (show Sees wr _ by assumption).2.2))).mono ?_; rintro e w' ⟨v, rfl, hOC, hob, hE2⟩; have hob := (fun b hb => Nat.le_trans (show Sees wr _ by assumption).2.2.size (hob b hb) : ∀ b, v.ownBlock = some b → wr.heap.size ≤ b); (first | (have kN := (New2.made _ _ _ _).ext hE2; obtain ⟨k1, k2, k3, k4⟩ := kN) | (have kN := (New2.made _ _ _ _).drew.ext hE2; obtain ⟨k1, k2, k3, k4⟩ := kN) | (have kN := (New2.mk (by assumption) (by assumption) (by assumption) (by assumption)).ext hE2; obtain ⟨k1, k2, k3, k4⟩ := kN) | skip)) | (refine step_append1 rfl _ _ 22 rfl 26 i0 (.agg #[.int .i64 0, .int .i64 0]) 2 16 Try.underlying22 hi hi0 hi1 hi2 rfl (by decide) v l.length (flat l) rfl (by first | exact hOC | exact hOC.ext ((Ext.refl _).alloc _) | exact hOC.ext (((Ext.refl _).alloc _).drew)) ⟨_, 0, none⟩ 1 1 (by decide) [.int .i64 p.1, .int .i64 p.2] rfl rfl (two_news (by first | assumption | go_simp) (by first | assumption | go_simp)) (fun u hu => by simp at hu; rcases hu with rfl | rfl <;> rfl) (by have := HLL.out; unfold maxLen; omega) (by have := HLL.out; omega) ?_; intro v' w' hown hend; have hS9 : Sees wr w' := sees (Below.trans (show Sees wr _ by assumption).2.2 (hend.below (show Sees wr _ by assumption).2.2.size hob)); have O5 : Owns w' v' (l ++ [p]) := owns_succ hown; obtain ⟨va, vc, hvv, hv, _⟩ := O5.reads; rw [← HM.out] at hvv; subst hvv) | (go_at_call 32; refine (HVG.out _ va vc (E8.trans (by exact (show Sees wr _ by assumption).2.2)) (by first | exact hv | exact hv.ext hE2)).mono ?_; rintro e w' ⟨rfl, hE2⟩))
          all_goals have hS := (show Sees wr _ by assumption).2.2
          all_goals go_wp2_with fail
          all_goals refine (awake_any _).mono ?_
          all_goals rintro e Wz ⟨rfl, hE⟩
          all_goals go_wp2
          all_goals go_ret
          all_goals exact ⟨rfl, (E8.trans hS).trans hE⟩
    · have h1 : lenE g q p ≠ 0 := fun h => h0 (len_symm h).1
      have hb : (lenE g p q != 0) = true := by simp [h0]
      have hb2 : (lenE g p q == 0) = false := by simp [h0]
      have hc : (lenE g q p != 0) = true := by simp [h1]
      have hc2 : (lenE g q p == 0) = false := by simp [h1]
      clear h0 h1
      generalize lenE g p q = x at hb hb2 ⊢
      generalize lenE g q p = y at hc hc2 ⊢
      by_cases hxy : x = y
      · subst hxy
        go_wp2_with fail
        refine (awake_any _).mono ?_
        rintro e W5 ⟨rfl, hE⟩
        go_wp2
        go_ret
        exact ⟨rfl, E3.trans hE⟩
      · have hxy2 : (x == y) = false := by simp [hxy]
        go_wp2_with fail
        refine (awake_any _).mono ?_
        rintro e W5 ⟨rfl, hE⟩
        go_wp2
        go_ret
        exact ⟨rfl, E3.trans hE⟩
end Go.Proofs.Ytfigooilhnahfaa
/- The arguments of the laws, opened: grids, places. -/
namespace Go.Proofs.Ytfigooilhnahfaa
open Go.RowKit Go.ChangeShapes Go.WideShapes Go.Joins Go.Deep

def WfP (p : Pt) : Prop := (Lit.int .i64 p.1).wf = true ∧ (Lit.int .i64 p.2).wf = true
theorem list2 {α : Type} {l : List α} (h : l.length = 2) : ∃ a b, l = [a, b] := by
  match l, h with
  | [a, b], _ => exact ⟨a, b, rfl⟩
theorem list6 {α : Type} {l : List α} (h : l.length = 6) : ∃ a b c d e f, l = [a, b, c, d, e, f] := by
  match l, h with
  | [a, b, c, d, e, f], _ => exact ⟨a, b, c, d, e, f, rfl⟩
theorem cellsOfPl : Try.prog.cellsOf 26 = 2 := by kernel_rfl
theorem cellsOfInt : Try.prog.cellsOf 3 = 1 := by kernel_rfl

section
variable {H : Type} {enc : TypeId × Value → H} {w : World} {base : Nat} {spare : Nat → Bool} {held : Bool}
theorem open_place {fuel : Nat} {cs : List Value} {x : DataW H × List MemPlace} (h : DataW.trod enc Try.prog w base spare held fuel 26 cs = some x) : ∃ p : Pt, cs = [.int .i64 p.1, .int .i64 p.2] ∧ WfP p := by
  obtain ⟨y0, y1, n, _, hl, h0, h1⟩ := trod_struct2 Try.underlying26 h
  rw [cellsOfPl] at hl
  obtain ⟨a, b, rfl⟩ := list2 hl
  rw [cellsOfInt] at h0 h1
  obtain ⟨i, e0, _, w0⟩ := DataW.trod_int Try.underlying3 h0
  obtain ⟨j, e1, _, w1⟩ := DataW.trod_int Try.underlying3 h1
  simp at e0 e1
  subst e0; subst e1
  exact ⟨(i, j), rfl, w0, w1⟩
theorem open_places {a : Addr} {len : Nat} (h : ∀ i, i < len → ∃ cs' n x, w.cells? base (a.add (i * 2)) 2 = some cs' ∧ DataW.trod enc Try.prog w base spare held n 26 cs' = some x) : ∃ l : List Pt, l.length = len ∧ Cells2 w (some a) l ∧ ∀ p ∈ l, WfP p := by
  have key : ∀ i, i < len → ∃ p : Pt, w.cell? (a.add (i * 2)) = some (.int .i64 p.1) ∧ w.cell? ((a.add (i * 2)).add 1) = some (.int .i64 p.2) ∧ WfP p := fun i hi => by
    obtain ⟨cs', n, x, h1, h2⟩ := h i hi
    obtain ⟨p, rfl, hw⟩ := open_place h2
    obtain ⟨_, _, hc⟩ := World.cells?_some h1
    have c0 := hc 0 (by omega)
    have c1 := hc 1 (by omega)
    refine ⟨p, ?_, c1, hw⟩
    have e : (a.add (i * 2)).add 0 = a.add (i * 2) := by simp [Addr.add]
    rw [e] at c0
    exact c0
  obtain ⟨f, hf⟩ := choose_lt (α := Pt) key
  refine ⟨(List.range len).map f, by simp, fun i hi => ?_, fun p hp => ?_⟩
  · have hi' : i < len := by simpa using hi
    obtain ⟨h1, h2, _⟩ := hf i hi'
    have hp : pt ((List.range len).map f) i = f i := by simp [pt, List.getD, hi']
    rw [hp]
    obtain ⟨b, off, spot⟩ := a
    have hs : spot = none := by
      have h0 := World.cell?_spot (hf 0 (by omega)).1
      simpa [Addr.add] using h0
    subst hs
    rw [Addr.add_lit] at h1 h2
    rw [Addr.add_lit] at h2
    exact ⟨b, off, rfl, h1, h2⟩
  · obtain ⟨i, hi, rfl⟩ := List.mem_map.1 hp
    exact (hf i (by simpa using hi)).2.2
theorem open_slicePl {fuel : Nat} {v : Value} {x : DataW H × List MemPlace} (h : DataW.trod enc Try.prog w base spare held fuel 22 [v] = some x) :
    ∃ (l : List Pt) (a : Option Addr) (cap : Nat), v = .slice a l.length cap ∧ Cells2 w a l ∧ l.length ≤ maxLen ∧ ∀ p ∈ l, WfP p := by
  rcases open_slice Try.underlying22 h with ⟨h1, _⟩ | ⟨a, len, cap, m, n, D, Pl, h1, hb, hl, hm, hmm, _, hx⟩
  · simp at h1
    exact ⟨[], none, 0, h1, fun i hi => by simp at hi, by simp, fun p hp => by cases hp⟩
  · simp at h1
    rw [cellsOfPl] at hx
    have hlm : len ≤ m := by rw [hmm]; split <;> omega
    obtain ⟨l, hll, hc, hw⟩ := open_places (enc := enc) (spare := spare) (held := held) (w := w) (base := base) (a := a) (len := len) (fun i hi => by
      obtain ⟨cs', h2, h3⟩ := hx i (by omega)
      exact ⟨cs', n, _, h2, h3⟩)
    exact ⟨l, some a, cap, by rw [h1, hll], hc, by rw [hll]; omega, hw⟩
set_option maxRecDepth 100000 in
theorem open_grid {r : Reach} {b0 : Nat} {v : Value} {d : DataW H} {p : List MemPlace} (hv : Value.okWide Try.prog w r b0 24 v) (h : DataW.Trod enc Try.prog w base spare held 24 v d p) :
    ∃ (g : Gr) (ga : Option Addr) (gc : Nat), v = .agg #[.int .i64 g.rows, .int .i64 g.cols, .slice ga g.bl.length gc] ∧ Cells2 w ga g.bl ∧ g.bl.length ≤ maxLen ∧ (Lit.int .i64 g.rows).wf = true ∧ (Lit.int .i64 g.cols).wf = true ∧ ∀ p ∈ g.bl, WfP p := by
  obtain ⟨c0, c1, c2, y0, y1, y2, n, rfl, _, _, h0, h1, h2⟩ := open_agg3 Try.underlying24 (by kernel_rfl) (by kernel_rfl) hv h
  obtain ⟨i, e0, _, w0⟩ := DataW.trod_int Try.underlying3 h0
  obtain ⟨j, e1, _, w1⟩ := DataW.trod_int Try.underlying3 h1
  obtain ⟨l, a, cap, e2, hc, hl, hw⟩ := open_slicePl h2
  simp at e0 e1
  subst e0; subst e1; subst e2
  exact ⟨⟨i, j, l⟩, a, cap, rfl, hc, hl, w0, w1, hw⟩
set_option maxRecDepth 100000 in
theorem open_three {r : Reach} {b0 : Nat} {v : Value} {d : DataW H} {p : List MemPlace} (hv : Value.okWide Try.prog w r b0 27 v) (h : DataW.Trod enc Try.prog w base spare held 27 v d p) :
    ∃ p q r : Pt, v = .agg #[.int .i64 p.1, .int .i64 p.2, .int .i64 q.1, .int .i64 q.2, .int .i64 r.1, .int .i64 r.2] ∧ WfP p ∧ WfP q ∧ WfP r := by
  simp only [Value.okWide, Try.underlying27] at hv
  obtain ⟨cs, rfl, _, _⟩ := hv
  obtain ⟨fuel, hf⟩ := h
  obtain ⟨xs, m, _, _, hl, hxs, hx⟩ := DataW.trod_array Try.underlying27 hf
  have hl6 : cs.toList.length = 6 := hl.trans (by kernel_rfl)
  obtain ⟨a, b, c, d, e, f, hcs⟩ := list6 hl6
  have hc : (Value.agg cs).cells.toList = [a, b, c, d, e, f] := hcs
  rw [hc, cellsOfPl] at hx
  have get : ∀ i, i < 3 → ∃ y, xs[i]? = some y := fun i hi => ⟨xs[i], List.getElem?_eq_getElem (by omega)⟩
  obtain ⟨y0, g0⟩ := get 0 (by omega)
  obtain ⟨y1, g1⟩ := get 1 (by omega)
  obtain ⟨y2, g2⟩ := get 2 (by omega)
  have k0 := hx 0 (by omega)
  have k1 := hx 1 (by omega)
  have k2 := hx 2 (by omega)
  rw [g0] at k0
  rw [g1] at k1
  rw [g2] at k2
  obtain ⟨p, e0, w0⟩ := open_place k0
  obtain ⟨q, e1, w1⟩ := open_place k1
  obtain ⟨r, e2, w2⟩ := open_place k2
  simp at e0 e1 e2
  obtain ⟨rfl, rfl⟩ := e0
  obtain ⟨rfl, rfl⟩ := e1
  obtain ⟨rfl, rfl⟩ := e2
  refine ⟨p, q, r, ?_, w0, w1, w2⟩
  rw [show cs = cs.toList.toArray by simp, hcs]
end
end Go.Proofs.Ytfigooilhnahfaa
