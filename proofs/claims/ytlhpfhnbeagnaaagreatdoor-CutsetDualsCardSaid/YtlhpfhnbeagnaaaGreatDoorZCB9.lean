/- Steps of the proof: CRck, CRf1, CRf2, CRf3, CLw1. No conditions. -/
import Derived.Test.YtlhpfhnbeagnaaaGreatDoorZCB1
import Derived.Test.YtlhpfhnbeagnaaaGreatDoorZCB2
import Derived.Test.YtlhpfhnbeagnaaaGreatDoorZCB3
import Derived.Test.YtlhpfhnbeagnaaaGreatDoorZCB4
import Derived.Test.YtlhpfhnbeagnaaaGreatDoorZCB5
import Derived.Test.YtlhpfhnbeagnaaaGreatDoorZCB6
import Derived.Test.YtlhpfhnbeagnaaaGreatDoorZCB7
import Derived.Test.YtlhpfhnbeagnaaaGreatDoorZCB8
namespace Go.Proofs.YtlhpfhnbeagnaaaGreatDoor
open Go.RowKit
theorem mem_take {l : List Int} {k : Nat} {x : Int} (hk : k ≤ l.length) : x ∈ l.take k ↔ ∃ j, j < k ∧ l.getD j 0 = x := by
  constructor
  · intro h
    obtain ⟨i, hi, e⟩ := List.mem_iff_getElem.1 h
    rw [List.length_take] at hi
    refine ⟨i, by omega, ?_⟩
    rw [List.getElem_take] at e
    rw [List.getD_eq_getElem?_getD, List.getElem?_eq_getElem (by omega), ← e]; rfl
  · rintro ⟨j, hj, rfl⟩
    rw [List.getD_eq_getElem?_getD, List.getElem?_eq_getElem (by omega)]
    exact List.mem_iff_getElem.2 ⟨j, by rw [List.length_take]; omega, by simp⟩
set_option maxHeartbeats 8000000 in
set_option maxRecDepth 100000 in
theorem rGate_any {g : Gt} {b : Int} {a : Option Addr} {n cap : Nat} {w : World} (hn : n = g.args.length) (hc : CellsI w a g.args) (hl : n ≤ cap) (hm : cap ≤ maxLen) :
    Calls Tryz.prog 60 #[.agg #[.int .i64 g.kind, .int .i64 g.need, .slice a n cap], .int .i64 b] w fun e w' => e = .returned (.int .i64 (gateE g b)) ∧ Ext w w' := by
  obtain ⟨r, hr⟩ : ∃ r : Int, (gateE g b : Int) = r := ⟨_, rfl⟩
  rw [hr]
  have HA := Lib.hid (fun h1 h2 h3 h => gateE_args (g := g) (b := b) h1 h2 h3 h)
  have HR1 := Lib.hid (fun h => hr.symm.trans (congrArg Nat.cast (gateE_kind (g := g) (b := b) h)))
  have HR2 := Lib.hid (fun h1 h2 h => hr.symm.trans (congrArg Nat.cast (gateE_none (g := g) (b := b) h1 h2 h)))
  have HR3 := Lib.hid (fun h1 h2 h3 h => hr.symm.trans (congrArg Nat.cast (gateE_many (g := g) (b := b) h1 h2 h3 h)))
  have HR := Lib.hid hr
  obtain ⟨kd, hkd⟩ : ∃ x, x = g.kind := ⟨_, rfl⟩
  obtain ⟨nd, hnd⟩ : ∃ x, x = g.need := ⟨_, rfl⟩
  rw [← hkd, ← hnd]
  rw [← hkd] at HA HR1 HR2 HR3
  rw [← hn] at HA HR2 HR3
  have HC := Lib.hid hc
  have HN := Lib.hid hn
  have hb : n ≤ maxLen := by omega
  have hb2 : n ≤ 9223372036854775807 := by unfold maxLen at hb; omega
  have HKD := Lib.hid hkd
  have HND := Lib.hid hnd
  clear hr hc hn hm hb hkd hnd
  have E0 : Ext w (w.alloc (.cells #[.int .i64 kd, .int .i64 nd, .slice a n cap] 100)) := (Ext.refl _).alloc _
  have y0 : (w.alloc (.cells #[.int .i64 kd, .int .i64 nd, .slice a n cap] 100)).cell? ⟨w.heap.size, 0, none⟩ = some (.int .i64 kd) := by go_simp
  have y1 : (w.alloc (.cells #[.int .i64 kd, .int .i64 nd, .slice a n cap] 100)).cell? ⟨w.heap.size, 1, none⟩ = some (.int .i64 nd) := by go_simp
  have y2 : (w.alloc (.cells #[.int .i64 kd, .int .i64 nd, .slice a n cap] 100)).cell? ⟨w.heap.size, 2, none⟩ = some (.slice a n cap) := by go_simp
  go_enter Tryz.func60, Tryz.ntmps60
  by_cases h1 : kd < 0
  · have HRX := Lib.hid (HR1.out (.inl h1))
    go_wp2
    go_ret
    exact ⟨ret_int HRX.out.symm, E0⟩
  by_cases h2 : 2 < kd
  · have HRX := Lib.hid (HR1.out (.inr (by omega)))
    go_wp2
    go_ret
    exact ⟨ret_int HRX.out.symm, E0⟩
  have h2' : ¬ 3 ≤ kd := by omega
  by_cases h3 : n = 0
  · have HRX := Lib.hid (HR2.out h1 h2' h3)
    have k1 : ((n : Int) == 0) = true := by simp; omega
    subst h3
    go_wp2
    go_ret
    exact ⟨ret_int HRX.out.symm, E0⟩
  have k1 : ((n : Int) == 0) = false := by simp; omega
  by_cases h4 : 64 < n
  · have HRX := Lib.hid (HR3.out h1 h2' h3 h4)
    have k2 : (64 : Int) < (n : Int) := by omega
    go_wp2
    go_ret
    exact ⟨ret_int HRX.out.symm, E0⟩
  have k2 : ¬ (64 : Int) < (n : Int) := by omega
  have HA2 := Lib.hid (HA.out h1 h2' h3 h4)
  have HT : Hid (((if argsE b [] g.args ≠ 0 then argsE b [] g.args else needE g : Nat) : Int) = r) := by
    show _ = _
    rw [← HR.out, HA2.out]
  clear HA HA2 HR1 HR2 HR3
  go_wp2
  generalize w.alloc (.cells #[.int .i64 kd, .int .i64 nd, .slice a n cap] 100) = W at E0 y0 y1 y2 ⊢
  go_loopw [5] (fun t wr => ∃ k : Nat, k ≤ n ∧ t = .int .i64 k ∧ Hid (argsE b (g.args.take k) (g.args.drop k) = argsE b [] g.args) ∧ Ext W wr) (fun t _ => n - (intOf t).toNat)
  case atStart => exact ⟨0, Nat.zero_le _, rfl, rfl, Ext.refl _⟩
  case round =>
    obtain ⟨k, hkN, rfl, hz, he⟩ := hrel
    have EK := E0.trans he
    have d0 := he.cell y0
    have d1 := he.cell y1
    have d2 := he.cell y2
    have zd := cell_lt d0
    dsimp only at zd
    by_cases hlt : k < n
    · have hlt' : (k : Int) < (n : Int) := by omega
      obtain ⟨bb, off, rfl, c1⟩ := (HC.out.ext EK) k (by rw [← HN.out]; exact hlt)
      obtain ⟨q1, q2, q3⟩ := gateE_now HT.out (by rw [← HN.out]; exact hlt) hz.out
      have Q1 := Lib.hid q1
      have Q2 := Lib.hid q2
      have Q3 := Lib.hid q3
      have HMT : Hid (∀ x, x ∈ g.args.take k ↔ ∃ j, j < k ∧ g.args.getD j 0 = x) := fun x => mem_take (by rw [← HN.out]; exact hkN)
      generalize hxk : g.args.getD k 0 = x at c1 Q1 Q2 Q3
      have HXK := Lib.hid hxk
      have z1 := cell_lt c1
      dsimp only at z1
      clear q1 q2 q3 hz hxk
      by_cases hx : x < 0
      · have HRX := Lib.hid (Q1.out (.inl hx))
        go_wp2
        go_ret
        exact ⟨ret_int HRX.out.symm, EK⟩
      by_cases hx2 : b ≤ x
      · have HRX := Lib.hid (Q1.out (.inr hx2))
        go_wp2
        go_ret
        exact ⟨ret_int HRX.out.symm, EK⟩
      go_wp2
      go_loopw [6] (fun t wi => ∃ m : Nat, m ≤ k ∧ t = .int .i64 m ∧ Hid (∀ j, j < m → g.args.getD j 0 ≠ x) ∧ Ext W wi) (fun t _ => k - (intOf t).toNat)
      case atStart => exact ⟨0, Nat.zero_le _, rfl, fun j hj => by omega, he⟩
      case round =>
        clear d0 d1 d2 zd c1 z1 he EK
        obtain ⟨m, hm, rfl, hnn, he⟩ := hrel
        have EK := E0.trans he
        have d2 := he.cell y2
        have zd := cell_lt d2
        dsimp only at zd
        obtain ⟨b9, o9, e9, c1⟩ := (HC.out.ext EK) k (by rw [← HN.out]; exact hlt)
        cases e9
        by_cases hmk : m < k
        · have hmk' : (m : Int) < (k : Int) := by omega
          have hmn' : (m : Int) < (n : Int) := by omega
          obtain ⟨b9, o9, e9, c3⟩ := (HC.out.ext EK) m (by rw [← HN.out]; omega)
          cases e9
          rw [HXK.out] at c1
          have z1 := cell_lt c1
          dsimp only at z1
          generalize hym : g.args.getD m 0 = y at c3
          have HYM := Lib.hid hym
          clear hym
          by_cases hxy : y = x
          · have HRX := Lib.hid (Q2.out hx hx2 ((HMT.out x).2 ⟨m, hmk, HYM.out.trans hxy⟩))
            subst hxy
            have hq : (y == y) = true := by simp
            go_wp2
            go_quiet (fail)
            go_wp2
            go_ret
            exact ⟨ret_int HRX.out.symm, extA⟩
          · have hq : (y == x) = false := by simp [hxy]
            have HNX : Hid (∀ j, j < m + 1 → g.args.getD j 0 ≠ x) := fun j hj => by
              rcases Nat.lt_or_eq_of_le (Nat.le_of_lt_succ hj) with h | rfl
              · exact hnn.out j h
              · rw [HYM.out]; exact hxy
            clear hxy
            go_wp2
            go_quiet (fail)
            go_wp2
            exact ⟨⟨m + 1, hmk, by go_num, HNX, extA⟩, by simp [intOf]; omega⟩
        · have hme : m = k := by omega
          have hmk' : ¬ (m : Int) < (k : Int) := by omega
          have HG := Lib.hid (Q3.out hx hx2 (fun h => by
            obtain ⟨j, hj, e⟩ := (HMT.out x).1 h
            exact hnn.out j (by omega) e))
          clear hnn c1
          go_wp2
          exact ⟨⟨k + 1, by omega, by go_num, HG, he⟩, by simp [intOf]; omega⟩
    · have hke : k = n := by omega
      have hlt' : ¬ (k : Int) < (n : Int) := by omega
      have HL := Lib.hid (gateE_last HT.out (by rw [← HN.out]; exact hke) hz.out)
      clear hz
      have hlen : (g.args.length : Int) = n := by have := HN.out; omega
      by_cases hk : kd = 2
      · have k3 : (kd == 2) = true := by simp [hk]
        have k4 : (kd != 2) = false := by simp [hk]
        have hkk := HKD.out.symm.trans hk
        by_cases hn1 : nd < 1
        · have HRX : Hid (2 = r) := by show _ = _; rw [← HL.out, needE_low hkk (by rw [← HND.out]; exact hn1)]; rfl
          clear hkk hlen hk
          go_wp2
          go_ret
          exact ⟨ret_int HRX.out, EK⟩
        by_cases hn2 : (n : Int) < nd
        · have HRX : Hid (2 = r) := by show _ = _; rw [← HL.out, needE_high hkk (by rw [← HND.out, hlen]; exact hn2)]; rfl
          clear hkk hlen hk
          go_wp2
          go_ret
          exact ⟨ret_int HRX.out, EK⟩
        have HRX : Hid (0 = r) := by show _ = _; rw [← HL.out, needE_ok hkk (by rw [← HND.out]; exact hn1) (by rw [← HND.out, hlen]; exact hn2)]; rfl
        clear hkk hlen hk
        go_wp2
        go_ret
        exact ⟨ret_int HRX.out, EK⟩
      · have k3 : (kd == 2) = false := by simp [hk]
        have k4 : (kd != 2) = true := by simp [hk]
        have hkk : g.kind ≠ 2 := by rw [← HKD.out]; exact hk
        by_cases hn1 : nd = 0
        · have k5 : (nd != 0) = false := by simp [hn1]
          have HRX : Hid (0 = r) := by show _ = _; rw [← HL.out, needE_none hkk (by rw [← HND.out]; exact hn1)]; rfl
          clear hkk hlen hn1
          go_wp2
          go_ret
          exact ⟨ret_int HRX.out, EK⟩
        · have k5 : (nd != 0) = true := by simp [hn1]
          have HRX : Hid (3 = r) := by show _ = _; rw [← HL.out, needE_form hkk (by rw [← HND.out]; exact hn1)]; rfl
          clear hkk hlen hn1
          go_wp2
          go_ret
          exact ⟨ret_int HRX.out, EK⟩
set_option maxHeartbeats 4000000 in
set_option maxRecDepth 100000 in
theorem rCheck_any {t : Tr} {a : Option Addr} {cap : Nat} {w : World} (ht : TreeG w t a cap) :
    Calls Tryz.prog 16 #[treeV t a cap] w fun e w' => e = .returned (.int .i64 (treeE t)) ∧ Ext w w' := by
  unfold treeV
  obtain ⟨r, hr⟩ : ∃ r : Int, (treeE t : Int) = r := ⟨_, rfl⟩
  rw [hr]
  have HR1 := Lib.hid (fun h => hr.symm.trans (congrArg Nat.cast (treeE_a (t := t) h)))
  have HR2 := Lib.hid (fun h1 h2 h => hr.symm.trans (congrArg Nat.cast (treeE_b (t := t) h1 h2 h)))
  have HR3 := Lib.hid (fun h1 h2 h3 h => hr.symm.trans (congrArg Nat.cast (treeE_c (t := t) h1 h2 h3 h)))
  have HR4 := Lib.hid (fun h1 h2 h3 h => (congrArg Nat.cast (treeE_d (t := t) h1 h2 h3 h)).symm.trans hr)
  obtain ⟨ev, hev⟩ : ∃ x, x = t.ev := ⟨_, rfl⟩
  obtain ⟨n, hn⟩ : ∃ x, x = t.gates.length := ⟨_, rfl⟩
  rw [← hev, ← hn]
  rw [← hev] at HR1 HR2 HR3 HR4
  rw [← hn] at HR2 HR3 HR4
  have HC := Lib.hid ht.cells
  have hb : n ≤ maxLen := by have := ht.len; have := ht.cap; omega
  have hb2 : n ≤ 9223372036854775807 := by unfold maxLen at hb; omega
  have HN := Lib.hid hn
  clear hr hn ht hb hev
  have E0 : Ext w (w.alloc (.cells #[.int .i64 ev, .slice a n cap] 35)) := (Ext.refl _).alloc _
  have y0 : (w.alloc (.cells #[.int .i64 ev, .slice a n cap] 35)).cell? ⟨w.heap.size, 0, none⟩ = some (.int .i64 ev) := by go_simp
  have y1 : (w.alloc (.cells #[.int .i64 ev, .slice a n cap] 35)).cell? ⟨w.heap.size, 1, none⟩ = some (.slice a n cap) := by go_simp
  go_enter Tryz.func16, Tryz.ntmps16
  by_cases h1 : ev < 1
  · have HRX := Lib.hid (HR1.out (.inl h1))
    go_wp2
    go_ret
    exact ⟨ret_int HRX.out.symm, E0⟩
  by_cases h2 : 16 < ev
  · have HRX := Lib.hid (HR1.out (.inr h2))
    go_wp2
    go_ret
    exact ⟨ret_int HRX.out.symm, E0⟩
  by_cases h3 : n = 0
  · have HRX := Lib.hid (HR2.out h1 h2 h3)
    have k1 : ((n : Int) == 0) = true := by simp; omega
    subst h3
    go_wp2
    go_ret
    exact ⟨ret_int HRX.out.symm, E0⟩
  have k1 : ((n : Int) == 0) = false := by simp; omega
  by_cases h4 : 64 < n
  · have HRX := Lib.hid (HR3.out h1 h2 h3 h4)
    have k2 : (64 : Int) < (n : Int) := by omega
    go_wp2
    go_ret
    exact ⟨ret_int HRX.out.symm, E0⟩
  have k2 : ¬ (64 : Int) < (n : Int) := by omega
  have HT := Lib.hid (HR4.out h1 h2 h3 h4)
  clear HR1 HR2 HR3 HR4
  go_wp2
  generalize w.alloc (.cells #[.int .i64 ev, .slice a n cap] 35) = W at E0 y0 y1 ⊢
  go_loopw [3] (fun t' wr => ∃ k : Nat, k ≤ n ∧ t' = .int .i64 k ∧ Hid (gatesE (ev + k) (t.gates.drop k) = gatesE ev t.gates) ∧ Ext W wr) (fun t _ => n - (intOf t).toNat)
  case atStart => exact ⟨0, Nat.zero_le _, rfl, by show gatesE (ev + ((0 : Nat) : Int)) _ = _; rw [show ev + ((0 : Nat) : Int) = ev by omega]; rfl, Ext.refl _⟩
  case round =>
    obtain ⟨k, hkN, rfl, hz, he⟩ := hrel
    have EK := E0.trans he
    have d0 := he.cell y0
    have d1 := he.cell y1
    have zd := cell_lt d0
    dsimp only at zd
    by_cases hlt : k < n
    · have hlt' : (k : Int) < (n : Int) := by omega
      obtain ⟨bb, off, v, rfl, c0, c1, c2, c3⟩ := (HC.out.ext EK) k (by rw [← HN.out]; exact hlt)
      obtain ⟨ai, ci, rfl, c4, c5, c6⟩ := c3
      obtain ⟨q1, q2⟩ := gatesE_now (by rw [← HN.out]; exact hlt) hz.out HT.out
      have Q1 := Lib.hid q1
      have Q2 := Lib.hid q2
      generalize t.gates.getD k gt0 = g at c0 c1 c2 c4 c5 Q1 Q2
      obtain ⟨m, hm⟩ : ∃ m, m = g.args.length := ⟨_, rfl⟩
      rw [← hm] at c2 c5
      have z1 := cell_lt c0
      dsimp only at z1
      have hw : IntKind.i64.wrap (ev + (k : Int)) = ev + (k : Int) := IntWalk.i64_in _ (by omega)
      have HGT := Lib.hid (fun W2 (hW : Ext wr W2) => rGate_any (g := g) (b := ev + k) (n := m) hm (c4.ext hW) c5 c6)
      clear q1 q2 hz hm c4 c5 c6
      by_cases h0 : gateE g (ev + k) = 0
      · have HG := Lib.hid (Q2.out h0)
        rw [h0] at HGT
        clear h0 Q1 Q2
        go_wp2
        go_region_held3 (fun w' => Sees wr w') ((repeat (first | exact Sees.refl _ | assumption | apply Sees.drew | apply Sees.alloc | (refine Sees.ext ?_ (by assumption))))) (first | (go_at_call 60; refine (HGT.out _ (by exact (show Sees wr _ by assumption).2.2)).mono ?_; rintro e w' ⟨rfl, hE⟩))
        have F := (show Sees wr _ by assumption).2.2
        go_wp2
        exact ⟨⟨k + 1, by omega, by go_num, HG.out, he.trans F⟩, by simp [intOf]; omega⟩
      · have HRX := Lib.hid (Q1.out h0)
        have k5 : ((((gateE g (ev + k) : Nat) : Int)) != 0) = true := by rw [bne_iff_ne]; omega
        clear h0 Q1 Q2
        generalize ((gateE g (ev + k) : Nat) : Int) = e at k5 HRX HGT
        go_wp2
        go_region_held3 (fun w' => Sees wr w') ((repeat (first | exact Sees.refl _ | assumption | apply Sees.drew | apply Sees.alloc | (refine Sees.ext ?_ (by assumption))))) (first | (go_at_call 60; refine (HGT.out _ (by exact (show Sees wr _ by assumption).2.2)).mono ?_; rintro e w' ⟨rfl, hE⟩))
        have F := (show Sees wr _ by assumption).2.2
        go_wp2
        go_ret
        exact ⟨ret_int HRX.out, EK.trans F⟩
    · have hke : k = n := by omega
      have hlt' : ¬ (k : Int) < (n : Int) := by omega
      have HRX : Hid (0 = r) := by
        show _ = _
        rw [← HT.out, ← hz.out, hke, HN.out, List.drop_length]
        rfl
      clear hz
      go_wp2
      go_ret
      exact ⟨ret_int HRX.out, EK⟩
def fewT (t : Tr) (most : Int) : Bool := decide (t.gates.length ≤ 100) && (t.gates.all fun g => decide (g.args.length ≤ 100)) && (decide (treeE t ≠ 0) || (decide (t.ev ≤ most) && decide (t.gates.length ≤ 12)))
end Go.Proofs.YtlhpfhnbeagnaaaGreatDoor
namespace Go.Proofs.YtlhpfhnbeagnaaaGreatDoor
open Go.RowKit
theorem i64_and1 (n : Int) : bits .and .i64 n 1 = n % 2 := by
  have h1 : (BitVec.ofInt 64 1).toNat = 2 ^ 1 - 1 := by decide
  have key : (BitVec.ofInt 64 n &&& BitVec.ofInt 64 1).toNat = (n % ((2 ^ 64 : Nat) : Int)).toNat % 2 ^ 1 := by
    rw [BitVec.toNat_and, BitVec.toNat_ofInt, h1, Nat.and_two_pow_sub_one_eq_mod]
  show IntKind.i64.wrap ((BitVec.ofInt 64 n &&& BitVec.ofInt 64 1).toNat : Nat) = n % 2
  rw [key, IntKind.wrap_i64]
  omega
theorem bit_oneI (s k : Nat) : bits .and .i64 ((s / 2 ^ k : Nat) : Int) 1 = ((s / 2 ^ k % 2 : Nat) : Int) ∧ (((s / 2 ^ k % 2 : Nat) : Int) == 1) = s.testBit k := by
  constructor
  · rw [i64_and1]; rfl
  · rw [Nat.testBit_eq_decide_div_mod_eq, Bool.eq_iff_iff, decide_eq_true_eq, beq_iff_eq]
    omega
theorem fewT_many {t : Tr} {m : Int} (h : 100 < t.gates.length) : fewT t m = false := by unfold fewT; rw [decide_eq_false (by omega)]; rfl
theorem fewT_args {t : Tr} {m : Int} {k : Nat} (hk : k < t.gates.length) (h : 100 < (t.gates.getD k gt0).args.length) : fewT t m = false := by
  unfold fewT
  have : (t.gates.all fun g => decide (g.args.length ≤ 100)) = false := by
    rw [List.all_eq_false]
    exact ⟨_, getD_mem (d := gt0) hk, by rw [decide_eq_true_eq]; omega⟩
  rw [this, Bool.and_false]; rfl
theorem fewT_all {t : Tr} {m : Int} (h1 : ¬ 100 < t.gates.length) (h : ∀ k, k < t.gates.length → ¬ 100 < (t.gates.getD k gt0).args.length) : fewT t m = (decide (treeE t ≠ 0) || (decide (t.ev ≤ m) && decide (t.gates.length ≤ 12))) := by
  unfold fewT
  have : (t.gates.all fun g => decide (g.args.length ≤ 100)) = true := by
    rw [List.all_eq_true]
    intro g hg
    obtain ⟨i, hi, e⟩ := List.mem_iff_getElem.1 hg
    have := h i hi
    rw [List.getD_eq_getElem?_getD, List.getElem?_eq_getElem hi] at this
    have e2 : (some t.gates[i]).getD gt0 = g := e
    rw [e2] at this
    rw [decide_eq_true_eq]
    omega
  rw [this, decide_eq_true (by omega)]; rfl
set_option maxHeartbeats 4000000 in
set_option maxRecDepth 100000 in
theorem rFew_any {t : Tr} {a : Option Addr} {cap : Nat} {m : Int} {w : World} (ht : TreeG w t a cap) :
    Calls Tryz.prog 52 #[treeV t a cap, .int .i64 m] w fun e w' => e = .returned (.bool (fewT t m)) ∧ Ext w w' := by
  have HK := Lib.hid (fun W (hW : Ext w W) => rCheck_any (ht.ext hW))
  obtain ⟨r, hr⟩ : ∃ r, fewT t m = r := ⟨_, rfl⟩
  rw [hr]
  have H1 : Hid (100 < t.gates.length → r = false) := fun h => by rw [← hr, fewT_many h]
  have H2 : Hid (∀ k, k < t.gates.length → 100 < (t.gates.getD k gt0).args.length → r = false) := fun k hk h => by rw [← hr, fewT_args hk h]
  have H3 : Hid (¬ 100 < t.gates.length → (∀ k, k < t.gates.length → ¬ 100 < (t.gates.getD k gt0).args.length) → r = (decide (treeE t ≠ 0) || (decide (t.ev ≤ m) && decide (t.gates.length ≤ 12)))) := fun h h2 => by rw [← hr, fewT_all h h2]
  have HC := Lib.hid ht.cells
  unfold treeV at HK ⊢
  obtain ⟨n, hn⟩ : ∃ n, n = t.gates.length := ⟨_, rfl⟩
  have hb : n ≤ 9223372036854775807 := by have := ht.len; have := ht.cap; unfold maxLen at this; omega
  rw [← hn] at HK H1 H2 H3 ⊢
  have HN := Lib.hid hn
  generalize t.ev = ev at HK H3 ⊢
  generalize treeE t = er at HK H3
  have y0 : (w.alloc (.cells #[.int .i64 ev, .slice a n cap] 35)).cell? ⟨w.heap.size, 0, none⟩ = some (.int .i64 ev) := by rw [World.cell?_alloc_new]; rfl
  have y1 : (w.alloc (.cells #[.int .i64 ev, .slice a n cap] 35)).cell? ⟨w.heap.size, 1, none⟩ = some (.slice a n cap) := by rw [World.cell?_alloc_new]; rfl
  have E0 : Ext w (w.alloc (.cells #[.int .i64 ev, .slice a n cap] 35)) := extA
  clear ht hr hn
  go_enter Tryz.func52, Tryz.ntmps52
  by_cases h1 : 100 < n
  · have hi : (100 : Int) < (n : Int) := by omega
    have HR := Lib.hid (H1.out h1)
    clear H1 H2 H3 HK
    go_wp2
    go_ret
    exact ⟨ret_bool HR.out.symm, E0⟩
  have hi : ¬ (100 : Int) < (n : Int) := by omega
  have H3X := Lib.hid (H3.out h1)
  clear H1 H3
  go_wp2
  generalize w.alloc (.cells #[.int .i64 ev, .slice a n cap] 35) = W at E0 y0 y1 ⊢
  go_loopw [5] (fun x wr => ∃ k : Nat, k ≤ n ∧ x = .int .i64 k ∧ Hid (∀ j, j < k → ¬ 100 < (t.gates.getD j gt0).args.length) ∧ Ext W wr) (fun x _ => n - (intOf x).toNat)
  case atStart => exact ⟨0, Nat.zero_le _, rfl, fun j hj => by omega, Ext.refl _⟩
  case round =>
    obtain ⟨k, hk, rfl, hz, he⟩ := hrel
    have EK := E0.trans he
    have d0 := he.cell y0
    have d1 := he.cell y1
    have zd := cell_lt d0
    dsimp only at zd
    by_cases hlt : k < n
    · have hlt' : (k : Int) < (n : Int) := by omega
      obtain ⟨bb, off, v, rfl, c0, c1, c2, c3⟩ := (HC.out.ext EK) k (by rw [← HN.out]; exact hlt)
      obtain ⟨ai, ci, rfl, _, _, _⟩ := c3
      have HBX := Lib.hid (H2.out k hlt)
      have HNX : Hid (¬ 100 < (t.gates.getD k gt0).args.length → ∀ j, j < k + 1 → ¬ 100 < (t.gates.getD j gt0).args.length) := fun h j hj => by
        rcases Nat.lt_or_eq_of_le (Nat.le_of_lt_succ hj) with h2 | rfl
        · exact hz.out j h2
        · exact h
      clear hz c0 c1
      generalize (t.gates.getD k gt0).args.length = L at c2 HBX HNX
      have zb := cell_lt c2
      dsimp only at zb
      by_cases hL : 100 < L
      · have hL' : (100 : Int) < (L : Int) := by omega
        have HR := Lib.hid (HBX.out hL)
        clear HBX HNX
        go_wp2
        go_ret
        exact ⟨ret_bool HR.out.symm, EK⟩
      · have hL' : ¬ (100 : Int) < (L : Int) := by omega
        have HG := Lib.hid (HNX.out hL)
        clear HBX HNX
        go_wp2
        exact ⟨⟨k + 1, by omega, by go_num, HG, he⟩, by simp [intOf]; omega⟩
    · have hke : k = n := by omega
      have hlt' : ¬ (k : Int) < (n : Int) := by omega
      have HR := Lib.hid (H3X.out (fun j hj => hz.out j (by omega)))
      clear hz H3X
      go_wp2_with fail
      refine (HK.out _ EK).mono ?_
      rintro e w2 ⟨rfl, hE⟩
      replace d0 := hE.cell d0
      replace d1 := hE.cell d1
      by_cases he0 : er = 0
      · have k5 : ((er : Int) != 0) = false := by rw [he0]; rfl
        by_cases he1 : ev ≤ m
        · by_cases he2 : n ≤ 12
          · have he2' : (n : Int) ≤ 12 := by omega
            have HX : Hid (r = true) := by show _ = _; rw [HR.out, decide_eq_true he1, decide_eq_true he2]; simp
            clear HR he0
            generalize (er : Int) = e2 at k5
            go_wp2
            go_ret
            exact ⟨ret_bool HX.out.symm, EK.trans hE⟩
          · have he2' : ¬ (n : Int) ≤ 12 := by omega
            have HX : Hid (r = false) := by show _ = _; rw [HR.out, decide_eq_false he2, decide_eq_false (by simp [he0])]; simp
            clear HR he0
            generalize (er : Int) = e2 at k5
            go_wp2
            go_ret
            exact ⟨ret_bool (by rw [HX.out]; simp; omega), EK.trans hE⟩
        · have HX : Hid (r = false) := by show _ = _; rw [HR.out, decide_eq_false he1, decide_eq_false (by simp [he0])]; simp
          clear HR he0
          generalize (er : Int) = e2 at k5
          go_wp2
          go_ret
          exact ⟨ret_bool HX.out.symm, EK.trans hE⟩
      · have k5 : ((er : Int) != 0) = true := by rw [bne_iff_ne]; omega
        have HX : Hid (r = true) := by show _ = _; rw [HR.out, decide_eq_true he0]; rfl
        clear HR he0
        generalize (er : Int) = e2 at k5
        go_wp2
        go_ret
        exact ⟨ret_bool HX.out.symm, EK.trans hE⟩
set_option maxHeartbeats 2000000 in
set_option maxRecDepth 100000 in
theorem few_any {t : Tr} {a : Option Addr} {cap : Nat} {m : Int} {w : World} (ht : TreeG w t a cap) :
    Calls Tryz.prog 10 #[treeV t a cap, .int .i64 m] w fun e w' => e = .returned (.bool (fewT t m)) ∧ Ext w w' := by
  have HO := Lib.hid (fun W (hl : t.gates.length ≤ 100) (hW : Ext w W) => Of_any (ht.ext hW) hl)
  have HF := Lib.hid (fun W b c (h : TreeG W t b c) => rFew_any (m := m) h)
  have H1 : Hid (100 < t.gates.length → fewT t m = false) := fewT_many
  generalize fewT t m = r at HF H1 ⊢
  unfold TreeP at HO
  have hb : t.gates.length ≤ 9223372036854775807 := by have := ht.len; have := ht.cap; unfold maxLen at this; omega
  unfold treeV at HO HF ⊢
  generalize t.gates.length = n at HO HF H1 hb ⊢
  generalize t.ev = ev at HO HF ⊢
  have y0 : (w.alloc (.cells #[.int .i64 ev, .slice a n cap] 24)).cell? ⟨w.heap.size, 0, none⟩ = some (.int .i64 ev) := by rw [World.cell?_alloc_new]; rfl
  have y1 : (w.alloc (.cells #[.int .i64 ev, .slice a n cap] 24)).cell? ⟨w.heap.size, 1, none⟩ = some (.slice a n cap) := by rw [World.cell?_alloc_new]; rfl
  have E0 : Ext w (w.alloc (.cells #[.int .i64 ev, .slice a n cap] 24)) := extA
  clear ht
  go_enter Tryz.func10, Tryz.ntmps10
  by_cases h1 : 100 < n
  · have hi : ¬ (n : Int) ≤ 100 := by omega
    have HR := Lib.hid (H1.out h1)
    clear H1 HO HF
    go_wp2
    go_ret
    exact ⟨ret_bool HR.out.symm, E0⟩
  have hi : (n : Int) ≤ 100 := by omega
  have HO2 := Lib.hid (HO.out _ (by omega) E0)
  clear HO H1
  go_wp2_with fail
  refine HO2.out.mono ?_
  rintro e w1 ⟨b, c, rfl, hT, hE⟩
  have HT := Lib.hid hT
  clear hT
  go_wp2_with fail
  refine (HF.out _ b c HT.out).mono ?_
  rintro e w2 ⟨rfl, hE2⟩
  go_wp2
  go_ret
  exact ⟨rfl, (E0.trans hE).trans hE2⟩
set_option maxHeartbeats 4000000 in
set_option maxRecDepth 100000 in
theorem rEvents_any {t : Tr} {a la : Option Addr} {cap lc : Nat} {l : List Int} {w : World} (hc : CellsI w la l) (hl : l.length ≤ maxLen) :
    Calls Tryz.prog 56 #[treeV t a cap, .slice la l.length lc] w fun e w' => e = .returned (.int .i64 (listE t.ev l : Nat)) ∧ Ext w w' := by
  unfold treeV
  generalize t.ev = ev
  have HC := Lib.hid hc
  obtain ⟨r, hr⟩ : ∃ r, ((listE ev l : Nat) : Int) = r := ⟨_, rfl⟩
  rw [hr]
  have HR : Hid (∀ e : Nat, listE ev l = e → (e : Int) = r) := fun e h1 => by rw [← hr, h1]
  have HB : Hid (16 < l.length → listE ev l = 5) := fun h => by unfold listE; rw [if_pos h]
  have HE : Hid (¬ 16 < l.length → listE ev l = evE ev (-1) l) := fun h => by unfold listE; rw [if_neg h]
  obtain ⟨n, hn⟩ : ∃ n, n = l.length := ⟨_, rfl⟩
  rw [← hn] at hl HB HE ⊢
  have HN := Lib.hid hn
  have hn2 : n ≤ 9223372036854775807 := by unfold maxLen at hl; omega
  clear hr hc hn hl
  have y0 : (w.alloc (.cells #[.int .i64 ev, .slice a t.gates.length cap] 35)).cell? ⟨w.heap.size, 0, none⟩ = some (.int .i64 ev) := by rw [World.cell?_alloc_new]; rfl
  have E0 : Ext w (w.alloc (.cells #[.int .i64 ev, .slice a t.gates.length cap] 35)) := extA
  generalize t.gates.length = gn at y0 E0 ⊢
  go_enter Tryz.func56, Tryz.ntmps56
  by_cases h1 : 16 < n
  · have hi : (16 : Int) < (n : Int) := by omega
    have G2 := Lib.hid (HR.out 5 (HB.out h1))
    go_wp2
    go_ret
    exact ⟨ret_int G2.out, E0⟩
  have hi : ¬ (16 : Int) < (n : Int) := by omega
  have HE2 := Lib.hid (HE.out h1)
  clear HE HB
  go_wp2
  generalize (w.alloc (.cells #[.int .i64 ev, .slice a gn cap] 35)) = W at y0 E0 ⊢
  go_loopw [5] (fun x wr => ∃ k : Nat, k ≤ n ∧ x = .int .i64 k ∧ Hid (Pre ev l k) ∧ Ext W wr) (fun x _ => n - (intOf x).toNat)
  case atStart => exact ⟨0, Nat.zero_le _, rfl, Pre.zero _ _, Ext.refl _⟩
  case round =>
    obtain ⟨k, hk, rfl, hp, he⟩ := hrel
    have d0 := he.cell y0
    have z0 := cell_lt d0
    dsimp only at z0
    by_cases hlt : k < n
    · have hlt' : (k : Int) < (n : Int) := by omega
      have hll : k < l.length := by rw [← HN.out]; exact hlt
      obtain ⟨b, off, rfl, c1⟩ := HC.out.ext (E0.trans he) k hll
      have zb := cell_lt c1
      dsimp only at zb
      have HP6 := Lib.hid (fun h => HR.out 6 (HE2.out.trans (hp.out.six hll h)))
      have HP9 := Lib.hid (fun h h2 => HR.out 9 (HE2.out.trans (hp.out.nine hll h h2)))
      have HPN := Lib.hid (fun h h2 h3 => (hp.out.next hll h h2 h3).1)
      have HPV : Hid (∀ m, k = m + 1 → ∃ off2, off2 = off + m ∧ wr.cell? ⟨b, off2, none⟩ = some (.int .i64 (l.getD (k - 1) 0))) := fun m hm => by
        obtain ⟨b2, o2, e2, c2⟩ := HC.out.ext (E0.trans he) m (by omega)
        cases e2
        exact ⟨_, rfl, by rw [c2, hm, Nat.add_sub_cancel]⟩
      clear hp
      generalize hx : l.getD k 0 = x at c1 HP6 HP9 HPN
      generalize hy : l.getD (k - 1) 0 = y at HP9 HPN HPV
      clear hx hy
      by_cases hx0 : x < 0
      · have G2 := Lib.hid (HP6.out (.inl hx0))
        clear HP6 HP9 HPN HPV
        go_wp2
        go_quiet (fail)
        go_wp2
        go_ret
        exact ⟨ret_int G2.out, (E0.trans he).trans extA⟩
      by_cases hx1 : ev ≤ x
      · have G2 := Lib.hid (HP6.out (.inr hx1))
        clear HP6 HP9 HPN HPV
        go_wp2
        go_quiet (fail)
        go_wp2
        go_ret
        exact ⟨ret_int G2.out, (E0.trans he).trans extA⟩
      by_cases hk0 : k = 0
      · subst hk0
        have HG := Lib.hid (HPN.out (by omega) (by omega) (by omega))
        clear HPN HPV HP9 HP6
        rw [Nat.add_zero] at c1
        go_wp2
        go_quiet (fail)
        have F : Ext wr (wr.drewN nq) := (Ext.refl _).drewN nq
        generalize wr.drewN nq = w2 at F ⊢
        go_wp2
        go_quiet (fail)
        go_wp2
        exact ⟨⟨1, by omega, by go_num, HG, (he.trans F).trans extA⟩, by simp [intOf]; omega⟩
      · obtain ⟨m, hm⟩ : ∃ m, k = m + 1 := ⟨k - 1, by omega⟩
        obtain ⟨off2, ho2, c2⟩ := HPV.out m hm
        subst ho2
        have hkp : (0 : Int) < (k : Int) := by omega
        have hkd : decide (0 < k) = true := decide_eq_true (by omega)
        have hkn : 0 < k := by omega
        have hw : IntKind.i64.wrap ((k : Int) - 1) = (m : Int) := by rw [IntWalk.i64_in _ (by omega)]; omega
        have hm1 : (m : Int) < (n : Int) := by omega
        have hm2 : (0 : Int) ≤ (m : Int) := by omega
        by_cases hxy : x ≤ y
        · have G2 := Lib.hid (HP9.out (by omega) ⟨by omega, hxy⟩)
          clear hm HPN HPV HP9 HP6
          go_wp2
          go_quiet (fail)
          have F : Ext wr (wr.drewN nq) := (Ext.refl _).drewN nq
          have c1 := F.cell c1
          have c2 := F.cell c2
          have zb := cell_lt c1
          dsimp only at zb
          generalize wr.drewN nq = w2 at F c1 c2 zb ⊢
          go_wp2
          go_quiet (fail)
          go_wp2
          go_ret
          exact ⟨ret_int G2.out, ((E0.trans he).trans F).trans extA⟩
        · have HG := Lib.hid (HPN.out (by omega) (by omega) (fun h => hxy h.2))
          clear hm HPN HPV HP9 HP6
          go_wp2
          go_quiet (fail)
          have F : Ext wr (wr.drewN nq) := (Ext.refl _).drewN nq
          have c1 := F.cell c1
          have c2 := F.cell c2
          have zb := cell_lt c1
          dsimp only at zb
          generalize wr.drewN nq = w2 at F c1 c2 zb ⊢
          go_wp2
          go_quiet (fail)
          go_wp2
          exact ⟨⟨k + 1, by omega, by go_num, HG, (he.trans F).trans extA⟩, by simp [intOf]; omega⟩
    · have hke : k = n := by omega
      have hlt' : ¬ (k : Int) < (n : Int) := by omega
      have hz := hp.out
      rw [hke, HN.out] at hz
      have G2 := Lib.hid (HR.out 0 (HE2.out.trans hz.done))
      clear hp hz
      go_wp2
      go_ret
      exact ⟨ret_int G2.out, E0.trans he⟩
set_option maxHeartbeats 4000000 in
set_option maxRecDepth 100000 in
theorem rSet_any {la : Option Addr} {lc : Nat} {l : List Int} {w : World} (hc : CellsI w la l) (ha : l.Pairwise (· < ·)) (hr : ∀ a ∈ l, 0 ≤ a ∧ a < 16) :
    Calls Tryz.prog 58 #[.slice la l.length lc] w fun e w' => e = .returned (.int .i64 (setL l : Nat)) ∧ Ext w w' := by
  have HC := Lib.hid hc
  have HS : Hid (∀ k, k < l.length → setL (l.take (k + 1)) = setL (l.take k) + 2 ^ (l.getD k 0).toNat ∧ setL (l.take (k + 1)) < 65536 ∧ 0 ≤ l.getD k 0 ∧ l.getD k 0 < 16) := fun k hk => by
    obtain ⟨h1, h2⟩ := hr _ (getD_mem (d := 0) hk)
    refine ⟨setL_take hk, ?_, h1, h2⟩
    exact setL_lt (n := 16) (ha.sublist (List.take_sublist _ _)) fun a hm => by have := hr a (List.mem_of_mem_take hm); omega
  have hn16 : l.length ≤ 16 := by
    have h3 : l.length = l.length := rfl
    have : ∀ (l : List Int) (lo : Int), l.Pairwise (· < ·) → (∀ a ∈ l, lo ≤ a ∧ a < 16) → lo ≤ 16 → (l.length : Int) ≤ 16 - lo := by
      intro l
      induction l with
      | nil => intro lo _ _ h; simp; omega
      | cons x l ih =>
        intro lo hp hb hlo
        rw [List.pairwise_cons] at hp
        have hx := hb x (by simp)
        have := ih (x + 1) hp.2 (fun a hm => ⟨by have := hp.1 a hm; omega, (hb a (List.mem_cons_of_mem _ hm)).2⟩) (by omega)
        rw [List.length_cons]
        omega
    have := this l 0 ha hr (by omega)
    omega
  have HF : Hid (setL (l.take l.length) = setL l) := by show _ = _; rw [List.take_length]
  obtain ⟨n, hn⟩ : ∃ n, n = l.length := ⟨_, rfl⟩
  rw [← hn] at HS hn16 HF ⊢
  have HN := Lib.hid hn
  generalize setL l = r at HF ⊢
  clear hc ha hr hn
  go_enter Tryz.func58, Tryz.ntmps58
  go_wp2
  go_loopw [4, 3] (fun x v wr => ∃ k : Nat, k ≤ n ∧ x = .int .i64 k ∧ v = .int .i64 (setL (l.take k) : Nat) ∧ Ext w wr) (fun x _ _ => n - (intOf x).toNat)
  case atStart => exact ⟨0, Nat.zero_le _, rfl, rfl, Ext.refl _⟩
  case round =>
    obtain ⟨k, hk, rfl, rfl, he⟩ := hrel
    by_cases hlt : k < n
    · have hlt' : (k : Int) < (n : Int) := by omega
      obtain ⟨b, off, rfl, c1⟩ := HC.out.ext he k (by rw [← HN.out]; exact hlt)
      obtain ⟨g1, g2, g3, g4⟩ := HS.out k hlt
      obtain ⟨xn, hxn⟩ : ∃ xn : Nat, l.getD k 0 = (xn : Int) := ⟨_, (Int.toNat_of_nonneg g3).symm⟩
      rw [hxn] at g1 g4 c1
      rw [Int.toNat_natCast] at g1
      have zb := cell_lt c1
      dsimp only at zb
      have hpi : ((2 : Int) ^ xn) = ((2 ^ xn : Nat) : Int) := by rw [Int.natCast_pow]; rfl
      have HG := Lib.hid g1
      generalize hs2 : setL (l.take (k + 1)) = s2 at g1 g2 HG
      have HS2 := Lib.hid hs2
      generalize setL (l.take k) = s1 at g1 HG ⊢
      generalize 2 ^ xn = pw at g1 hpi HG
      have hsh : IntKind.i64.wrap ((2 : Int) ^ xn) = (pw : Int) := by rw [hpi]; exact IntWalk.i64_in _ (by omega)
      have hmin : min xn 64 = xn := Nat.min_eq_left (by omega)
      have hw : IntKind.i64.wrap ((s1 : Int) + (pw : Int)) = ((s2 : Nat) : Int) := by rw [IntWalk.i64_in _ (by omega)]; omega
      clear hpi hxn g1 g3 hs2
      go_wp2
      exact ⟨⟨k + 1, hlt, by go_num, by rw [HS2.out], he⟩, by simp [intOf]; omega⟩
    · have hke : k = n := by omega
      have hlt' : ¬ (k : Int) < (n : Int) := by omega
      have HG : Hid (setL (l.take k) = r) := by show _ = _; rw [hke]; exact HF.out
      generalize setL (l.take k) = s1 at HG ⊢
      go_wp2
      go_ret
      exact ⟨ret_int (by rw [HG.out]), he⟩
end Go.Proofs.YtlhpfhnbeagnaaaGreatDoor
namespace Go.Proofs.YtlhpfhnbeagnaaaGreatDoor
open Go.RowKit
set_option maxHeartbeats 8000000 in
set_option maxRecDepth 100000 in
theorem rTop_any {t : Tr} {a : Option Addr} {cap s : Nat} {w : World} (ht : TreeG w t a cap) (hok : TrOk t) (hs : s < 65536) :
    Calls Tryz.prog 57 #[treeV t a cap, .int .i64 (s : Int)] w fun e w' => e = .returned (.bool (topB t s)) ∧ Ext w w' := by
  unfold treeV
  obtain ⟨hev, hE1, hE2⟩ := hok.natE
  have HT : Hid (lastB (runB (bits0 t.ev.toNat s) t.gates) = topB t s) := rfl
  obtain ⟨E, hE⟩ : ∃ E, E = t.ev.toNat := ⟨_, rfl⟩
  obtain ⟨n, hn⟩ : ∃ x, x = t.gates.length := ⟨_, rfl⟩
  have hn64 : n ≤ 64 := by rw [hn]; exact hok.g2
  have hn1 : 0 < n := by rw [hn]; exact hok.g1
  rw [hev, ← hE, ← hn]
  rw [← hE] at HT hE1 hE2
  have HARG := Lib.hid (fun k (hk : k < t.gates.length) x hx => args_in hok (s := s) hk (a := x) hx)
  have HGT := Lib.hid (fun k (hk : k < t.gates.length) => hok.ok.at hk)
  rw [← hn, ← hE] at HARG
  rw [← hn] at HGT
  have HC := Lib.hid ht.cells
  have HN := Lib.hid hn
  have hBIT := Lib.hid (fun k => bit_oneI s k)
  generalize topB t s = r at HT ⊢
  clear ht hok hn hE hev
  have y0 : (w.alloc (.cells #[.int .i64 (E : Int), .slice a n cap] 35)).cell? ⟨w.heap.size, 0, none⟩ = some (.int .i64 (E : Int)) := by rw [World.cell?_alloc_new]; rfl
  have y1 : (w.alloc (.cells #[.int .i64 (E : Int), .slice a n cap] 35)).cell? ⟨w.heap.size, 1, none⟩ = some (.slice a n cap) := by rw [World.cell?_alloc_new]; rfl
  have E0 : Ext w (w.alloc (.cells #[.int .i64 (E : Int), .slice a n cap] 35)) := extA
  go_enter Tryz.func57, Tryz.ntmps57
  go_wp2
  generalize (w.alloc (.cells #[.int .i64 (E : Int), .slice a n cap] 35)) = W at y0 y1 E0 ⊢
  obtain ⟨bt, hbt⟩ : ∃ bt, w.heap.size = bt := ⟨_, rfl⟩
  rw [hbt] at y0 y1 ⊢
  clear hbt
  go_loopw [6, 5] (fun x v wr => ∃ k : Nat, k ≤ E ∧ x = .int .i64 k ∧ Hid (OwnsBl wr v (bits0 k s)) ∧ Hid (∀ b, v.ownBlock = some b → W.heap.size ≤ b) ∧ Ext W wr) (fun x _ _ => E - (intOf x).toNat)
  case atStart => exact ⟨0, Nat.zero_le _, rfl, World.ownsRow_nil _ _ _ _, (fun b hb => by cases hb), Ext.refl _⟩
  case round =>
    obtain ⟨k, hk, rfl, hO, hB, he⟩ := hrel
    have d0 := he.cell y0
    have z0 := cell_lt d0
    dsimp only at z0
    by_cases hlt : k < E
    · have hlt' : (k : Int) < (E : Int) := by omega
      obtain ⟨hA, hBB⟩ := hBIT.out k
      have hq : (s : Int) / 2 ^ k = ((s / 2 ^ k : Nat) : Int) := by rw [Int.natCast_ediv, Int.natCast_pow]; rfl
      have h64 : k ≤ 64 := by omega
      have hmin : min k 64 = k := Nat.min_eq_left h64
      have HNX := Lib.hid (bits0_succ k s)
      generalize s.testBit k = tb at hBB HNX
      generalize s / 2 ^ k % 2 = q2 at hA hBB
      generalize s / 2 ^ k = q1 at hA hq
      obtain ⟨va, vc, hv, _⟩ := rowReads hO.out
      rw [bits0_len] at hv
      subst hv
      have EW : Ext wr (wr.alloc (.cells #[.bool tb] 4)) := (Ext.refl _).alloc _
      have hcc : (wr.alloc (.cells #[.bool tb] 4)).cell? ⟨wr.heap.size, 0, none⟩ = some (.bool tb) := by rw [World.cell?_alloc_new]; rfl
      obtain ⟨v9, w9, hr9, hO9, hA9⟩ := (hO.out.ext EW).app (m := W.heap.size) 1 hcc (by rw [bits0_len]; omega) (he.trans EW).size hB.out
      rw [← HNX.out] at hO9
      have HR9 := Lib.hid hr9
      have HO9 := Lib.hid hO9
      have HG9 := Lib.hid hA9.ge
      have F9 : Ext W w9 := (he.trans EW).trans' hA9.below (Nat.le_refl _)
      clear hr9 hO9 hA9 hcc EW hO
      go_wp2_with (at_builtin; refine wpList_appC _ rfl _ _ 135 rfl (.slice va k vc) (.slice (some ⟨wr.heap.size, 0, none⟩) 1 1) rfl rfl v9 w9 HR9.out ?_)
      exact ⟨⟨k + 1, hlt, by go_num, HO9, HG9, F9⟩, by simp [intOf]; omega⟩
    · have hke : k = E := by omega
      subst hke
      have hlt' : ¬ (k : Int) < (k : Int) := by omega
      go_wp2
      clear d0 z0
      go_loopw [7, 5] (fun x v wr => ∃ j : Nat, j ≤ n ∧ x = .int .i64 j ∧ Hid (OwnsBl wr v (runB (bits0 k s) (t.gates.take j))) ∧ Hid (∀ b, v.ownBlock = some b → W.heap.size ≤ b) ∧ Ext W wr) (fun x _ _ => n - (intOf x).toNat)
      case atStart => exact ⟨0, Nat.zero_le _, rfl, hO, hB.out, he⟩
      case round =>
        clear hO hB he
        obtain ⟨j, hj, rfl, hO, hgb, he⟩ := hrel
        have EK := E0.trans he
        have d0 := he.cell y0
        have d1 := he.cell y1
        have z0 := cell_lt d0
        dsimp only at z0
        by_cases hlt : j < n
        · have hlt' : (j : Int) < (n : Int) := by omega
          obtain ⟨bb, off, v', rfl, c0, c1, c2, c3⟩ := (HC.out.ext EK) j (by rw [← HN.out]; exact hlt)
          obtain ⟨ai, ci, rfl, c4, c5, c6⟩ := c3
          have HRG := Lib.hid (HARG.out j hlt)
          have HOK := Lib.hid (HGT.out j hlt)
          have HNX := Lib.hid (run_take (v := bits0 k s) (l := t.gates) (k := j) (by rw [← HN.out]; exact hlt))
          obtain ⟨vs, hvs⟩ : ∃ vs, vs = runB (bits0 k s) (t.gates.take j) := ⟨_, rfl⟩
          have hvl : vs.length = k + j := by rw [hvs, run_len, bits0_len, List.length_take, ← HN.out]; omega
          rw [← hvs] at hO HRG HNX
          clear hvs
          generalize t.gates.getD j gt0 = g at c0 c1 c2 c4 c5 HRG HOK HNX
          obtain ⟨m, hm⟩ : ∃ m, m = g.args.length := ⟨_, rfl⟩
          rw [← hm] at c2 c5
          have hm64 : m ≤ 64 := by rw [hm]; exact HOK.out.le
          have HM := Lib.hid hm
          clear hm
          obtain ⟨gv, cv, rfl, _, hcv⟩ := hO.out.reads (by omega)
          rw [hvl] at hcv
          have zc := cell_lt c0
          dsimp only at zc
          obtain ⟨kd, hkd⟩ : ∃ kd, kd = g.kind := ⟨_, rfl⟩
          obtain ⟨nd, hnd⟩ : ∃ nd, nd = g.need := ⟨_, rfl⟩
          rw [← hkd] at c0
          rw [← hnd] at c1
          have HKD := Lib.hid hkd
          have HND := Lib.hid hnd
          clear hkd hnd
          go_wp2
          have EV : Ext wr (wr.alloc (.cells #[.int .i64 kd, .int .i64 nd, .slice ai m ci] 100)) := (Ext.refl _).alloc _
          have g0 : (wr.alloc (.cells #[.int .i64 kd, .int .i64 nd, .slice ai m ci] 100)).cell? ⟨wr.heap.size, 0, none⟩ = some (.int .i64 kd) := by rw [World.cell?_alloc_new]; rfl
          have g1 : (wr.alloc (.cells #[.int .i64 kd, .int .i64 nd, .slice ai m ci] 100)).cell? ⟨wr.heap.size, 1, none⟩ = some (.int .i64 nd) := by rw [World.cell?_alloc_new]; rfl
          have g2 : (wr.alloc (.cells #[.int .i64 kd, .int .i64 nd, .slice ai m ci] 100)).cell? ⟨wr.heap.size, 2, none⟩ = some (.slice ai m ci) := by rw [World.cell?_alloc_new]; rfl
          have HAR := Lib.hid (c4.ext EV)
          have HV := Lib.hid (fun i (hi : i < k + j) => EV.cell (hcv i hi).1)
          have HOV := Lib.hid (hO.out.ext EV)
          rw [hvl] at HOV
          have HGG : Hid (W.heap.size ≤ gv) := hgb.out gv rfl
          have HGN : Hid (gv < wr.heap.size) := hO.out.lt rfl
          have EV0 := he.trans EV
          obtain ⟨bn, hbn⟩ : ∃ bn, bn = wr.heap.size := ⟨_, rfl⟩
          rw [← hbn] at g0 g1 g2 HGN ⊢
          generalize (wr.alloc (.cells #[.int .i64 kd, .int .i64 nd, .slice ai m ci] 100)) = V at EV g0 g1 g2 HAR HV HOV EV0 ⊢
          clear c0 c1 c2 c4 hcv d0 d1 z0 zc hbn hO he EK EV hgb
          have zg := cell_lt g0
          dsimp only at zg
          go_loop [10, 9] (fun x c => ∃ i : Nat, i ≤ m ∧ x = .int .i64 i ∧ c = .int .i64 (cntB vs (g.args.take i) : Nat)) (fun x _ => m - (intOf x).toNat)
          case atStart => exact ⟨0, Nat.zero_le _, rfl, rfl⟩
          case round =>
            obtain ⟨i, hi, rfl, rfl⟩ := hrel
            by_cases hit : i < m
            · have hit' : (i : Int) < (m : Int) := by omega
              obtain ⟨b2, off2, rfl, e1⟩ := HAR.out i (by rw [← HM.out]; exact hit)
              obtain ⟨x0, x1⟩ := HRG.out (g.args.getD i 0) (getD_mem (by rw [← HM.out]; exact hit))
              have hct := cntB_take (v := vs) (l := g.args) (k := i) (by rw [← HM.out]; exact hit)
              obtain ⟨xn, hxn⟩ : ∃ xn : Nat, g.args.getD i 0 = (xn : Int) := ⟨_, (Int.toNat_of_nonneg x0).symm⟩
              rw [hxn] at e1 x1 hct
              rw [Int.toNat_natCast] at x1 hct
              rw [hvl] at x1
              have e2 := HV.out xn x1
              have x2 : (xn : Int) < ((k + j : Nat) : Int) := by omega
              have x3 : (xn : Int) < (k : Int) + (j : Int) := by omega
              have hcl := cnt_le vs (g.args.take i)
              rw [List.length_take] at hcl
              clear hxn
              generalize cntB vs (g.args.take i) = cn at hct hcl ⊢
              have hw : IntKind.i64.wrap ((cn : Int) + 1) = (cn : Int) + 1 := IntWalk.i64_in _ (by omega)
              cases hb : vs.getD xn false
              · rw [hb] at e2 hct
                have HCT : Hid (cntB vs (g.args.take (i + 1)) = cn) := by show _ = _; rw [hct]; rfl
                clear hb hct
                go_wp2
                exact ⟨⟨i + 1, hit, by go_num, by rw [HCT.out]⟩, by simp [intOf]; omega⟩
              · rw [hb] at e2 hct
                have HCT : Hid (cntB vs (g.args.take (i + 1)) = cn + 1) := by show _ = _; rw [hct]; rfl
                clear hb hct
                go_wp2
                exact ⟨⟨i + 1, hit, by go_num, by rw [HCT.out]; go_num⟩, by simp [intOf]; omega⟩
            · have hie : i = m := by omega
              have hit' : ¬ (i : Int) < (m : Int) := by omega
              have htk : g.args.take i = g.args := by rw [hie, HM.out, List.take_length]
              rw [htk]
              obtain ⟨cN, hcN⟩ : ∃ cN, cN = cntB vs g.args := ⟨_, rfl⟩
              rw [← hcN] at HNX ⊢
              clear htk hcN
              obtain ⟨gb, hgb⟩ : ∃ gb, gb = gateB g cN := ⟨_, rfl⟩
              rw [← hgb] at HNX
              have hk3 : kd = 0 ∨ kd = 1 ∨ kd = 2 := by rw [HKD.out]; have := HOK.out.k0; have := HOK.out.k1; omega
              have EA : Ext V (V.alloc (.cells #[.bool gb] 4)) := (Ext.refl _).alloc _
              have hcb : (V.alloc (.cells #[.bool gb] 4)).cell? ⟨V.heap.size, 0, none⟩ = some (.bool gb) := by rw [World.cell?_alloc_new]; rfl
              obtain ⟨v9, w9, hr9, hO9, hA9⟩ := (HOV.out.ext EA).app (m := W.heap.size) 1 hcb (by omega) (EV0.trans EA).size (fun b hb => by cases hb; exact HGG.out)
              rw [← HNX.out] at hO9
              have HR9 := Lib.hid hr9
              have HX9 := Lib.hid hO9
              have HGE := Lib.hid hA9.ge
              have E9 : Ext W w9 := (EV0.trans EA).trans' hA9.below (Nat.le_refl _)
              clear hr9 hO9 hA9 hcb EA HRG HAR HV HOV HNX
              obtain ⟨vv, hvv⟩ : ∃ vv, vv = Value.slice (some ⟨gv, 0, none⟩) (k + j) cv := ⟨_, rfl⟩
              rw [hvl, ← hvv]
              rw [← hvv] at HR9
              clear hvv
              rcases hk3 with hkd | hkd | hkd
              · have hb0 : ((cN : Int) == (m : Int)) = gb := by rw [hgb, gateB_all cN (by rw [← HKD.out]; exact hkd), ← HM.out]
                subst hkd
                clear hgb
                cases gb
                · go_wp2_with (at_builtin; refine wpList_appC _ rfl _ _ 135 rfl vv (.slice (some ⟨V.heap.size, 0, none⟩) 1 1) rfl rfl v9 w9 HR9.out ?_)
                  exact ⟨⟨j + 1, hlt, by go_num, HX9, HGE, E9⟩, by simp [intOf]; omega⟩
                · go_wp2_with (at_builtin; refine wpList_appC _ rfl _ _ 135 rfl vv (.slice (some ⟨V.heap.size, 0, none⟩) 1 1) rfl rfl v9 w9 HR9.out ?_)
                  exact ⟨⟨j + 1, hlt, by go_num, HX9, HGE, E9⟩, by simp [intOf]; omega⟩
              · have hb0 : decide ((cN : Int) > 0) = gb := by rw [hgb, gateB_any cN (by rw [← HKD.out]; exact hkd)]
                subst hkd
                clear hgb
                cases gb
                · have hp : ¬ (cN : Int) > 0 := of_decide_eq_false hb0
                  have hp2 : ¬ 0 < cN := by omega
                  have hp3 : decide (0 < cN) = false := by simp; omega
                  clear hb0
                  go_wp2_with (at_builtin; refine wpList_appC _ rfl _ _ 135 rfl vv (.slice (some ⟨V.heap.size, 0, none⟩) 1 1) rfl rfl v9 w9 HR9.out ?_)
                  exact ⟨⟨j + 1, hlt, by go_num, HX9, HGE, E9⟩, by simp [intOf]; omega⟩
                · have hp : (cN : Int) > 0 := of_decide_eq_true hb0
                  have hp2 : 0 < cN := by omega
                  have hp3 : decide (0 < cN) = true := by simp; omega
                  clear hb0
                  go_wp2_with (at_builtin; refine wpList_appC _ rfl _ _ 135 rfl vv (.slice (some ⟨V.heap.size, 0, none⟩) 1 1) rfl rfl v9 w9 HR9.out ?_)
                  exact ⟨⟨j + 1, hlt, by go_num, HX9, HGE, E9⟩, by simp [intOf]; omega⟩
              · have hb0 : decide ((cN : Int) ≥ nd) = gb := by rw [hgb, gateB_some cN (by rw [← HKD.out]; exact hkd), ← HND.out]
                subst hkd
                clear hgb
                cases gb
                · have hp : ¬ (cN : Int) ≥ nd := of_decide_eq_false hb0
                  have hp2 : ¬ nd ≤ (cN : Int) := hp
                  clear hb0
                  go_wp2_with (at_builtin; refine wpList_appC _ rfl _ _ 135 rfl vv (.slice (some ⟨V.heap.size, 0, none⟩) 1 1) rfl rfl v9 w9 HR9.out ?_)
                  exact ⟨⟨j + 1, hlt, by go_num, HX9, HGE, E9⟩, by simp [intOf]; omega⟩
                · have hp : (cN : Int) ≥ nd := of_decide_eq_true hb0
                  have hp2 : nd ≤ (cN : Int) := hp
                  clear hb0
                  go_wp2_with (at_builtin; refine wpList_appC _ rfl _ _ 135 rfl vv (.slice (some ⟨V.heap.size, 0, none⟩) 1 1) rfl rfl v9 w9 HR9.out ?_)
                  exact ⟨⟨j + 1, hlt, by go_num, HX9, HGE, E9⟩, by simp [intOf]; omega⟩
        · have hje : j = n := by omega
          have hlt' : ¬ (j : Int) < (n : Int) := by omega
          have HLS0 := hO.out
          rw [hje, HN.out, List.take_length] at HLS0
          have HLS := Lib.hid HLS0
          clear hO HLS0
          have hlen : (runB (bits0 k s) t.gates).length = (k + n - 1) + 1 := by rw [run_len, bits0_len, ← HN.out]; omega
          obtain ⟨gv, cv, rfl, _, hcv⟩ := HLS.out.reads (by omega)
          have hl := (hcv (k + n - 1) (by omega)).1
          have HLT := HT.out
          unfold lastB at HLT
          rw [hlen, Nat.add_sub_cancel] at HLT
          rw [HLT] at hl
          rw [hlen] at hgb ⊢
          clear hcv HLT hlen
          obtain ⟨L, hL⟩ : ∃ L, L = k + n - 1 := ⟨_, rfl⟩
          have hLb : L ≤ 100000 := by omega
          rw [← hL] at hl hgb ⊢
          have hw : IntKind.i64.wrap (((L + 1 : Nat) : Int) - 1) = (L : Int) := by rw [IntWalk.i64_in _ (by omega)]; omega
          clear hL
          go_wp2
          go_ret
          exact ⟨rfl, E0.trans he⟩
end Go.Proofs.YtlhpfhnbeagnaaaGreatDoor
namespace Go.Proofs.YtlhpfhnbeagnaaaGreatDoor
open Go.RowKit
theorem minB_top {t : Tr} {s : Nat} (h : topB t s = false) : minB t s = false := by unfold minB; rw [h]; rfl
theorem minB_hit {t : Tr} {s i : Nat} (hi : i < t.ev.toNat) (hb : s.testBit i = true) (ht : topB t (s - 2 ^ i) = true) : minB t s = false := by
  cases h : minB t s
  · rfl
  · have := (min_iff.1 h).2 i hi hb
    rw [ht] at this; cases this
theorem minB_end {t : Tr} {s : Nat} (h : topB t s = true) (hn : ∀ i, i < t.ev.toNat → s.testBit i = true → topB t (s - 2 ^ i) = false) : minB t s = true := min_iff.2 ⟨h, hn⟩
set_option maxHeartbeats 8000000 in
set_option maxRecDepth 100000 in
theorem rMinimal_any {t : Tr} {a : Option Addr} {cap s : Nat} {w : World} (ht : TreeG w t a cap) (hok : TrOk t) (hs : s < 65536) :
    Calls Tryz.prog 62 #[treeV t a cap, .int .i64 (s : Int)] w fun e w' => e = .returned (.bool (minB t s)) ∧ Ext w w' := by
  obtain ⟨hev, hE1, hE2⟩ := hok.natE
  have HTP := Lib.hid (fun u (hu : u < 65536) W (hW : Ext w W) => rTop_any (ht.ext hW) hok hu)
  have H1 := Lib.hid (minB_top (t := t) (s := s))
  have H2 := Lib.hid (fun i => minB_hit (t := t) (s := s) (i := i))
  have H3 := Lib.hid (minB_end (t := t) (s := s))
  have hBIT := Lib.hid (fun k => bit_oneI s k)
  generalize minB t s = r at H1 H2 H3 ⊢
  obtain ⟨E, hE⟩ : ∃ E, E = t.ev.toNat := ⟨_, rfl⟩
  rw [← hE] at H2 H3 hE1 hE2 hev
  unfold treeV at HTP ⊢
  rw [hev] at HTP ⊢
  generalize t.gates.length = n at HTP ⊢
  clear ht hok hE hev
  have y0 : (w.alloc (.cells #[.int .i64 (E : Int), .slice a n cap] 35)).cell? ⟨w.heap.size, 0, none⟩ = some (.int .i64 (E : Int)) := by rw [World.cell?_alloc_new]; rfl
  have y1 : (w.alloc (.cells #[.int .i64 (E : Int), .slice a n cap] 35)).cell? ⟨w.heap.size, 1, none⟩ = some (.slice a n cap) := by rw [World.cell?_alloc_new]; rfl
  have E0 : Ext w (w.alloc (.cells #[.int .i64 (E : Int), .slice a n cap] 35)) := extA
  go_enter Tryz.func62, Tryz.ntmps62
  go_wp2_with fail
  generalize (w.alloc (.cells #[.int .i64 (E : Int), .slice a n cap] 35)) = W at y0 y1 E0 ⊢
  refine (HTP.out s hs _ E0).mono ?_
  rintro e w1 ⟨rfl, hE⟩
  have E1 := E0.trans hE
  replace y0 := hE.cell y0
  replace y1 := hE.cell y1
  clear hE
  cases ht : topB t s
  · have HR := Lib.hid (H1.out ht)
    clear H1 H2 H3 ht HTP
    go_wp2
    go_ret
    exact ⟨ret_bool HR.out.symm, E1⟩
  have H3X := Lib.hid (H3.out ht)
  clear H1 H3 ht
  go_wp2
  go_loopw [5] (fun x wr => ∃ k : Nat, k ≤ E ∧ x = .int .i64 k ∧ Hid (∀ i, i < k → s.testBit i = true → topB t (s - 2 ^ i) = false) ∧ Ext w1 wr) (fun x _ => E - (intOf x).toNat)
  case atStart => exact ⟨0, Nat.zero_le _, rfl, fun i hi => by omega, Ext.refl _⟩
  case round =>
    obtain ⟨k, hk, rfl, hz, he⟩ := hrel
    have d0 := he.cell y0
    have d1 := he.cell y1
    have zd := cell_lt d0
    dsimp only at zd
    by_cases hlt : k < E
    · have hlt' : (k : Int) < (E : Int) := by omega
      obtain ⟨hA, hBB⟩ := hBIT.out k
      have hq : (s : Int) / 2 ^ k = ((s / 2 ^ k : Nat) : Int) := by rw [Int.natCast_ediv, Int.natCast_pow]; rfl
      have hmin : min k 64 = k := Nat.min_eq_left (by omega)
      have HIT := Lib.hid (H2.out k hlt)
      cases hb : s.testBit k
      · rw [hb] at hBB
        have HNX : Hid (∀ i, i < k + 1 → s.testBit i = true → topB t (s - 2 ^ i) = false) := fun i hi hbi => by
          rcases Nat.lt_or_eq_of_le (Nat.le_of_lt_succ hi) with h | rfl
          · exact hz.out i h hbi
          · rw [hb] at hbi; cases hbi
        clear hb hz HIT
        generalize s / 2 ^ k % 2 = q2 at hA hBB
        generalize s / 2 ^ k = q1 at hA hq
        go_wp2
        refine wp_region_heldE 99 (Ext wr) (by kernel_rfl) ?_
        have hS : Ext wr wr.drew := extA
        ((refine ePu 0 ?_); (refine ePu 1 ?_); (refine ePu 2 ?_); (refine ePu 3 ?_); (refine ePu 4 ?_); (refine ePu 5 ?_))
        ((refine wpAnyE_take (v := undef) (i := 6) (oi := ?_) ?_ (by kernel_rfl) ?_ ?_ (by assumption) ?_; rotate_left; (focus ((simp only [List.getElem?_toArray, List.getElem?_cons_succ, List.getElem?_cons_zero]; exact rfl))); (focus (exact fun _ _ _ h => h)); (focus (exact Or.inr ⟨by rfl, rfl⟩)); (try simp only [Act.put, List.setIfInBounds_toArray, List.set_cons_zero, List.set_cons_succ])); (refine wpAnyE_take (v := undef) (i := 7) (oi := ?_) ?_ (by kernel_rfl) ?_ ?_ (by assumption) ?_; rotate_left; (focus ((simp only [List.getElem?_toArray, List.getElem?_cons_succ, List.getElem?_cons_zero]; exact rfl))); (focus (exact fun _ _ _ h => h)); (focus (exact Or.inr ⟨by rfl, rfl⟩)); (try simp only [Act.put, List.setIfInBounds_toArray, List.set_cons_zero, List.set_cons_succ])); (refine wpAnyE_take (v := undef) (i := 8) (oi := ?_) ?_ (by kernel_rfl) ?_ ?_ (by assumption) ?_; rotate_left; (focus ((simp only [List.getElem?_toArray, List.getElem?_cons_succ, List.getElem?_cons_zero]; exact rfl))); (focus (exact fun _ _ _ h => h)); (focus (exact Or.inr ⟨by rfl, rfl⟩)); (try simp only [Act.put, List.setIfInBounds_toArray, List.set_cons_zero, List.set_cons_succ])); (refine wpAnyE_take (v := undef) (i := 9) (oi := ?_) ?_ (by kernel_rfl) ?_ ?_ (by assumption) ?_; rotate_left; (focus ((simp only [List.getElem?_toArray, List.getElem?_cons_succ, List.getElem?_cons_zero]; exact rfl))); (focus (exact fun _ _ _ h => h)); (focus (exact Or.inr ⟨by rfl, rfl⟩)); (try simp only [Act.put, List.setIfInBounds_toArray, List.set_cons_zero, List.set_cons_succ])); (refine wpAnyE_take (v := undef) (i := 10) (oi := ?_) ?_ (by kernel_rfl) ?_ ?_ (by assumption) ?_; rotate_left; (focus ((simp only [List.getElem?_toArray, List.getElem?_cons_succ, List.getElem?_cons_zero]; exact rfl))); (focus (exact fun _ _ _ h => h)); (focus (exact Or.inr ⟨by rfl, rfl⟩)); (try simp only [Act.put, List.setIfInBounds_toArray, List.set_cons_zero, List.set_cons_succ])); (refine wpAnyE_take (v := undef) (i := 11) (oi := ?_) ?_ (by kernel_rfl) ?_ ?_ (by assumption) ?_; rotate_left; (focus ((simp only [List.getElem?_toArray, List.getElem?_cons_succ, List.getElem?_cons_zero]; exact rfl))); (focus (exact fun _ _ _ h => h)); (focus (exact Or.inr ⟨by rfl, rfl⟩)); (try simp only [Act.put, List.setIfInBounds_toArray, List.set_cons_zero, List.set_cons_succ])))
        (refine ePu 12 ?_)
        refine wpAnyE_done (by kernel_rfl) ?_ _
        go_wp2
        exact ⟨⟨k + 1, hlt, by go_num, HNX, he.trans hS⟩, by simp [intOf]; omega⟩
      · rw [hb] at hBB
        have hge := Nat.ge_two_pow_of_testBit hb
        have HX := Lib.hid (fun W2 (hW : Ext wr W2) => HTP.out (s - 2 ^ k) (Nat.lt_of_le_of_lt (Nat.sub_le _ _) hs) W2 ((E1.trans he).trans hW))
        have hpi : ((2 : Int) ^ k) = ((2 ^ k : Nat) : Int) := by rw [Int.natCast_pow]; rfl
        have HIT2 := Lib.hid (HIT.out hb)
        have HNX : Hid (topB t (s - 2 ^ k) = false → ∀ i, i < k + 1 → s.testBit i = true → topB t (s - 2 ^ i) = false) := fun h9 i hi hbi => by
          rcases Nat.lt_or_eq_of_le (Nat.le_of_lt_succ hi) with h | rfl
          · exact hz.out i h hbi
          · exact h9
        obtain ⟨s2, hs2⟩ : ∃ s2, s2 = s - 2 ^ k := ⟨_, rfl⟩
        rw [← hs2] at HX HIT2 HNX
        have hp65 : 2 ^ k < 65536 := Nat.lt_of_le_of_lt hge hs
        generalize s / 2 ^ k % 2 = q2 at hA hBB
        generalize s / 2 ^ k = q1 at hA hq
        generalize 2 ^ k = pw at hge hpi hs2 hp65
        have hsh : IntKind.i64.wrap ((2 : Int) ^ k) = (pw : Int) := by rw [hpi]; exact IntWalk.i64_in _ (by omega)
        have hw : IntKind.i64.wrap ((s : Int) - (pw : Int)) = (s2 : Int) := by rw [IntWalk.i64_in _ (by omega)]; omega
        clear hb hz HIT hs2 hge hpi
        cases q9 : topB t s2
        · rw [q9] at HX
          have HG := Lib.hid (HNX.out q9)
          clear HNX HIT2 q9
          go_wp2
          refine wp_region_heldE 99 (Ext wr) (by kernel_rfl) ?_
          have hS : Ext wr wr.drew := extA
          ((refine ePu 0 ?_); (refine ePu 1 ?_); (refine ePu 2 ?_); (refine ePu 3 ?_); (refine ePu 4 ?_); (refine ePu 5 ?_))
          (refine wpAnyE_take (oi := ?_) (v := ?_) (i := 6) ?_ (by kernel_rfl) ?_ ?_ (by assumption) ?_; rotate_left 2; (focus ((simp only [List.getElem?_toArray, List.getElem?_cons_succ, List.getElem?_cons_zero]; exact rfl))); (focus (exact fun _ _ _ h => h)); (focus (refine Or.inl ⟨by rfl, ?_⟩; intro w hSw; have hd0 := hSw.cell d0; have zd0 := cell_lt hd0; dsimp only at zd0; have hd1 := hSw.cell d1; have zd1 := cell_lt hd1; dsimp only at zd1; (first | (go_simp; done) | (go_simp; with_reducible rfl)))); (try simp only [Act.put, List.setIfInBounds_toArray, List.set_cons_zero, List.set_cons_succ]))
          ((refine ePu 7 ?_); (refine ePu 8 ?_); (refine ePu 9 ?_); (refine ePu 10 ?_))
          (refine wpAnyE_one (i := 11) (o := ?_) ?_ (by kernel_rfl) (fun K hK => ?_); rotate_left; (focus ((simp only [List.getElem?_toArray, List.getElem?_cons_succ, List.getElem?_cons_zero]; exact rfl))); go_simp; refine (HX.out _ hS).mono ?_; rintro e v9 ⟨rfl, hE⟩; go_wp2_with fail; refine hK.out _ _ (hS.trans hE) (fun hHeld => ?_); clear hK K hHeld; (try simp only [Act.put, List.setIfInBounds_toArray, List.set_cons_zero, List.set_cons_succ]); replace hS := hS.trans hE; clear hE)
          (refine ePu 12 ?_)
          refine wpAnyE_done (by kernel_rfl) ?_ _
          go_wp2
          exact ⟨⟨k + 1, hlt, by go_num, HG, he.trans hS⟩, by simp [intOf]; omega⟩
        · rw [q9] at HX
          have HG := Lib.hid (HIT2.out q9)
          clear HNX HIT2 q9
          go_wp2
          refine wp_region_heldE 99 (Ext wr) (by kernel_rfl) ?_
          have hS : Ext wr wr.drew := extA
          ((refine ePu 0 ?_); (refine ePu 1 ?_); (refine ePu 2 ?_); (refine ePu 3 ?_); (refine ePu 4 ?_); (refine ePu 5 ?_))
          (refine wpAnyE_take (oi := ?_) (v := ?_) (i := 6) ?_ (by kernel_rfl) ?_ ?_ (by assumption) ?_; rotate_left 2; (focus ((simp only [List.getElem?_toArray, List.getElem?_cons_succ, List.getElem?_cons_zero]; exact rfl))); (focus (exact fun _ _ _ h => h)); (focus (refine Or.inl ⟨by rfl, ?_⟩; intro w hSw; have hd0 := hSw.cell d0; have zd0 := cell_lt hd0; dsimp only at zd0; have hd1 := hSw.cell d1; have zd1 := cell_lt hd1; dsimp only at zd1; (first | (go_simp; done) | (go_simp; with_reducible rfl)))); (try simp only [Act.put, List.setIfInBounds_toArray, List.set_cons_zero, List.set_cons_succ]))
          ((refine ePu 7 ?_); (refine ePu 8 ?_); (refine ePu 9 ?_); (refine ePu 10 ?_))
          (refine wpAnyE_one (i := 11) (o := ?_) ?_ (by kernel_rfl) (fun K hK => ?_); rotate_left; (focus ((simp only [List.getElem?_toArray, List.getElem?_cons_succ, List.getElem?_cons_zero]; exact rfl))); go_simp; refine (HX.out _ hS).mono ?_; rintro e v9 ⟨rfl, hE⟩; go_wp2_with fail; refine hK.out _ _ (hS.trans hE) (fun hHeld => ?_); clear hK K hHeld; (try simp only [Act.put, List.setIfInBounds_toArray, List.set_cons_zero, List.set_cons_succ]); replace hS := hS.trans hE; clear hE)
          (refine ePu 12 ?_)
          refine wpAnyE_done (by kernel_rfl) ?_ _
          go_wp2
          go_ret
          exact ⟨ret_bool HG.out.symm, (E1.trans he).trans hS⟩
    · have hke : k = E := by omega
      have hlt' : ¬ (k : Int) < (E : Int) := by omega
      have HR := Lib.hid (H3X.out (fun i hi => hz.out i (by omega)))
      clear hz H3X
      go_wp2
      go_ret
      exact ⟨ret_bool HR.out.symm, E1.trans he⟩
theorem given_split {t : Tr} {l : List Int} : (treeE t ≠ 0 → givenE t l = treeE t) ∧ (treeE t = 0 → givenE t l = listE t.ev l) := ⟨fun h => if_pos h, fun h => if_neg (not_not_intro h)⟩
theorem list_set {t : Tr} {l : List Int} (h0 : treeE t = 0) (h1 : listE t.ev l = 0) : TrOk t ∧ l.Pairwise (· < ·) ∧ (∀ a ∈ l, 0 ≤ a ∧ a < 16) ∧ setL l < 65536 := by
  have hok := treeE_ok h0
  have h2 := hok.e2
  unfold listE at h1
  split at h1
  · cases h1
  · obtain ⟨g1, g2⟩ := evE_ok _ _ h1
    refine ⟨hok, g1, fun a ha => by have := g2 a ha; omega, ?_⟩
    exact setL_lt (n := 16) g1 fun a ha => by have := g2 a ha; omega
set_option maxHeartbeats 4000000 in
set_option maxRecDepth 100000 in
theorem rFails_any {t : Tr} {a la : Option Addr} {cap lc : Nat} {l : List Int} {w : World} (ht : TreeG w t a cap) (hc : CellsI w la l) (hl : l.length ≤ maxLen) :
    Calls Tryz.prog 13 #[treeV t a cap, .slice la l.length lc] w fun e w' => e = .returned (.tuple #[.bool (failsB t l), .int .i64 (givenE t l : Nat)]) ∧ Ext w w' := by
  have HK := Lib.hid (fun W (hW : Ext w W) => rCheck_any (ht.ext hW))
  have HL := Lib.hid (fun W (hW : Ext w W) => rEvents_any (t := t) (a := a) (cap := cap) (lc := lc) (hc.ext hW) hl)
  have HS := Lib.hid (fun (h0 : treeE t = 0) (h1 : listE t.ev l = 0) W (hW : Ext w W) => rSet_any (lc := lc) (hc.ext hW) (list_set h0 h1).2.1 (list_set h0 h1).2.2.1)
  have HT := Lib.hid (fun (h0 : treeE t = 0) (h1 : listE t.ev l = 0) W (hW : Ext w W) => rTop_any (ht.ext hW) (list_set h0 h1).1 (list_set h0 h1).2.2.2)
  have H1 : Hid (treeE t ≠ 0 → givenE t l = treeE t ∧ failsB t l = false) := fun h => by
    have e := (given_split (t := t) (l := l)).1 h
    exact ⟨e, by unfold failsB; rw [if_neg (by omega)]⟩
  have H2 : Hid (treeE t = 0 → listE t.ev l ≠ 0 → givenE t l = listE t.ev l ∧ failsB t l = false) := fun h h2 => by
    have e := (given_split (t := t) (l := l)).2 h
    exact ⟨e, by unfold failsB; rw [if_neg (by omega)]⟩
  have H3 : Hid (treeE t = 0 → listE t.ev l = 0 → givenE t l = 0 ∧ failsB t l = topB t (setL l)) := fun h h2 => by
    have e := (given_split (t := t) (l := l)).2 h
    exact ⟨by omega, by unfold failsB; rw [if_pos (by omega)]⟩
  generalize givenE t l = ge at H1 H2 H3 ⊢
  generalize failsB t l = fb at H1 H2 H3 ⊢
  generalize topB t (setL l) = tb at HT H3
  generalize setL l = sl at HS HT
  obtain ⟨n, hn⟩ : ∃ n, n = l.length := ⟨_, rfl⟩
  rw [← hn] at HL HS ⊢
  unfold treeV at HK HL HT ⊢
  generalize treeE t = er at HK HS HT H1 H2 H3
  generalize listE t.ev l = le at HL HS HT H2 H3
  generalize t.gates.length = gn at HK HL HT ⊢
  generalize t.ev = ev at HK HL HT ⊢
  clear ht hc hl hn
  have y0 : (w.alloc (.cells #[.int .i64 ev, .slice a gn cap] 35)).cell? ⟨w.heap.size, 0, none⟩ = some (.int .i64 ev) := by rw [World.cell?_alloc_new]; rfl
  have y1 : (w.alloc (.cells #[.int .i64 ev, .slice a gn cap] 35)).cell? ⟨w.heap.size, 1, none⟩ = some (.slice a gn cap) := by rw [World.cell?_alloc_new]; rfl
  have E0 : Ext w (w.alloc (.cells #[.int .i64 ev, .slice a gn cap] 35)) := extA
  go_enter Tryz.func13, Tryz.ntmps13
  go_wp2_with fail
  generalize (w.alloc (.cells #[.int .i64 ev, .slice a gn cap] 35)) = W at y0 y1 E0 ⊢
  refine (HK.out _ E0).mono ?_
  rintro e w1 ⟨rfl, hE⟩
  have E1 := E0.trans hE
  replace y0 := hE.cell y0
  replace y1 := hE.cell y1
  clear hE HK
  by_cases h0 : er = 0
  case neg =>
    obtain ⟨rfl, rfl⟩ := H1.out h0
    have k5 : ((ge : Int) != 0) = true := by rw [bne_iff_ne]; omega
    clear H1 H2 H3 HL HS HT h0
    go_wp2
    go_ret2
    exact ⟨rfl, E1⟩
  have H2X := Lib.hid (H2.out h0)
  have H3X := Lib.hid (H3.out h0)
  have HS2 := Lib.hid (HS.out h0)
  have HT2 := Lib.hid (HT.out h0)
  subst h0
  clear H1 H2 H3 HS HT
  go_wp2_with fail
  refine (HL.out _ E1).mono ?_
  rintro e w2 ⟨rfl, hE⟩
  have E2 := E1.trans hE
  replace y0 := hE.cell y0
  replace y1 := hE.cell y1
  have z0 := cell_lt y0
  dsimp only at z0
  clear hE HL
  by_cases h1 : le = 0
  case neg =>
    obtain ⟨rfl, rfl⟩ := H2X.out h1
    have k5 : ((ge : Int) != 0) = true := by rw [bne_iff_ne]; omega
    clear H2X H3X HS2 HT2 h1
    go_wp2
    go_ret2
    exact ⟨rfl, E2⟩
  obtain ⟨rfl, rfl⟩ := H3X.out h1
  have HS3 := Lib.hid (HS2.out h1)
  have HT3 := Lib.hid (HT2.out h1)
  subst h1
  clear H2X H3X HS2 HT2
  go_wp2
  refine wp_region_heldE 99 (Ext w2) (by kernel_rfl) ?_
  have hS : Ext w2 w2.drew := extA
  (refine wpAnyE_take (oi := ?_) (v := ?_) (i := 0) ?_ (by kernel_rfl) ?_ ?_ (by assumption) ?_; rotate_left 2; (focus ((simp only [List.getElem?_toArray, List.getElem?_cons_zero]; exact rfl))); (focus (exact fun _ _ _ h => h)); (focus (refine Or.inl ⟨by rfl, ?_⟩; intro w hSw; have hy0 := hSw.cell y0; have zy0 := cell_lt hy0; dsimp only at zy0; have hy1 := hSw.cell y1; have zy1 := cell_lt hy1; dsimp only at zy1; (first | (go_simp; done) | (go_simp; with_reducible rfl)))); (try simp only [Act.put, List.setIfInBounds_toArray, List.set_cons_zero, List.set_cons_succ]))
  (refine ePu 1 ?_)
  (refine wpAnyE_one (i := 2) (o := ?_) ?_ (by kernel_rfl) (fun K hK => ?_); rotate_left; (focus ((simp only [List.getElem?_toArray, List.getElem?_cons_succ, List.getElem?_cons_zero]; exact rfl))); go_simp; refine (HS3.out _ (E2.trans hS)).mono ?_; rintro e v9 ⟨rfl, hE⟩; go_wp2_with fail; refine hK.out _ _ (hS.trans hE) (fun hHeld => ?_); clear hK K hHeld; (try simp only [Act.put, List.setIfInBounds_toArray, List.set_cons_zero, List.set_cons_succ]); replace hS := hS.trans hE; clear hE)
  (refine wpAnyE_one (i := 3) (o := ?_) ?_ (by kernel_rfl) (fun K hK => ?_); rotate_left; (focus ((simp only [List.getElem?_toArray, List.getElem?_cons_succ, List.getElem?_cons_zero]; exact rfl))); go_simp; refine (HT3.out _ (E2.trans hS)).mono ?_; rintro e v9 ⟨rfl, hE⟩; go_wp2_with fail; refine hK.out _ _ (hS.trans hE) (fun hHeld => ?_); clear hK K hHeld; (try simp only [Act.put, List.setIfInBounds_toArray, List.set_cons_zero, List.set_cons_succ]); replace hS := hS.trans hE; clear hE)
  ((refine ePu 4 ?_); (refine ePu 5 ?_))
  refine wpAnyE_done (by kernel_rfl) ?_ _
  go_wp2
  go_ret2
  exact ⟨rfl, E2.trans hS⟩
set_option maxHeartbeats 4000000 in
set_option maxRecDepth 100000 in
theorem rVerify_any {t : Tr} {a la : Option Addr} {cap lc : Nat} {l : List Int} {w : World} (ht : TreeG w t a cap) (hc : CellsI w la l) (hl : l.length ≤ maxLen) :
    Calls Tryz.prog 18 #[treeV t a cap, .slice la l.length lc] w fun e w' => e = .returned (.int .i64 (verifyE t l : Nat)) ∧ Ext w w' := by
  have HK := Lib.hid (fun W (hW : Ext w W) => rCheck_any (ht.ext hW))
  have HL := Lib.hid (fun W (hW : Ext w W) => rEvents_any (t := t) (a := a) (cap := cap) (lc := lc) (hc.ext hW) hl)
  have HS := Lib.hid (fun (h0 : treeE t = 0) (h1 : listE t.ev l = 0) W (hW : Ext w W) => rSet_any (lc := lc) (hc.ext hW) (list_set h0 h1).2.1 (list_set h0 h1).2.2.1)
  have HT := Lib.hid (fun (h0 : treeE t = 0) (h1 : listE t.ev l = 0) W (hW : Ext w W) => rMinimal_any (ht.ext hW) (list_set h0 h1).1 (list_set h0 h1).2.2.2)
  have H1 : Hid (treeE t ≠ 0 → verifyE t l = treeE t) := fun h => by
    have e := (given_split (t := t) (l := l)).1 h
    unfold verifyE
    rw [if_pos (by omega), e]
  have H2 : Hid (treeE t = 0 → listE t.ev l ≠ 0 → verifyE t l = listE t.ev l) := fun h h2 => by
    have e := (given_split (t := t) (l := l)).2 h
    unfold verifyE
    rw [if_pos (by omega), e]
  have H3 : Hid (treeE t = 0 → listE t.ev l = 0 → verifyE t l = if minB t (setL l) = true then 0 else 15) := fun h h2 => by
    have e := (given_split (t := t) (l := l)).2 h
    unfold verifyE
    rw [if_neg (by omega)]
  generalize verifyE t l = ve at H1 H2 H3 ⊢
  generalize minB t (setL l) = tb at HT H3
  generalize setL l = sl at HS HT
  obtain ⟨n, hn⟩ : ∃ n, n = l.length := ⟨_, rfl⟩
  rw [← hn] at HL HS ⊢
  unfold treeV at HK HL HT ⊢
  generalize treeE t = er at HK HS HT H1 H2 H3
  generalize listE t.ev l = le at HL HS HT H2 H3
  generalize t.gates.length = gn at HK HL HT ⊢
  generalize t.ev = ev at HK HL HT ⊢
  clear ht hc hl hn
  have y0 : (w.alloc (.cells #[.int .i64 ev, .slice a gn cap] 35)).cell? ⟨w.heap.size, 0, none⟩ = some (.int .i64 ev) := by rw [World.cell?_alloc_new]; rfl
  have y1 : (w.alloc (.cells #[.int .i64 ev, .slice a gn cap] 35)).cell? ⟨w.heap.size, 1, none⟩ = some (.slice a gn cap) := by rw [World.cell?_alloc_new]; rfl
  have E0 : Ext w (w.alloc (.cells #[.int .i64 ev, .slice a gn cap] 35)) := extA
  go_enter Tryz.func18, Tryz.ntmps18
  go_wp2_with fail
  generalize (w.alloc (.cells #[.int .i64 ev, .slice a gn cap] 35)) = W at y0 y1 E0 ⊢
  refine (HK.out _ E0).mono ?_
  rintro e w1 ⟨rfl, hE⟩
  have E1 := E0.trans hE
  replace y0 := hE.cell y0
  replace y1 := hE.cell y1
  clear hE HK
  by_cases h0 : er = 0
  case neg =>
    have hv := H1.out h0
    subst hv
    have k5 : ((ve : Int) != 0) = true := by rw [bne_iff_ne]; omega
    clear H1 H2 H3 HL HS HT h0
    go_wp2
    go_ret
    exact ⟨rfl, E1⟩
  have H2X := Lib.hid (H2.out h0)
  have H3X := Lib.hid (H3.out h0)
  have HS2 := Lib.hid (HS.out h0)
  have HT2 := Lib.hid (HT.out h0)
  subst h0
  clear H1 H2 H3 HS HT
  go_wp2_with fail
  refine (HL.out _ E1).mono ?_
  rintro e w2 ⟨rfl, hE⟩
  have E2 := E1.trans hE
  replace y0 := hE.cell y0
  replace y1 := hE.cell y1
  have z0 := cell_lt y0
  dsimp only at z0
  clear hE HL
  by_cases h1 : le = 0
  case neg =>
    have hv := H2X.out h1
    subst hv
    have k5 : ((ve : Int) != 0) = true := by rw [bne_iff_ne]; omega
    clear H2X H3X HS2 HT2 h1
    go_wp2
    go_ret
    exact ⟨rfl, E2⟩
  have hv := H3X.out h1
  have HS3 := Lib.hid (HS2.out h1)
  have HT3 := Lib.hid (HT2.out h1)
  subst h1
  clear H2X H3X HS2 HT2
  cases tb
  · have HV : Hid ((15 : Int) = (ve : Int)) := by show _ = _; rw [hv]; rfl
    clear hv
    go_wp2
    refine wp_region_heldE 99 (Ext w2) (by kernel_rfl) ?_
    have hS : Ext w2 w2.drew := extA
    (refine wpAnyE_take (oi := ?_) (v := ?_) (i := 0) ?_ (by kernel_rfl) ?_ ?_ (by assumption) ?_; rotate_left 2; (focus ((simp only [List.getElem?_toArray, List.getElem?_cons_zero]; exact rfl))); (focus (exact fun _ _ _ h => h)); (focus (refine Or.inl ⟨by rfl, ?_⟩; intro w hSw; have hy0 := hSw.cell y0; have zy0 := cell_lt hy0; dsimp only at zy0; have hy1 := hSw.cell y1; have zy1 := cell_lt hy1; dsimp only at zy1; (first | (go_simp; done) | (go_simp; with_reducible rfl)))); (try simp only [Act.put, List.setIfInBounds_toArray, List.set_cons_zero, List.set_cons_succ]))
    (refine ePu 1 ?_)
    (refine wpAnyE_one (i := 2) (o := ?_) ?_ (by kernel_rfl) (fun K hK => ?_); rotate_left; (focus ((simp only [List.getElem?_toArray, List.getElem?_cons_succ, List.getElem?_cons_zero]; exact rfl))); go_simp; refine (HS3.out _ (E2.trans hS)).mono ?_; rintro e v9 ⟨rfl, hE⟩; go_wp2_with fail; refine hK.out _ _ (hS.trans hE) (fun hHeld => ?_); clear hK K hHeld; (try simp only [Act.put, List.setIfInBounds_toArray, List.set_cons_zero, List.set_cons_succ]); replace hS := hS.trans hE; clear hE)
    (refine wpAnyE_one (i := 3) (o := ?_) ?_ (by kernel_rfl) (fun K hK => ?_); rotate_left; (focus ((simp only [List.getElem?_toArray, List.getElem?_cons_succ, List.getElem?_cons_zero]; exact rfl))); go_simp; refine (HT3.out _ (E2.trans hS)).mono ?_; rintro e v9 ⟨rfl, hE⟩; go_wp2_with fail; refine hK.out _ _ (hS.trans hE) (fun hHeld => ?_); clear hK K hHeld; (try simp only [Act.put, List.setIfInBounds_toArray, List.set_cons_zero, List.set_cons_succ]); replace hS := hS.trans hE; clear hE)
    (refine ePu 4 ?_)
    refine wpAnyE_done (by kernel_rfl) ?_ _
    go_wp2
    go_ret
    exact ⟨ret_int HV.out, E2.trans hS⟩
  · have HV : Hid ((0 : Int) = (ve : Int)) := by show _ = _; rw [hv]; rfl
    clear hv
    go_wp2
    refine wp_region_heldE 99 (Ext w2) (by kernel_rfl) ?_
    have hS : Ext w2 w2.drew := extA
    (refine wpAnyE_take (oi := ?_) (v := ?_) (i := 0) ?_ (by kernel_rfl) ?_ ?_ (by assumption) ?_; rotate_left 2; (focus ((simp only [List.getElem?_toArray, List.getElem?_cons_zero]; exact rfl))); (focus (exact fun _ _ _ h => h)); (focus (refine Or.inl ⟨by rfl, ?_⟩; intro w hSw; have hy0 := hSw.cell y0; have zy0 := cell_lt hy0; dsimp only at zy0; have hy1 := hSw.cell y1; have zy1 := cell_lt hy1; dsimp only at zy1; (first | (go_simp; done) | (go_simp; with_reducible rfl)))); (try simp only [Act.put, List.setIfInBounds_toArray, List.set_cons_zero, List.set_cons_succ]))
    (refine ePu 1 ?_)
    (refine wpAnyE_one (i := 2) (o := ?_) ?_ (by kernel_rfl) (fun K hK => ?_); rotate_left; (focus ((simp only [List.getElem?_toArray, List.getElem?_cons_succ, List.getElem?_cons_zero]; exact rfl))); go_simp; refine (HS3.out _ (E2.trans hS)).mono ?_; rintro e v9 ⟨rfl, hE⟩; go_wp2_with fail; refine hK.out _ _ (hS.trans hE) (fun hHeld => ?_); clear hK K hHeld; (try simp only [Act.put, List.setIfInBounds_toArray, List.set_cons_zero, List.set_cons_succ]); replace hS := hS.trans hE; clear hE)
    (refine wpAnyE_one (i := 3) (o := ?_) ?_ (by kernel_rfl) (fun K hK => ?_); rotate_left; (focus ((simp only [List.getElem?_toArray, List.getElem?_cons_succ, List.getElem?_cons_zero]; exact rfl))); go_simp; refine (HT3.out _ (E2.trans hS)).mono ?_; rintro e v9 ⟨rfl, hE⟩; go_wp2_with fail; refine hK.out _ _ (hS.trans hE) (fun hHeld => ?_); clear hK K hHeld; (try simp only [Act.put, List.setIfInBounds_toArray, List.set_cons_zero, List.set_cons_succ]); replace hS := hS.trans hE; clear hE)
    (refine ePu 4 ?_)
    refine wpAnyE_done (by kernel_rfl) ?_ _
    go_wp2
    go_ret
    exact ⟨ret_int HV.out, E2.trans hS⟩
end Go.Proofs.YtlhpfhnbeagnaaaGreatDoor
namespace Go.Proofs.YtlhpfhnbeagnaaaGreatDoor
open Go.RowKit
theorem fewT_len {t : Tr} {m : Int} (h : fewT t m = true) : t.gates.length ≤ 100 := by
  unfold fewT at h
  simp only [Bool.and_eq_true, decide_eq_true_eq] at h
  exact h.1.1
def Aw (w : World) : Prop := ∀ W, Ext w W → Calls Tryz.prog 11 #[] W fun e w' => e = .returned (.bool true) ∧ Ext W w'
theorem aw_any {w : World} (hG : Glob w) (hT : TabC w) : Aw w := fun W h => awakeC_any W (hG.ext h) (tabC_ext hT h)
set_option maxHeartbeats 4000000 in
set_option maxRecDepth 100000 in
theorem failsLaw_any {t : Tr} {a la : Option Addr} {cap lc : Nat} {l : List Int} {w : World} (hG : Glob w) (hT : TabC w) (ht : TreeG w t a cap) (hc : CellsI w la l) (hl : l.length ≤ lc) (hm : lc ≤ maxLen) :
    Calls Tryz.prog 3 #[treeV t a cap, .slice la l.length lc] w fun e w' => e = .returned (.bool true) ∧ Ext w w' := by
  have HA := Lib.hid (aw_any hG hT)
  have HW := Lib.hid (fun W (hW : Ext w W) => few_any (m := 16) (ht.ext hW))
  have HO := Lib.hid (fun W (h : t.gates.length ≤ 100) (hW : Ext w W) => Of_any (ht.ext hW) h)
  have HC := Lib.hid (fun W (hW : Ext w W) => cCheck_any (ht.ext hW))
  have HF := Lib.hid (fun W (hW : Ext w W) => Fails_any (lc := lc) (ht.ext hW) (hc.ext hW) (Nat.le_trans hl hm))
  have HV := Lib.hid (fun W (hW : Ext w W) => Verify_any (lc := lc) (ht.ext hW) (hc.ext hW) (Nat.le_trans hl hm) (tabC_ext hT hW))
  have RC := Lib.hid (fun W b c (h : TreeG W t b c) => rCheck_any h)
  have RF := Lib.hid (fun W b c (h : TreeG W t b c) (hW : Ext w W) => rFails_any (lc := lc) h (hc.ext hW) (Nat.le_trans hl hm))
  have RV := Lib.hid (fun W b c (h : TreeG W t b c) (hW : Ext w W) => rVerify_any (lc := lc) h (hc.ext hW) (Nat.le_trans hl hm))
  have HL := Lib.hid (fewT_len (t := t) (m := 16))
  unfold TreeP at HO
  have hb : l.length ≤ 9223372036854775807 := by unfold maxLen at hm; omega
  generalize fewT t 16 = fw at HW HL
  generalize treeE t = er at HC RC
  generalize failsB t l = fb at HF RF
  generalize givenE t l = ge at HF RF
  generalize verifyE t l = ve at HV RV
  generalize l.length = n at HF HV RF RV hb ⊢
  unfold treeV at HW HO HC HF HV RC RF RV ⊢
  generalize t.gates.length = gn at HW HO HC HF HV RC RF RV HL ⊢
  generalize t.ev = ev at HW HO HC HF HV RC RF RV ⊢
  clear hG hT ht hc hl hm
  have y0 : (w.alloc (.cells #[.int .i64 ev, .slice a gn cap] 24)).cell? ⟨w.heap.size, 0, none⟩ = some (.int .i64 ev) := by rw [World.cell?_alloc_new]; rfl
  have y1 : (w.alloc (.cells #[.int .i64 ev, .slice a gn cap] 24)).cell? ⟨w.heap.size, 1, none⟩ = some (.slice a gn cap) := by rw [World.cell?_alloc_new]; rfl
  have E0 : Ext w (w.alloc (.cells #[.int .i64 ev, .slice a gn cap] 24)) := extA
  go_enter Tryz.func3, Tryz.ntmps3
  go_wp2_with fail
  generalize (w.alloc (.cells #[.int .i64 ev, .slice a gn cap] 24)) = W at y0 y1 E0 ⊢
  refine (HW.out _ E0).mono ?_
  rintro e w1 ⟨rfl, hE⟩
  have E1 := E0.trans hE
  replace y0 := hE.cell y0
  replace y1 := hE.cell y1
  clear hE HW
  cases fw
  · go_wp2_with (go_at_call 11; refine (HA.out _ E1).mono ?_; rintro e wz ⟨rfl, hE⟩)
    go_ret
    exact ⟨rfl, E1.trans hE⟩
  have hgn := HL.out rfl
  have HO2 := Lib.hid (fun W hW => HO.out W hgn hW)
  clear HO HL
  by_cases h1 : (100 : Int) < n
  · go_wp2_with (go_at_call 11; refine (HA.out _ E1).mono ?_; rintro e wz ⟨rfl, hE⟩)
    go_ret
    exact ⟨rfl, E1.trans hE⟩
  go_wp2_with fail
  refine (HF.out _ E1).mono ?_
  rintro e w2 ⟨rfl, hE⟩
  have E2 := E1.trans hE
  replace y0 := hE.cell y0
  replace y1 := hE.cell y1
  clear hE HF E1 E0
  go_wp2_with fail
  refine (HO2.out _ E2).mono ?_
  rintro e w3 ⟨b3, c3, rfl, hT3, hE⟩
  have HT3 := Lib.hid hT3
  have E3 := E2.trans hE
  replace y0 := hE.cell y0
  replace y1 := hE.cell y1
  clear hE hT3 E2
  go_wp2_with fail
  refine (RF.out _ b3 c3 HT3.out E3).mono ?_
  rintro e w4 ⟨rfl, hE⟩
  have E4 := E3.trans hE
  replace y0 := hE.cell y0
  replace y1 := hE.cell y1
  clear hE HT3 RF E3
  go_wp2
  refine wp_region_heldE 99 (Ext w4) (by kernel_rfl) ?_
  have hS : Ext w4 w4.drew := extA
  (refine wpAnyE_take (oi := ?_) (v := ?_) (i := 0) ?_ (by kernel_rfl) ?_ ?_ (by assumption) ?_; rotate_left 2; (focus ((simp only [List.getElem?_toArray, List.getElem?_cons_zero]; exact rfl))); (focus (exact fun _ _ _ h => h)); (focus (refine Or.inl ⟨by rfl, ?_⟩; intro w hSw; have hy0 := hSw.cell y0; have zy0 := cell_lt hy0; dsimp only at zy0; have hy1 := hSw.cell y1; have zy1 := cell_lt hy1; dsimp only at zy1; (first | (go_simp; done) | (go_simp; with_reducible rfl)))); (try simp only [Act.put, List.setIfInBounds_toArray, List.set_cons_zero, List.set_cons_succ]))
  (refine wpAnyE_take (oi := ?_) (v := ?_) (i := 2) ?_ (by kernel_rfl) ?_ ?_ (by assumption) ?_; rotate_left 2; (focus ((simp only [List.getElem?_toArray, List.getElem?_cons_succ, List.getElem?_cons_zero]; exact rfl))); (focus (exact fun _ _ _ h => h)); (focus (refine Or.inl ⟨by rfl, ?_⟩; intro w hSw; have hy0 := hSw.cell y0; have zy0 := cell_lt hy0; dsimp only at zy0; have hy1 := hSw.cell y1; have zy1 := cell_lt hy1; dsimp only at zy1; (first | (go_simp; done) | (go_simp; with_reducible rfl)))); (try simp only [Act.put, List.setIfInBounds_toArray, List.set_cons_zero, List.set_cons_succ]))
  (refine wpAnyE_one (i := 1) (o := ?_) ?_ (by kernel_rfl) (fun K hK => ?_); rotate_left; (focus ((simp only [List.getElem?_toArray, List.getElem?_cons_succ, List.getElem?_cons_zero]; exact rfl))); go_simp; refine (HC.out _ (E4.trans hS)).mono ?_; rintro e v9 ⟨rfl, hE⟩; go_wp2_with fail; refine hK.out _ _ (hS.trans hE) (fun hHeld => ?_); clear hK K hHeld; (try simp only [Act.put, List.setIfInBounds_toArray, List.set_cons_zero, List.set_cons_succ]); replace hS := hS.trans hE; clear hE)
  (refine wpAnyE_one (i := 3) (o := ?_) ?_ (by kernel_rfl) (fun K hK => ?_); rotate_left; (focus ((simp only [List.getElem?_toArray, List.getElem?_cons_succ, List.getElem?_cons_zero]; exact rfl))); go_simp; refine (HO2.out _ (E4.trans hS)).mono ?_; rintro e v9 ⟨b5, c5, rfl, hT5, hE⟩; go_wp2_with fail; refine hK.out _ _ (hS.trans hE) (fun hHeld => ?_); clear hK K hHeld; (try simp only [Act.put, List.setIfInBounds_toArray, List.set_cons_zero, List.set_cons_succ]); replace hS := hS.trans hE)
  have HT5 := Lib.hid hT5
  clear hT5 hE
  (refine wpAnyE_one (i := 4) (o := ?_) ?_ (by kernel_rfl) (fun K hK => ?_); rotate_left; (focus ((simp only [List.getElem?_toArray, List.getElem?_cons_succ, List.getElem?_cons_zero]; exact rfl))); go_simp; refine (RC.out _ b5 c5 HT5.out).mono ?_; rintro e v9 ⟨rfl, hE⟩; go_wp2_with fail; refine hK.out _ _ (hS.trans hE) (fun hHeld => ?_); clear hK K hHeld; (try simp only [Act.put, List.setIfInBounds_toArray, List.set_cons_zero, List.set_cons_succ]); replace hS := hS.trans hE; clear hE)
  ((refine ePu 5 ?_); (refine ePu 6 ?_); (refine ePu 7 ?_); (refine ePu 8 ?_); (refine ePu 9 ?_); (refine ePu 10 ?_); (refine ePu 11 ?_); (refine ePu 12 ?_); (refine ePu 13 ?_); (refine ePu 14 ?_); (refine ePu 15 ?_); (refine ePu 16 ?_))
  (refine wpAnyE_take (oi := ?_) (v := ?_) (i := 17) ?_ (by kernel_rfl) ?_ ?_ (by assumption) ?_; rotate_left 2; (focus ((simp only [List.getElem?_toArray, List.getElem?_cons_succ, List.getElem?_cons_zero]; exact rfl))); (focus (exact fun _ _ _ h => h)); (focus (refine Or.inl ⟨by rfl, ?_⟩; intro w hSw; have hy0 := hSw.cell y0; have zy0 := cell_lt hy0; dsimp only at zy0; have hy1 := hSw.cell y1; have zy1 := cell_lt hy1; dsimp only at zy1; (first | (go_simp; done) | (go_simp; with_reducible rfl)))); (try simp only [Act.put, List.setIfInBounds_toArray, List.set_cons_zero, List.set_cons_succ]))
  (refine ePu 18 ?_)
  (refine wpAnyE_take (oi := ?_) (v := ?_) (i := 20) ?_ (by kernel_rfl) ?_ ?_ (by assumption) ?_; rotate_left 2; (focus ((simp only [List.getElem?_toArray, List.getElem?_cons_succ, List.getElem?_cons_zero]; exact rfl))); (focus (exact fun _ _ _ h => h)); (focus (refine Or.inl ⟨by rfl, ?_⟩; intro w hSw; have hy0 := hSw.cell y0; have zy0 := cell_lt hy0; dsimp only at zy0; have hy1 := hSw.cell y1; have zy1 := cell_lt hy1; dsimp only at zy1; (first | (go_simp; done) | (go_simp; with_reducible rfl)))); (try simp only [Act.put, List.setIfInBounds_toArray, List.set_cons_zero, List.set_cons_succ]))
  (refine ePu 22 ?_)
  (refine wpAnyE_one (i := 19) (o := ?_) ?_ (by kernel_rfl) (fun K hK => ?_); rotate_left; (focus ((simp only [List.getElem?_toArray, List.getElem?_cons_succ, List.getElem?_cons_zero]; exact rfl))); go_simp; refine (HV.out _ (E4.trans hS)).mono ?_; rintro e v9 ⟨rfl, hE⟩; go_wp2_with fail; refine hK.out _ _ (hS.trans hE) (fun hHeld => ?_); clear hK K hHeld; (try simp only [Act.put, List.setIfInBounds_toArray, List.set_cons_zero, List.set_cons_succ]); replace hS := hS.trans hE; clear hE)
  (refine wpAnyE_one (i := 21) (o := ?_) ?_ (by kernel_rfl) (fun K hK => ?_); rotate_left; (focus ((simp only [List.getElem?_toArray, List.getElem?_cons_succ, List.getElem?_cons_zero]; exact rfl))); go_simp; refine (HO2.out _ (E4.trans hS)).mono ?_; rintro e v9 ⟨b6, c6, rfl, hT6, hE⟩; go_wp2_with fail; refine hK.out _ _ (hS.trans hE) (fun hHeld => ?_); clear hK K hHeld; (try simp only [Act.put, List.setIfInBounds_toArray, List.set_cons_zero, List.set_cons_succ]); replace hS := hS.trans hE)
  have HT6 := Lib.hid hT6
  clear hT6 hE
  (refine wpAnyE_one (i := 23) (o := ?_) ?_ (by kernel_rfl) (fun K hK => ?_); rotate_left; (focus ((simp only [List.getElem?_toArray, List.getElem?_cons_succ, List.getElem?_cons_zero]; exact rfl))); go_simp; refine (RV.out _ b6 c6 HT6.out (E4.trans hS)).mono ?_; rintro e v9 ⟨rfl, hE⟩; go_wp2_with fail; refine hK.out _ _ (hS.trans hE) (fun hHeld => ?_); clear hK K hHeld; (try simp only [Act.put, List.setIfInBounds_toArray, List.set_cons_zero, List.set_cons_succ]); replace hS := hS.trans hE; clear hE)
  ((refine ePu 24 ?_); (refine ePu 25 ?_); (refine ePu 26 ?_))
  (refine wpAnyE_one (i := 27) (o := ?_) ?_ (by kernel_rfl) (fun K hK => ?_); rotate_left; (focus ((simp only [List.getElem?_toArray, List.getElem?_cons_succ, List.getElem?_cons_zero]; exact rfl))); go_simp; refine (HA.out _ (E4.trans hS)).mono ?_; rintro e v9 ⟨rfl, hE⟩; go_wp2_with fail; refine hK.out _ _ (hS.trans hE) (fun hHeld => ?_); clear hK K hHeld; (try simp only [Act.put, List.setIfInBounds_toArray, List.set_cons_zero, List.set_cons_succ]); replace hS := hS.trans hE; clear hE)
  ((refine ePu 28 ?_); (refine ePu 29 ?_))
  refine wpAnyE_done (by kernel_rfl) ?_ _
  go_wp2
  go_ret
  exact ⟨rfl, E4.trans hS⟩
end Go.Proofs.YtlhpfhnbeagnaaaGreatDoor
