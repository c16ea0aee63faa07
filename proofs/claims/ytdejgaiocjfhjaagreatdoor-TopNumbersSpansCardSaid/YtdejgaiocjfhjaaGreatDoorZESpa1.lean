/- Steps of the proof: ETopP, ETopT, ETopA, ETopL. No conditions. -/
import Derived.LoopN
import Derived.Test.YtdejgaiocjfhjaaGreatDoorZSB1
import Derived.Test.YtdejgaiocjfhjaaGreatDoorZSB2
import Derived.Test.YtdejgaiocjfhjaaGreatDoorZSB3
import Derived.Test.YtdejgaiocjfhjaaGreatDoorZSB4
import Derived.Test.YtdejgaiocjfhjaaGreatDoorZSB5
import Derived.Test.YtdejgaiocjfhjaaGreatDoorZSB6
import Derived.Test.YtdejgaiocjfhjaaGreatDoorZSB7
namespace Go.Proofs.YtdejgaiocjfhjaaGreatDoor
open Go.RowKit
open Go.Lib (decDigits itoa)
theorem ex_third : addS [49, 47, 49, 50] [49, 47, 52] = ([49, 47, 51], 0) := op_is (by decide) (by decide) (by decide) (by decide +kernel)
set_option maxHeartbeats 2000000 in
theorem playF_any (w : World) (hG : Glob w) : Calls Tryz.prog 56 #[] w fun e w' => e = .returned (.bool true) ∧ Ext w w' := by
  have H := Lib.hid (add_any [49, 47, 49, 50] [49, 47, 52] w hG (by decide) (by decide))
  rw [ex_third] at H
  unfold ResP at H
  go_enter Tryz.func56, Tryz.ntmps56
  go_wp2_with fail
  refine H.out.mono ?_
  rintro e w1 ⟨rfl, hE⟩
  go_wp2_with fail
  go_ret
  exact ⟨rfl, hE⟩
end Go.Proofs.YtdejgaiocjfhjaaGreatDoor
namespace Go.Proofs.YtdejgaiocjfhjaaGreatDoor
open Go.RowKit
abbrev Spn := Int × Int
abbrev spanV (a : Spn) : Value := .agg #[.int .i64 a.1, .int .i64 a.2]
structure SpanR (a : Spn) : Prop where
  lo : 0 ≤ a.1
  le : a.1 ≤ a.2
  hi : a.2 ≤ 1000000
structure IntsAt (b : Nat) (W : World) (p q : Int) : Prop where
  c0 : W.cell? ⟨b, 0, none⟩ = some (.int .i64 p)
  c1 : W.cell? ⟨b, 1, none⟩ = some (.int .i64 q)
  f0 : W.frozen? ⟨b, 0, none⟩ = false
  f1 : W.frozen? ⟨b, 1, none⟩ = false
theorem IntsAt.ext {b : Nat} {A B : World} {p q : Int} (x : IntsAt b A p q) (e : Ext A B) : IntsAt b B p q := by
  have hz : b < A.heap.size := cell_lt x.c0
  exact ⟨e.cell x.c0, e.cell x.c1, (Below.frozen (p := ⟨b, 0, none⟩) e hz).trans x.f0, (Below.frozen (p := ⟨b, 1, none⟩) e hz).trans x.f1⟩
theorem intsAt_new (W : World) (n : Nat) (hn : n = W.heap.size) (p q : Int) : IntsAt n (W.alloc (.cells #[.int .i64 p, .int .i64 q] 82)) p q := by
  subst hn
  exact ⟨by go_simp, by go_simp, by go_simp, by go_simp⟩
def spanE (a : Spn) : Nat := if (decide (0 ≤ a.1) && decide (a.1 ≤ 1000000)) = true ∧ (decide (0 ≤ a.2) && decide (a.2 ≤ 1000000)) = true then (if a.2 < a.1 then 9 else 0) else 2
theorem span_right {a : Spn} (h : spanE a = 0) : SpanR a := by
  unfold spanE at h
  split at h
  · rename_i k
    simp only [Bool.and_eq_true, decide_eq_true_eq] at k
    split at h
    · cases h
    · exact ⟨k.1.1, by omega, k.2.2⟩
  · cases h
theorem span_zero {a : Spn} (h : SpanR a) : spanE a = 0 := by
  have h1 := h.lo
  have h2 := h.le
  have h3 := h.hi
  unfold spanE
  rw [if_pos ⟨by simp; omega, by simp; omega⟩, if_neg (by omega)]
theorem rTime_any (n : Int) (w : World) : Calls Tryz.prog 106 #[.int .i64 n] w fun e w' => e = .returned (.bool (decide (0 ≤ n) && decide (n ≤ 1000000))) ∧ w' = w := by
  obtain ⟨b, hb⟩ : ∃ b, b = decide (n ≤ 1000000) := ⟨_, rfl⟩
  rw [← hb]
  have hb2 := hb.symm
  clear hb
  by_cases h : 0 ≤ n
  · rw [decide_eq_true h]
    go_enter Tryz.func106, Tryz.ntmps106
    go_wp2
    go_ret
    exact ⟨by simp, rfl⟩
  · rw [decide_eq_false h]
    go_enter Tryz.func106, Tryz.ntmps106
    go_wp2
    go_ret
    exact ⟨rfl, rfl⟩
theorem tTimely_any (n : Int) (w : World) : Calls Tryz.prog 169 #[.int .i64 n] w fun e w' => e = .returned (.bool (decide (0 ≤ n) && decide (n ≤ 1000000))) ∧ w' = w := by
  obtain ⟨b, hb⟩ : ∃ b, b = decide (n ≤ 1000000) := ⟨_, rfl⟩
  rw [← hb]
  have hb2 := hb.symm
  clear hb
  by_cases h : 0 ≤ n
  · rw [decide_eq_true h]
    go_enter Tryz.func169, Tryz.ntmps169
    go_wp2
    go_ret
    exact ⟨by simp, rfl⟩
  · rw [decide_eq_false h]
    go_enter Tryz.func169, Tryz.ntmps169
    go_wp2
    go_ret
    exact ⟨rfl, rfl⟩
set_option maxHeartbeats 4000000 in
theorem rCheck3_any (a : Spn) (w : World) : Calls Tryz.prog 62 #[spanV a] w fun e w' => e = .returned (.int .i64 (spanE a : Nat)) ∧ Ext w w' := by
  obtain ⟨l, h⟩ := a
  unfold spanE
  dsimp only [spanV]
  have H1 := Lib.hid (fun W => rTime_any l W)
  have H2 := Lib.hid (fun W => rTime_any h W)
  generalize (decide (0 ≤ l) && decide (l ≤ 1000000)) = b1 at *
  generalize (decide (0 ≤ h) && decide (h ≤ 1000000)) = b2 at *
  have E : Ext w (w.alloc (.cells #[.int .i64 l, .int .i64 h] 82)) := extA
  cases b1
  · rw [if_neg (by simp)]
    go_enter Tryz.func62, Tryz.ntmps62
    go_wp2_with (go_at_call 106; refine (H1.out _).mono ?_; rintro e w' ⟨rfl, rfl⟩)
    go_ret
    exact ⟨rfl, E⟩
  · cases b2
    · rw [if_neg (by simp)]
      go_enter Tryz.func62, Tryz.ntmps62
      go_wp2_with fail
      refine (H1.out _).mono ?_
      rintro e w' ⟨rfl, hw⟩; obtain rfl := hw.symm; clear hw H1
      go_wp2_with fail
      refine (H2.out _).mono ?_
      rintro e w' ⟨rfl, hw⟩; obtain rfl := hw.symm; clear hw
      go_wp2_with fail
      go_ret
      exact ⟨rfl, E⟩
    · rw [if_pos ⟨rfl, rfl⟩]
      by_cases hgt : h < l
      · rw [if_pos hgt]
        go_enter Tryz.func62, Tryz.ntmps62
        go_wp2_with fail
        refine (H1.out _).mono ?_
        rintro e w' ⟨rfl, hw⟩; obtain rfl := hw.symm; clear hw H1
        go_wp2_with fail
        refine (H2.out _).mono ?_
        rintro e w' ⟨rfl, hw⟩; obtain rfl := hw.symm; clear hw
        go_wp2_with fail
        go_ret
        exact ⟨rfl, E⟩
      · rw [if_neg hgt]
        go_enter Tryz.func62, Tryz.ntmps62
        go_wp2_with fail
        refine (H1.out _).mono ?_
        rintro e w' ⟨rfl, hw⟩; obtain rfl := hw.symm; clear hw H1
        go_wp2_with fail
        refine (H2.out _).mono ?_
        rintro e w' ⟨rfl, hw⟩; obtain rfl := hw.symm; clear hw
        go_wp2_with fail
        go_ret
        exact ⟨rfl, E⟩
set_option maxHeartbeats 4000000 in
theorem tCheck_any (a : Spn) (w : World) : Calls Tryz.prog 141 #[spanV a] w fun e w' => e = .returned (.int .i64 (spanE a : Nat)) ∧ Ext w w' := by
  obtain ⟨l, h⟩ := a
  unfold spanE
  dsimp only [spanV]
  have H1 := Lib.hid (fun W => tTimely_any l W)
  have H2 := Lib.hid (fun W => tTimely_any h W)
  generalize (decide (0 ≤ l) && decide (l ≤ 1000000)) = b1 at *
  generalize (decide (0 ≤ h) && decide (h ≤ 1000000)) = b2 at *
  have E : Ext w (w.alloc (.cells #[.int .i64 l, .int .i64 h] 82)) := extA
  cases b1
  · rw [if_neg (by simp)]
    go_enter Tryz.func141, Tryz.ntmps141
    go_wp2_with (go_at_call 169; refine (H1.out _).mono ?_; rintro e w' ⟨rfl, rfl⟩)
    go_ret
    exact ⟨rfl, E⟩
  · cases b2
    · rw [if_neg (by simp)]
      go_enter Tryz.func141, Tryz.ntmps141
      go_wp2_with fail
      refine (H1.out _).mono ?_
      rintro e w' ⟨rfl, hw⟩; obtain rfl := hw.symm; clear hw H1
      go_wp2_with fail
      refine (H2.out _).mono ?_
      rintro e w' ⟨rfl, hw⟩; obtain rfl := hw.symm; clear hw
      go_wp2_with fail
      go_ret
      exact ⟨rfl, E⟩
    · rw [if_pos ⟨rfl, rfl⟩]
      by_cases hgt : h < l
      · rw [if_pos hgt]
        go_enter Tryz.func141, Tryz.ntmps141
        go_wp2_with fail
        refine (H1.out _).mono ?_
        rintro e w' ⟨rfl, hw⟩; obtain rfl := hw.symm; clear hw H1
        go_wp2_with fail
        refine (H2.out _).mono ?_
        rintro e w' ⟨rfl, hw⟩; obtain rfl := hw.symm; clear hw
        go_wp2_with fail
        go_ret
        exact ⟨rfl, E⟩
      · rw [if_neg hgt]
        go_enter Tryz.func141, Tryz.ntmps141
        go_wp2_with fail
        refine (H1.out _).mono ?_
        rintro e w' ⟨rfl, hw⟩; obtain rfl := hw.symm; clear hw H1
        go_wp2_with fail
        refine (H2.out _).mono ?_
        rintro e w' ⟨rfl, hw⟩; obtain rfl := hw.symm; clear hw
        go_wp2_with fail
        go_ret
        exact ⟨rfl, E⟩
set_option maxHeartbeats 4000000 in
set_option maxRecDepth 100000 in
theorem tChecks_any (l h m k : Int) (v W : World) (n : Nat) (ha : SpanR (l, h)) (hb : SpanR (m, k)) (hn : n = v.heap.size) (hW : W = v.alloc (.cells #[.int .i64 l, .int .i64 h, .int .i64 m, .int .i64 k] 82)) :
    Calls Tryz.prog 109 #[.slice (some ⟨n, 0, none⟩) 2 2] W fun e w' => e = .returned (.int .i64 0) ∧ Ext W w' := by
  have H1 := Lib.hid (fun W => tCheck_any (l, h) W)
  have H2 := Lib.hid (fun W => tCheck_any (m, k) W)
  rw [span_zero ha] at H1
  rw [span_zero hb] at H2
  dsimp only [spanV] at H1 H2
  clear ha hb
  subst hn
  have d0 : W.cell? ⟨v.heap.size, 0, none⟩ = some (.int .i64 l) := by rw [hW]; go_simp
  have d1 : W.cell? ⟨v.heap.size, 1, none⟩ = some (.int .i64 h) := by rw [hW]; go_simp
  have d2 : W.cell? ⟨v.heap.size, 2, none⟩ = some (.int .i64 m) := by rw [hW]; go_simp
  have d3 : W.cell? ⟨v.heap.size, 3, none⟩ = some (.int .i64 k) := by rw [hW]; go_simp
  clear hW
  obtain ⟨b, hb⟩ : ∃ b, b = v.heap.size := ⟨_, rfl⟩
  rw [← hb] at d0 d1 d2 d3 ⊢
  clear hb
  have z := cell_lt d0
  dsimp only at z
  have E := Ext.refl W
  have EA : Ext W (W.alloc (.cells #[.int .i64 l, .int .i64 h] 82)) := extA
  go_enter Tryz.func109, Tryz.ntmps109
  go_wp2
  refine wp_loop_rounds 3 ?_
  rw [rounds_succ]
  go_wp2_with fail
  refine (H1.out _).mono ?_
  clear H1
  rintro e w1 ⟨rfl, hE⟩
  replace E := EA.trans hE
  replace d2 := E.cell d2
  replace d3 := E.cell d3
  have z2 := cell_lt d2
  dsimp only at z2
  clear hE d0 d1 EA z
  go_wp2_with fail
  rw [rounds_succ]
  have EB : Ext w1 (w1.alloc (.cells #[.int .i64 m, .int .i64 k] 82)) := extA
  go_wp2_with fail
  refine (H2.out _).mono ?_
  rintro e w2 ⟨rfl, hE⟩
  replace E := (E.trans EB).trans hE
  go_wp2_with fail
  rw [rounds_succ]
  go_wp2_with fail
  go_ret
  exact ⟨rfl, E⟩
set_option maxHeartbeats 8000000 in
set_option maxRecDepth 100000 in
theorem tHull_any (l h m k : Int) (w : World) (ha : SpanR (l, h)) (hb : SpanR (m, k)) : Calls Tryz.prog 65 #[spanV (l, h), spanV (m, k)] w fun e w' => e = .returned (.tuple #[spanV (min l m, max h k), .int .i64 0]) ∧ Ext w w' := by
  have HC := Lib.hid (fun v W n hn hW => tChecks_any l h m k v W n ha hb hn hW)
  have a1 := ha.lo
  have a2 := ha.le
  have a3 := ha.hi
  have b1 := hb.lo
  have b2 := hb.le
  have b3 := hb.hi
  dsimp only at a1 a2 a3 b1 b2 b3
  clear ha hb
  dsimp only [spanV]
  have A : IntsAt w.heap.size ((((w.alloc (.cells #[.int .i64 l, .int .i64 h] 82)).alloc (.cells #[.int .i64 m, .int .i64 k] 82)).alloc (.cells #[.int .i64 0, .int .i64 0] 82)).alloc (.cells #[.int .i64 l, .int .i64 h, .int .i64 m, .int .i64 k] 82)) l h := ⟨by go_simp, by go_simp, by go_simp, by go_simp⟩
  have B : IntsAt (w.heap.size + 1) ((((w.alloc (.cells #[.int .i64 l, .int .i64 h] 82)).alloc (.cells #[.int .i64 m, .int .i64 k] 82)).alloc (.cells #[.int .i64 0, .int .i64 0] 82)).alloc (.cells #[.int .i64 l, .int .i64 h, .int .i64 m, .int .i64 k] 82)) m k := ⟨by go_simp, by go_simp, by go_simp, by go_simp⟩
  have X : IntsAt (w.heap.size + 1 + 1) ((((w.alloc (.cells #[.int .i64 l, .int .i64 h] 82)).alloc (.cells #[.int .i64 m, .int .i64 k] 82)).alloc (.cells #[.int .i64 0, .int .i64 0] 82)).alloc (.cells #[.int .i64 l, .int .i64 h, .int .i64 m, .int .i64 k] 82)) 0 0 := ⟨by go_simp, by go_simp, by go_simp, by go_simp⟩
  have E : Ext w ((((w.alloc (.cells #[.int .i64 l, .int .i64 h] 82)).alloc (.cells #[.int .i64 m, .int .i64 k] 82)).alloc (.cells #[.int .i64 0, .int .i64 0] 82)).alloc (.cells #[.int .i64 l, .int .i64 h, .int .i64 m, .int .i64 k] 82)) := extA
  generalize hp : min l m = p at *
  generalize hq : max h k = q at *
  go_enter Tryz.func65, Tryz.ntmps65
  go_wp2_with fail
  generalize hQ : ((((w.alloc (.cells #[.int .i64 l, .int .i64 h] 82)).alloc (.cells #[.int .i64 m, .int .i64 k] 82)).alloc (.cells #[.int .i64 0, .int .i64 0] 82)).alloc (.cells #[.int .i64 l, .int .i64 h, .int .i64 m, .int .i64 k] 82)) = w0 at A B X E ⊢
  refine (HC.out (((w.alloc (.cells #[.int .i64 l, .int .i64 h] 82)).alloc (.cells #[.int .i64 m, .int .i64 k] 82)).alloc (.cells #[.int .i64 0, .int .i64 0] 82)) w0 (w.heap.size + 1 + 1 + 1) (by simp) hQ.symm).mono ?_
  clear hQ HC
  rintro e w1 ⟨rfl, hE⟩
  obtain ⟨c0, c1, _, _⟩ := A.ext hE
  obtain ⟨c2, c3, _, _⟩ := B.ext hE
  obtain ⟨x0, x1, f0, f1⟩ := X.ext hE
  have zx := cell_lt x0
  have zc := cell_lt c0
  have zd := cell_lt c2
  dsimp only at zx zc zd
  replace E := E.trans hE
  clear hE
  go_wp2_with fail
  refine bodyPost_ret (v := .tuple #[.agg #[.int .i64 p, .int .i64 q], .int .i64 0]) (by rw [results_cell_tmp1 rfl]; go_simp) rfl ?_
  exact ⟨rfl, extA⟩
set_option maxHeartbeats 8000000 in
set_option maxRecDepth 100000 in
theorem tCompare_any (l h m k : Int) (w : World) (ha : SpanR (l, h)) (hb : SpanR (m, k)) : Calls Tryz.prog 66 #[spanV (l, h), spanV (m, k)] w fun e w' => e = .returned (.tuple #[.int .i64 (if h < m then -1 else if k < l then 1 else 0), .int .i64 0]) ∧ Ext w w' := by
  have HC := Lib.hid (fun v W n hn hW => tChecks_any l h m k v W n ha hb hn hW)
  have a1 := ha.lo
  have a2 := ha.le
  have a3 := ha.hi
  have b1 := hb.lo
  have b2 := hb.le
  have b3 := hb.hi
  dsimp only at a1 a2 a3 b1 b2 b3
  clear ha hb
  dsimp only [spanV]
  have A : IntsAt w.heap.size (((w.alloc (.cells #[.int .i64 l, .int .i64 h] 82)).alloc (.cells #[.int .i64 m, .int .i64 k] 82)).alloc (.cells #[.int .i64 l, .int .i64 h, .int .i64 m, .int .i64 k] 82)) l h := ⟨by go_simp, by go_simp, by go_simp, by go_simp⟩
  have B : IntsAt (w.heap.size + 1) (((w.alloc (.cells #[.int .i64 l, .int .i64 h] 82)).alloc (.cells #[.int .i64 m, .int .i64 k] 82)).alloc (.cells #[.int .i64 l, .int .i64 h, .int .i64 m, .int .i64 k] 82)) m k := ⟨by go_simp, by go_simp, by go_simp, by go_simp⟩
  have E : Ext w (((w.alloc (.cells #[.int .i64 l, .int .i64 h] 82)).alloc (.cells #[.int .i64 m, .int .i64 k] 82)).alloc (.cells #[.int .i64 l, .int .i64 h, .int .i64 m, .int .i64 k] 82)) := extA
  by_cases h1 : h < m
  · rw [if_pos h1]
    go_enter Tryz.func66, Tryz.ntmps66
    go_wp2_with fail
    generalize hQ : (((w.alloc (.cells #[.int .i64 l, .int .i64 h] 82)).alloc (.cells #[.int .i64 m, .int .i64 k] 82)).alloc (.cells #[.int .i64 l, .int .i64 h, .int .i64 m, .int .i64 k] 82)) = w0 at A B E ⊢
    refine (HC.out ((w.alloc (.cells #[.int .i64 l, .int .i64 h] 82)).alloc (.cells #[.int .i64 m, .int .i64 k] 82)) w0 (w.heap.size + 1 + 1) (by simp) hQ.symm).mono ?_
    clear hQ HC
    rintro e w1 ⟨rfl, hE⟩
    obtain ⟨c0, c1, _, _⟩ := A.ext hE
    obtain ⟨c2, c3, _, _⟩ := B.ext hE
    replace E := E.trans hE
    clear hE
    go_wp2_with fail
    go_ret2
    exact ⟨rfl, E⟩
  · rw [if_neg h1]
    by_cases h2 : k < l
    · rw [if_pos h2]
      go_enter Tryz.func66, Tryz.ntmps66
      go_wp2_with fail
      generalize hQ : (((w.alloc (.cells #[.int .i64 l, .int .i64 h] 82)).alloc (.cells #[.int .i64 m, .int .i64 k] 82)).alloc (.cells #[.int .i64 l, .int .i64 h, .int .i64 m, .int .i64 k] 82)) = w0 at A B E ⊢
      refine (HC.out ((w.alloc (.cells #[.int .i64 l, .int .i64 h] 82)).alloc (.cells #[.int .i64 m, .int .i64 k] 82)) w0 (w.heap.size + 1 + 1) (by simp) hQ.symm).mono ?_
      clear hQ HC
      rintro e w1 ⟨rfl, hE⟩
      obtain ⟨c0, c1, _, _⟩ := A.ext hE
      obtain ⟨c2, c3, _, _⟩ := B.ext hE
      replace E := E.trans hE
      clear hE
      go_wp2_with fail
      go_ret2
      exact ⟨rfl, E⟩
    · rw [if_neg h2]
      go_enter Tryz.func66, Tryz.ntmps66
      go_wp2_with fail
      generalize hQ : (((w.alloc (.cells #[.int .i64 l, .int .i64 h] 82)).alloc (.cells #[.int .i64 m, .int .i64 k] 82)).alloc (.cells #[.int .i64 l, .int .i64 h, .int .i64 m, .int .i64 k] 82)) = w0 at A B E ⊢
      refine (HC.out ((w.alloc (.cells #[.int .i64 l, .int .i64 h] 82)).alloc (.cells #[.int .i64 m, .int .i64 k] 82)) w0 (w.heap.size + 1 + 1) (by simp) hQ.symm).mono ?_
      clear hQ HC
      rintro e w1 ⟨rfl, hE⟩
      obtain ⟨c0, c1, _, _⟩ := A.ext hE
      obtain ⟨c2, c3, _, _⟩ := B.ext hE
      replace E := E.trans hE
      clear hE
      go_wp2_with fail
      go_ret2
      exact ⟨rfl, E⟩
set_option maxHeartbeats 8000000 in
set_option maxRecDepth 100000 in
theorem tWithin_any (l h m k : Int) (w : World) (ha : SpanR (l, h)) (hb : SpanR (m, k)) : Calls Tryz.prog 68 #[spanV (l, h), spanV (m, k)] w fun e w' => e = .returned (.tuple #[.bool (decide (m ≤ l) && decide (h ≤ k)), .int .i64 0]) ∧ Ext w w' := by
  have HC := Lib.hid (fun v W n hn hW => tChecks_any l h m k v W n ha hb hn hW)
  have a1 := ha.lo
  have a2 := ha.le
  have a3 := ha.hi
  have b1 := hb.lo
  have b2 := hb.le
  have b3 := hb.hi
  dsimp only at a1 a2 a3 b1 b2 b3
  clear ha hb
  dsimp only [spanV]
  have A : IntsAt w.heap.size (((w.alloc (.cells #[.int .i64 l, .int .i64 h] 82)).alloc (.cells #[.int .i64 m, .int .i64 k] 82)).alloc (.cells #[.int .i64 l, .int .i64 h, .int .i64 m, .int .i64 k] 82)) l h := ⟨by go_simp, by go_simp, by go_simp, by go_simp⟩
  have B : IntsAt (w.heap.size + 1) (((w.alloc (.cells #[.int .i64 l, .int .i64 h] 82)).alloc (.cells #[.int .i64 m, .int .i64 k] 82)).alloc (.cells #[.int .i64 l, .int .i64 h, .int .i64 m, .int .i64 k] 82)) m k := ⟨by go_simp, by go_simp, by go_simp, by go_simp⟩
  have E : Ext w (((w.alloc (.cells #[.int .i64 l, .int .i64 h] 82)).alloc (.cells #[.int .i64 m, .int .i64 k] 82)).alloc (.cells #[.int .i64 l, .int .i64 h, .int .i64 m, .int .i64 k] 82)) := extA
  obtain ⟨b, hb⟩ : ∃ b, b = decide (h ≤ k) := ⟨_, rfl⟩
  rw [← hb]
  have hb2 := hb.symm
  clear hb
  by_cases h1 : m ≤ l
  · rw [decide_eq_true h1]
    go_enter Tryz.func68, Tryz.ntmps68
    go_wp2_with fail
    generalize hQ : (((w.alloc (.cells #[.int .i64 l, .int .i64 h] 82)).alloc (.cells #[.int .i64 m, .int .i64 k] 82)).alloc (.cells #[.int .i64 l, .int .i64 h, .int .i64 m, .int .i64 k] 82)) = w0 at A B E ⊢
    refine (HC.out ((w.alloc (.cells #[.int .i64 l, .int .i64 h] 82)).alloc (.cells #[.int .i64 m, .int .i64 k] 82)) w0 (w.heap.size + 1 + 1) (by simp) hQ.symm).mono ?_
    clear hQ HC
    rintro e w1 ⟨rfl, hE⟩
    obtain ⟨c0, c1, _, _⟩ := A.ext hE
    obtain ⟨c2, c3, _, _⟩ := B.ext hE
    replace E := E.trans hE
    clear hE
    go_wp2_with fail
    go_ret2
    exact ⟨by simp, E⟩
  · rw [decide_eq_false h1]
    go_enter Tryz.func68, Tryz.ntmps68
    go_wp2_with fail
    generalize hQ : (((w.alloc (.cells #[.int .i64 l, .int .i64 h] 82)).alloc (.cells #[.int .i64 m, .int .i64 k] 82)).alloc (.cells #[.int .i64 l, .int .i64 h, .int .i64 m, .int .i64 k] 82)) = w0 at A B E ⊢
    refine (HC.out ((w.alloc (.cells #[.int .i64 l, .int .i64 h] 82)).alloc (.cells #[.int .i64 m, .int .i64 k] 82)) w0 (w.heap.size + 1 + 1) (by simp) hQ.symm).mono ?_
    clear hQ HC
    rintro e w1 ⟨rfl, hE⟩
    obtain ⟨c0, c1, _, _⟩ := A.ext hE
    obtain ⟨c2, c3, _, _⟩ := B.ext hE
    replace E := E.trans hE
    clear hE
    go_wp2_with fail
    go_ret2
    exact ⟨by rfl, E⟩
set_option maxHeartbeats 8000000 in
set_option maxRecDepth 100000 in
theorem tMeet_any (l h m k : Int) (w : World) (ha : SpanR (l, h)) (hb : SpanR (m, k)) : Calls Tryz.prog 67 #[spanV (l, h), spanV (m, k)] w fun e w' => e = .returned (.tuple #[spanV (if min h k < max l m then (0, 0) else (max l m, min h k)), .bool (decide (¬ min h k < max l m)), .int .i64 0]) ∧ Ext w w' := by
  have HC := Lib.hid (fun v W n hn hW => tChecks_any l h m k v W n ha hb hn hW)
  have a1 := ha.lo
  have a2 := ha.le
  have a3 := ha.hi
  have b1 := hb.lo
  have b2 := hb.le
  have b3 := hb.hi
  dsimp only at a1 a2 a3 b1 b2 b3
  clear ha hb
  dsimp only [spanV]
  have A : IntsAt w.heap.size ((((w.alloc (.cells #[.int .i64 l, .int .i64 h] 82)).alloc (.cells #[.int .i64 m, .int .i64 k] 82)).alloc (.cells #[.int .i64 0, .int .i64 0] 82)).alloc (.cells #[.int .i64 l, .int .i64 h, .int .i64 m, .int .i64 k] 82)) l h := ⟨by go_simp, by go_simp, by go_simp, by go_simp⟩
  have B : IntsAt (w.heap.size + 1) ((((w.alloc (.cells #[.int .i64 l, .int .i64 h] 82)).alloc (.cells #[.int .i64 m, .int .i64 k] 82)).alloc (.cells #[.int .i64 0, .int .i64 0] 82)).alloc (.cells #[.int .i64 l, .int .i64 h, .int .i64 m, .int .i64 k] 82)) m k := ⟨by go_simp, by go_simp, by go_simp, by go_simp⟩
  have X : IntsAt (w.heap.size + 1 + 1) ((((w.alloc (.cells #[.int .i64 l, .int .i64 h] 82)).alloc (.cells #[.int .i64 m, .int .i64 k] 82)).alloc (.cells #[.int .i64 0, .int .i64 0] 82)).alloc (.cells #[.int .i64 l, .int .i64 h, .int .i64 m, .int .i64 k] 82)) 0 0 := ⟨by go_simp, by go_simp, by go_simp, by go_simp⟩
  have E : Ext w ((((w.alloc (.cells #[.int .i64 l, .int .i64 h] 82)).alloc (.cells #[.int .i64 m, .int .i64 k] 82)).alloc (.cells #[.int .i64 0, .int .i64 0] 82)).alloc (.cells #[.int .i64 l, .int .i64 h, .int .i64 m, .int .i64 k] 82)) := extA
  generalize hp : max l m = p at *
  generalize hq : min h k = q at *
  by_cases h1 : q < p
  · rw [if_pos h1, decide_eq_false (not_not_intro h1)]
    go_enter Tryz.func67, Tryz.ntmps67
    go_wp2_with fail
    generalize hQ : ((((w.alloc (.cells #[.int .i64 l, .int .i64 h] 82)).alloc (.cells #[.int .i64 m, .int .i64 k] 82)).alloc (.cells #[.int .i64 0, .int .i64 0] 82)).alloc (.cells #[.int .i64 l, .int .i64 h, .int .i64 m, .int .i64 k] 82)) = w0 at A B X E ⊢
    refine (HC.out (((w.alloc (.cells #[.int .i64 l, .int .i64 h] 82)).alloc (.cells #[.int .i64 m, .int .i64 k] 82)).alloc (.cells #[.int .i64 0, .int .i64 0] 82)) w0 (w.heap.size + 1 + 1 + 1) (by simp) hQ.symm).mono ?_
    clear hQ HC
    rintro e w1 ⟨rfl, hE⟩
    obtain ⟨c0, c1, _, _⟩ := A.ext hE
    obtain ⟨c2, c3, _, _⟩ := B.ext hE
    obtain ⟨x0, x1, f0, f1⟩ := X.ext hE
    have zx := cell_lt x0
    have zc := cell_lt c0
    have zd := cell_lt c2
    dsimp only at zx zc zd
    replace E := E.trans hE
    clear hE
    go_wp2_with fail
    refine bodyPost_ret (v := .tuple #[.agg #[.int .i64 0, .int .i64 0], .bool false, .int .i64 0]) (by rw [results_cell_tmp_tmp rfl]; go_simp) rfl ?_
    exact ⟨rfl, extA⟩
  · rw [if_neg h1, decide_eq_true h1]
    go_enter Tryz.func67, Tryz.ntmps67
    go_wp2_with fail
    generalize hQ : ((((w.alloc (.cells #[.int .i64 l, .int .i64 h] 82)).alloc (.cells #[.int .i64 m, .int .i64 k] 82)).alloc (.cells #[.int .i64 0, .int .i64 0] 82)).alloc (.cells #[.int .i64 l, .int .i64 h, .int .i64 m, .int .i64 k] 82)) = w0 at A B X E ⊢
    refine (HC.out (((w.alloc (.cells #[.int .i64 l, .int .i64 h] 82)).alloc (.cells #[.int .i64 m, .int .i64 k] 82)).alloc (.cells #[.int .i64 0, .int .i64 0] 82)) w0 (w.heap.size + 1 + 1 + 1) (by simp) hQ.symm).mono ?_
    clear hQ HC
    rintro e w1 ⟨rfl, hE⟩
    obtain ⟨c0, c1, _, _⟩ := A.ext hE
    obtain ⟨c2, c3, _, _⟩ := B.ext hE
    obtain ⟨x0, x1, f0, f1⟩ := X.ext hE
    have zx := cell_lt x0
    have zc := cell_lt c0
    have zd := cell_lt c2
    dsimp only at zx zc zd
    replace E := E.trans hE
    clear hE
    go_wp2_with fail
    refine bodyPost_ret (v := .tuple #[.agg #[.int .i64 p, .int .i64 q], .bool true, .int .i64 0]) (by rw [results_cell_tmp_tmp rfl]; go_simp) rfl ?_
    exact ⟨rfl, extA⟩
end Go.Proofs.YtdejgaiocjfhjaaGreatDoor
namespace Go.Proofs.YtdejgaiocjfhjaaGreatDoor
open Go.RowKit
theorem tSum_any (x y z : Int) (w : World) (hz : x + y = z) (h1 : 0 ≤ z) (h2 : z ≤ 10000000) : Calls Tryz.prog 108 #[.int .i64 x, .int .i64 y] w fun e w' => e = .returned (.int .i64 z) ∧ w' = w := by
  have hw : IntKind.i64.wrap z = z := by rw [IntKind.wrap_i64]; omega
  go_enter Tryz.func108, Tryz.ntmps108
  go_wp2
  go_ret
  exact ⟨rfl, rfl⟩
set_option maxHeartbeats 8000000 in
set_option maxRecDepth 100000 in
theorem tCombined_any (l h m k : Int) (w : World) (ha : SpanR (l, h)) (hb : SpanR (m, k)) (hs : h + k ≤ 1000000) : Calls Tryz.prog 107 #[spanV (l, h), spanV (m, k), .func (.func 108) #[] #[]] w fun e w' => e = .returned (.tuple #[spanV (l + m, h + k), .int .i64 0]) ∧ Ext w w' := by
  have HC := Lib.hid (fun v W n hn hW => tChecks_any l h m k v W n ha hb hn hW)
  have a1 := ha.lo
  have a2 := ha.le
  have a3 := ha.hi
  have b1 := hb.lo
  have b2 := hb.le
  have b3 := hb.hi
  dsimp only at a1 a2 a3 b1 b2 b3
  clear ha hb
  dsimp only [spanV]
  have A : IntsAt w.heap.size ((((w.alloc (.cells #[.int .i64 l, .int .i64 h] 82)).alloc (.cells #[.int .i64 m, .int .i64 k] 82)).alloc (.cells #[.int .i64 0, .int .i64 0] 82)).alloc (.cells #[.int .i64 l, .int .i64 h, .int .i64 m, .int .i64 k] 82)) l h := ⟨by go_simp, by go_simp, by go_simp, by go_simp⟩
  have B : IntsAt (w.heap.size + 1) ((((w.alloc (.cells #[.int .i64 l, .int .i64 h] 82)).alloc (.cells #[.int .i64 m, .int .i64 k] 82)).alloc (.cells #[.int .i64 0, .int .i64 0] 82)).alloc (.cells #[.int .i64 l, .int .i64 h, .int .i64 m, .int .i64 k] 82)) m k := ⟨by go_simp, by go_simp, by go_simp, by go_simp⟩
  have X : IntsAt (w.heap.size + 1 + 1) ((((w.alloc (.cells #[.int .i64 l, .int .i64 h] 82)).alloc (.cells #[.int .i64 m, .int .i64 k] 82)).alloc (.cells #[.int .i64 0, .int .i64 0] 82)).alloc (.cells #[.int .i64 l, .int .i64 h, .int .i64 m, .int .i64 k] 82)) 0 0 := ⟨by go_simp, by go_simp, by go_simp, by go_simp⟩
  have E : Ext w ((((w.alloc (.cells #[.int .i64 l, .int .i64 h] 82)).alloc (.cells #[.int .i64 m, .int .i64 k] 82)).alloc (.cells #[.int .i64 0, .int .i64 0] 82)).alloc (.cells #[.int .i64 l, .int .i64 h, .int .i64 m, .int .i64 k] 82)) := extA
  have H1 := Lib.hid (fun W => tSum_any l m (l + m) W rfl (by omega) (by omega))
  have H2 := Lib.hid (fun W => tSum_any h k (h + k) W rfl (by omega) (by omega))
  have hng : ¬ (1000000 : Int) < h + k := by omega
  clear a1 a2 a3 b1 b2 b3 hs
  generalize l + m = p at *
  generalize h + k = q at *
  go_enter Tryz.func107, Tryz.ntmps107
  go_wp2_with fail
  generalize hQ : ((((w.alloc (.cells #[.int .i64 l, .int .i64 h] 82)).alloc (.cells #[.int .i64 m, .int .i64 k] 82)).alloc (.cells #[.int .i64 0, .int .i64 0] 82)).alloc (.cells #[.int .i64 l, .int .i64 h, .int .i64 m, .int .i64 k] 82)) = w0 at A B X E ⊢
  refine (HC.out (((w.alloc (.cells #[.int .i64 l, .int .i64 h] 82)).alloc (.cells #[.int .i64 m, .int .i64 k] 82)).alloc (.cells #[.int .i64 0, .int .i64 0] 82)) w0 (w.heap.size + 1 + 1 + 1) (by simp) hQ.symm).mono ?_
  clear hQ HC
  rintro e w1 ⟨rfl, hE⟩
  replace A := A.ext hE
  replace B := B.ext hE
  replace X := X.ext hE
  replace E := E.trans hE
  clear hE
  have hD : Ext w1 w1.drew := extA
  replace E := E.trans hD
  replace X := X.ext hD
  have hS : w1.drew.cell? ⟨w.heap.size, 0, none⟩ = some (.int .i64 l) ∧ w1.drew.cell? ⟨w.heap.size, 1, none⟩ = some (.int .i64 h) ∧ w1.drew.cell? ⟨w.heap.size + 1, 0, none⟩ = some (.int .i64 m) ∧ w1.drew.cell? ⟨w.heap.size + 1, 1, none⟩ = some (.int .i64 k) := ⟨hD.cell A.c0, hD.cell A.c1, hD.cell B.c0, hD.cell B.c1⟩
  go_wp2_with fail
  refine wp_region_heldE 99 (fun w' => w'.cell? ⟨w.heap.size, 0, none⟩ = some (.int .i64 l) ∧ w'.cell? ⟨w.heap.size, 1, none⟩ = some (.int .i64 h) ∧ w'.cell? ⟨w.heap.size + 1, 0, none⟩ = some (.int .i64 m) ∧ w'.cell? ⟨w.heap.size + 1, 1, none⟩ = some (.int .i64 k)) (by kernel_rfl) ?_
  clear A B hD
  generalize w1.drew = v0 at E X hS ⊢
  ((refine eTk 0 ?_); (refine eTk 1 ?_); (refine eTk 2 ?_); (refine eTk 3 ?_); (refine eTk 4 ?_); (refine eTk 6 ?_); (refine eTk 7 ?_); (refine eTk 8 ?_); (refine eTk 9 ?_); (refine eTk 10 ?_))
  refine wpAnyE_two (i := 5) (j := 13) (o := ?_) (p := ?_) (by (simp only [List.getElem?_toArray, List.getElem?_cons_succ, List.getElem?_cons_zero]; exact rfl)) (by (simp only [List.getElem?_toArray, List.getElem?_cons_succ, List.getElem?_cons_zero]; exact rfl)) (by kernel_rfl) (fun K hK => ?_) (fun K hK => ?_)
  · go_simp
    go_at_call 108
    refine (H1.out _).mono ?_
    rintro e w' ⟨rfl, hw⟩; obtain rfl := hw.symm; clear hw
    go_wp2_with fail
    refine hK.out _ _ hS (fun _ => ?_)
    clear hK K H1
    (try simp only [Act.put, List.setIfInBounds_toArray, List.set_cons_zero, List.set_cons_succ])
    refine wpAnyE_two (i := 11) (j := 13) (o := ?_) (p := ?_) (by (simp only [List.getElem?_toArray, List.getElem?_cons_succ, List.getElem?_cons_zero]; exact rfl)) (by (simp only [List.getElem?_toArray, List.getElem?_cons_succ, List.getElem?_cons_zero]; exact rfl)) (by kernel_rfl) (fun K hK => ?_) (fun K hK => ?_)
    · go_simp
      go_at_call 108
      refine (H2.out _).mono ?_
      rintro e w' ⟨rfl, hw⟩; obtain rfl := hw.symm; clear hw
      go_wp2_with fail
      refine hK.out _ _ hS (fun _ => ?_)
      clear hK K H2
      (try simp only [Act.put, List.setIfInBounds_toArray, List.set_cons_zero, List.set_cons_succ])
      (refine eTk 12 ?_)
      have EB : Ext v0 (v0.alloc (.cells #[.int .i64 0, .int .i64 0] 82)) := extA
      have N := intsAt_new v0 v0.heap.size rfl 0 0
      have hsz := E.size
      have hx := cell_lt X.c0
      have hq0 := cell_lt hS.1
      have hq1 := cell_lt hS.2.2.1
      dsimp only at hx hq0 hq1
      (refine wpAnyE_one (i := 13) (o := ?_) ?_ (by kernel_rfl) (fun K hK => ?_); rotate_left; (focus ((simp only [List.getElem?_toArray, List.getElem?_cons_succ, List.getElem?_cons_zero]; exact rfl))); go_simp; refine hK.out _ _ ?_ (fun hHeld => ?_); rotate_left; clear hK K; (try simp only [Act.put, List.setIfInBounds_toArray, List.set_cons_zero, List.set_cons_succ]))
      rotate_left
      · exact ⟨EB.cell hS.1, EB.cell hS.2.1, EB.cell hS.2.2.1, EB.cell hS.2.2.2⟩
      clear hHeld
      replace E := E.trans EB
      replace X := X.ext EB
      replace hS : (v0.alloc (.cells #[.int .i64 0, .int .i64 0] 82)).cell? ⟨w.heap.size, 0, none⟩ = some (.int .i64 l) ∧ (v0.alloc (.cells #[.int .i64 0, .int .i64 0] 82)).cell? ⟨w.heap.size, 1, none⟩ = some (.int .i64 h) ∧ (v0.alloc (.cells #[.int .i64 0, .int .i64 0] 82)).cell? ⟨w.heap.size + 1, 0, none⟩ = some (.int .i64 m) ∧ (v0.alloc (.cells #[.int .i64 0, .int .i64 0] 82)).cell? ⟨w.heap.size + 1, 1, none⟩ = some (.int .i64 k) := ⟨EB.cell hS.1, EB.cell hS.2.1, EB.cell hS.2.2.1, EB.cell hS.2.2.2⟩
      clear EB
      obtain ⟨nb, hnb⟩ : ∃ nb, nb = v0.heap.size := ⟨_, rfl⟩
      rw [← hnb] at N hsz hx hq0 hq1 ⊢
      generalize (v0.alloc (.cells #[.int .i64 0, .int .i64 0] 82)) = v0 at E N X hS ⊢
      clear hnb
      have hS0 := hS
      obtain ⟨c0, c1, c2, c3⟩ := hS0
      obtain ⟨n0, n1, n2, n3⟩ := N
      obtain ⟨x0, x1, f0, f1⟩ := X
      (refine wpAnyE_one (i := 14) (o := ?_) ?_ (by kernel_rfl) (fun K hK => ?_); rotate_left; (focus ((simp only [List.getElem?_toArray, List.getElem?_cons_succ, List.getElem?_cons_zero]; exact rfl))); go_simp; refine hK.out _ _ ?_ (fun hHeld => ?_); rotate_left; clear hK K; (try simp only [Act.put, List.setIfInBounds_toArray, List.set_cons_zero, List.set_cons_succ]))
      rotate_left
      · exact ⟨by go_simp, by go_simp, by go_simp, by go_simp⟩
      clear hHeld hS c0 c1 c2 c3
      refine wpAnyE_done (by kernel_rfl) ?_ _
      go_wp2_with fail
      refine bodyPost_ret (v := .tuple #[.agg #[.int .i64 p, .int .i64 q], .int .i64 0]) (by rw [results_cell_tmp1 rfl]; go_simp) rfl ?_
      exact ⟨rfl, extA⟩
    · have EB : Ext v0 (v0.alloc (.cells #[.int .i64 0, .int .i64 0] 82)) := extA
      have N := intsAt_new v0 v0.heap.size rfl 0 0
      have hsz := E.size
      have hx := cell_lt X.c0
      have hq0 := cell_lt hS.1
      have hq1 := cell_lt hS.2.2.1
      dsimp only at hx hq0 hq1
      go_simp
      refine hK.out _ _ ⟨EB.cell hS.1, EB.cell hS.2.1, EB.cell hS.2.2.1, EB.cell hS.2.2.2⟩ (fun _ => ?_)
      clear hK K
      (try simp only [Act.put, List.setIfInBounds_toArray, List.set_cons_zero, List.set_cons_succ])
      replace E := E.trans EB
      replace X := X.ext EB
      replace hS : (v0.alloc (.cells #[.int .i64 0, .int .i64 0] 82)).cell? ⟨w.heap.size, 0, none⟩ = some (.int .i64 l) ∧ (v0.alloc (.cells #[.int .i64 0, .int .i64 0] 82)).cell? ⟨w.heap.size, 1, none⟩ = some (.int .i64 h) ∧ (v0.alloc (.cells #[.int .i64 0, .int .i64 0] 82)).cell? ⟨w.heap.size + 1, 0, none⟩ = some (.int .i64 m) ∧ (v0.alloc (.cells #[.int .i64 0, .int .i64 0] 82)).cell? ⟨w.heap.size + 1, 1, none⟩ = some (.int .i64 k) := ⟨EB.cell hS.1, EB.cell hS.2.1, EB.cell hS.2.2.1, EB.cell hS.2.2.2⟩
      clear EB
      obtain ⟨nb, hnb⟩ : ∃ nb, nb = v0.heap.size := ⟨_, rfl⟩
      rw [← hnb] at N hsz hx hq0 hq1 ⊢
      generalize (v0.alloc (.cells #[.int .i64 0, .int .i64 0] 82)) = v0 at E N X hS ⊢
      clear hnb
      (refine wpAnyE_one (i := 11) (o := ?_) ?_ (by kernel_rfl) (fun K hK => ?_); rotate_left; (focus ((simp only [List.getElem?_toArray, List.getElem?_cons_succ, List.getElem?_cons_zero]; exact rfl))); go_simp; go_at_call 108; refine (H2.out _).mono ?_; rintro e w' ⟨rfl, hw⟩; obtain rfl := hw.symm; clear hw; go_wp2_with fail; refine hK.out _ _ ?_ (fun hHeld => ?_); rotate_left; clear hK K; (try simp only [Act.put, List.setIfInBounds_toArray, List.set_cons_zero, List.set_cons_succ]))
      rotate_left
      · exact hS
      clear hHeld H2
      (refine eTk 12 ?_)
      have hS0 := hS
      obtain ⟨c0, c1, c2, c3⟩ := hS0
      obtain ⟨n0, n1, n2, n3⟩ := N
      obtain ⟨x0, x1, f0, f1⟩ := X
      (refine wpAnyE_one (i := 14) (o := ?_) ?_ (by kernel_rfl) (fun K hK => ?_); rotate_left; (focus ((simp only [List.getElem?_toArray, List.getElem?_cons_succ, List.getElem?_cons_zero]; exact rfl))); go_simp; refine hK.out _ _ ?_ (fun hHeld => ?_); rotate_left; clear hK K; (try simp only [Act.put, List.setIfInBounds_toArray, List.set_cons_zero, List.set_cons_succ]))
      rotate_left
      · exact ⟨by go_simp, by go_simp, by go_simp, by go_simp⟩
      clear hHeld hS c0 c1 c2 c3
      refine wpAnyE_done (by kernel_rfl) ?_ _
      go_wp2_with fail
      refine bodyPost_ret (v := .tuple #[.agg #[.int .i64 p, .int .i64 q], .int .i64 0]) (by rw [results_cell_tmp1 rfl]; go_simp) rfl ?_
      exact ⟨rfl, extA⟩
  · have EB : Ext v0 (v0.alloc (.cells #[.int .i64 0, .int .i64 0] 82)) := extA
    have N := intsAt_new v0 v0.heap.size rfl 0 0
    have hsz := E.size
    have hx := cell_lt X.c0
    have hq0 := cell_lt hS.1
    have hq1 := cell_lt hS.2.2.1
    dsimp only at hx hq0 hq1
    go_simp
    refine hK.out _ _ ⟨EB.cell hS.1, EB.cell hS.2.1, EB.cell hS.2.2.1, EB.cell hS.2.2.2⟩ (fun _ => ?_)
    clear hK K
    (try simp only [Act.put, List.setIfInBounds_toArray, List.set_cons_zero, List.set_cons_succ])
    replace E := E.trans EB
    replace X := X.ext EB
    replace hS : (v0.alloc (.cells #[.int .i64 0, .int .i64 0] 82)).cell? ⟨w.heap.size, 0, none⟩ = some (.int .i64 l) ∧ (v0.alloc (.cells #[.int .i64 0, .int .i64 0] 82)).cell? ⟨w.heap.size, 1, none⟩ = some (.int .i64 h) ∧ (v0.alloc (.cells #[.int .i64 0, .int .i64 0] 82)).cell? ⟨w.heap.size + 1, 0, none⟩ = some (.int .i64 m) ∧ (v0.alloc (.cells #[.int .i64 0, .int .i64 0] 82)).cell? ⟨w.heap.size + 1, 1, none⟩ = some (.int .i64 k) := ⟨EB.cell hS.1, EB.cell hS.2.1, EB.cell hS.2.2.1, EB.cell hS.2.2.2⟩
    clear EB
    obtain ⟨nb, hnb⟩ : ∃ nb, nb = v0.heap.size := ⟨_, rfl⟩
    rw [← hnb] at N hsz hx hq0 hq1 ⊢
    generalize (v0.alloc (.cells #[.int .i64 0, .int .i64 0] 82)) = v0 at E N X hS ⊢
    clear hnb
    (refine wpAnyE_one (i := 5) (o := ?_) ?_ (by kernel_rfl) (fun K hK => ?_); rotate_left; (focus ((simp only [List.getElem?_toArray, List.getElem?_cons_succ, List.getElem?_cons_zero]; exact rfl))); go_simp; go_at_call 108; refine (H1.out _).mono ?_; rintro e w' ⟨rfl, hw⟩; obtain rfl := hw.symm; clear hw; go_wp2_with fail; refine hK.out _ _ ?_ (fun hHeld => ?_); rotate_left; clear hK K; (try simp only [Act.put, List.setIfInBounds_toArray, List.set_cons_zero, List.set_cons_succ]))
    rotate_left
    · exact hS
    clear hHeld H1
    (refine wpAnyE_one (i := 11) (o := ?_) ?_ (by kernel_rfl) (fun K hK => ?_); rotate_left; (focus ((simp only [List.getElem?_toArray, List.getElem?_cons_succ, List.getElem?_cons_zero]; exact rfl))); go_simp; go_at_call 108; refine (H2.out _).mono ?_; rintro e w' ⟨rfl, hw⟩; obtain rfl := hw.symm; clear hw; go_wp2_with fail; refine hK.out _ _ ?_ (fun hHeld => ?_); rotate_left; clear hK K; (try simp only [Act.put, List.setIfInBounds_toArray, List.set_cons_zero, List.set_cons_succ]))
    rotate_left
    · exact hS
    clear hHeld H2
    (refine eTk 12 ?_)
    have hS0 := hS
    obtain ⟨c0, c1, c2, c3⟩ := hS0
    obtain ⟨n0, n1, n2, n3⟩ := N
    obtain ⟨x0, x1, f0, f1⟩ := X
    (refine wpAnyE_one (i := 14) (o := ?_) ?_ (by kernel_rfl) (fun K hK => ?_); rotate_left; (focus ((simp only [List.getElem?_toArray, List.getElem?_cons_succ, List.getElem?_cons_zero]; exact rfl))); go_simp; refine hK.out _ _ ?_ (fun hHeld => ?_); rotate_left; clear hK K; (try simp only [Act.put, List.setIfInBounds_toArray, List.set_cons_zero, List.set_cons_succ]))
    rotate_left
    · exact ⟨by go_simp, by go_simp, by go_simp, by go_simp⟩
    clear hHeld hS c0 c1 c2 c3
    refine wpAnyE_done (by kernel_rfl) ?_ _
    go_wp2_with fail
    refine bodyPost_ret (v := .tuple #[.agg #[.int .i64 p, .int .i64 q], .int .i64 0]) (by rw [results_cell_tmp1 rfl]; go_simp) rfl ?_
    exact ⟨rfl, extA⟩
set_option maxHeartbeats 4000000 in
set_option maxRecDepth 100000 in
theorem tAdd_any (l h m k : Int) (w : World) (ha : SpanR (l, h)) (hb : SpanR (m, k)) (hs : h + k ≤ 1000000) : Calls Tryz.prog 64 #[spanV (l, h), spanV (m, k)] w fun e w' => e = .returned (.tuple #[spanV (l + m, h + k), .int .i64 0]) ∧ Ext w w' := by
  have HC := Lib.hid (fun W => tCombined_any l h m k W ha hb hs)
  clear ha hb hs
  generalize l + m = p at *
  generalize h + k = q at *
  dsimp only [spanV] at *
  have X : IntsAt (w.heap.size + 1 + 1) (((w.alloc (.cells #[.int .i64 l, .int .i64 h] 82)).alloc (.cells #[.int .i64 m, .int .i64 k] 82)).alloc (.cells #[.int .i64 0, .int .i64 0] 82)) 0 0 := ⟨by go_simp, by go_simp, by go_simp, by go_simp⟩
  have E : Ext w (((w.alloc (.cells #[.int .i64 l, .int .i64 h] 82)).alloc (.cells #[.int .i64 m, .int .i64 k] 82)).alloc (.cells #[.int .i64 0, .int .i64 0] 82)) := extA
  go_enter Tryz.func64, Tryz.ntmps64
  go_wp2_with fail
  generalize (((w.alloc (.cells #[.int .i64 l, .int .i64 h] 82)).alloc (.cells #[.int .i64 m, .int .i64 k] 82)).alloc (.cells #[.int .i64 0, .int .i64 0] 82)) = w0 at X E ⊢
  refine (HC.out _).mono ?_
  rintro e w1 ⟨rfl, hE⟩
  replace E := E.trans hE
  obtain ⟨x0, x1, f0, f1⟩ := X.ext hE
  go_wp2_with fail
  refine bodyPost_ret (v := .tuple #[.agg #[.int .i64 p, .int .i64 q], .int .i64 0]) (by rw [results_cell_tmp1 rfl]; go_simp) rfl ?_
  exact ⟨rfl, extA⟩
set_option maxHeartbeats 4000000 in
set_option maxRecDepth 100000 in
theorem playE_any (l h : Int) (w : World) (h1 : 0 ≤ l) (h2 : l ≤ 10000000) (h3 : 0 ≤ h) (h4 : h ≤ 10000000) : Calls Tryz.prog 63 #[spanV (l, h)] w fun e w' => e = .returned (encV (Go.Lib.itoa l, Go.Lib.itoa h)) ∧ Ext w w' := by
  have H1 := Lib.hid (fun W => wholeR_any l W (by omega) (by omega))
  have H2 := Lib.hid (fun W => wholeR_any h W (by omega) (by omega))
  generalize Go.Lib.itoa l = tl at *
  generalize Go.Lib.itoa h = th at *
  clear h1 h2 h3 h4
  dsimp only [spanV, encV]
  have A : IntsAt w.heap.size ((w.alloc (.cells #[.int .i64 l, .int .i64 h] 82)).alloc (.cells #[.string ⟨#[]⟩, .string ⟨#[]⟩] 24)) l h := ⟨by go_simp, by go_simp, by go_simp, by go_simp⟩
  have X : EncAt (w.heap.size + 1) ((w.alloc (.cells #[.int .i64 l, .int .i64 h] 82)).alloc (.cells #[.string ⟨#[]⟩, .string ⟨#[]⟩] 24)) [] [] := ⟨by go_simp, by go_simp, by go_simp, by go_simp⟩
  have E : Ext w ((w.alloc (.cells #[.int .i64 l, .int .i64 h] 82)).alloc (.cells #[.string ⟨#[]⟩, .string ⟨#[]⟩] 24)) := extA
  go_enter Tryz.func63, Tryz.ntmps63
  go_wp2_with fail
  generalize ((w.alloc (.cells #[.int .i64 l, .int .i64 h] 82)).alloc (.cells #[.string ⟨#[]⟩, .string ⟨#[]⟩] 24)) = w0 at A X E ⊢
  have hD : Ext w0 w0.drew := extA
  replace E := E.trans hD
  replace X := X.ext hD
  have hS : w0.drew.cell? ⟨w.heap.size, 0, none⟩ = some (.int .i64 l) ∧ w0.drew.cell? ⟨w.heap.size, 1, none⟩ = some (.int .i64 h) := ⟨hD.cell A.c0, hD.cell A.c1⟩
  refine wp_region_heldE 99 (fun w' => w'.cell? ⟨w.heap.size, 0, none⟩ = some (.int .i64 l) ∧ w'.cell? ⟨w.heap.size, 1, none⟩ = some (.int .i64 h)) (by kernel_rfl) ?_
  clear A hD
  generalize w0.drew = v0 at E X hS ⊢
  ((refine eTk 0 ?_); (refine eTk 1 ?_); (refine eTk 3 ?_); (refine eTk 4 ?_))
  (refine wpAnyE_one (i := 2) (o := ?_) ?_ (by kernel_rfl) (fun K hK => ?_); rotate_left; (focus ((simp only [List.getElem?_toArray, List.getElem?_cons_succ, List.getElem?_cons_zero]; exact rfl))); go_simp; go_at_call 58; refine (H1.out _).mono ?_; rintro e v1 ⟨rfl, hE⟩; go_wp2_with fail; refine hK.out _ _ ?_ (fun hHeld => ?_); rotate_left; clear hK K; (try simp only [Act.put, List.setIfInBounds_toArray, List.set_cons_zero, List.set_cons_succ]))
  rotate_left
  · exact ⟨hE.cell hS.1, hE.cell hS.2⟩
  replace E := E.trans hE
  replace X := X.ext hE
  replace hS := And.intro (hE.cell hS.1) (hE.cell hS.2)
  clear hE hHeld H1
  (refine wpAnyE_one (i := 5) (o := ?_) ?_ (by kernel_rfl) (fun K hK => ?_); rotate_left; (focus ((simp only [List.getElem?_toArray, List.getElem?_cons_succ, List.getElem?_cons_zero]; exact rfl))); go_simp; go_at_call 58; refine (H2.out _).mono ?_; rintro e v2 ⟨rfl, hE⟩; go_wp2_with fail; refine hK.out _ _ ?_ (fun hHeld => ?_); rotate_left; clear hK K; (try simp only [Act.put, List.setIfInBounds_toArray, List.set_cons_zero, List.set_cons_succ]))
  rotate_left
  · exact ⟨hE.cell hS.1, hE.cell hS.2⟩
  replace E := E.trans hE
  replace X := X.ext hE
  replace hS := And.intro (hE.cell hS.1) (hE.cell hS.2)
  clear hE hHeld H2
  ((refine eTk 6 ?_))
  have hS0 := hS
  obtain ⟨c0, c1⟩ := hS0
  obtain ⟨x0, x1, f0, f1⟩ := X
  (refine wpAnyE_one (i := 7) (o := ?_) ?_ (by kernel_rfl) (fun K hK => ?_); rotate_left; (focus ((simp only [List.getElem?_toArray, List.getElem?_cons_succ, List.getElem?_cons_zero]; exact rfl))); go_simp; refine hK.out _ _ ?_ (fun hHeld => ?_); rotate_left; clear hK K; (try simp only [Act.put, List.setIfInBounds_toArray, List.set_cons_zero, List.set_cons_succ]))
  rotate_left
  · exact ⟨by go_simp, by go_simp⟩
  clear hHeld hS c0 c1
  refine wpAnyE_done (by kernel_rfl) ?_ _
  go_wp2_with fail
  refine bodyPost_ret (v := .agg #[txt tl, txt th]) (by rw [results_cell1 rfl]; go_simp) rfl ?_
  exact ⟨rfl, extA⟩
end Go.Proofs.YtdejgaiocjfhjaaGreatDoor
namespace Go.Proofs.YtdejgaiocjfhjaaGreatDoor
open Go.RowKit
open Go.Lib (itoa)
def spE (a : Spn) : Enc := (itoa a.1, itoa a.2)
abbrev TimeR (x : Int) : Prop := 0 ≤ x ∧ x ≤ 1000000
theorem time_good {x : Int} (h : TimeR x) : Good 8 (itoa x) (x : Rat) :=
  int_good (by omega) (by omega) (by have h1 := h.1; have h2 := h.2; show x.natAbs < 100000000; omega)
theorem ord_less {x y : Int} (h : TimeR x) (k : TimeR y) : ordQ (itoa x) (itoa y) < 0 ↔ x < y := by
  rw [ord_lt, (time_good h).val, (time_good k).val]
  exact ⟨fun q => by exact_mod_cast q, fun q => by exact_mod_cast q⟩
theorem ord_more {x y : Int} (h : TimeR x) (k : TimeR y) : 0 < ordQ (itoa x) (itoa y) ↔ y < x := by
  rw [ord_gt, (time_good h).val, (time_good k).val]
  exact ⟨fun q => by exact_mod_cast q, fun q => by exact_mod_cast q⟩
theorem SpanR.one {a : Spn} (h : SpanR a) : TimeR a.1 := ⟨h.lo, by have h1 := h.le; have h2 := h.hi; omega⟩
theorem SpanR.two {a : Spn} (h : SpanR a) : TimeR a.2 := ⟨by have h1 := h.le; have h2 := h.lo; omega, h.hi⟩
theorem sp_good {a : Spn} (h : SpanR a) : GoodE 8 (spE a) (a.1 : Rat) (a.2 : Rat) :=
  ⟨time_good h.one, time_good h.two, by have h1 := h.le; exact_mod_cast h1⟩
theorem sp_add {a b : Spn} (h : SpanR a) (k : SpanR b) : addE (spE a) (spE b) = (spE (a.1 + b.1, a.2 + b.2), 0) := by
  rw [((sp_good h).add (sp_good k) (by omega)).1]
  unfold encT spE
  rw [← fracT_int, ← fracT_int, Rat.intCast_add, Rat.intCast_add]
theorem sp_hull {a b : Spn} (h : SpanR a) (k : SpanR b) : hullE (spE a) (spE b) = (spE (min a.1 b.1, max a.2 b.2), 0) := by
  unfold hullE
  rw [if_neg (not_not_intro ((sp_good h).both (sp_good k)))]
  have e1 : lowHull (spE a) (spE b) = itoa (min a.1 b.1) := by
    show (if ordQ (itoa b.1) (itoa a.1) < 0 then itoa b.1 else itoa a.1) = _
    by_cases c : b.1 < a.1
    · rw [if_pos ((ord_less k.one h.one).2 c)]; congr 1; omega
    · rw [if_neg (fun q => c ((ord_less k.one h.one).1 q))]; congr 1; omega
  have e2 : highHull (spE a) (spE b) = itoa (max a.2 b.2) := by
    show (if 0 < ordQ (itoa b.2) (itoa a.2) then itoa b.2 else itoa a.2) = _
    by_cases c : a.2 < b.2
    · rw [if_pos ((ord_more k.two h.two).2 c)]; congr 1; omega
    · rw [if_neg (fun q => c ((ord_more k.two h.two).1 q))]; congr 1; omega
  rw [e1, e2]
  rfl
theorem sp_compare {a b : Spn} (h : SpanR a) (k : SpanR b) : compareE (spE a) (spE b) = (if a.2 < b.1 then -1 else if b.2 < a.1 then 1 else 0, 0) := by
  unfold compareE
  rw [if_neg (not_not_intro ((sp_good h).both (sp_good k)))]
  show ((if ordQ (itoa a.2) (itoa b.1) < 0 then -1 else if 0 < ordQ (itoa a.1) (itoa b.2) then 1 else 0 : Int), 0) = _
  simp only [ord_less h.two k.one, ord_more h.one k.two]
theorem sp_within {a b : Spn} (h : SpanR a) (k : SpanR b) : withinE (spE a) (spE b) = (decide (b.1 ≤ a.1) && decide (a.2 ≤ b.2), 0) := by
  unfold withinE
  rw [if_neg (not_not_intro ((sp_good h).both (sp_good k)))]
  show (decide (ordQ (itoa b.1) (itoa a.1) ≤ 0) && decide (ordQ (itoa a.2) (itoa b.2) ≤ 0), 0) = _
  have e1 : ordQ (itoa b.1) (itoa a.1) ≤ 0 ↔ b.1 ≤ a.1 := by
    have q := ord_more k.one h.one
    omega
  have e2 : ordQ (itoa a.2) (itoa b.2) ≤ 0 ↔ a.2 ≤ b.2 := by
    have q := ord_more h.two k.two
    omega
  simp only [e1, e2]
theorem sp_meet {a b : Spn} (h : SpanR a) (k : SpanR b) :
    meetE (spE a) (spE b) = if min a.2 b.2 < max a.1 b.1 then (([], []), false, 0) else (spE (max a.1 b.1, min a.2 b.2), true, 0) := by
  unfold meetE
  rw [if_neg (not_not_intro ((sp_good h).both (sp_good k)))]
  unfold commonE
  have e1 : lowMeet (spE a) (spE b) = itoa (max a.1 b.1) := by
    show (if 0 < ordQ (itoa b.1) (itoa a.1) then itoa b.1 else itoa a.1) = _
    by_cases c : a.1 < b.1
    · rw [if_pos ((ord_more k.one h.one).2 c)]; congr 1; omega
    · rw [if_neg (fun q => c ((ord_more k.one h.one).1 q))]; congr 1; omega
  have e2 : highMeet (spE a) (spE b) = itoa (min a.2 b.2) := by
    show (if ordQ (itoa b.2) (itoa a.2) < 0 then itoa b.2 else itoa a.2) = _
    by_cases c : b.2 < a.2
    · rw [if_pos ((ord_less k.two h.two).2 c)]; congr 1; omega
    · rw [if_neg (fun q => c ((ord_less k.two h.two).1 q))]; congr 1; omega
  rw [e1, e2]
  have t1 : TimeR (max a.1 b.1) := by have q1 := h.one; have q2 := k.one; unfold TimeR at *; omega
  have t2 : TimeR (min a.2 b.2) := by have q1 := h.two; have q2 := k.two; unfold TimeR at *; omega
  by_cases c : min a.2 b.2 < max a.1 b.1
  · rw [if_pos ((ord_more t1 t2).2 c), if_pos c]
  · rw [if_neg (fun q => c ((ord_more t1 t2).1 q)), if_neg c]
    rfl
end Go.Proofs.YtdejgaiocjfhjaaGreatDoor
