/- Steps of the proof: QRead, QNum, QStpR, QPrsR, QOf, QParsed, QAlike, QParts, QAwakeS, QAwake, GCase. No conditions. -/
import Derived.Test.YtdolibeceijnnaaDoorZGT1
import Derived.Test.YtdolibeceijnnaaDoorZGT2
import Derived.Test.YtdolibeceijnnaaDoorZGT3
import Derived.Test.YtdolibeceijnnaaDoorZGT4
namespace Go.Proofs.YtdolibeceijnnaaDoor
open Go.RowKit
set_option maxHeartbeats 1000000 in
theorem written_any (x : Nat) (o : Bool) (w : World) (hx : x < 6) :
    Calls Tryd.prog 108 #[.agg #[.int .i64 (x : Int), .bool o]] w fun r w' => (∃ t : ByteArray, r = .returned (.string t) ∧ t.toList = wrB (x : Int) o) ∧ Ext w w' := by
  have hw1 : IntKind.i64.wrap ((x : Int) + 1) = (x : Int) + 1 := IntWalk.i64_in _ (by omega)
  have h1 : (0 : Int) ≤ (x : Int) + 1 := by omega
  have h2 : (x : Int) + 1 ≤ 6 := by omega
  have h3 : (x : Int) ≤ (x : Int) + 1 := by omega
  have h4 : ((x : Int) + 1).toNat = x + 1 := by omega
  have hx' : x = 0 ∨ x = 1 ∨ x = 2 ∨ x = 3 ∨ x = 4 ∨ x = 5 := by omega
  have E1 : Ext w (w.alloc (.cells #[.int .i64 (x : Int), .bool o] 67)) := extA
  have HE := Lib.hid E1
  clear E1
  cases o
  · go_enter Tryd.func108, Tryd.ntmps108
    go_wp2
    go_ret
    refine ⟨⟨_, rfl, ?_⟩, HE.out⟩
    rw [ByteArray.toList_eq]
    rcases hx' with rfl | rfl | rfl | rfl | rfl | rfl <;> rfl
  · go_enter Tryd.func108, Tryd.ntmps108
    go_wp2
    go_ret
    refine ⟨⟨_, rfl, ?_⟩, HE.out⟩
    rw [ByteArray.toList_eq]
    rcases hx' with rfl | rfl | rfl | rfl | rfl | rfl <;> rfl
def rdOf : Option Stk → Stk × Bool
  | some x => (x, true)
  | none => (stk0, false)
set_option maxHeartbeats 4000000 in
theorem read_any (s : ByteArray) (w : World) (x : Stk) (bo : Bool) (h : rdOf (readL s.toList) = (x, bo)) :
    Calls Tryd.prog 101 #[.string s] w fun r w' => r = .returned (.tuple #[.agg #[.int .i64 x.1, .bool x.2], .bool bo]) ∧ Ext w w' := by
  have H0 : Hid (rdOf (rdGo s.toList (2 * 0)) = (x, bo)) := h
  clear h
  obtain ⟨xa, xo⟩ := x
  dsimp only
  go_enter Tryd.func101, Tryd.ntmps101
  go_wp2
  have E1 : Ext w (w.alloc (.cells #[.int .i64 0, .bool false] 67)) := extA
  have c0 : (w.alloc (.cells #[.int .i64 0, .bool false] 67)).cell? ⟨w.heap.size, 0, none⟩ = some (.int .i64 0) := by go_simp
  have c1 : (w.alloc (.cells #[.int .i64 0, .bool false] 67)).cell? ⟨w.heap.size, 1, none⟩ = some (.bool false) := by go_simp
  have f0 : (w.alloc (.cells #[.int .i64 0, .bool false] 67)).frozen? ⟨w.heap.size, 0, none⟩ = false := by go_simp
  have f1 : (w.alloc (.cells #[.int .i64 0, .bool false] 67)).frozen? ⟨w.heap.size, 1, none⟩ = false := by go_simp
  generalize (w.alloc (.cells #[.int .i64 0, .bool false] 67)) = W at E1 c0 c1 f0 f1 ⊢
  go_loopw [4] (fun i wr => ∃ k : Nat, k ≤ 6 ∧ i = .int .i64 k ∧ Hid (rdOf (rdGo s.toList (2 * k)) = ((xa, xo), bo)) ∧ Ext W wr) (fun i _ => 6 - (intOf i).toNat)
  case atStart => exact ⟨0, by omega, rfl, H0, Ext.refl _⟩
  case round =>
    obtain ⟨k, hk, rfl, hz, he⟩ := hrel
    clear H0
    obtain ⟨wo, hwo⟩ : ∃ wo : World, wo = wr := ⟨_, rfl⟩
    subst hwo
    by_cases hlt : k < 6
    · go_wp2
      have E2 : Ext wo (wo.alloc (.cells #[.bool false, .bool true] 4)) := extA
      have b0 : (wo.alloc (.cells #[.bool false, .bool true] 4)).cell? ⟨wo.heap.size, 0, none⟩ = some (.bool false) := by go_simp
      have b1 : (wo.alloc (.cells #[.bool false, .bool true] 4)).cell? ⟨wo.heap.size, 1, none⟩ = some (.bool true) := by go_simp
      generalize (wo.alloc (.cells #[.bool false, .bool true] 4)) = W2 at E2 b0 b1 ⊢
      have HZ0 : Hid (rdOf (rdGo s.toList (2 * k + 0)) = ((xa, xo), bo)) := hz
      clear hz
      have hki : (k : Int) < 6 := by omega
      (try simp only [decide_eq_true hki])
      clear hki
      go_loopw [14] (fun i wr => ∃ j : Nat, j ≤ 2 ∧ i = .int .i64 j ∧ Hid (rdOf (rdGo s.toList (2 * k + j)) = ((xa, xo), bo)) ∧ Ext W2 wr) (fun i _ => 2 - (intOf i).toNat)
      case atStart => exact ⟨0, by omega, rfl, HZ0, Ext.refl _⟩
      case round =>
        obtain ⟨j, hj, rfl, hz, hE⟩ := hrel
        clear HZ0
        have d0 := hE.cell b0
        have d1 := hE.cell b1
        by_cases hjl : j < 2
        · have dj : wr.cell? ⟨wo.heap.size, j, none⟩ = some (.bool (decide (j = 1))) := by
            have : j = 0 ∨ j = 1 := by omega
            rcases this with rfl | rfl
            · exact d0
            · exact d1
          have hst := rd_step s.toList k j hlt hjl
          have hz1 := hz.out
          rw [hst] at hz1
          have HZ1 := Lib.hid hz1
          clear hz1 hz hst d0 d1
          generalize hoo : decide (j = 1) = oo at dj HZ1
          go_wp2_with fail
          refine (written_any k oo _ hlt).mono ?_
          rintro e w3 ⟨⟨t, rfl, ht⟩, hE3⟩
          have E3 : Ext W2 w3 := extA
          have g7 := hE3.cell (show (wr.alloc (.cells #[.int .i64 (k : Int), .bool oo] 67)).cell? ⟨wr.heap.size, 0, none⟩ = some (.int .i64 (k : Int)) by go_simp)
          have g8 := hE3.cell (show (wr.alloc (.cells #[.int .i64 (k : Int), .bool oo] 67)).cell? ⟨wr.heap.size, 1, none⟩ = some (.bool oo) by go_simp)
          have E4 := (he.trans E2).trans E3
          have k0 := E4.cell c0
          have k1 := E4.cell c1
          have m0 := (Below.frozen (p := ⟨w.heap.size, 0, none⟩) E4 (cell_lt c0)).trans f0
          have m1 := (Below.frozen (p := ⟨w.heap.size, 1, none⟩) E4 (cell_lt c1)).trans f1
          have hz1 := HZ1.out
          rw [← ht] at hz1
          clear HZ1 hE hE3 dj ht
          cases hq : (t.toList == s.toList)
          · rw [hq] at hz1
            have HZ : Hid (rdOf (rdGo s.toList (2 * k + (j + 1))) = ((xa, xo), bo)) := hz1
            clear hz1
            go_wp2
            refine ⟨⟨j + 1, by omega, by go_num, HZ, E3⟩, by simp [intOf]; omega⟩
          · rw [hq] at hz1
            have HZ : Hid ((k : Int) = xa ∧ oo = xo ∧ true = bo) := by
              simp only [if_true, rdOf, Prod.mk.injEq] at hz1
              exact ⟨hz1.1.1, hz1.1.2, hz1.2⟩
            clear hz1
            have EF : Ext w ((w3.setCell ⟨w.heap.size, 0, none⟩ (.int .i64 (k : Int))).setCell ⟨w.heap.size, 1, none⟩ (.bool oo)) := ((E1.trans E4).set (by omega) _).set (by omega) _
            go_wp2
            refine bodyPost_ret (v := .tuple #[.agg #[.int .i64 (k : Int), .bool oo], .bool true]) (by rw [results_cell_tmp1 rfl]; go_simp) rfl ⟨?_, EF⟩
            rw [HZ.out.1, HZ.out.2.1, HZ.out.2.2]
        · have hj2 : j = 2 := by omega
          subst hj2
          have HZ : Hid (rdOf (rdGo s.toList (2 * (k + 1))) = ((xa, xo), bo)) := hz
          clear hz
          go_wp2
          refine ⟨⟨k + 1, by omega, by go_num, HZ, (he.trans E2).trans hE⟩, by simp [intOf]; omega⟩
    · have hk6 : k = 6 := by omega
      subst hk6
      have HZ : Hid ((0 : Int) = xa ∧ false = xo ∧ false = bo) := by
        have hz1 := hz.out
        rw [show 2 * 6 = 12 from rfl, rd_end] at hz1
        simp only [rdOf, stk0, Prod.mk.injEq] at hz1
        exact ⟨hz1.1.1, hz1.1.2, hz1.2⟩
      clear hz
      have k0 := he.cell c0
      have k1 := he.cell c1
      have m0 := (Below.frozen (p := ⟨w.heap.size, 0, none⟩) he (cell_lt c0)).trans f0
      have m1 := (Below.frozen (p := ⟨w.heap.size, 1, none⟩) he (cell_lt c1)).trans f1
      have EF : Ext w ((wo.setCell ⟨w.heap.size, 0, none⟩ (.int .i64 0)).setCell ⟨w.heap.size, 1, none⟩ (.bool false)) := ((E1.trans he).set (by omega) _).set (by omega) _
      go_wp2
      refine bodyPost_ret (v := .tuple #[.agg #[.int .i64 0, .bool false], .bool false]) (by rw [results_cell_tmp1 rfl]; go_simp) rfl ⟨?_, EF⟩
      rw [← HZ.out.1, ← HZ.out.2.1, ← HZ.out.2.2]
end Go.Proofs.YtdolibeceijnnaaDoor
namespace Go.Proofs.YtdolibeceijnnaaDoor
open Go.RowKit
theorem toL_get (s : ByteArray) {k : Nat} (h : k < s.size) : s.toList.getD k 0 = s[k] := by
  have h' : k < s.data.size := h
  rw [ByteArray.toList_eq, List.getD_eq_getElem?_getD, Array.getElem?_toList, Array.getElem?_eq_getElem h']
  rfl
set_option maxHeartbeats 4000000 in
theorem Number_any (s : ByteArray) (N : Int) (w : World) (h : numL s.toList = some N) :
    Calls Tryd.prog 102 #[.string s] w fun r w' => r = .returned (.tuple #[.int .i64 N, .bool true]) ∧ Ext w w' := by
  unfold numL at h
  by_cases hg : s.toList.length < 2 ∨ 7 < s.toList.length ∨ s.toList.getD 0 0 = 48
  · rw [if_pos hg] at h; cases h
  rw [if_neg hg] at h
  rw [toL_len] at hg
  have H0 : Hid (numGo (s.toList.drop 0) 0 = some N) := h
  have h2 : 2 ≤ s.size := by omega
  have h7 : s.size ≤ 7 := by omega
  have h8 : ¬ ((7 : Int) < (s.size : Int)) := by omega
  have h9 : (1 : Int) < (s.size : Int) := by omega
  have hne : (s.toList == ([] : List UInt8)) = false := by
    rw [← toL_len] at h2
    cases hs : s.toList with
    | nil => rw [hs] at h2; simp at h2
    | cons c l => rfl
  have hb : (0 : Nat) < s.size := by omega
  have hgn : s.toList.getD 0 0 ≠ 48 := fun a => hg (.inr (.inr a))
  clear h hg
  have hg0 : ((s[0].toNat : Int) == 48) = false := by
    have e := toL_get s hb
    have g := hgn
    rw [e] at g
    have : s[0].toNat ≠ 48 := fun x => g (UInt8.toNat_inj.1 x)
    simpa using (show ((s[0].toNat : Int)) ≠ 48 by omega)
  clear hgn
  go_enter Tryd.func102, Tryd.ntmps102
  go_wp2
  go_loopw [5, 4] (fun i v wr => ∃ (k : Nat) (m : Int), k ≤ s.size ∧ i = .int .i64 k ∧ v = .int .i64 m ∧ 0 ≤ m ∧ Hid (m < 10 ^ k) ∧ Hid (numGo (s.toList.drop k) m = some N) ∧ w = wr) (fun i _ _ => s.size - (intOf i).toNat)
  case atStart => exact ⟨0, 0, by omega, rfl, rfl, by omega, by show (0 : Int) < 10 ^ 0; decide, H0, rfl⟩
  case round =>
    obtain ⟨k, m, hk, rfl, rfl, hm0, hm1, hz, rfl⟩ := hrel
    clear H0
    by_cases hlt : k < s.size
    · have hz1 := hz.out
      have e := toL_get s hlt
      rw [drop_cons s.toList 0 (by rw [toL_len]; exact hlt), e] at hz1
      unfold numGo at hz1
      by_cases hc : s[k] < 48 ∨ 57 < s[k]
      · rw [if_pos hc] at hz1; cases hz1
      rw [if_neg hc] at hz1
      have c1 : ¬ s[k].toNat < 48 := fun x => hc (.inl (UInt8.lt_iff_toNat_lt.2 x))
      have c2 : ¬ 57 < s[k].toNat := fun x => hc (.inr (UInt8.lt_iff_toNat_lt.2 x))
      have hp : (10 : Int) ^ k ≤ 10 ^ 6 := by
        have : 10 ^ k ≤ 10 ^ 6 := Nat.pow_le_pow_right (by omega) (by omega)
        exact_mod_cast this
      have hm2 := hm1.out
      have hsu : (10 : Int) ^ (k + 1) = 10 ^ k * 10 := Int.pow_succ ..
      have hp6 : (10 : Int) ^ 6 = 1000000 := by decide
      have HZ := Lib.hid hz1
      have HM : Hid (10 * m + ((s[k].toNat : Int) - 48) < 10 ^ (k + 1)) := by show _ < _; rw [hsu]; omega
      have d1 : ¬ ((s[k].toNat : Int) < 48) := by omega
      have d2 : ¬ (57 < (s[k].toNat : Int)) := by omega
      have w1 : IntKind.u8.wrap ((s[k].toNat : Int) - 48) = (s[k].toNat : Int) - 48 := IntWalk.u8_in _ (by omega)
      have w2 : IntKind.i64.wrap ((s[k].toNat : Int) - 48) = (s[k].toNat : Int) - 48 := IntWalk.i64_in _ (by omega)
      have w3 : IntKind.i64.wrap (10 * m) = 10 * m := IntWalk.i64_in _ (by omega)
      have w4 : IntKind.i64.wrap (10 * m + ((s[k].toNat : Int) - 48)) = 10 * m + ((s[k].toNat : Int) - 48) := IntWalk.i64_in _ (by omega)
      have hq0 : 0 ≤ 10 * m + ((s[k].toNat : Int) - 48) := by omega
      clear hz hz1 hm1 hm2 hsu hc e hp hp6
      generalize hch : s[k].toNat = ch at d1 d2 w1 w2 w3 w4 c1 c2 HZ HM hq0
      go_wp2
      refine ⟨⟨k + 1, _, by omega, by go_num, rfl, hq0, HM, HZ, trivial⟩, by simp [intOf]; omega⟩
    · have hz1 := hz.out
      rw [List.drop_eq_nil_of_le (by rw [toL_len]; omega)] at hz1
      have HN : Hid (m = N) := by show m = N; exact Option.some.inj hz1
      clear hz hz1
      go_wp2
      go_ret2
      have hmn := HN.out
      subst hmn
      exact ⟨rfl, Ext.refl _⟩
end Go.Proofs.YtdolibeceijnnaaDoor
namespace Go.Proofs.YtdolibeceijnnaaDoor
open Go.RowKit
def StpPost (x : Stp) (w : World) (e : Ending) (w' : World) : Prop := ∃ v, e = .returned (.tuple #[.agg #[v, .int .i64 x.2], .int .i64 0]) ∧ OwnsK w' v x.1 ∧ (∀ b, v.ownBlock = some b → w.heap.size ≤ b) ∧ Ext w w'
structure StSt (b : Nat) (W0 wr : World) (P : List Stk) (wt : Int) : Prop where
  ch : Chg (fun k => k = b) W0 wr
  v : ∃ v, wr.cell? ⟨b, 0, none⟩ = some v ∧ OwnsK wr v P ∧ ∀ k, v.ownBlock = some k → W0.heap.size ≤ k
  c1 : wr.cell? ⟨b, 1, none⟩ = some (.int .i64 wt)
  f0 : wr.frozen? ⟨b, 0, none⟩ = false
  f1 : wr.frozen? ⟨b, 1, none⟩ = false
theorem StSt.ext {b : Nat} {W0 A B : World} {P : List Stk} {wt : Int} (h : StSt b W0 A P wt) (k : Ext A B) : StSt b W0 B P wt := by
  obtain ⟨h1, ⟨v, h2, h3, h4⟩, h5, h6, h7⟩ := h
  exact ⟨h1.trans (Chg.ext k), ⟨v, k.cell h2, h3.ext k, h4⟩, k.cell h5, (Below.frozen (p := ⟨b, 0, none⟩) k (cell_lt h2)).trans h6, (Below.frozen (p := ⟨b, 1, none⟩) k (cell_lt h5)).trans h7⟩
set_option maxHeartbeats 8000000 in
set_option maxRecDepth 100000 in
theorem Step_any (s : ByteArray) (X : Stp) (w : World) (hs : s.size ≤ 5000) (h : stepL s.toList = some X) :
    Calls Tryd.prog 89 #[.string s] w (StpPost X w) := by
  obtain ⟨hstep, hck⟩ : stepW ((cutS s ⟨#[32]⟩).map ByteArray.toList) [] = some X ∧ ckStep X = 0 := by
    unfold stepL at h
    have h2 := Option.filter_eq_some_iff.1 h
    refine ⟨?_, by simpa using h2.2⟩
    rw [cutS_map, show (⟨#[32]⟩ : ByteArray).toList = [32] by rw [ByteArray.toList_eq]]
    exact h2.1
  have H0 : Hid (stepW (((cutS s ⟨#[32]⟩).map ByteArray.toList).drop 0) [] = some X) := hstep
  have HCK := Lib.hid hck
  have hXl : X.1.length ≤ 6 := (ckStep_strokes hck).2.1
  clear h hstep hck
  obtain ⟨ws, hws⟩ : ∃ ws, ws = cutS s ⟨#[32]⟩ := ⟨_, rfl⟩
  rw [← hws] at H0
  obtain ⟨i0, hi, hi0, hi1, hi2⟩ := info_parts infoStk
  go_enter Tryd.func89, Tryd.ntmps89
  go_wp2_with fail
  have E1 : Ext w ((w.alloc (.cells #[.slice none 0 0, .int .i64 0] 65)).alloc (.cells #[.slice none 0 0, .int .i64 0] 65)) := extA
  have c0 : ((w.alloc (.cells #[.slice none 0 0, .int .i64 0] 65)).alloc (.cells #[.slice none 0 0, .int .i64 0] 65)).cell? ⟨w.heap.size, 0, none⟩ = some (.slice none 0 0) := by go_simp
  have c1 : ((w.alloc (.cells #[.slice none 0 0, .int .i64 0] 65)).alloc (.cells #[.slice none 0 0, .int .i64 0] 65)).cell? ⟨w.heap.size, 1, none⟩ = some (.int .i64 0) := by go_simp
  have c2 : ((w.alloc (.cells #[.slice none 0 0, .int .i64 0] 65)).alloc (.cells #[.slice none 0 0, .int .i64 0] 65)).cell? ⟨w.heap.size + 1, 0, none⟩ = some (.slice none 0 0) := by go_simp
  have c3 : ((w.alloc (.cells #[.slice none 0 0, .int .i64 0] 65)).alloc (.cells #[.slice none 0 0, .int .i64 0] 65)).cell? ⟨w.heap.size + 1, 1, none⟩ = some (.int .i64 0) := by go_simp
  have f0 : ((w.alloc (.cells #[.slice none 0 0, .int .i64 0] 65)).alloc (.cells #[.slice none 0 0, .int .i64 0] 65)).frozen? ⟨w.heap.size, 0, none⟩ = false := by go_simp
  have f1 : ((w.alloc (.cells #[.slice none 0 0, .int .i64 0] 65)).alloc (.cells #[.slice none 0 0, .int .i64 0] 65)).frozen? ⟨w.heap.size, 1, none⟩ = false := by go_simp
  have f2 : ((w.alloc (.cells #[.slice none 0 0, .int .i64 0] 65)).alloc (.cells #[.slice none 0 0, .int .i64 0] 65)).frozen? ⟨w.heap.size + 1, 0, none⟩ = false := by go_simp
  have f3 : ((w.alloc (.cells #[.slice none 0 0, .int .i64 0] 65)).alloc (.cells #[.slice none 0 0, .int .i64 0] 65)).frozen? ⟨w.heap.size + 1, 1, none⟩ = false := by go_simp
  have hsz : ((w.alloc (.cells #[.slice none 0 0, .int .i64 0] 65)).alloc (.cells #[.slice none 0 0, .int .i64 0] 65)).heap.size = w.heap.size + 2 := by go_simp
  generalize ((w.alloc (.cells #[.slice none 0 0, .int .i64 0] 65)).alloc (.cells #[.slice none 0 0, .int .i64 0] 65)) = W1 at E1 c0 c1 c2 c3 f0 f1 f2 f3 hsz ⊢
  refine (Cut_any s ⟨#[32]⟩ _ hs (by decide) (by decide)).mono ?_
  rintro e W ⟨ta, tc, rfl, hcs, hls, htb, hE⟩
  rw [← hws] at hcs hls htb ⊢
  rw [hsz] at htb
  unfold maxLen at hls
  have HCS := Lib.hid hcs
  have HTB := Lib.hid htb
  have E2 := E1.trans hE
  have hWs := hE.size
  rw [hsz] at hWs
  clear hsz
  have M0 : Hid (StSt (w.heap.size + 1) W W [] 0) := ⟨Chg.refl _ _, ⟨_, hE.cell c2, OwnsK.nil _, fun b hb => by cases hb⟩, hE.cell c3, (Below.frozen (p := ⟨w.heap.size + 1, 0, none⟩) hE (cell_lt c2)).trans f2, (Below.frozen (p := ⟨w.heap.size + 1, 1, none⟩) hE (cell_lt c3)).trans f3⟩
  have g0 := (Below.frozen (p := ⟨w.heap.size, 0, none⟩) hE (cell_lt c0)).trans f0
  have g1 := (Below.frozen (p := ⟨w.heap.size, 1, none⟩) hE (cell_lt c1)).trans f1
  have c0 := hE.cell c0
  have c1 := hE.cell c1
  clear hcs htb E1 hE c2 c3 f0 f1 f2 f3 hws hs
  go_wp2
  go_loopw [6] (fun i wr => ∃ k : Nat, k ≤ ws.length ∧ i = .int .i64 k ∧ (∃ (P : List Stk) (wt : Int), Hid (StSt (w.heap.size + 1) W wr P wt) ∧ Hid ((wt = 0 ∧ P.length ≤ k ∧ P.length ≤ 6 ∧ stepW ((ws.map ByteArray.toList).drop k) P = some X) ∨ (k = ws.length ∧ X = (P, wt)))) ∧ Ext w wr) (fun i _ => ws.length - (intOf i).toNat)
  case atStart => exact ⟨0, by omega, rfl, ⟨[], 0, M0, .inl ⟨rfl, by simp, by simp, H0.out⟩⟩, E2⟩
  case round =>
    obtain ⟨k, hk, rfl, ⟨P, wt, M, hz⟩, he⟩ := hrel
    clear M0 H0
    have hch := M.out.ch
    by_cases hlt : k < ws.length
    · obtain ⟨rfl, hPk, hP6, hst⟩ : wt = 0 ∧ P.length ≤ k ∧ P.length ≤ 6 ∧ stepW ((ws.map ByteArray.toList).drop k) P = some X := by
        rcases hz.out with h | h
        · exact h
        · exact absurd h.1 (by omega)
      obtain ⟨tb, tf, rfl, t1⟩ := HCS.out k hlt
      have htbW : w.heap.size + 2 ≤ tb := by
        have := HTB.out tb tf rfl (List.length_pos_iff.1 (by omega)); omega
      have t1 := hch.cell (p := ⟨tb, tf + k, none⟩) (by show ¬ tb = w.heap.size + 1; omega) t1
      have hmd : (ws.map ByteArray.toList).getD k [] = (ws.getD k str0).toList := by
        rw [List.getD_eq_getElem?_getD, List.getElem?_map, List.getD_eq_getElem?_getD, List.getElem?_eq_getElem hlt]; rfl
      rw [drop_cons _ [] (by rw [List.length_map]; exact hlt), hmd] at hst
      generalize ws.getD k str0 = y at t1 hst
      obtain ⟨vv, v1, v2, v3⟩ := M.out.v
      have q1 := M.out.c1
      have q2 := M.out.f0
      have q3 := M.out.f1
      unfold stepW at hst
      cases hr : readL y.toList with
      | some st =>
        rw [hr] at hst
        simp only at hst
        have hl6 := (stepW_len hst).1
        rw [List.length_append] at hl6
        simp only [List.length_cons, List.length_nil] at hl6
        have HST := Lib.hid hst
        have HRD : Hid (rdOf (readL y.toList) = (st, true)) := by show _ = _; rw [hr]; rfl
        obtain ⟨sta, sto⟩ := st
        clear hz hst hr
        go_wp2_with fail
        refine (read_any y _ _ _ HRD.out).mono ?_
        rintro e w3 ⟨rfl, hE3⟩
        have E3 : Ext w w3 := he.trans hE3
        have M3 := Lib.hid (M.out.ext hE3)
        have v1 := hE3.cell v1
        have q1 := hE3.cell q1
        have V2 := Lib.hid (v2.ext hE3)
        have V3 := Lib.hid v3
        have q2 := M3.out.f0
        have q3 := M3.out.f1
        clear M v2 v3 t1 hE3
        dsimp only
        have z1 := cell_lt v1
        dsimp only at z1
        go_wp2_with (at_builtin; refine wpList_append1 _ rfl _ _ 45 rfl 67 i0 (.agg #[.int .i64 0, .bool false]) 2 16 Tryd.underlying45 hi hi0 hi1 hi2 rfl (by decide) vv P.length (flatK P) rfl ?ho ⟨w3.heap.size + 1, 0, none⟩ 1 1 (by decide) [.int .i64 sta, .bool sto] rfl rfl ?hn ?c1 ?c2 ?c3 ?c4)
        case ho => exact V2.out.ext (((Ext.refl _).alloc _).alloc _)
        case hn =>
          have hh := cells_one (w3.alloc (.cells #[.int .i64 sta, .bool sto] 67)) [.int .i64 sta, .bool sto] 67
          simpa using hh
        case c1 => intro u hu; simp at hu; rcases hu with rfl | rfl <;> rfl
        case c2 => unfold maxLen; omega
        case c3 => omega
        case c4 =>
          intro v' w7 hown7 hend7
          have O7 : OwnsK w7 v' (P ++ [(sta, sto)]) := ownsK_succ hown7
          have EA : Ext w3 ((w3.alloc (.cells #[.int .i64 sta, .bool sto] 67)).alloc (.cells #[.int .i64 sta, .bool sto] 67)) := extA
          have hgr := hend7.chg
          have hsA := EA.size
          have hW3 : W.heap.size ≤ w3.heap.size := M3.out.ch.1
          have E7 : Ext w w7 := (E3.trans EA).trans' (hend7.below (n := W.heap.size) (by omega) V3.out) (by omega)
          have V7 := hend7.ge (n := W.heap.size) (by omega) V3.out
          have same7 : ∀ (p : Addr) (v : Value), p.block = w.heap.size + 1 → w3.cell? p = some v → w7.cell? p = some v ∧ w7.frozen? p = w3.frozen? p := fun p v hp hc => by
            have h1 := hgr.1 p.block (EA.size_lt (cell_lt hc)) (fun e => by have := V3.out _ e; omega)
            exact ⟨(World.cell?_of_block (w := _) h1).trans (EA.cell hc), (World.frozen?_of_block (w := _) h1).trans (Below.frozen (p := p) EA (cell_lt hc))⟩
          have C7 : Chg (fun k => k = w.heap.size + 1) W w7 := by
            refine ⟨by have := hgr.2.1; omega, fun b hb hn => ?_⟩
            have e1 := hgr.1 b (by omega) (fun e => by have := V3.out _ e; omega)
            exact (e1.trans (Below.block EA b (by omega))).trans (M3.out.ch.2 b hb hn)
          obtain ⟨r0, rf0⟩ := same7 ⟨w.heap.size + 1, 0, none⟩ _ rfl v1
          obtain ⟨r1, rf1⟩ := same7 ⟨w.heap.size + 1, 1, none⟩ _ rfl q1
          rw [q2] at rf0
          rw [q3] at rf1
          have HO7 := Lib.hid O7
          have HV7 := Lib.hid V7
          obtain ⟨va, vc, hvv, _, _⟩ := O7.reads
          have hlen : (P ++ [(sta, sto)]).length = P.length + 1 := by rw [List.length_append]; rfl
          rw [hlen] at hvv
          subst hvv
          have MN : Hid (StSt (w.heap.size + 1) W (w7.setCell ⟨w.heap.size + 1, 0, none⟩ (.slice va (P.length + 1) vc)) (P ++ [(sta, sto)]) 0) := by
            refine ⟨C7.trans (Chg.setCell (B := fun k => k = w.heap.size + 1) ⟨w.heap.size + 1, 0, none⟩ _ rfl), ⟨_, World.cell?_setCell_same _ _ _ r0, ?_, HV7.out⟩, ?_, by rw [World.frozen?_setCell]; exact rf0, by rw [World.frozen?_setCell]; exact rf1⟩
            · exact rowSame HO7.out (fun b hb => Below.heap_setCell _ _ _ _ (fun e => by have h9 := HV7.out b hb; dsimp only at e; omega))
            · rw [World.cell?_setCell_other _ _ _ _ (fun h => by simp only [Addr.mk.injEq] at h; omega)]; exact r1
          have E8 : Ext w (w7.setCell ⟨w.heap.size + 1, 0, none⟩ (.slice va (P.length + 1) vc)) := E7.set (by omega) _
          have HMZ := Lib.hid hlen
          clear hown7 hend7 hgr same7 O7 V7 C7 hlen EA E7 M3 V2 V3 rf1 r1
          go_wp2
          refine ⟨⟨k + 1, by omega, by go_num, ⟨_, 0, MN, .inl ⟨rfl, by rw [HMZ.out]; omega, by rw [HMZ.out]; omega, HST.out⟩⟩, E8⟩, by simp [intOf]; omega⟩
      | none =>
        rw [hr] at hst
        simp only at hst
        by_cases hys : (((ws.map ByteArray.toList).drop (k + 1)).length = 0 ∧ P.length ≠ 0)
        · rw [if_pos hys] at hst
          have hke : k + 1 = ws.length := by
            have := hys.1
            rw [List.length_drop, List.length_map] at this; omega
          have hk0 : ¬ (k : Int) = 0 := by have := hys.2; omega
          have hk1 : ¬ k = 0 := by omega
          cases hn : numL y.toList with
          | none => rw [hn] at hst; cases hst
          | some n =>
            rw [hn] at hst
            simp only at hst
            by_cases hn0 : n = 0
            · rw [if_pos hn0] at hst; cases hst
            rw [if_neg hn0] at hst
            have HX : Hid ((P, n) = X) := Option.some.inj hst
            have HRD : Hid (rdOf (readL y.toList) = (stk0, false)) := by show _ = _; rw [hr]; rfl
            have HNN := Lib.hid hn
            have hys2 := hys.2
            clear hz hst hr hn hys
            go_wp2_with fail
            refine (read_any y _ _ _ HRD.out).mono ?_
            rintro e w3 ⟨rfl, hE3⟩
            dsimp only
            have E3 : Ext w w3 := he.trans hE3
            have M3 := Lib.hid (M.out.ext hE3)
            have v1 := hE3.cell v1
            have q1 := hE3.cell q1
            have t1 := hE3.cell t1
            have z1 := cell_lt v1
            have z2 := cell_lt t1
            dsimp only at z1 z2
            have V2 := Lib.hid (v2.ext hE3)
            have V3 := Lib.hid v3
            have q2 := M3.out.f0
            have q3 := M3.out.f1
            clear M v2 v3 hE3
            go_wp2_with fail
            refine (Number_any y n _ HNN.out).mono ?_
            rintro e w5 ⟨rfl, hE5⟩
            have EN : Ext w3 w5 := extA
            have M5 := Lib.hid (M3.out.ext EN)
            have E5 : Ext w w5 := E3.trans EN
            have v1 := EN.cell v1
            have q1 := EN.cell q1
            have q2 := M5.out.f0
            have q3 := M5.out.f1
            have O5 := Lib.hid (V2.out.ext EN)
            have MN : Hid (StSt (w.heap.size + 1) W (w5.setCell ⟨w.heap.size + 1, 1, none⟩ (.int .i64 n)) P n) := by
              refine ⟨M5.out.ch.trans (Chg.setCell (B := fun k => k = w.heap.size + 1) ⟨w.heap.size + 1, 1, none⟩ _ rfl), ⟨vv, ?_, ?_, V3.out⟩, World.cell?_setCell_same _ _ _ q1, by rw [World.frozen?_setCell]; exact q2, by rw [World.frozen?_setCell]; exact q3⟩
              · rw [World.cell?_setCell_other _ _ _ _ (fun h => by simp only [Addr.mk.injEq] at h; omega)]; exact v1
              · exact rowSame O5.out (fun b hb => Below.heap_setCell _ _ _ _ (fun e => by have h9 := V3.out b hb; dsimp only at e; omega))
            have E8 : Ext w (w5.setCell ⟨w.heap.size + 1, 1, none⟩ (.int .i64 n)) := E5.set (by omega) _
            have hkl : (k : Int) + 1 = (ws.length : Int) := by omega
            have hkm : ¬ ((k : Int) < (ws.length : Int) - 1) := by omega
            have hwm : IntKind.i64.wrap ((ws.length : Int) - 1) = (ws.length : Int) - 1 := IntWalk.i64_in _ (by omega)
            have hb1 : (n == 0) = false := by simpa using hn0
            have hb2 : ((k : Int) == 0) = false := by simpa using hk0
            have hb3 : decide ((k : Int) < (ws.length : Int) - 1) = false := decide_eq_false hkm
            clear hE5 EN M3 V2 M5 O5
            go_wp2
            refine ⟨⟨k + 1, by omega, by go_num, ⟨P, n, MN, .inr ⟨hke, HX.out.symm⟩⟩, E8⟩, by simp [intOf]; omega⟩
        · rw [if_neg hys] at hst; cases hst
    · have hkk : k = ws.length := by omega
      have HX : Hid (X = (P, wt)) := by
        rcases hz.out with h | h
        · obtain ⟨rfl, _, _, h3⟩ := h
          rw [List.drop_eq_nil_of_le (by rw [List.length_map]; omega)] at h3
          exact (Option.some.inj h3).symm
        · exact h.2
      obtain ⟨vv, v1, v2, v3⟩ := M.out.v
      have q1 := M.out.c1
      have z1 := cell_lt v1
      dsimp only at z1
      obtain ⟨va, vc, rfl, hva, hvl, _⟩ := v2.reads
      have hck := HCK.out
      rw [HX.out] at hck
      have HCK2 := Lib.hid hck
      have HVA := Lib.hid hva
      have HVL := Lib.hid hvl
      have V2 := Lib.hid v2
      have V3 := Lib.hid v3
      have u0 := hch.cell (p := ⟨w.heap.size, 0, none⟩) (by show ¬ w.heap.size = w.heap.size + 1; omega) c0
      have u1 := hch.cell (p := ⟨w.heap.size, 1, none⟩) (by show ¬ w.heap.size = w.heap.size + 1; omega) c1
      have y0 := (hch.frozen (p := ⟨w.heap.size, 0, none⟩) (by show ¬ w.heap.size = w.heap.size + 1; omega) c0).trans g0
      have y1 := (hch.frozen (p := ⟨w.heap.size, 1, none⟩) (by show ¬ w.heap.size = w.heap.size + 1; omega) c1).trans g1
      clear hz hck hva hvl v2 v3 M hch
      go_wp2_with fail
      refine (CheckStepR_any P wt va vc _ HVL.out HVA.out).mono ?_
      rintro e w5 ⟨rfl, hE5⟩
      rw [HCK2.out]
      have y0 := (Below.frozen (p := ⟨w.heap.size, 0, none⟩) hE5 (cell_lt u0)).trans y0
      have y1 := (Below.frozen (p := ⟨w.heap.size, 1, none⟩) hE5 (cell_lt u1)).trans y1
      have u0 := hE5.cell u0
      have u1 := hE5.cell u1
      have v1 := hE5.cell v1
      have q1 := hE5.cell q1
      have O5 := Lib.hid (V2.out.ext hE5)
      have E5 : Ext w w5 := he.trans hE5
      have EF : Ext w ((w5.setCell ⟨w.heap.size, 0, none⟩ (.slice va P.length vc)).setCell ⟨w.heap.size, 1, none⟩ (.int .i64 wt)) := (E5.set (by omega) _).set (by omega) _
      have HFO : Hid (OwnsK ((w5.setCell ⟨w.heap.size, 0, none⟩ (.slice va P.length vc)).setCell ⟨w.heap.size, 1, none⟩ (.int .i64 wt)) (.slice va P.length vc) P) :=
        rowSame O5.out (fun b hb => by
          have h9 := V3.out b hb
          refine (Below.heap_setCell _ _ _ _ (fun e => ?_)).trans (Below.heap_setCell _ _ _ _ (fun e => ?_)) <;> dsimp only at e <;> omega)
      have HFV : Hid (∀ b, (Value.slice va P.length vc).ownBlock = some b → w.heap.size ≤ b) := fun b hb => by have h9 := V3.out b hb; omega
      clear V2 V3 O5 hE5 HVA he
      go_wp2
      refine bodyPost_ret (v := .tuple #[.agg #[.slice va P.length vc, .int .i64 wt], .int .i64 0]) (by rw [results_cell_tmp1 rfl]; go_simp) rfl ?_
      rw [HX.out]
      exact ⟨_, rfl, HFO.out, HFV.out, EF⟩
end Go.Proofs.YtdolibeceijnnaaDoor
namespace Go.Proofs.YtdolibeceijnnaaDoor
open Go.RowKit
theorem cutGo_small (s b : ByteArray) (n i f : Nat) : ∀ x ∈ cutGo s b n i f, x.size ≤ s.size := by
  have hx : ∀ i j : Nat, (s.extract i j).size ≤ s.size := fun i j => by rw [ByteArray.size_extract]; omega
  induction n generalizing i f with
  | zero => intro x h; simp only [cutGo, List.mem_singleton] at h; subst h; exact hx _ _
  | succ n ih =>
    intro x h
    unfold cutGo at h
    split at h
    · split at h
      · split at h
        · rcases List.mem_cons.1 h with rfl | h
          · exact hx _ _
          · exact ih _ _ _ h
        · exact ih _ _ _ h
      · exact ih _ _ _ h
    · rw [List.mem_singleton] at h; subst h; exact hx _ _
def olB (w : World) : Nat → Prop := fun b => b < w.heap.size
def StpsPost (l : List Stp) (w : World) (e : Ending) (w' : World) : Prop := ∃ v, e = .returned (.tuple #[v, .int .i64 0, .int .i64 0]) ∧ QU (olB w) w' v l ∧ Ext w w'
theorem OwnsP.app2 {X : Nat → Prop} {A B : World} {v v' : Value} {ys : List Stp} {u : Value} {y : Stp} {ps : List (Value × Stp)} (h1 : ps.map (·.2) = ys) (h3 : ∀ p ∈ ps, SliceKX (fun b => X b ∨ v.ownBlock = some b) A p.1 p.2.1) (hu : SliceKX (fun b => X b ∨ v.ownBlock = some b) A u y.1) (_hX : ∀ b, X b → b < A.heap.size)
    (hown : B.ownsRow 0 65 2 v' (ys.length + 1) (flat2 (pairP ps) ++ [u, .int .i64 y.2])) (he : AppEnd A B v v') : OwnsP X B v' (ys ++ [y]) := by
  refine ⟨ps ++ [(u, y)], by rw [List.map_append, h1]; rfl, ?_, ?_⟩
  · unfold pairP at hown ⊢
    rw [List.length_append, List.map_append, flat2_append]
    exact hown
  · have c : Chg (fun b => X b ∨ v.ownBlock = some b) A B := by
      rcases he with ⟨_, _, hg⟩ | ⟨_, hx⟩
      · exact ⟨hg.size, fun k hk hn => hg.block k hk (fun e => hn (.inr e.symm))⟩
      · exact Chg.ext hx
    have hy : ∀ b, b < A.heap.size → (X b ∨ v'.ownBlock = some b) → (X b ∨ v.ownBlock = some b) := fun b hb hh => by
      rcases hh with hh | hh
      · exact .inl hh
      · rcases he with ⟨hv, _, _⟩ | ⟨hv, _⟩
        · exact .inr (hv ▸ hh)
        · rw [hv] at hh; cases hh; omega
    intro p hp
    rcases List.mem_append.1 hp with hp | hp
    · exact (h3 p hp).chgX c hy
    · rcases List.mem_singleton.1 hp with rfl
      exact hu.chgX c hy
set_option maxHeartbeats 8000000 in
set_option maxRecDepth 100000 in
theorem PrsR_any (s : ByteArray) (L : List Stp) (w : World) (h : parseL s.toList = some L) :
    Calls Tryd.prog 78 #[.string s] w (StpsPost L w) := by
  obtain ⟨h1, h64, hsz, h0⟩ : stepsL ((cutS s ⟨#[59, 32]⟩).map ByteArray.toList) = some L ∧ L.length ≤ 64 ∧ s.size ≤ 4096 ∧ s.size ≠ 0 := by
    unfold parseL at h
    have h2 := Option.filter_eq_some_iff.1 h
    rw [toL_len] at h2
    have h3 := of_decide_eq_true h2.2
    refine ⟨?_, h3⟩
    rw [cutS_map, show (⟨#[59, 32]⟩ : ByteArray).toList = [59, 32] by rw [ByteArray.toList_eq]]
    exact h2.1
  obtain ⟨ws, hws⟩ : ∃ ws, ws = cutS s ⟨#[59, 32]⟩ := ⟨_, rfl⟩
  have hsm : ∀ x ∈ ws, x.size ≤ 5000 := fun x hx => by
    rw [hws] at hx
    have := cutGo_small _ _ _ _ _ x hx
    omega
  rw [← hws] at h1
  unfold stepsL at h1
  have h2 := allSome_get h1
  have hlen : ws.length = L.length := by have := congrArg List.length h2; simpa using this
  have hln1 : ws.length ≤ L.length := by omega
  have hln2 : L.length ≤ ws.length := by omega
  have HS : Hid (∀ k, k < ws.length → stepL (ws.getD k str0).toList = some (L.getD k stp0) ∧ (ws.getD k str0).size ≤ 5000) := fun k hk => by
    have := congrArg (fun l => l[k]?) h2
    simp only [List.getElem?_map] at this
    rw [List.getElem?_eq_getElem hk, List.getElem?_eq_getElem (by omega)] at this
    have e1 : ws.getD k str0 = ws[k] := by rw [List.getD_eq_getElem?_getD, List.getElem?_eq_getElem hk]; rfl
    have e2 : L.getD k stp0 = L[k] := by rw [List.getD_eq_getElem?_getD, List.getElem?_eq_getElem (by omega)]; rfl
    rw [e1, e2]
    exact ⟨Option.some.inj this, hsm _ (List.getElem_mem hk)⟩
  have hs1 : ¬ ((4096 : Int) < (s.size : Int)) := by omega
  have hne : (s.toList == ([] : List UInt8)) = false := by
    rw [← toL_len] at h0
    cases hs : s.toList with
    | nil => rw [hs] at h0; simp at h0
    | cons c l => rfl
  clear h h1 h2 h0 hsm hlen
  obtain ⟨i0, hi, hi0, hi1, hi2⟩ := info_parts infoStp
  go_enter Tryd.func78, Tryd.ntmps78
  go_wp2_with fail
  refine (Cut_any s ⟨#[59, 32]⟩ _ (by omega) (by decide) (by decide)).mono ?_
  rintro e W ⟨ta, tc, rfl, hcs, hls, _, hE⟩
  rw [← hws] at hcs hls ⊢
  unfold maxLen at hls
  have HCS := Lib.hid hcs
  clear hcs hws
  go_wp2
  go_loopw [8, 7, 5] (fun i m v wr => ∃ k : Nat, k ≤ ws.length ∧ i = .int .i64 k ∧ (∃ q : Int, m = .int .i64 q) ∧ (∃ vv, v = vv ∧ Hid (OwnsP (olB w) wr vv (L.take k) ∧ ∀ b, vv.ownBlock = some b → W.heap.size ≤ b)) ∧ Ext W wr) (fun i _ _ _ => ws.length - (intOf i).toNat)
  case atStart => exact ⟨0, by omega, rfl, ⟨0, rfl⟩, ⟨_, rfl, OwnsP.nil _ _, fun b hb => by cases hb⟩, Ext.refl _⟩
  case round =>
    obtain ⟨k, hk, rfl, ⟨q, rfl⟩, ⟨vv, hvv, hO⟩, he⟩ := hrel
    obtain rfl := hvv.symm
    have O2 := Lib.hid hO.out.1
    have OB := Lib.hid hO.out.2
    have hEw : w.heap.size ≤ W.heap.size := hE.size
    have hnx : ∀ b, vv.ownBlock = some b → ¬ olB w b := fun b hb => by have := hO.out.2 b hb; unfold olB; omega
    clear hO
    by_cases hlt : k < ws.length
    · obtain ⟨hst, hsmk⟩ := HS.out k hlt
      obtain ⟨tb, tf, rfl, t1⟩ := HCS.out k hlt
      have HT0 := Lib.hid t1
      have t1 := he.cell t1
      have HLT : Hid (L.take (k + 1) = L.take k ++ [L.getD k stp0]) := by
        show _ = _
        rw [List.take_succ_eq_append_getElem (by omega), List.getD_eq_getElem?_getD, List.getElem?_eq_getElem (by omega)]; rfl
      have HTL : Hid ((L.take k).length = k) := by show _ = _; rw [List.length_take]; omega
      generalize L.take k = P at O2 HLT HTL
      have hk64 : ((k : Int) == 64) = false := by simp; omega
      generalize ws.getD k str0 = y at t1 hst hsmk HT0
      generalize L.getD k stp0 = x at hst HLT
      have HST := Lib.hid hst
      clear hst
      obtain ⟨st, wait⟩ := x
      go_wp2_with fail
      refine (Step_any y (st, wait) _ hsmk HST.out).mono ?_
      rintro e w3 ⟨u, rfl, hu, hub, hE3⟩
      dsimp only at hu
      obtain ⟨sa, sc, rfl, hcs, hls2, hsb⟩ := hu.reads
      have HCK := Lib.hid hcs
      have HSB : Hid (∀ b off, sa = some ⟨b, off, none⟩ → st ≠ [] → wr.heap.size ≤ b) := fun b off hb hne => hub b (hsb b off hb hne).2.1
      have HU := Lib.hid hu
      have HUB := Lib.hid hub
      have t1 := hE3.cell t1
      have z1 := cell_lt t1
      dsimp only at z1
      have E3 : Ext W w3 := he.trans hE3
      have O3 := Lib.hid (O2.out.chg (Chg.ext hE3) hnx)
      have OLT : Hid (∀ b, vv.ownBlock = some b → b < wr.heap.size) := fun b hb => O2.out.lt hb
      clear hu hub hcs hsb hE3 O2
      have E6 : Ext w3 ((w3.alloc (.cells #[.slice sa st.length sc, .int .i64 wait] 65)).alloc (.cells #[.slice sa st.length sc, .int .i64 wait] 65)) := extA
      obtain ⟨ps, hp1, hp2, hp3⟩ := O3.out.chg (Chg.ext E6) hnx
      have HP3 := Lib.hid hp3
      have HP1 := Lib.hid hp1
      obtain ⟨F, hF⟩ : ∃ F, F = flat2 (pairP ps) := ⟨_, rfl⟩
      rw [← hF] at hp2
      have HF := Lib.hid hF
      have HP2 := Lib.hid hp2
      clear hp1 hp2 hp3 hF
      go_wp2_with (at_builtin; refine wpList_append1 _ rfl _ _ 22 rfl 65 i0 (.agg #[.slice none 0 0, .int .i64 0]) 2 32 Tryd.underlying22 hi hi0 hi1 hi2 rfl (by decide) vv P.length F rfl HP2.out ⟨w3.heap.size + 1, 0, none⟩ 1 1 (by decide) [.slice sa st.length sc, .int .i64 wait] rfl rfl ?hn ?c1 ?c2 ?c3 ?c4)
      case hn =>
        have hh := cells_one (w3.alloc (.cells #[.slice sa st.length sc, .int .i64 wait] 65)) [.slice sa st.length sc, .int .i64 wait] 65
        simpa using hh
      case c1 => intro u hu; simp at hu; rcases hu with rfl | rfl <;> rfl
      case c2 => rw [HTL.out]; unfold maxLen; omega
      case c3 => rw [HTL.out]; omega
      case c4 =>
        intro v' w7 hown7 hend7
        have hs6 := E6.size
        have hsW := E3.size
        have O7 : Hid (OwnsP (olB w) w7 v' (L.take (k + 1))) := by
          show OwnsP _ _ _ _
          rw [HLT.out]
          rw [HF.out] at hown7
          refine OwnsP.app2 (u := .slice sa st.length sc) (y := (st, wait)) HP1.out HP3.out ?_ (fun b hb => by unfold olB at hb; omega) hown7 hend7
          refine ⟨sa, sc, rfl, (HCK.out.ext E6), hls2, fun b off hb hne hx => ?_⟩
          rcases hx with hx | hx
          · unfold olB at hx
            have h1 := HSB.out b off hb hne
            have := he.size
            omega
          · have h1 := HSB.out b off hb hne
            have h2 := OLT.out b hx
            omega
        have B7 : Ext W w7 := (E3.trans E6).trans' (hend7.below (n := W.heap.size) (by omega) OB.out) (Nat.le_refl _)
        have OB7 : Hid (∀ b, v'.ownBlock = some b → W.heap.size ≤ b) := hend7.ge (n := W.heap.size) (by omega) OB.out
        have t7 := B7.cell (p := ⟨tb, tf + k, none⟩) (show W.cell? _ = _ from HT0.out)
        clear hown7 hend7 HP1 HP2 HP3 HF O3 E6 OB HSB HU HUB
        go_wp2
        refine ⟨⟨k + 1, by omega, by go_num, ⟨_, rfl⟩, ⟨v', rfl, O7.out, OB7.out⟩, B7⟩, by simp [intOf]; omega⟩
    · have hke : k = ws.length := by omega
      have HTE : Hid (L.take k = L) := by show _ = _; rw [hke, List.take_of_length_le (by omega)]
      go_wp2
      go_ret3
      exact ⟨_, rfl, ⟨by rw [← HTE.out]; exact O2.out, hnx⟩, hE.trans he⟩
end Go.Proofs.YtdolibeceijnnaaDoor
namespace Go.Proofs.YtdolibeceijnnaaDoor
open Go.RowKit
structure OfSt (o : Nat) (W0 wr : World) (m : Int) (u : Value) : Prop where
  be : Below o W0 wr
  c0 : wr.cell? ⟨o, 0, none⟩ = some (.int .i64 m)
  c1 : wr.cell? ⟨o, 1, none⟩ = some u
  f0 : wr.frozen? ⟨o, 0, none⟩ = false
def ofK (st : List Stk) (m : Int) : Int := st.foldl (fun m y => max m (y.1 + 1)) m
def Low (l : List Stp) : Prop := ∀ i, i < l.length → (l.getD i stp0).1.length ≤ 6 ∧ ∀ j, j < (l.getD i stp0).1.length → 0 ≤ ((l.getD i stp0).1.getD j stk0).1 ∧ ((l.getD i stp0).1.getD j stk0).1 < 6
theorem ofGo_take (l : List Stp) (m : Int) {k : Nat} (h : k < l.length) : ofGo (l.take (k + 1)) m = ofK (l.getD k stp0).1 (ofGo (l.take k) m) := by
  unfold ofGo
  rw [List.take_succ_eq_append_getElem h, List.foldl_append, List.getD_eq_getElem?_getD, List.getElem?_eq_getElem h]; rfl
theorem ofK_take (st : List Stk) (m : Int) {k : Nat} (h : k < st.length) : ofK (st.take (k + 1)) m = max (ofK (st.take k) m) ((st.getD k stk0).1 + 1) := by
  unfold ofK
  rw [List.take_succ_eq_append_getElem h, List.foldl_append, List.getD_eq_getElem?_getD, List.getElem?_eq_getElem h]; rfl
set_option maxHeartbeats 8000000 in
set_option maxRecDepth 100000 in
theorem Of_any (l : List Stp) (a : Option Addr) (cap : Nat) (w : World) (hl : l.length ≤ 64) (hc : CellsP w a l) (hlow : Low l) :
    Calls Tryd.prog 79 #[.slice a l.length cap] w fun r w' => r = .returned (.agg #[.int .i64 (ofGo l 0), .slice a l.length cap]) ∧ Ext w w' := by
  have HC := Lib.hid hc
  have HLO := Lib.hid hlow
  obtain ⟨G, hG⟩ : ∃ G, G = ofGo l 0 := ⟨_, rfl⟩
  rw [← hG]
  have HG := Lib.hid hG
  clear hc hlow hG
  go_enter Tryd.func79, Tryd.ntmps79
  go_wp2
  have E1 : Ext w ((w.alloc (.cells #[.int .i64 0, .slice none 0 0] 24)).alloc (.cells #[.int .i64 0, .slice a l.length cap] 24)) := extA
  have c0 : ((w.alloc (.cells #[.int .i64 0, .slice none 0 0] 24)).alloc (.cells #[.int .i64 0, .slice a l.length cap] 24)).cell? ⟨w.heap.size, 0, none⟩ = some (.int .i64 0) := by go_simp
  have c1 : ((w.alloc (.cells #[.int .i64 0, .slice none 0 0] 24)).alloc (.cells #[.int .i64 0, .slice a l.length cap] 24)).cell? ⟨w.heap.size, 1, none⟩ = some (.slice none 0 0) := by go_simp
  have f0 : ((w.alloc (.cells #[.int .i64 0, .slice none 0 0] 24)).alloc (.cells #[.int .i64 0, .slice a l.length cap] 24)).frozen? ⟨w.heap.size, 0, none⟩ = false := by go_simp
  have f1 : ((w.alloc (.cells #[.int .i64 0, .slice none 0 0] 24)).alloc (.cells #[.int .i64 0, .slice a l.length cap] 24)).frozen? ⟨w.heap.size, 1, none⟩ = false := by go_simp
  have M0 : Hid (OfSt (w.heap.size + 1) ((w.alloc (.cells #[.int .i64 0, .slice none 0 0] 24)).alloc (.cells #[.int .i64 0, .slice a l.length cap] 24)) ((w.alloc (.cells #[.int .i64 0, .slice none 0 0] 24)).alloc (.cells #[.int .i64 0, .slice a l.length cap] 24)) (ofGo (l.take 0) 0) (.slice a l.length cap)) := ⟨Below.refl _ _, by show _ = some (Value.int .i64 0); go_simp, by go_simp, by go_simp⟩
  generalize ((w.alloc (.cells #[.int .i64 0, .slice none 0 0] 24)).alloc (.cells #[.int .i64 0, .slice a l.length cap] 24)) = W at E1 c0 c1 f0 f1 M0 ⊢
  go_loopw [4] (fun i wr => ∃ k : Nat, k ≤ l.length ∧ i = .int .i64 k ∧ Hid (OfSt (w.heap.size + 1) W wr (ofGo (l.take k) 0) (.slice a l.length cap))) (fun i _ => l.length - (intOf i).toNat)
  case atStart => exact ⟨0, by omega, rfl, M0⟩
  case round =>
    obtain ⟨k, hk, rfl, M⟩ := hrel
    clear M0
    obtain ⟨wo, hwo⟩ : ∃ wo : World, wo = wr := ⟨_, rfl⟩
    subst hwo
    by_cases hlt : k < l.length
    · obtain ⟨hl6, hlo⟩ := HLO.out k hlt
      obtain ⟨b, off, v, ha, p1, hv, p2⟩ := HC.out k hlt
      obtain ⟨sa, sc, rfl, hcs, hls⟩ := hv
      have HGS := Lib.hid (ofGo_take l 0 hlt)
      generalize l.getD k stp0 = x at hl6 hlo p1 p2 hcs hls HGS
      obtain ⟨st, wait⟩ := x
      dsimp only at hl6 hlo p1 p2 hcs hls HGS
      have HLX := Lib.hid hlo
      have HCS := Lib.hid hcs
      have P1 := Lib.hid p1
      have hbz := cell_lt p1
      dsimp only at hbz
      generalize ofGo (l.take k) 0 = M1 at M HGS
      have M2 : Hid (OfSt (w.heap.size + 1) W wo (ofK (st.take 0) M1) (.slice a l.length cap)) := M.out
      clear hlo hcs M p1 p2
      subst ha
      go_wp2
      go_loopw [5] (fun i wr => ∃ j : Nat, j ≤ st.length ∧ i = .int .i64 j ∧ Hid (OfSt (w.heap.size + 1) W wr (ofK (st.take j) M1) (.slice (some ⟨b, off, none⟩) l.length cap))) (fun i _ => st.length - (intOf i).toNat)
      case atStart => exact ⟨0, by omega, rfl, M2⟩
      case round =>
        obtain ⟨j, hj, rfl, M⟩ := hrel
        clear M2
        have hbe := M.out.be
        have he := E1.trans' hbe (by omega)
        have m1 := he.cell P1.out
        by_cases hjl : j < st.length
        · obtain ⟨kb, ko, ha, r1, r2⟩ := HCS.out j hjl
          subst ha
          have hy := HLX.out j hjl
          have HKS := Lib.hid (ofK_take st M1 hjl)
          generalize st.getD j stk0 = y at r1 r2 hy HKS
          obtain ⟨ya, yo⟩ := y
          dsimp only at r1 r2 hy HKS
          have hkz := cell_lt r1
          dsimp only at hkz
          have r1 := he.cell r1
          generalize ofK (st.take j) M1 = M3 at M HKS
          have m0 := M.out.c0
          have mc := M.out.c1
          have mf := M.out.f0
          have hoz := cell_lt m0
          dsimp only at hoz
          have hw1 : IntKind.i64.wrap (ya + 1) = ya + 1 := IntWalk.i64_in _ (by omega)
          go_wp2
          go_region
          have HMX : Hid (ofK (st.take (j + 1)) M1 = if M3 < ya + 1 then ya + 1 else M3) := by
            show _ = _
            rw [HKS.out]
            split <;> omega
          generalize (if M3 < ya + 1 then ya + 1 else M3) = M4 at HMX ⊢
          have MN : Hid (OfSt (w.heap.size + 1) W ((wr.setCell ⟨w.heap.size + 1, 0, none⟩ (.int .i64 M4)).drew) (ofK (st.take (j + 1)) M1) (.slice (some ⟨b, off, none⟩) l.length cap)) := by
            have ED : Ext (wr.setCell ⟨w.heap.size + 1, 0, none⟩ (.int .i64 M4)) ((wr.setCell ⟨w.heap.size + 1, 0, none⟩ (.int .i64 M4)).drew) := (Ext.refl _).drew
            have d0 : (wr.setCell ⟨w.heap.size + 1, 0, none⟩ (.int .i64 M4)).cell? ⟨w.heap.size + 1, 0, none⟩ = some (.int .i64 M4) := World.cell?_setCell_same _ _ _ m0
            refine ⟨(hbe.setCell (p := ⟨w.heap.size + 1, 0, none⟩) (Nat.le_refl _) _).drew, ?_, ED.cell ?_, ?_⟩
            · rw [HMX.out]; exact ED.cell d0
            · rw [World.cell?_setCell_other _ _ _ _ (fun h => by simp only [Addr.mk.injEq] at h; omega)]; exact mc
            · exact (Below.frozen (p := ⟨w.heap.size + 1, 0, none⟩) ED (cell_lt d0)).trans (by rw [World.frozen?_setCell]; exact mf)
          generalize (wr.setCell ⟨w.heap.size + 1, 0, none⟩ (.int .i64 M4)).drew = w8 at MN ⊢
          clear M HKS HMX m0 mc mf
          go_wp2
          refine ⟨⟨j + 1, by omega, by go_num, MN⟩, by simp [intOf]; omega⟩
        · have hje : j = st.length := by omega
          have MN : Hid (OfSt (w.heap.size + 1) W wr (ofGo (l.take (k + 1)) 0) (.slice (some ⟨b, off, none⟩) l.length cap)) := by
            show OfSt _ _ _ _ _
            have h9 := M.out
            rw [hje, List.take_length] at h9
            rw [HGS.out]
            exact h9
          clear M
          go_wp2
          refine ⟨⟨k + 1, by omega, by go_num, MN⟩, by simp [intOf]; omega⟩
    · have hke : k = l.length := by omega
      have HGE : Hid (ofGo (l.take k) 0 = G) := by show _ = _; rw [hke, List.take_length]; exact HG.out.symm
      have m0 := M.out.c0
      rw [HGE.out] at m0
      have m1 := M.out.c1
      have hbe := M.out.be
      have he := E1.trans' hbe (by omega)
      have hzo := cell_lt m0
      dsimp only at hzo
      have d0 := cellB hbe (p := ⟨w.heap.size, 0, none⟩) (by show w.heap.size < _; omega) c0
      have d1 := cellB hbe (p := ⟨w.heap.size, 1, none⟩) (by show w.heap.size < _; omega) c1
      have g0 := (Below.frozen (p := ⟨w.heap.size, 0, none⟩) hbe (by show w.heap.size < _; omega)).trans f0
      have g1 := (Below.frozen (p := ⟨w.heap.size, 1, none⟩) hbe (by show w.heap.size < _; omega)).trans f1
      have EF : Ext w ((wo.setCell ⟨w.heap.size, 0, none⟩ (.int .i64 G)).setCell ⟨w.heap.size, 1, none⟩ (.slice a l.length cap)) := (he.set (by omega) _).set (by omega) _
      clear M hbe he HGE HG
      go_wp2
      refine bodyPost_ret (v := .agg #[.int .i64 G, .slice a l.length cap]) (by rw [results_cell1 rfl]; go_simp) rfl ⟨rfl, EF⟩
end Go.Proofs.YtdolibeceijnnaaDoor
namespace Go.Proofs.YtdolibeceijnnaaDoor
open Go.RowKit
theorem OwnsP.room {X : Nat → Prop} {A : World} {v : Value} {ys : List Stp} (h : OwnsP X A v ys) : ∃ a cap, v = .slice a ys.length cap ∧ CellsP A a ys ∧ ys.length ≤ maxLen ∧ Room a ys.length cap := by
  obtain ⟨a, cap, hv, hc, hm⟩ := h.reads
  obtain ⟨ps, h1, h2, h3⟩ := h
  exact ⟨a, cap, hv, hc, hm, rowRoom h2 hv⟩
def RmPost (q : Sq) (w : World) (e : Ending) (w' : World) : Prop := ∃ a cap, e = .returned (.agg #[.int .i64 q.1, .slice a q.2.length cap]) ∧ CellsP w' a q.2 ∧ q.2.length ≤ maxLen ∧ Room a q.2.length cap ∧ Ext w w'
def RmPost3 (q : Sq) (w : World) (e : Ending) (w' : World) : Prop := ∃ a cap, e = .returned (.tuple #[.agg #[.int .i64 q.1, .slice a q.2.length cap], .int .i64 0, .int .i64 0]) ∧ (∀ B, Chg (olB w) w' B → CellsP B a q.2) ∧ q.2.length ≤ maxLen ∧ Room a q.2.length cap ∧ Ext w w'
theorem results_cell_tmp2s' {fn : Func} {p u z : Tmp} {ty : TypeId} (h : fn.results = #[.cell p ty, .tmp u, .tmp z]) (tmps : Array Value) (P : Program) (w : World) :
    (results fn tmps).run P w = ((asAddr (tmps.getD p undef)).run P w).andThen fun a w₁ => ((loadVar ty a).run P w₁).andThen fun x w₂ => .ok (.tuple #[x, tmps.getD u undef, tmps.getD z undef]) w₂ := by
  simp only [results, h]
  simp [Sem.run_bind, Result.andThen]
set_option maxHeartbeats 4000000 in
theorem Parse_any (s : ByteArray) (q : Sq) (w : World) (h : sqL s.toList = some q) :
    Calls Tryd.prog 55 #[.string s] w (RmPost3 q w) := by
  obtain ⟨L, hL, hq, hck⟩ : ∃ L, parseL s.toList = some L ∧ q = (ofGo L 0, L) ∧ ckSeq (ofGo L 0, L) = 0 := by
    unfold sqL at h
    obtain ⟨h1, h2⟩ := Option.filter_eq_some_iff.1 h
    obtain ⟨L, h3, h4⟩ := Option.map_eq_some_iff.1 h1
    subst h4
    exact ⟨L, h3, rfl, of_decide_eq_true h2⟩
  subst hq
  obtain ⟨hN1, hN6, hl0, hl64, hwk, _, _⟩ := ckSeq_zero hck
  have HF := Lib.hid (ckWalk_fine hwk)
  have hlow : Low L := fun i hi => by
    obtain ⟨f1, f2⟩ := HF.out i hi
    refine ⟨(ckStep_strokes f1).2.1, fun j hj => ?_⟩
    have := f2 j hj
    omega
  have HLW := Lib.hid hlow
  have HCK := Lib.hid hck
  clear h hck hwk hlow
  go_enter Tryd.func55, Tryd.ntmps55
  go_wp2_with fail
  have E1 : Ext w (w.alloc (.cells #[.int .i64 0, .slice none 0 0] 24)) := extA
  have c0 : (w.alloc (.cells #[.int .i64 0, .slice none 0 0] 24)).cell? ⟨w.heap.size, 0, none⟩ = some (.int .i64 0) := by go_simp
  have c1 : (w.alloc (.cells #[.int .i64 0, .slice none 0 0] 24)).cell? ⟨w.heap.size, 1, none⟩ = some (.slice none 0 0) := by go_simp
  have f0 : (w.alloc (.cells #[.int .i64 0, .slice none 0 0] 24)).frozen? ⟨w.heap.size, 0, none⟩ = false := by go_simp
  have f1 : (w.alloc (.cells #[.int .i64 0, .slice none 0 0] 24)).frozen? ⟨w.heap.size, 1, none⟩ = false := by go_simp
  generalize (w.alloc (.cells #[.int .i64 0, .slice none 0 0] 24)) = W at E1 c0 c1 f0 f1 ⊢
  refine (PrsR_any s L _ hL).mono ?_
  rintro e w1 ⟨v, rfl, hv, hE⟩
  obtain ⟨a, cap, rfl, hc, hm, hr⟩ := hv.1.room
  have HV := Lib.hid hv
  have HC := Lib.hid hc
  have HM := Lib.hid hm
  have HR := Lib.hid hr
  clear hc hm hr hv
  have hne : ¬ ((L.length : Int) = 0) := by omega
  have hne2 : ¬ L.length = 0 := by omega
  go_wp2_with fail
  refine (Of_any L a cap _ hl64 HC.out HLW.out).mono ?_
  rintro e w2 ⟨rfl, hE2⟩
  have C2 := Lib.hid (HC.out.ext hE2)
  go_wp2_with fail
  refine (CheckR_any (ofGo L 0) L a cap _ HM.out C2.out).mono ?_
  rintro e w3 ⟨rfl, hE3⟩
  rw [HCK.out]
  have C3 := Lib.hid (C2.out.ext hE3)
  go_wp2_with fail
  refine (Of_any L a cap _ hl64 C3.out HLW.out).mono ?_
  rintro e w4 ⟨rfl, hE4⟩
  have E14 := ((hE.trans hE2).trans hE3).trans hE4
  have E4 := E1.trans E14
  have C4 := Lib.hid (C3.out.ext hE4)
  have d0 := E14.cell c0
  have d1 := E14.cell c1
  have g0 := (Below.frozen (p := ⟨w.heap.size, 0, none⟩) E14 (cell_lt c0)).trans f0
  have g1 := (Below.frozen (p := ⟨w.heap.size, 1, none⟩) E14 (cell_lt c1)).trans f1
  have hzW : olB W w.heap.size := cell_lt c0
  have hz := cell_lt d0
  dsimp only at hz
  have EF : Ext w ((w4.setCell ⟨w.heap.size, 0, none⟩ (.int .i64 (ofGo L 0))).setCell ⟨w.heap.size, 1, none⟩ (.slice a L.length cap)) := (E4.set (by omega) _).set (by omega) _
  have hCF : Hid (∀ B, Chg (olB w) ((w4.setCell ⟨w.heap.size, 0, none⟩ (.int .i64 (ofGo L 0))).setCell ⟨w.heap.size, 1, none⟩ (.slice a L.length cap)) B → CellsP B a L) := fun B hB => by
    obtain ⟨a', cap', e9, hc9, _⟩ := (HV.out.1.chg ((((Chg.ext ((hE2.trans hE3).trans hE4)).trans (Chg.setCell (B := olB W) ⟨w.heap.size, 0, none⟩ (.int .i64 (ofGo L 0)) hzW)).trans (Chg.setCell (B := olB W) ⟨w.heap.size, 1, none⟩ (.slice a L.length cap) hzW)).trans (hB.mono (fun b hb => by unfold olB at *; have := E1.size; omega))) HV.out.2).reads
    cases e9
    exact hc9
  go_wp2
  refine bodyPost_ret (v := .tuple #[.agg #[.int .i64 (ofGo L 0), .slice a L.length cap], .int .i64 0, .int .i64 0]) (by rw [results_cell_tmp2s' rfl]; go_simp) rfl ⟨a, cap, rfl, hCF.out, HM.out, HR.out, EF⟩
end Go.Proofs.YtdolibeceijnnaaDoor
namespace Go.Proofs.YtdolibeceijnnaaDoor
open Go.RowKit
end Go.Proofs.YtdolibeceijnnaaDoor
namespace Go.Proofs.YtdolibeceijnnaaDoor
open Go.RowKit
end Go.Proofs.YtdolibeceijnnaaDoor
namespace Go.Proofs.YtdolibeceijnnaaDoor
open Go.RowKit
def qa : Sq := (2, [([(1, true)], 0), ([(0, true)], 0), ([(0, false)], 0), ([(1, false)], 0)])
def qb : Sq := (2, [([(0, true)], 0), ([(1, true)], 0), ([(1, false)], 0), ([(0, false)], 0)])
def qc : Sq := (2, [([(0, true)], 0), ([(0, false)], 0), ([(1, true)], 0), ([(1, false)], 50)])
def qf : Sq := (1, [([(0, true)], 0), ([(0, false)], 0)])
def QPost (q : Sq) (w : World) (e : Ending) (w' : World) : Prop := ∃ a cap, e = .returned (.tuple #[.agg #[.int .i64 q.1, .slice a q.2.length cap], .int .i64 0]) ∧ CellsP w' a q.2 ∧ Ext w w'
theorem SeqErr.q {s q : Sq} {er : Int} {w : World} {e : Ending} {w' : World} (h : SeqErr s er w e w') (hs : s = q) (he : er = 0) : QPost q w e w' := by
  subst hs
  subst he
  obtain ⟨v, rfl, ⟨u, rfl, a, cap, rfl, hc, _⟩, hE⟩ := h
  exact ⟨a, cap, rfl, hc, hE⟩
theorem aw_Equal (l : List Int) (hl : l.length ≤ maxLen) (a b : Option Addr) (ca cb : Nat) (w : World) (hc : CellsI w a l) (hd : CellsI w b l) : Calls Tryd.prog 16 #[.slice a l.length ca, .slice b l.length cb] w fun r w' => r = .returned (.bool true) ∧ Ext w w' :=
  (EqualInt_any l l a b ca cb w hl hc hl hd).mono fun e w' h => ⟨by rw [h.1]; simp, h.2⟩
end Go.Proofs.YtdolibeceijnnaaDoor
namespace Go.Proofs.YtdolibeceijnnaaDoor
open Go.RowKit
theorem cellsI_two {w : World} {b : Nat} {x y : Int} (h : w.cell? ⟨b, 0, none⟩ = some (.int .i64 x)) (k : w.cell? ⟨b, 1, none⟩ = some (.int .i64 y)) : CellsI w (some ⟨b, 0, none⟩) [x, y] := fun i hi => by
  have : i = 0 ∨ i = 1 := by simp at hi; omega
  rcases this with rfl | rfl
  · exact ⟨b, 0, rfl, by simpa using h⟩
  · exact ⟨b, 0, rfl, by simpa using k⟩
end Go.Proofs.YtdolibeceijnnaaDoor
namespace Go.Proofs.YtdolibeceijnnaaDoor
open Go.RowKit
set_option maxHeartbeats 4000000 in
theorem caseParsed_any (s : ByteArray) (q : Sq) (w : World) (h : sqL s.toList = some q) :
    Calls Tryd.prog 27 #[.string s] w (RmPost q w) := by
  go_enter Tryd.func27, Tryd.ntmps27
  go_wp2_with fail
  have E1 : Ext w (w.alloc (.cells #[.int .i64 0, .slice none 0 0] 24)) := extA
  have c0 : (w.alloc (.cells #[.int .i64 0, .slice none 0 0] 24)).cell? ⟨w.heap.size, 0, none⟩ = some (.int .i64 0) := by go_simp
  have c1 : (w.alloc (.cells #[.int .i64 0, .slice none 0 0] 24)).cell? ⟨w.heap.size, 1, none⟩ = some (.slice none 0 0) := by go_simp
  have f0 : (w.alloc (.cells #[.int .i64 0, .slice none 0 0] 24)).frozen? ⟨w.heap.size, 0, none⟩ = false := by go_simp
  have f1 : (w.alloc (.cells #[.int .i64 0, .slice none 0 0] 24)).frozen? ⟨w.heap.size, 1, none⟩ = false := by go_simp
  generalize (w.alloc (.cells #[.int .i64 0, .slice none 0 0] 24)) = W at E1 c0 c1 f0 f1 ⊢
  refine (Parse_any s q _ h).mono ?_
  rintro e w1 ⟨a, cap, rfl, hc, hm, hr, hE⟩
  obtain ⟨n, L⟩ := q
  dsimp only at hc hm hr ⊢
  have HC := Lib.hid hc
  have HM := Lib.hid hm
  have HR := Lib.hid hr
  clear hc hm hr
  have E4 := E1.trans hE
  have d0 := hE.cell c0
  have d1 := hE.cell c1
  have g0 := (Below.frozen (p := ⟨w.heap.size, 0, none⟩) hE (cell_lt c0)).trans f0
  have g1 := (Below.frozen (p := ⟨w.heap.size, 1, none⟩) hE (cell_lt c1)).trans f1
  have hzW : olB W w.heap.size := cell_lt c0
  have hz := cell_lt d0
  dsimp only at hz
  have EF : Ext w (((w1.setCell ⟨w.heap.size, 0, none⟩ (.int .i64 n)).setCell ⟨w.heap.size, 1, none⟩ (.slice a L.length cap)).alloc (.cells #[.int .i64 n, .slice a L.length cap] 24)) := ((E4.set (by omega) _).set (by omega) _).alloc _
  have hCF : Hid (CellsP (((w1.setCell ⟨w.heap.size, 0, none⟩ (.int .i64 n)).setCell ⟨w.heap.size, 1, none⟩ (.slice a L.length cap)).alloc (.cells #[.int .i64 n, .slice a L.length cap] 24)) a L) :=
    HC.out _ (((Chg.setCell (B := olB W) ⟨w.heap.size, 0, none⟩ (.int .i64 n) hzW).trans (Chg.setCell (B := olB W) ⟨w.heap.size, 1, none⟩ (.slice a L.length cap) hzW)).trans (Chg.ext ((Ext.refl _).alloc _)))
  go_wp2
  refine bodyPost_ret (v := .agg #[.int .i64 n, .slice a L.length cap]) (by rw [results_cell1 rfl]; go_simp) rfl ⟨a, cap, rfl, hCF.out, HM.out, HR.out, EF⟩
def smallB (n : Int) (l : List Stp) (k : Nat) : Bool := decide (l.length ≤ k) && fewB l && decide (ckSeq (n, l) = 0)
theorem smallB_true {n : Int} {l : List Stp} {k : Nat} (h : smallB n l k = true) : l.length ≤ k ∧ ckSeq (n, l) = 0 := by
  unfold smallB at h
  rw [Bool.and_eq_true, Bool.and_eq_true] at h
  exact ⟨of_decide_eq_true h.1.1, of_decide_eq_true h.2⟩
set_option maxHeartbeats 8000000 in
set_option maxRecDepth 100000 in
theorem caseSmall_any (n : Int) (l : List Stp) (a : Option Addr) (cap k : Nat) (w : World) (hc : CellsP w a l) (hr : Room a l.length cap) :
    Calls Tryd.prog 7 #[.agg #[.int .i64 n, .slice a l.length cap], .int .i64 k] w fun e w' => e = .returned (.bool (smallB n l k)) ∧ Ext w w' := by
  have HC := Lib.hid hc
  have HR := Lib.hid hr
  obtain ⟨R, hR⟩ : ∃ R, R = smallB n l k := ⟨_, rfl⟩
  rw [← hR]
  have HRR : Hid (R = (decide (l.length ≤ k) && fewB l && decide (ckSeq (n, l) = 0))) := hR
  clear hc hr hR
  have E0 : Ext w (w.alloc (.cells #[.int .i64 n, .slice a l.length cap] 24)) := extA
  have c0 : ((w.alloc (.cells #[.int .i64 n, .slice a l.length cap] 24))).cell? ⟨w.heap.size, 0, none⟩ = some (.int .i64 n) := by go_simp
  have c1 : ((w.alloc (.cells #[.int .i64 n, .slice a l.length cap] 24))).cell? ⟨w.heap.size, 1, none⟩ = some (.slice a l.length cap) := by go_simp
  by_cases hk : l.length ≤ k
  · have HRR2 : Hid (R = (fewB l && decide (ckSeq (n, l) = 0))) := by show _ = _; rw [HRR.out, decide_eq_true hk, Bool.true_and]
    go_enter Tryd.func7, Tryd.ntmps7
    go_wp2_with fail
    obtain ⟨bs, hbs⟩ : ∃ bs, bs = w.heap.size := ⟨_, rfl⟩
    rw [← hbs] at c0 c1 ⊢
    clear hbs HRR
    generalize (w.alloc (.cells #[.int .i64 n, .slice a l.length cap] 24)) = W at E0 c0 c1 ⊢
    refine (Few_any (.int .i64 n) l a cap _ HR.out (HC.out.ext E0)).mono ?_
    rintro e w1 ⟨rfl, hE⟩
    have F1 := E0.trans hE
    have c0 := (hE).cell c0
    have c1 := (hE).cell c1
    generalize fewB l = fw at HRR2 ⊢
    cases fw
    · have h := HRR2.out
      rw [Bool.false_and] at h
      subst h
      clear HRR2
      go_wp2
      go_ret
      exact ⟨rfl, F1⟩
    · have H := Lib.hid HRR2.out
      rw [Bool.true_and] at H
      clear HRR2
      go_wp2_with fail
      refine (CheckR_any n l a cap _ HR.out (HC.out.ext F1)).mono ?_
      rintro e w2 ⟨rfl, hE⟩
      have F2 := F1.trans hE
      obtain ⟨er, her⟩ : ∃ er, er = ckSeq (n, l) := ⟨_, rfl⟩
      rw [← her] at H ⊢
      clear her hE F1
      by_cases h0 : er = 0
      · have h := H.out
        rw [decide_eq_true h0] at h
        subst h
        subst h0
        clear H
        go_wp2
        go_ret
        exact ⟨rfl, F2⟩
      · have h := H.out
        rw [decide_eq_false h0] at h
        subst h
        have h1 : (er == 0) = false := by simp [h0]
        clear H h0
        go_wp2
        go_ret
        exact ⟨rfl, F2⟩
  · have h := HRR.out
    rw [decide_eq_false hk, Bool.false_and, Bool.false_and] at h
    subst h
    have h31 : ¬ (l.length : Int) ≤ (k : Int) := by omega
    clear HRR hk
    go_enter Tryd.func7, Tryd.ntmps7
    go_wp2
    go_ret
    exact ⟨rfl, E0⟩
def gq1 : Sq := (2, [([(0, true)], 0), ([(1, true)], 0), ([(0, false)], 20), ([(1, false)], 0)])
def gq2 : Sq := (2, [([(0, true)], 0), ([(0, false)], 0), ([(1, true)], 0), ([(1, false)], 0)])
theorem gq1_text : sqL (ByteArray.mk #[65, 43, 59, 32, 66, 43, 59, 32, 65, 45, 32, 50, 48, 59, 32, 66, 45]).toList = some gq1 := by rw [ByteArray.toList_eq]; decide +kernel
theorem gq2_text : sqL (ByteArray.mk #[65, 43, 59, 32, 65, 45, 59, 32, 66, 43, 59, 32, 66, 45]).toList = some gq2 := by rw [ByteArray.toList_eq]; decide +kernel
theorem gq1_ck : ckSeq (gq1.1, gq1.2) = 0 ∧ intsN (longS (okF (cyc gq1.2)) gq1.2.length 0) = [0, 2] := by decide +kernel
theorem gq2_ck : ckSeq (gq2.1, gq2.2) = 0 ∧ intsN (ringS (okF (cyc gq2.2)) gq2.2.length) = [1, 3] := by decide +kernel
set_option maxHeartbeats 8000000 in
set_option maxRecDepth 100000 in
theorem caseGroups_any (w : World) (hG : GBits w) : Calls Tryd.prog 8 #[] w fun e w' => e = .returned (.bool true) ∧ Ext w w' := by
  have HG := Lib.hid hG
  clear hG
  go_enter Tryd.func8, Tryd.ntmps8
  go_wp2_with fail
  refine (caseParsed_any _ gq1 _ gq1_text).mono ?_
  rintro e w1 ⟨a1, d1, rfl, hc1, _, _, hE1⟩
  have HC1 := Lib.hid hc1
  have HF1 := Lib.hid (fun W hG hc => Fewest_any gq1.1 gq1.2 a1 d1 W gq1_ck.1 hG hc)
  rw [gq1_ck.2] at HF1
  clear hc1
  go_wp2_with fail
  refine (HF1.out _ (HG.out.ext hE1) HC1.out).mono ?_
  rintro e w2 ⟨ra, rc, rfl, hr, _, hE2⟩
  have HI1 := Lib.hid hr
  have F2 := hE1.trans hE2
  clear hr HC1 HF1 hE1 hE2
  go_wp2_with fail
  refine (caseParsed_any _ gq2 _ gq2_text).mono ?_
  rintro e w3 ⟨a3, d3, rfl, hc3, _, _, hE3⟩
  have HC3 := Lib.hid hc3
  have HF3 := Lib.hid (fun W hG hc => Ring_any gq2.1 gq2.2 a3 d3 W gq2_ck.1 hG hc)
  rw [gq2_ck.2] at HF3
  have F3 := F2.trans hE3
  replace HI1 := Lib.hid (HI1.out.ext hE3)
  clear hc3 F2 hE3
  go_wp2_with fail
  refine (HF3.out _ (HG.out.ext F3) HC3.out).mono ?_
  rintro e w4 ⟨rb, rd, rfl, hr4, _, hE4⟩
  have HI2 := Lib.hid hr4
  have F4 := F3.trans hE4
  replace HI1 := Lib.hid (HI1.out.ext hE4)
  clear hr4 HC3 HF3 F3 hE4
  go_wp2_with fail
  have E5 : Ext w4 (w4.alloc (.cells #[.int .i64 0, .int .i64 2] 3)) := extA
  refine (aw_Equal [0, 2] (by decide) ra _ rc _ _ (HI1.out.ext E5) (cellsI_two (by go_simp) (by go_simp))).mono ?_
  rintro e w5 ⟨rfl, hE5⟩
  have F5 := F4.trans (E5.trans hE5)
  replace HI2 := Lib.hid (HI2.out.ext (E5.trans hE5))
  clear HI1 E5 hE5 F4
  go_wp2_with fail
  have E6 : Ext w5 (w5.alloc (.cells #[.int .i64 1, .int .i64 3] 3)) := extA
  refine (aw_Equal [1, 3] (by decide) rb _ rd _ _ (HI2.out.ext E6) (cellsI_two (by go_simp) (by go_simp))).mono ?_
  rintro e w6 ⟨rfl, hE6⟩
  go_wp2
  go_ret
  exact ⟨rfl, F5.trans (E6.trans hE6)⟩
end Go.Proofs.YtdolibeceijnnaaDoor
