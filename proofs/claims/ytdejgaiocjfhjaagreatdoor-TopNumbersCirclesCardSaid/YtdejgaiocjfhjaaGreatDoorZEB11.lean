/- Steps of the proof: EProd, EGrtP, EGrt, EXtr, EMulR, EAbs. No conditions. -/
import Derived.Test.YtdejgaiocjfhjaaGreatDoorZEB1
import Derived.Test.YtdejgaiocjfhjaaGreatDoorZEB2
import Derived.Test.YtdejgaiocjfhjaaGreatDoorZEB3
import Derived.Test.YtdejgaiocjfhjaaGreatDoorZEB4
import Derived.Test.YtdejgaiocjfhjaaGreatDoorZEB5
import Derived.Test.YtdejgaiocjfhjaaGreatDoorZEB6
import Derived.Test.YtdejgaiocjfhjaaGreatDoorZEB7
import Derived.Test.YtdejgaiocjfhjaaGreatDoorZEB8
import Derived.Test.YtdejgaiocjfhjaaGreatDoorZEB9
import Derived.Test.YtdejgaiocjfhjaaGreatDoorZEB10
namespace Go.Proofs.YtdejgaiocjfhjaaGreatDoor
open Go.RowKit
open Go.Lib (decDigits)
structure ProdA (ls : List Txt) (n : Nat) (a : List Nat) : Prop where
  ok : OkB 10 a
  l1 : 1 ≤ a.length
  l2 : a.length ≤ 1 + 60 * n
  v : valB 10 a = prodV (ls.take n)
theorem ProdA.start (ls : List Txt) : ProdA ls 0 [1] := ⟨(fun x hx => by rw [List.mem_singleton.1 hx]; omega), by simp, by simp, by simp [valB, prodV]⟩
theorem ProdA.next {ls : List Txt} {n : Nat} {a o : List Nat} (h : ProdA ls n a) (hn : n < ls.length) (hs : DigitL (ls.getD n []) ∧ (ls.getD n []).length ≤ 60) {P M : Nat}
    (hP : P = valB 10 a * valB 10 (digL (ls.getD n []))) {N : Nat} (hN : N + 1 = a.length + (ls.getD n []).length) (hc : CarI (N + 1) P M N o) : ProdA ls (n + 1) o := by
  have hlen := hc.len
  have h1 := h.l1
  have h2 := h.l2
  have hlt : P < 10 ^ (N + 1) := by
    rw [hP, hN, Nat.pow_add]
    have k1 := valB_lt h.ok
    have k2 := valB_lt (digL_ok hs.1)
    rw [digL_len] at k2
    exact Nat.mul_lt_mul'' k1 k2
  refine ⟨hc.done hlt, by omega, by omega, ?_⟩
  rw [hc.v, hP, prodV_take hn, h.v, digL_val]
theorem cells1i (w : World) (t : TypeId) : CellsN .i64 (w.alloc (.cells #[.int .i64 1] t)) (some ⟨w.heap.size, 0, none⟩) [1] := by
  intro i hi
  have : i = 0 := by simp at hi; omega
  subst this
  exact ⟨_, _, rfl, by simp⟩
theorem take_get {a : List Nat} {t i : Nat} (h : i < t) : (a.take t).getD i 0 = a.getD i 0 := by
  rw [List.getD_eq_getElem?_getD, List.getD_eq_getElem?_getD, List.getElem?_take_of_lt h]
theorem take_val {a : List Nat} {t : Nat} (h0 : a.getD t 0 = 0) : valB 10 (a.take t) = valB 10 (a.take (t + 1)) := by
  rw [valB_take_succ, h0, Nat.mul_zero, Nat.add_zero]
set_option maxHeartbeats 8000000 in
set_option maxRecDepth 100000 in
theorem product_any (ls : List Txt) (a : Option Addr) (cap : Nat) (w : World) (hc : CellsT w a ls) (hn : ls.length ≤ 4) (hL : ∀ k, k < ls.length → DigitL (ls.getD k []) ∧ (ls.getD k []).length ≤ 60) :
    Calls Tryz.prog 111 #[.slice a ls.length cap] w fun e w' => e = .returned (txt (decDigits (prodV ls))) ∧ Ext w w' := by
  have HC := Lib.hid hc
  have HL := Lib.hid hL
  clear hc hL
  have C0 := Lib.hid (cells1i w 3)
  have E0 : Ext w (w.alloc (.cells #[.int .i64 1] 3)) := (Ext.refl _).alloc _
  go_enter Tryz.func111, Tryz.ntmps111
  go_wp2
  go_loopw [3, 16] (fun o i wr => ∃ (k ob : Nat) (a1 : List Nat), k ≤ ls.length ∧ o = .slice (some ⟨ob, 0, none⟩) a1.length a1.length ∧ i = .int .i64 k ∧ Hid (ProdA ls k a1) ∧ Hid (CellsN .i64 wr (some ⟨ob, 0, none⟩) a1) ∧ Ext w wr) (fun _ i _ => ls.length - (intOf i).toNat)
  case atStart => exact ⟨0, w.heap.size, [1], by omega, rfl, rfl, ProdA.start ls, C0.out, E0⟩
  case round =>
    clear C0 E0
    obtain ⟨k, ob, a1, hk, rfl, rfl, HP, HA, he⟩ := hrel
    have hl1 := HP.out.l1
    have hl2 := HP.out.l2
    obtain ⟨wo, hwo⟩ : ∃ wo, wo = wr := ⟨wr, rfl⟩
    subst hwo
    by_cases h1 : k < ls.length
    · have hki : (k : Int) < (ls.length : Int) := by omega
      obtain ⟨b1, o1, ha1, p1⟩ := HC.out.ext he k h1
      subst ha1
      have hs60 := (HL.out k h1).2
      have HS := Lib.hid (HL.out k h1)
      obtain ⟨s, hs⟩ : ∃ s, s = ls.getD k [] := ⟨_, rfl⟩
      have HSE := Lib.hid hs
      rw [← hs] at p1 hs60 HS
      clear hs
      obtain ⟨N, hN⟩ : ∃ N, N = a1.length + s.length := ⟨_, rfl⟩
      have hmk : (Instr.makeSlice 127 (.int .i64 ((a1.length : Int) + (s.length : Int))) (.int .i64 ((a1.length : Int) + (s.length : Int)))).run Tryz.prog wo = .ok (.slice (some ⟨wo.heap.size, 0, none⟩) N N) (wo.alloc (.cells (madeCells #[.int .i64 0] N) 3)) := by
        rw [← Int.natCast_add, ← hN]
        exact run_make_row' _ _ (.int .i64 0) 8 Tryz.underlying127 infoI64 rfl _ _ N (by omega) (by omega) wo
      have O0 : Hid (OwnsN .i64 3 (wo.alloc (.cells (madeCells #[.int .i64 0] N) 3)) (.slice (some ⟨wo.heap.size, 0, none⟩) N N) (List.replicate N 0)) := madeN _ _ _ N (by omega)
      have E0 : Ext wo (wo.alloc (.cells (madeCells #[.int .i64 0] N) 3)) := (Ext.refl _).alloc _
      generalize hW : wo.alloc (.cells (madeCells #[.int .i64 0] N) 3) = W at hmk O0 E0
      clear hW
      obtain ⟨nb, hnb⟩ : ∃ nb, nb = wo.heap.size := ⟨_, rfl⟩
      rw [← hnb] at hmk O0
      have HNB := Lib.hid hnb
      have HNN := Lib.hid hN
      clear hN hnb
      have HI0 : Hid (MulK a1 (digL s) 0 0 (List.replicate N 0)) := by show MulK _ _ _ _ _; rw [HNN.out, ← digL_len s]; exact MulK.start _ _
      go_wp2
      clear hmk
      go_loopw [28] (fun i wr => ∃ (m : Nat), m ≤ a1.length ∧ i = .int .i64 m ∧ Hid (∃ o, MulK a1 (digL s) m 0 o ∧ OwnsN .i64 3 wr (.slice (some ⟨nb, 0, none⟩) N N) o) ∧ Ext wo wr) (fun i _ => a1.length - (intOf i).toNat)
      case atStart => exact ⟨0, by omega, rfl, ⟨_, HI0.out, O0.out⟩, E0⟩
      case round =>
        clear HI0 O0 E0 p1
        obtain ⟨m, hm, rfl, HW, hE⟩ := hrel
        by_cases h2 : m < a1.length
        · have hmi : (m : Int) < (a1.length : Int) := by omega
          obtain ⟨b2, o2, ha2, p2⟩ := HA.out.ext hE m h2
          cases ha2
          obtain ⟨x, hx⟩ : ∃ x, x = a1.getD m 0 := ⟨_, rfl⟩
          have hx9 : x < 10 := by rw [hx]; exact okB_getD HP.out.ok (by omega) m
          have HX := Lib.hid hx
          rw [← hx, Nat.zero_add] at p2
          clear hx
          obtain ⟨w1, hw1⟩ : ∃ w1, w1 = wr := ⟨wr, rfl⟩
          subst hw1
          go_wp2
          go_loopw [35] (fun i wr => ∃ (n : Nat), n ≤ s.length ∧ i = .int .i64 n ∧ Hid (∃ o, MulK a1 (digL s) m n o ∧ OwnsN .i64 3 wr (.slice (some ⟨nb, 0, none⟩) N N) o) ∧ Ext wo wr) (fun i _ => s.length - (intOf i).toNat)
          case atStart => exact ⟨0, by omega, rfl, HW.out, hE⟩
          case round =>
            clear HW p2 hE
            obtain ⟨n, hn2, rfl, HW, hE⟩ := hrel
            obtain ⟨o, HO1, HO2⟩ := HW.out
            have HOL := Lib.hid HO1.len
            have HOM := Lib.hid HO1
            have HO := Lib.hid HO2
            clear HO1 HO2 HW
            by_cases h3 : n < s.length
            · have hni : (n : Int) < (s.length : Int) := by omega
              have hmn : m + n < o.length := by have := HOL.out; rw [digL_len] at this; omega
              obtain ⟨s1, s2⟩ := HO.out.at hmn
              obtain ⟨y, hy⟩ : ∃ y, y = o.getD (m + n) 0 := ⟨_, rfl⟩
              have hyb : y ≤ 81 * m := by rw [hy]; exact HOM.out.bz _ (Nat.le_refl _)
              obtain ⟨q, hq⟩ : ∃ q, q = s.length - 1 - n := ⟨_, rfl⟩
              have hqs : q < s.length := by omega
              obtain ⟨c, hc⟩ : ∃ c, c = s[q]'hqs := ⟨_, rfl⟩
              have hget : ∀ h, (⟨s.toArray⟩ : ByteArray)[q]'h = c := fun h => by rw [hc]; rfl
              have hcd : 48 ≤ c.toNat ∧ c.toNat ≤ 57 := HS.out.1 c (by rw [hc]; exact List.getElem_mem _)
              have hnx := HOM.out.next HP.out.ok (digL_ok HS.out.1) h2 (by rw [digL_len]; exact h3)
              rw [digL_get s h3, ← hq, ← HX.out, ← hy, show s.getD q 0 = c by rw [hc]; simp [List.getD_eq_getElem?_getD, hqs]] at hnx
              rw [← hy] at s1
              obtain ⟨z, hz⟩ : ∃ z, z = x * (c.toNat - 48) := ⟨_, rfl⟩
              have hz81 : z ≤ 9 * 9 := by rw [hz]; exact Nat.mul_le_mul (by omega) (by omega)
              rw [← hz] at hnx
              have HNX := Lib.hid hnx
              have hw1 : IntKind.i64.wrap ((m : Int) + (n : Int)) = ((m + n : Nat) : Int) := by rw [IntKind.wrap_i64]; omega
              have hw2 : IntKind.i64.wrap ((s.length : Int) - 1) = (s.length : Int) - 1 := by rw [IntKind.wrap_i64]; omega
              have hw3 : IntKind.i64.wrap ((s.length : Int) - 1 - (n : Int)) = (q : Int) := by rw [IntKind.wrap_i64]; omega
              have hw4 : IntKind.u8.wrap ((c.toNat : Int) - 48) = (c.toNat : Int) - 48 := by rw [IntKind.wrap_u8]; omega
              have hw5 : IntKind.i64.wrap ((c.toNat : Int) - 48) = (c.toNat : Int) - 48 := by rw [IntKind.wrap_i64]; omega
              have hzz : (x : Int) * ((c.toNat : Int) - 48) = (z : Int) := by rw [hz, Int.natCast_mul, Int.natCast_sub hcd.1]; rfl
              have hw6 : IntKind.i64.wrap ((x : Int) * ((c.toNat : Int) - 48)) = (z : Int) := by rw [hzz, IntKind.wrap_i64]; omega
              have hw7 : IntKind.i64.wrap ((y : Int) + (z : Int)) = ((y + z : Nat) : Int) := by rw [IntKind.wrap_i64]; omega
              have hmN : m + n < N := by have := HNN.out; omega
              have hmNi : ((m + n : Nat) : Int) < (N : Int) := by omega
              have hqi : (q : Int) < (s.length : Int) := by omega
              have HO2 := Lib.hid ((HO.out.set (m + n) (y + z)).ext (Ext.refl _).drew)
              have E2 : Ext wo (wr.setCell ⟨nb, m + n, none⟩ (.int .i64 ((y + z : Nat) : Int))).drew := (Ext.set hE (by rw [HNB.out]; exact Nat.le_refl _) _).drew
              clear hnx hy hq hc hz hzz HO hyb hz81
              generalize m + n = r at *
              generalize y + z = t at *
              go_wp2
              go_region
              go_wp2
              refine ⟨⟨n + 1, by omega, by go_num, ⟨_, HNX.out, HO2.out⟩, E2⟩, by simp [intOf]; omega⟩
            · have hns : n = s.length := by omega
              have HN2 : Hid (∃ o, MulK a1 (digL s) (m + 1) 0 o ∧ OwnsN .i64 3 wr (.slice (some ⟨nb, 0, none⟩) N N) o) := by
                refine ⟨o, ?_, HO.out⟩
                have h := HOM.out
                rw [hns, ← digL_len s] at h
                exact h.outer
              clear HO HOM HOL hns
              go_wp2
              refine ⟨⟨m + 1, by omega, by go_num, HN2, hE⟩, by simp [intOf]; omega⟩
        · have hma : m = a1.length := by omega
          obtain ⟨o, hO1, hO2⟩ := HW.out
          rw [hma] at hO1
          obtain ⟨k1, k2, k3⟩ := hO1.done
          obtain ⟨T, hT⟩ : ∃ T, T = N - 1 := ⟨_, rfl⟩
          have hTN : T + 1 = N := by have := HNN.out; omega
          have HI1 : Hid (CarI (T + 1) (valB 10 a1 * valB 10 (digL s)) (81 * a1.length + 81) 0 o) := by
            have h := CarI.start k2
            rw [k1, k3, digL_len, ← HNN.out, ← hTN] at h
            exact h
          have HO1 := Lib.hid hO2
          have hTl : T ≤ 400 := by have := HNN.out; omega
          have hwT : IntKind.i64.wrap ((N : Int) - 1) = (T : Int) := by have := HNN.out; rw [IntKind.wrap_i64]; omega
          clear hO1 hO2 HW k1 k2 k3 hma hT hm
          obtain ⟨w1, hw1⟩ : ∃ w1, w1 = wr := ⟨wr, rfl⟩
          subst hw1
          go_wp2
          go_loopw [62] (fun i wr => ∃ (j : Nat), j ≤ T ∧ i = .int .i64 j ∧ Hid (∃ o, CarI (T + 1) (valB 10 a1 * valB 10 (digL s)) (81 * a1.length + 81) j o ∧ OwnsN .i64 3 wr (.slice (some ⟨nb, 0, none⟩) N N) o) ∧ Ext wo wr) (fun i _ => T - (intOf i).toNat)
          case atStart => exact ⟨0, by omega, rfl, ⟨_, HI1.out, HO1.out⟩, hE⟩
          case round =>
            clear HI1 HO1 hE
            obtain ⟨j, hj, rfl, HW, hE⟩ := hrel
            obtain ⟨o, hO1, hO2⟩ := HW.out
            have HOL := Lib.hid hO1.len
            have HOM := Lib.hid hO1
            have HO := Lib.hid hO2
            clear hO1 hO2 HW
            by_cases h3 : j < T
            · have hji : (j : Int) < (T : Int) := by omega
              obtain ⟨s1, s2⟩ := HO.out.at (i := j) (by have := HOL.out; omega)
              obtain ⟨r1, r2⟩ := HO.out.at (i := j + 1) (by have := HOL.out; omega)
              have hnx := HOM.out.next (by omega)
              have hbd := HOM.out.bd
              have hbr := HOM.out.br (j + 1) (by omega)
              have HO2 := HO.out.set (j + 1) (o.getD (j + 1) 0 + o.getD j 0 / 10)
              have f2 := HO2.at (i := j) (by rw [List.length_set]; have := HOL.out; omega)
              rw [getD_set_nat _ _ _ _ (by have := HOL.out; omega), if_neg (by omega)] at f2
              obtain ⟨t1, t2⟩ := f2
              have E2 : Ext wo (wr.setCell ⟨nb, j + 1, none⟩ (.int .i64 ((o.getD (j + 1) 0 + o.getD j 0 / 10 : Nat) : Int))).drew := (Ext.set hE (by rw [HNB.out]; exact Nat.le_refl _) _).drew
              have HO3 := ((HO2.ext (Ext.refl _).drew)).set j (o.getD j 0 % 10)
              have E3 := Ext.set E2 (b := nb) (o := j) (by rw [HNB.out]; exact Nat.le_refl _) (.int .i64 ((o.getD j 0 % 10 : Nat) : Int))
              replace t1 := ((Ext.refl _).drew).cell t1
              replace t2 : (wr.setCell ⟨nb, j + 1, none⟩ (.int .i64 ((o.getD (j + 1) 0 + o.getD j 0 / 10 : Nat) : Int))).drew.frozen? ⟨nb, j, none⟩ = false := by rw [World.frozen?_drew]; exact t2
              generalize hx : o.getD j 0 = x at *
              generalize hy : o.getD (j + 1) 0 = y at *
              obtain ⟨q, hq⟩ : ∃ q, q = x / 10 := ⟨_, rfl⟩
              obtain ⟨d, hd⟩ : ∃ d, d = x % 10 := ⟨_, rfl⟩
              rw [← hq] at hnx HO3 E2 E3 t1 t2
              rw [← hd] at hnx HO3 E3
              have hw1 : IntKind.i64.wrap ((j : Int) + 1) = (j : Int) + 1 := by rw [IntKind.wrap_i64]; omega
              have ht1 : (x : Int).tmod 10 = (d : Int) := by rw [Int.tmod_eq_emod_of_nonneg (by omega)]; omega
              have ht2 : (x : Int).tdiv 10 = (q : Int) := by rw [Int.tdiv_eq_ediv_of_nonneg (by omega)]; omega
              have hw2 : IntKind.i64.wrap (q : Int) = (q : Int) := by rw [IntKind.wrap_i64]; omega
              have hw3 : IntKind.i64.wrap ((y : Int) + (q : Int)) = ((y + q : Nat) : Int) := by rw [IntKind.wrap_i64]; omega
              have hw4 : IntKind.i64.wrap (d : Int) = (d : Int) := by rw [IntKind.wrap_i64]; omega
              have hb1 : (j : Int) + 1 < (N : Int) := by omega
              have hb2 : (j : Int) < (N : Int) := by omega
              have HNX := Lib.hid hnx
              have HOO := Lib.hid HO3
              clear hnx hx hy hq hd HO HO2 HO3 hbd hbr HOM
              generalize y + q = t at *
              go_wp2
              go_region
              go_wp2
              refine ⟨⟨j + 1, by omega, by go_num, ⟨_, HNX.out, HOO.out⟩, E3⟩, by simp [intOf]; omega⟩
            · have hjT : j = T := by omega
              have hPA : ProdA ls (k + 1) o := by
                have h := HOM.out
                rw [hjT, HSE.out] at h
                exact HP.out.next h1 (HL.out k h1) rfl (by rw [← HSE.out, ← HNN.out]; exact hTN) h
              have hlN : N = o.length := by rw [← hTN]; exact HOL.out.symm
              have HPA := Lib.hid hPA
              have hCC : CellsN .i64 wr (some ⟨nb, 0, none⟩) o := by
                obtain ⟨oa, oc, hov, hoc, _, _⟩ := HO.out.reads
                obtain ⟨e1, _, _⟩ := Value.slice.inj hov
                subst e1
                exact hoc
              have HCC := Lib.hid hCC
              have HlN := Lib.hid hlN
              clear hPA hCC hlN HOM HO HOL hjT
              go_wp2
              refine ⟨⟨k + 1, nb, o, by omega, by rw [HlN.out], by go_num, HPA, HCC, he.trans hE⟩, by simp [intOf]; omega⟩
    · have hkl : k = ls.length := by omega
      have HV : Hid (valB 10 a1 = prodV ls) := by
        show _ = _
        have h := HP.out.v
        rwa [hkl, List.take_length] at h
      have HOK := Lib.hid HP.out.ok
      have hl3 : a1.length ≤ 241 := by omega
      clear HP hkl hl2
      go_wp2
      go_loop [3] (fun v => ∃ t : Nat, 1 ≤ t ∧ t ≤ a1.length ∧ v = .slice (some ⟨ob, 0, none⟩) t a1.length ∧ Hid (valB 10 (a1.take t) = prodV ls)) (fun v => match v with | .slice _ n _ => n | _ => 0)
      case atStart => exact ⟨a1.length, hl1, Nat.le_refl _, rfl, by show _ = _; rw [List.take_length]; exact HV.out⟩
      case round =>
        obtain ⟨t, ht1, ht2, rfl, hz⟩ := hrel
        obtain ⟨q, rfl⟩ : ∃ q, t = q + 1 := ⟨t - 1, by omega⟩
        obtain ⟨b2, o2, ha2, p2⟩ := HA.out q (by omega)
        cases ha2
        rw [Nat.zero_add] at p2
        by_cases hgo : 0 < q ∧ a1.getD q 0 = 0
        · obtain ⟨h2, h3⟩ := hgo
          rw [h3] at p2
          have hz2 : Hid (valB 10 (a1.take q) = prodV ls) := by
            show _ = _
            rw [take_val h3]; exact hz.out
          clear h3 hz
          go_wp2
          refine ⟨⟨q, by omega, by omega, by first | rfl | go_num, hz2⟩, by simp⟩
        · have hstop : q = 0 ∨ (0 < q ∧ a1.getD q 0 ≠ 0) := by
            by_cases h : q = 0
            · exact .inl h
            · exact .inr ⟨by omega, fun e => hgo ⟨by omega, e⟩⟩
          have HT : Hid (digT (a1.take (q + 1)) = decDigits (prodV ls)) := by
            show _ = _
            have hlt : (a1.take (q + 1)).length = q + 1 := by rw [List.length_take]; omega
            rw [← hz.out]
            refine digT_dec (fun x hx => HOK.out x (List.mem_of_mem_take hx)) (by omega) ?_
            rw [hlt]
            rcases hstop with h | h
            · exact .inl (by omega)
            · right; rw [take_get (by omega)]; exact h.2
          have HDB := Lib.hid (fun (m : Nat) (hm : m < q + 1) => digT_take (t := a1.take (q + 1)) (k := m) (by rw [List.length_take]; omega))
          have HDL : Hid ((decDigits (prodV ls)).length = q + 1) := by show _ = _; rw [← HT.out, digT_len, List.length_take]; omega
          rw [HT.out] at HDB
          obtain ⟨D, hD⟩ : ∃ D, D = decDigits (prodV ls) := ⟨_, rfl⟩
          rw [← hD] at HDB HDL
          have HDE := Lib.hid hD
          clear hD
          have E1 : Ext wo (wo.alloc (.cells #[.pointer none, .slice none 0 0] 176)) := extA
          have hb3 : (wo.alloc (.cells #[.pointer none, .slice none 0 0] 176)).heap[wo.heap.size]? = some (.cells #[.pointer none, .slice none 0 0] 176 (0, 0)) := World.alloc_heap_new _ _
          have hs3 : (wo.alloc (.cells #[.pointer none, .slice none 0 0] 176)).heap.size = wo.heap.size + 1 := by simp
          have HB0 : Hid (BldW wo.heap.size (wo.heap.size + 1) (D.take 0) (wo.alloc (.cells #[.pointer none, .slice none 0 0] 176))) := BldW.fresh hb3
          have HA1 : Hid (CellsN .i64 (wo.alloc (.cells #[.pointer none, .slice none 0 0] 176)) (some ⟨ob, 0, none⟩) a1) := HA.out.ext E1
          have EE := he.trans E1
          have hob : ob < wo.heap.size := cell_lt p2
          have hws := he.size
          clear hb3 HT HV HA E1
          rcases hstop with hq | ⟨hq, hx⟩
          · have hqi : ¬ 0 < q := by omega
            clear p2 hq
            go_wp2
            go_loopw [105] (fun i W => ∃ m : Nat, m ≤ q + 1 ∧ i = .int .i64 m ∧ Hid (BldW wo.heap.size (wo.heap.size + 1) (D.take m) W) ∧ Hid (CellsN .i64 W (some ⟨ob, 0, none⟩) a1) ∧ Ext w W ∧ wo.heap.size + 1 ≤ W.heap.size) (fun i _ => q + 1 - (intOf i).toNat)
            case atStart => exact ⟨0, by omega, rfl, HB0.out, HA1.out, EE, by omega⟩
            case round =>
              clear HB0 HA1 EE hs3
              obtain ⟨m, hm, rfl, HB, HA, hE, hz⟩ := hrel
              obtain ⟨W0, hW0⟩ : ∃ W0, W0 = wr := ⟨wr, rfl⟩
              subst hW0
              by_cases h3 : m < q + 1
              · obtain ⟨r, hr⟩ : ∃ r, r = q - m := ⟨_, rfl⟩
                obtain ⟨b2, o2, ha2, p2⟩ := HA.out r (by omega)
                cases ha2
                rw [Nat.zero_add] at p2
                have hd := okB_getD HOK.out (by omega) r
                have hnx := HDB.out m h3
                rw [show (a1.take (q + 1)).length - 1 - m = r by rw [List.length_take]; omega, take_get (by omega)] at hnx
                generalize a1.getD r 0 = d at p2 hd hnx
                obtain ⟨c, hc⟩ : ∃ c, c = UInt8.ofNat (48 + d) := ⟨_, rfl⟩
                rw [← hc] at hnx
                have hcn : c.toNat = 48 + d := by rw [hc]; exact digit_toNat hd
                have hw2 : IntKind.i64.wrap ((q : Int) - (m : Int)) = (r : Int) := by rw [IntKind.wrap_i64]; omega
                have hw3 : IntKind.i64.wrap (48 + (d : Int)) = 48 + (d : Int) := by rw [IntKind.wrap_i64]; omega
                have hw4 : IntKind.u8.wrap (48 + (d : Int)) = (c.toNat : Int) := by rw [IntKind.wrap_u8, hcn]; omega
                have hri : (r : Int) < ((q + 1 : Nat) : Int) := by omega
                have hmi : (m : Int) < ((q + 1 : Nat) : Int) := by omega
                have HWB := Lib.hid (WriteByte_any wo.heap.size (wo.heap.size + 1) (D.take m) c W0 HB.out (by omega) hz (by have := HDL.out; rw [List.length_take]; omega))
                rw [← hnx] at HWB
                clear hr hc hcn hnx hd HB
                go_wp2_with (go_at_call 143; refine HWB.out.mono ?_; rintro e w5 ⟨rfl, hB5, hE5⟩)
                have HB5 := Lib.hid hB5
                have HA5 : Hid (CellsN .i64 w5 (some ⟨ob, 0, none⟩) a1) := fun i hi => by
                  obtain ⟨b, off, h1, h2⟩ := HA.out i hi
                  refine ⟨b, off, h1, ?_⟩
                  cases h1
                  rw [Below.cell hE5 (by show ob < wo.heap.size; exact hob)]
                  exact h2
                have E5 := hE.trans' hE5 hws
                have hz5 := hE5.size
                clear hB5 hE5 HWB HA p2
                go_wp2
                refine ⟨⟨m + 1, by omega, by go_num, HB5, HA5, E5, by omega⟩, by simp [intOf]; omega⟩
              · have hmt : D.take m = D := List.take_of_length_le (by have := HDL.out; omega)
                rw [hmt] at HB
                have HS := Lib.hid (Tryz.Builder_String_any wo.heap.size wo.heap.size D W0 (HB.out.is (by omega)) (by omega))
                have hmi : ¬ (m : Int) < ((q + 1 : Nat) : Int) := by omega
                clear hmt HB HA
                go_wp2_with (go_at_call 144; refine HS.out.mono ?_; rintro e w5 ⟨rfl, hE5⟩)
                refine bodyPost_ret (v := txt D) ((results_tmp (t := 2) rfl _ _ _).trans rfl) rfl ?_
                exact ⟨by rw [HDE.out], hE.trans' hE5 hws⟩
          · have hx2 : ((a1.getD q 0 : Int) == 0) = false := by rw [beq_eq_false_iff_ne]; omega
            generalize a1.getD q 0 = x at p2 hx2 hx
            go_wp2
            clear p2 hx2 hx
            go_loopw [105] (fun i W => ∃ m : Nat, m ≤ q + 1 ∧ i = .int .i64 m ∧ Hid (BldW wo.heap.size (wo.heap.size + 1) (D.take m) W) ∧ Hid (CellsN .i64 W (some ⟨ob, 0, none⟩) a1) ∧ Ext w W ∧ wo.heap.size + 1 ≤ W.heap.size) (fun i _ => q + 1 - (intOf i).toNat)
            case atStart => exact ⟨0, by omega, rfl, HB0.out, HA1.out, EE, by omega⟩
            case round =>
              clear HB0 HA1 EE hs3
              obtain ⟨m, hm, rfl, HB, HA, hE, hz⟩ := hrel
              obtain ⟨W0, hW0⟩ : ∃ W0, W0 = wr := ⟨wr, rfl⟩
              subst hW0
              by_cases h3 : m < q + 1
              · obtain ⟨r, hr⟩ : ∃ r, r = q - m := ⟨_, rfl⟩
                obtain ⟨b2, o2, ha2, p2⟩ := HA.out r (by omega)
                cases ha2
                rw [Nat.zero_add] at p2
                have hd := okB_getD HOK.out (by omega) r
                have hnx := HDB.out m h3
                rw [show (a1.take (q + 1)).length - 1 - m = r by rw [List.length_take]; omega, take_get (by omega)] at hnx
                generalize a1.getD r 0 = d at p2 hd hnx
                obtain ⟨c, hc⟩ : ∃ c, c = UInt8.ofNat (48 + d) := ⟨_, rfl⟩
                rw [← hc] at hnx
                have hcn : c.toNat = 48 + d := by rw [hc]; exact digit_toNat hd
                have hw2 : IntKind.i64.wrap ((q : Int) - (m : Int)) = (r : Int) := by rw [IntKind.wrap_i64]; omega
                have hw3 : IntKind.i64.wrap (48 + (d : Int)) = 48 + (d : Int) := by rw [IntKind.wrap_i64]; omega
                have hw4 : IntKind.u8.wrap (48 + (d : Int)) = (c.toNat : Int) := by rw [IntKind.wrap_u8, hcn]; omega
                have hri : (r : Int) < ((q + 1 : Nat) : Int) := by omega
                have hmi : (m : Int) < ((q + 1 : Nat) : Int) := by omega
                have HWB := Lib.hid (WriteByte_any wo.heap.size (wo.heap.size + 1) (D.take m) c W0 HB.out (by omega) hz (by have := HDL.out; rw [List.length_take]; omega))
                rw [← hnx] at HWB
                clear hr hc hcn hnx hd HB
                go_wp2_with (go_at_call 143; refine HWB.out.mono ?_; rintro e w5 ⟨rfl, hB5, hE5⟩)
                have HB5 := Lib.hid hB5
                have HA5 : Hid (CellsN .i64 w5 (some ⟨ob, 0, none⟩) a1) := fun i hi => by
                  obtain ⟨b, off, h1, h2⟩ := HA.out i hi
                  refine ⟨b, off, h1, ?_⟩
                  cases h1
                  rw [Below.cell hE5 (by show ob < wo.heap.size; exact hob)]
                  exact h2
                have E5 := hE.trans' hE5 hws
                have hz5 := hE5.size
                clear hB5 hE5 HWB HA p2
                go_wp2
                refine ⟨⟨m + 1, by omega, by go_num, HB5, HA5, E5, by omega⟩, by simp [intOf]; omega⟩
              · have hmt : D.take m = D := List.take_of_length_le (by have := HDL.out; omega)
                rw [hmt] at HB
                have HS := Lib.hid (Tryz.Builder_String_any wo.heap.size wo.heap.size D W0 (HB.out.is (by omega)) (by omega))
                have hmi : ¬ (m : Int) < ((q + 1 : Nat) : Int) := by omega
                clear hmt HB HA
                go_wp2_with (go_at_call 144; refine HS.out.mono ?_; rintro e w5 ⟨rfl, hE5⟩)
                refine bodyPost_ret (v := txt D) ((results_tmp (t := 2) rfl _ _ _).trans rfl) rfl ?_
                exact ⟨by rw [HDE.out], hE.trans' hE5 hws⟩
end Go.Proofs.YtdejgaiocjfhjaaGreatDoor
namespace Go.Proofs.YtdejgaiocjfhjaaGreatDoor
open Go.Lib (decDigits)
def absN (a : Txt) : Nat := decV (topS (bareS a))
def absD (a : Txt) : Nat := decV (lowS (bareS a))
def greaterE (x y : Txt × Txt) : Bool := decide (prodV [topS (bareS y.1), topS (bareS y.2), lowS (bareS x.1), lowS (bareS x.2)] < prodV [topS (bareS x.1), topS (bareS x.2), lowS (bareS y.1), lowS (bareS y.2)])
theorem prodV_four (a b c d : Txt) : prodV [a, b, c, d] = decV a * decV b * decV c * decV d := by simp [prodV]
theorem bare_top (a : Txt) : topS (bareS a) = bareS (topS a) ∧ lowS (bareS a) = lowS a ∧ negS (topS a) = negS a := by
  cases hn : negS a
  · rw [bare_pos hn]
    have h2 : negS (topS a) = false := by
      unfold negS at hn ⊢
      cases a with
      | nil => rfl
      | cons c a =>
        unfold topS
        rw [List.takeWhile_cons]
        split
        · exact hn
        · rfl
    rw [bare_pos h2]
    exact ⟨rfl, rfl, h2⟩
  · have e := neg_cons hn
    generalize bareS a = s at *
    subst e
    have h1 : topS (45 :: s) = 45 :: topS s := by
      unfold topS
      rw [List.takeWhile_cons, if_pos (by decide)]
    have h2 : lowS (45 :: s) = lowS s := by
      unfold lowS
      have hm : (47 ∈ (45 :: s : Txt)) ↔ 47 ∈ s := ⟨fun h => (List.mem_cons.1 h).resolve_left (by decide), fun h => List.mem_cons_of_mem _ h⟩
      by_cases k : 47 ∈ s
      · rw [if_pos k, if_pos (hm.2 k), List.dropWhile_cons, if_pos (by decide)]
      · rw [if_neg k, if_neg (fun h => k (hm.1 h))]
    rw [h1, h2]
    exact ⟨rfl, rfl, rfl⟩
theorem canon_len {s : Txt} {v : Nat} (h : CanonL s) (e : decV s = v) (hv : v < 10 ^ 60) : s.length ≤ 60 := by
  rw [← canon_back h, e]
  exact (digits_len_le v 60 (by omega)).2 hv
theorem right_parts {a : Txt} (h : fracE a = 0) : (DigitL (topS (bareS a)) ∧ (topS (bareS a)).length ≤ 60) ∧ (DigitL (lowS (bareS a)) ∧ (lowS (bareS a)).length ≤ 60) ∧
    absN a = (fracQ a).num.natAbs ∧ absD a = (fracQ a).den := by
  obtain ⟨h1, h2, h3, h4, h5, _, _⟩ := frac_parts h
  obtain ⟨k1, k2⟩ := frac_num h
  obtain ⟨b1, b2, _⟩ := bare_top a
  unfold absN absD
  rw [b1, b2, k1, k2, intV_abs]
  rw [intV_abs] at h2
  exact ⟨⟨h1.1.1, canon_len h1.1 rfl h2⟩, ⟨h3.1, canon_len h3 rfl h5⟩, rfl, rfl⟩
theorem decV_cons (c : UInt8) (l : Txt) : decV (c :: l) = (c.toNat - 48) * 10 ^ l.length + decV l := by
  rw [show c :: l = [c] ++ l from rfl, decV_append]
  congr 2
  simp [decV]
theorem bytes_less : ∀ {a b : Txt}, DigitL a → DigitL b → a.length = b.length → Op.bytesLess a b = decide (decV a < decV b)
  | [], [], _, _, _ => by simp [Op.bytesLess]
  | [], _ :: _, _, _, h => by simp at h
  | _ :: _, [], _, _, h => by simp at h
  | c :: a, d :: b, ha, hb, h => by
    have ha2 : DigitL a := fun x hx => ha x (List.mem_cons_of_mem _ hx)
    have hb2 : DigitL b := fun x hx => hb x (List.mem_cons_of_mem _ hx)
    have hl : a.length = b.length := by simpa using h
    have hc := ha c (List.mem_cons_self ..)
    have hd := hb d (List.mem_cons_self ..)
    have ih := bytes_less ha2 hb2 hl
    have k1 := decV_lt ha2
    have k2 := decV_lt hb2
    unfold Op.bytesLess
    rw [ih, decV_cons, decV_cons, hl]
    rw [hl] at k1
    generalize decV a = x at *
    generalize decV b = y at *
    generalize 10 ^ b.length = T at *
    rcases Nat.lt_trichotomy c.toNat d.toNat with e | e | e
    · have h1 : (c.toNat - 48) * T + T ≤ (d.toNat - 48) * T := by
        rw [← Nat.succ_mul]; exact Nat.mul_le_mul_right _ (by omega)
      have h2 : c < d := UInt8.lt_iff_toNat_lt.2 e
      have h9 : (c.toNat - 48) * T + x < (d.toNat - 48) * T + y := by omega
      rw [decide_eq_true h2, decide_eq_true h9]
      rfl
    · have e2 : c = d := UInt8.toNat_inj.1 e
      subst e2
      rw [decide_eq_false (fun h => Nat.lt_irrefl _ (UInt8.lt_iff_toNat_lt.1 h))]
      simp
    · have h1 : (d.toNat - 48) * T + T ≤ (c.toNat - 48) * T := by
        rw [← Nat.succ_mul]; exact Nat.mul_le_mul_right _ (by omega)
      have h2 : ¬ c < d := fun h => by have := UInt8.lt_iff_toNat_lt.1 h; omega
      have h3 : (c == d) = false := by rw [beq_eq_false_iff_ne]; intro h; rw [h] at e; omega
      have h9 : ¬ (c.toNat - 48) * T + x < (d.toNat - 48) * T + y := by omega
      rw [decide_eq_false h2, h3, decide_eq_false h9]
      rfl
theorem dec_len_lt {P Q : Nat} (h : (decDigits Q).length < (decDigits P).length) : Q < P := by
  have h0 : 1 ≤ (decDigits Q).length := by
    have := (digits_ok Q).2.2
    cases hd : decDigits Q with
    | nil => exact absurd hd this
    | cons _ _ => simp
  have h1 : ¬ P < 10 ^ (decDigits Q).length := fun h2 => by
    have := (digits_len_le P _ h0).2 h2
    omega
  have h3 := (digits_len_le Q _ h0).1 (Nat.le_refl _)
  omega
theorem dec_order_len {P Q : Nat} (h : (decDigits P).length ≠ (decDigits Q).length) : decide ((decDigits Q).length < (decDigits P).length) = decide (Q < P) := by
  by_cases k : (decDigits Q).length < (decDigits P).length
  · rw [decide_eq_true k, decide_eq_true (dec_len_lt k)]
  · have := dec_len_lt (P := Q) (Q := P) (by omega)
    rw [decide_eq_false k, decide_eq_false (by omega)]
theorem dec_order {P Q : Nat} (h : (decDigits P).length = (decDigits Q).length) : (!(Op.bytesLess (decDigits P) (decDigits Q) || decDigits P == decDigits Q)) = decide (Q < P) := by
  rw [bytes_less (digits_ok P).1 (digits_ok Q).1 h, (digits_ok P).2.1, (digits_ok Q).2.1]
  have he : (decDigits P == decDigits Q) = decide (P = Q) := by
    by_cases k : P = Q
    · subst k; simp
    · rw [decide_eq_false k, beq_eq_false_iff_ne]
      intro e
      have := congrArg decV e
      rw [(digits_ok P).2.1, (digits_ok Q).2.1] at this
      exact k this
  rw [he]
  by_cases k : Q < P
  · rw [decide_eq_true k, decide_eq_false (show ¬ P < Q by omega), decide_eq_false (show ¬ P = Q by omega)]; rfl
  · rw [decide_eq_false k]
    by_cases k2 : P < Q
    · rw [decide_eq_true k2]; rfl
    · rw [decide_eq_true (show P = Q by omega)]; simp
end Go.Proofs.YtdejgaiocjfhjaaGreatDoor
namespace Go.Proofs.YtdejgaiocjfhjaaGreatDoor
open Go.RowKit
open Go.Lib (decDigits)
attribute [local go_sem] Oper.semAt_some
set_option maxHeartbeats 2000000 in
theorem eParts_any (a : Txt) (w : World) (hG : Glob w) (hl : a.length ≤ 400) : Calls Tryz.prog 110 #[txt a] w fun e w' => e = .returned (.tuple #[txt (topS (bareS a)), txt (lowS (bareS a))]) ∧ Ext w w' := by
  have HT := Lib.hid (fun W => TrimPrefix_any a W)
  have HC := Lib.hid (Cut_any (bareS a) w hG (Nat.le_trans (bare_len a) (by omega)))
  clear hG hl
  generalize bareS a = s at *
  by_cases hs : 47 ∈ s
  · rw [if_pos hs, decide_eq_true hs] at HC
    clear hs
    generalize topS s = n at *
    generalize lowS s = d at *
    go_enter Tryz.func110, Tryz.ntmps110
    go_wp2_with (first
      | (go_at_call 142; (refine (HT.out _).mono ?_); rintro e w1 ⟨rfl, rfl⟩)
      | (go_at_call 127; (refine HC.out.mono ?_); rintro e w2 ⟨rfl, hE⟩))
    go_ret2
    exact ⟨rfl, hE⟩
  · rw [if_neg hs, decide_eq_false hs] at HC
    rw [(split_none hs).2]
    clear hs
    generalize topS s = n at *
    go_enter Tryz.func110, Tryz.ntmps110
    go_wp2_with (first
      | (go_at_call 142; (refine (HT.out _).mono ?_); rintro e w1 ⟨rfl, rfl⟩)
      | (go_at_call 127; (refine HC.out.mono ?_); rintro e w2 ⟨rfl, hE⟩))
    go_ret2
    exact ⟨rfl, hE⟩
structure FourAt (b : Nat) (W : World) (p q r s : Txt) : Prop where
  c0 : W.cell? ⟨b, 0, none⟩ = some (txt p)
  c1 : W.cell? ⟨b, 1, none⟩ = some (txt q)
  c2 : W.cell? ⟨b, 2, none⟩ = some (txt r)
  c3 : W.cell? ⟨b, 3, none⟩ = some (txt s)
  f0 : W.frozen? ⟨b, 0, none⟩ = false
  f1 : W.frozen? ⟨b, 1, none⟩ = false
  f2 : W.frozen? ⟨b, 2, none⟩ = false
  f3 : W.frozen? ⟨b, 3, none⟩ = false
theorem FourAt.ext {b : Nat} {A B : World} {p q r s : Txt} (x : FourAt b A p q r s) (e : Ext A B) : FourAt b B p q r s := by
  have hlt : b < A.heap.size := cell_lt x.c0
  exact ⟨e.cell x.c0, e.cell x.c1, e.cell x.c2, e.cell x.c3, by rw [Below.frozen e hlt]; exact x.f0, by rw [Below.frozen e hlt]; exact x.f1, by rw [Below.frozen e hlt]; exact x.f2, by rw [Below.frozen e hlt]; exact x.f3⟩
theorem FourAt.other {b c o : Nat} {A : World} {p q r s : Txt} {v : Value} (x : FourAt b A p q r s) (hn : b ≠ c) : FourAt b (A.setCell ⟨c, o, none⟩ v) p q r s :=
  ⟨by rw [World.cell?_setCell_other _ _ _ _ (fun h => by simp only [Addr.mk.injEq] at h; omega)]; exact x.c0, by rw [World.cell?_setCell_other _ _ _ _ (fun h => by simp only [Addr.mk.injEq] at h; omega)]; exact x.c1, by rw [World.cell?_setCell_other _ _ _ _ (fun h => by simp only [Addr.mk.injEq] at h; omega)]; exact x.c2, by rw [World.cell?_setCell_other _ _ _ _ (fun h => by simp only [Addr.mk.injEq] at h; omega)]; exact x.c3, by rw [World.frozen?_setCell]; exact x.f0, by rw [World.frozen?_setCell]; exact x.f1, by rw [World.frozen?_setCell]; exact x.f2, by rw [World.frozen?_setCell]; exact x.f3⟩
theorem FourAt.set0 {b : Nat} {A : World} {p q r s : Txt} (x : FourAt b A p q r s) (v : Txt) : FourAt b (A.setCell ⟨b, 0, none⟩ (txt v)) v q r s :=
  ⟨World.cell?_setCell_same _ _ _ x.c0, by rw [World.cell?_setCell_other _ _ _ _ (fun h => by simp only [Addr.mk.injEq] at h; omega)]; exact x.c1, by rw [World.cell?_setCell_other _ _ _ _ (fun h => by simp only [Addr.mk.injEq] at h; omega)]; exact x.c2, by rw [World.cell?_setCell_other _ _ _ _ (fun h => by simp only [Addr.mk.injEq] at h; omega)]; exact x.c3, by rw [World.frozen?_setCell]; exact x.f0, by rw [World.frozen?_setCell]; exact x.f1, by rw [World.frozen?_setCell]; exact x.f2, by rw [World.frozen?_setCell]; exact x.f3⟩
theorem FourAt.set1 {b : Nat} {A : World} {p q r s : Txt} (x : FourAt b A p q r s) (v : Txt) : FourAt b (A.setCell ⟨b, 1, none⟩ (txt v)) p v r s :=
  ⟨by rw [World.cell?_setCell_other _ _ _ _ (fun h => by simp only [Addr.mk.injEq] at h; omega)]; exact x.c0, World.cell?_setCell_same _ _ _ x.c1, by rw [World.cell?_setCell_other _ _ _ _ (fun h => by simp only [Addr.mk.injEq] at h; omega)]; exact x.c2, by rw [World.cell?_setCell_other _ _ _ _ (fun h => by simp only [Addr.mk.injEq] at h; omega)]; exact x.c3, by rw [World.frozen?_setCell]; exact x.f0, by rw [World.frozen?_setCell]; exact x.f1, by rw [World.frozen?_setCell]; exact x.f2, by rw [World.frozen?_setCell]; exact x.f3⟩
theorem FourAt.set2 {b : Nat} {A : World} {p q r s : Txt} (x : FourAt b A p q r s) (v : Txt) : FourAt b (A.setCell ⟨b, 2, none⟩ (txt v)) p q v s :=
  ⟨by rw [World.cell?_setCell_other _ _ _ _ (fun h => by simp only [Addr.mk.injEq] at h; omega)]; exact x.c0, by rw [World.cell?_setCell_other _ _ _ _ (fun h => by simp only [Addr.mk.injEq] at h; omega)]; exact x.c1, World.cell?_setCell_same _ _ _ x.c2, by rw [World.cell?_setCell_other _ _ _ _ (fun h => by simp only [Addr.mk.injEq] at h; omega)]; exact x.c3, by rw [World.frozen?_setCell]; exact x.f0, by rw [World.frozen?_setCell]; exact x.f1, by rw [World.frozen?_setCell]; exact x.f2, by rw [World.frozen?_setCell]; exact x.f3⟩
theorem FourAt.set3 {b : Nat} {A : World} {p q r s : Txt} (x : FourAt b A p q r s) (v : Txt) : FourAt b (A.setCell ⟨b, 3, none⟩ (txt v)) p q r v :=
  ⟨by rw [World.cell?_setCell_other _ _ _ _ (fun h => by simp only [Addr.mk.injEq] at h; omega)]; exact x.c0, by rw [World.cell?_setCell_other _ _ _ _ (fun h => by simp only [Addr.mk.injEq] at h; omega)]; exact x.c1, by rw [World.cell?_setCell_other _ _ _ _ (fun h => by simp only [Addr.mk.injEq] at h; omega)]; exact x.c2, World.cell?_setCell_same _ _ _ x.c3, by rw [World.frozen?_setCell]; exact x.f0, by rw [World.frozen?_setCell]; exact x.f1, by rw [World.frozen?_setCell]; exact x.f2, by rw [World.frozen?_setCell]; exact x.f3⟩
theorem cells_four {W : World} {b : Nat} {p q r s : Txt} (x : FourAt b W p q r s) : CellsT W (some ⟨b, 0, none⟩) [p, q, r, s] := fun i hi => by
  refine ⟨b, 0, rfl, ?_⟩
  rw [Nat.zero_add]
  match i, hi with
  | 0, _ => exact x.c0
  | 1, _ => exact x.c1
  | 2, _ => exact x.c2
  | 3, _ => exact x.c3
theorem prod_four (p q r s : Txt) (hp : DigitL p ∧ p.length ≤ 60) (hq : DigitL q ∧ q.length ≤ 60) (hr : DigitL r ∧ r.length ≤ 60) (hs : DigitL s ∧ s.length ≤ 60) (b : Nat) (W : World) (x : FourAt b W p q r s) :
    Calls Tryz.prog 111 #[.slice (some ⟨b, 0, none⟩) 4 4] W fun e w' => e = .returned (txt (decDigits (prodV [p, q, r, s]))) ∧ Ext W w' :=
  product_any [p, q, r, s] (some ⟨b, 0, none⟩) 4 W (cells_four x) (Nat.le_refl 4) (fun k hk => by
    match k, hk with
    | 0, _ => exact hp
    | 1, _ => exact hq
    | 2, _ => exact hr
    | 3, _ => exact hs)
set_option maxHeartbeats 8000000 in
set_option maxRecDepth 100000 in
theorem eGreater_any (x0 x1 y0 y1 : Txt) (w : World) (hG : Glob w) (h1 : x0.length ≤ 400) (h2 : x1.length ≤ 400) (h3 : y0.length ≤ 400) (h4 : y1.length ≤ 400)
    (r1 : fracE x0 = 0) (r2 : fracE x1 = 0) (r3 : fracE y0 = 0) (r4 : fracE y1 = 0) :
    Calls Tryz.prog 69 #[.agg #[txt x0, txt x1], .agg #[txt y0, txt y1]] w fun e w' => e = .returned (.bool (greaterE (x0, x1) (y0, y1))) ∧ Ext w w' := by
  have H0 := Lib.hid (fun W (h : Ext w W) => eParts_any x0 W (hG.ext h) h1)
  have H1 := Lib.hid (fun W (h : Ext w W) => eParts_any x1 W (hG.ext h) h2)
  have H2 := Lib.hid (fun W (h : Ext w W) => eParts_any y0 W (hG.ext h) h3)
  have H3 := Lib.hid (fun W (h : Ext w W) => eParts_any y1 W (hG.ext h) h4)
  obtain ⟨t0, l0, _⟩ := right_parts r1
  obtain ⟨t1, l1, _⟩ := right_parts r2
  obtain ⟨t2, l2, _⟩ := right_parts r3
  obtain ⟨t3, l3, _⟩ := right_parts r4
  have HP := Lib.hid (fun b W => prod_four _ _ _ _ t0 t1 l2 l3 b W)
  have HQ := Lib.hid (fun b W => prod_four _ _ _ _ t2 t3 l0 l1 b W)
  clear hG h1 h2 h3 h4 t0 t1 t2 t3 l0 l1 l2 l3 r1 r2 r3 r4
  obtain ⟨C, hC⟩ : ∃ C, C = greaterE (x0, x1) (y0, y1) := ⟨_, rfl⟩
  rw [← hC]
  unfold greaterE at hC
  dsimp only at hC
  generalize topS (bareS x0) = n0 at *
  generalize topS (bareS x1) = n1 at *
  generalize topS (bareS y0) = n2 at *
  generalize topS (bareS y1) = n3 at *
  generalize lowS (bareS x0) = d0 at *
  generalize lowS (bareS x1) = d1 at *
  generalize lowS (bareS y0) = d2 at *
  generalize lowS (bareS y1) = d3 at *
  generalize prodV [n0, n1, d2, d3] = A at *
  generalize prodV [n2, n3, d0, d1] = B at *
  have HC := Lib.hid hC
  clear hC
  have T : FourAt (w.heap.size + 1 + 1) (((((w.alloc (.cells #[txt x0, txt x1] 93)).alloc (.cells #[txt y0, txt y1] 93)).alloc (.cells #[.string ⟨#[]⟩, .string ⟨#[]⟩, .string ⟨#[]⟩, .string ⟨#[]⟩] 136)).alloc (.cells #[.string ⟨#[]⟩, .string ⟨#[]⟩, .string ⟨#[]⟩, .string ⟨#[]⟩] 136)).alloc (.cells #[txt x0, txt x1, txt y0, txt y1] 22)) [] [] [] [] := ⟨by go_simp, by go_simp, by go_simp, by go_simp, by go_simp, by go_simp, by go_simp, by go_simp⟩
  have L : FourAt (w.heap.size + 1 + 1 + 1) (((((w.alloc (.cells #[txt x0, txt x1] 93)).alloc (.cells #[txt y0, txt y1] 93)).alloc (.cells #[.string ⟨#[]⟩, .string ⟨#[]⟩, .string ⟨#[]⟩, .string ⟨#[]⟩] 136)).alloc (.cells #[.string ⟨#[]⟩, .string ⟨#[]⟩, .string ⟨#[]⟩, .string ⟨#[]⟩] 136)).alloc (.cells #[txt x0, txt x1, txt y0, txt y1] 22)) [] [] [] [] := ⟨by go_simp, by go_simp, by go_simp, by go_simp, by go_simp, by go_simp, by go_simp, by go_simp⟩
  have X : FourAt (w.heap.size + 1 + 1 + 1 + 1) (((((w.alloc (.cells #[txt x0, txt x1] 93)).alloc (.cells #[txt y0, txt y1] 93)).alloc (.cells #[.string ⟨#[]⟩, .string ⟨#[]⟩, .string ⟨#[]⟩, .string ⟨#[]⟩] 136)).alloc (.cells #[.string ⟨#[]⟩, .string ⟨#[]⟩, .string ⟨#[]⟩, .string ⟨#[]⟩] 136)).alloc (.cells #[txt x0, txt x1, txt y0, txt y1] 22)) x0 x1 y0 y1 := ⟨by go_simp, by go_simp, by go_simp, by go_simp, by go_simp, by go_simp, by go_simp, by go_simp⟩
  have E : Ext w (((((w.alloc (.cells #[txt x0, txt x1] 93)).alloc (.cells #[txt y0, txt y1] 93)).alloc (.cells #[.string ⟨#[]⟩, .string ⟨#[]⟩, .string ⟨#[]⟩, .string ⟨#[]⟩] 136)).alloc (.cells #[.string ⟨#[]⟩, .string ⟨#[]⟩, .string ⟨#[]⟩, .string ⟨#[]⟩] 136)).alloc (.cells #[txt x0, txt x1, txt y0, txt y1] 22)) := extA
  go_enter Tryz.func69, Tryz.ntmps69
  go_wp2
  generalize (((((w.alloc (.cells #[txt x0, txt x1] 93)).alloc (.cells #[txt y0, txt y1] 93)).alloc (.cells #[.string ⟨#[]⟩, .string ⟨#[]⟩, .string ⟨#[]⟩, .string ⟨#[]⟩] 136)).alloc (.cells #[.string ⟨#[]⟩, .string ⟨#[]⟩, .string ⟨#[]⟩, .string ⟨#[]⟩] 136)).alloc (.cells #[txt x0, txt x1, txt y0, txt y1] 22)) = w0 at T L X E ⊢
  refine wp_loop_rounds 5 ?_
  have X0 := X
  obtain ⟨c0, c1, c2, c3, _, _, _, _⟩ := X0
  rw [rounds_succ]
  go_wp2_with fail
  refine (H0.out _ E).mono ?_
  clear c0 c1 c2 c3
  rintro e w1 ⟨rfl, hE⟩
  replace T := T.ext hE
  replace L := L.ext hE
  replace X := X.ext hE
  replace E := E.trans hE
  clear hE
  have T0 := T
  have L0 := L
  obtain ⟨a0, a1, a2, a3, f0, f1, f2, f3⟩ := T0
  obtain ⟨b0, b1, b2, b3, g0, g1, g2, g3⟩ := L0
  go_wp2_with fail
  clear a0 a1 a2 a3 f0 f1 f2 f3 b0 b1 b2 b3 g0 g1 g2 g3
  replace T := (T.set0 n0).other (c := w.heap.size + 1 + 1 + 1) (o := 0) (v := txt d0) (by omega)
  replace L := (L.other (c := w.heap.size + 1 + 1) (o := 0) (v := txt n0) (by omega)).set0 d0
  replace X := (X.other (c := w.heap.size + 1 + 1) (o := 0) (v := txt n0) (by omega)).other (c := w.heap.size + 1 + 1 + 1) (o := 0) (v := txt d0) (by omega)
  replace E := (E.set (b := w.heap.size + 1 + 1) (o := 0) (by omega) (txt n0)).set (b := w.heap.size + 1 + 1 + 1) (o := 0) (by omega) (txt d0)
  generalize ((w1.setCell ⟨w.heap.size + 1 + 1, 0, none⟩ (txt n0)).setCell ⟨w.heap.size + 1 + 1 + 1, 0, none⟩ (txt d0)) = w1 at T L X E ⊢
  have X0 := X
  obtain ⟨c0, c1, c2, c3, _, _, _, _⟩ := X0
  rw [rounds_succ]
  go_wp2_with fail
  refine (H1.out _ E).mono ?_
  clear c0 c1 c2 c3
  rintro e w2 ⟨rfl, hE⟩
  replace T := T.ext hE
  replace L := L.ext hE
  replace X := X.ext hE
  replace E := E.trans hE
  clear hE
  have T0 := T
  have L0 := L
  obtain ⟨a0, a1, a2, a3, f0, f1, f2, f3⟩ := T0
  obtain ⟨b0, b1, b2, b3, g0, g1, g2, g3⟩ := L0
  go_wp2_with fail
  clear a0 a1 a2 a3 f0 f1 f2 f3 b0 b1 b2 b3 g0 g1 g2 g3
  replace T := (T.set1 n1).other (c := w.heap.size + 1 + 1 + 1) (o := 1) (v := txt d1) (by omega)
  replace L := (L.other (c := w.heap.size + 1 + 1) (o := 1) (v := txt n1) (by omega)).set1 d1
  replace X := (X.other (c := w.heap.size + 1 + 1) (o := 1) (v := txt n1) (by omega)).other (c := w.heap.size + 1 + 1 + 1) (o := 1) (v := txt d1) (by omega)
  replace E := (E.set (b := w.heap.size + 1 + 1) (o := 1) (by omega) (txt n1)).set (b := w.heap.size + 1 + 1 + 1) (o := 1) (by omega) (txt d1)
  generalize ((w2.setCell ⟨w.heap.size + 1 + 1, 1, none⟩ (txt n1)).setCell ⟨w.heap.size + 1 + 1 + 1, 1, none⟩ (txt d1)) = w2 at T L X E ⊢
  have X0 := X
  obtain ⟨c0, c1, c2, c3, _, _, _, _⟩ := X0
  rw [rounds_succ]
  go_wp2_with fail
  refine (H2.out _ E).mono ?_
  clear c0 c1 c2 c3
  rintro e w3 ⟨rfl, hE⟩
  replace T := T.ext hE
  replace L := L.ext hE
  replace X := X.ext hE
  replace E := E.trans hE
  clear hE
  have T0 := T
  have L0 := L
  obtain ⟨a0, a1, a2, a3, f0, f1, f2, f3⟩ := T0
  obtain ⟨b0, b1, b2, b3, g0, g1, g2, g3⟩ := L0
  go_wp2_with fail
  clear a0 a1 a2 a3 f0 f1 f2 f3 b0 b1 b2 b3 g0 g1 g2 g3
  replace T := (T.set2 n2).other (c := w.heap.size + 1 + 1 + 1) (o := 2) (v := txt d2) (by omega)
  replace L := (L.other (c := w.heap.size + 1 + 1) (o := 2) (v := txt n2) (by omega)).set2 d2
  replace X := (X.other (c := w.heap.size + 1 + 1) (o := 2) (v := txt n2) (by omega)).other (c := w.heap.size + 1 + 1 + 1) (o := 2) (v := txt d2) (by omega)
  replace E := (E.set (b := w.heap.size + 1 + 1) (o := 2) (by omega) (txt n2)).set (b := w.heap.size + 1 + 1 + 1) (o := 2) (by omega) (txt d2)
  generalize ((w3.setCell ⟨w.heap.size + 1 + 1, 2, none⟩ (txt n2)).setCell ⟨w.heap.size + 1 + 1 + 1, 2, none⟩ (txt d2)) = w3 at T L X E ⊢
  have X0 := X
  obtain ⟨c0, c1, c2, c3, _, _, _, _⟩ := X0
  rw [rounds_succ]
  go_wp2_with fail
  refine (H3.out _ E).mono ?_
  clear c0 c1 c2 c3
  rintro e w4 ⟨rfl, hE⟩
  replace T := T.ext hE
  replace L := L.ext hE
  replace X := X.ext hE
  replace E := E.trans hE
  clear hE
  have T0 := T
  have L0 := L
  obtain ⟨a0, a1, a2, a3, f0, f1, f2, f3⟩ := T0
  obtain ⟨b0, b1, b2, b3, g0, g1, g2, g3⟩ := L0
  go_wp2_with fail
  clear a0 a1 a2 a3 f0 f1 f2 f3 b0 b1 b2 b3 g0 g1 g2 g3
  replace T := (T.set3 n3).other (c := w.heap.size + 1 + 1 + 1) (o := 3) (v := txt d3) (by omega)
  replace L := (L.other (c := w.heap.size + 1 + 1) (o := 3) (v := txt n3) (by omega)).set3 d3
  replace X := (X.other (c := w.heap.size + 1 + 1) (o := 3) (v := txt n3) (by omega)).other (c := w.heap.size + 1 + 1 + 1) (o := 3) (v := txt d3) (by omega)
  replace E := (E.set (b := w.heap.size + 1 + 1) (o := 3) (by omega) (txt n3)).set (b := w.heap.size + 1 + 1 + 1) (o := 3) (by omega) (txt d3)
  generalize ((w4.setCell ⟨w.heap.size + 1 + 1, 3, none⟩ (txt n3)).setCell ⟨w.heap.size + 1 + 1 + 1, 3, none⟩ (txt d3)) = w4 at T L X E ⊢
  rw [rounds_succ]
  go_wp2_with fail
  have hD : Ext w4 w4.drew := extA
  have ED := E.trans hD
  obtain ⟨a0, a1, a2, a3, _, _, _, _⟩ := T
  obtain ⟨b0, b1, b2, b3, _, _, _, _⟩ := L
  have hS : w4.drew.cell? ⟨w.heap.size + 1 + 1, 0, none⟩ = some (txt n0) ∧ w4.drew.cell? ⟨w.heap.size + 1 + 1, 1, none⟩ = some (txt n1) ∧ w4.drew.cell? ⟨w.heap.size + 1 + 1, 2, none⟩ = some (txt n2) ∧ w4.drew.cell? ⟨w.heap.size + 1 + 1, 3, none⟩ = some (txt n3) ∧ w4.drew.cell? ⟨w.heap.size + 1 + 1 + 1, 0, none⟩ = some (txt d0) ∧ w4.drew.cell? ⟨w.heap.size + 1 + 1 + 1, 1, none⟩ = some (txt d1) ∧ w4.drew.cell? ⟨w.heap.size + 1 + 1 + 1, 2, none⟩ = some (txt d2) ∧ w4.drew.cell? ⟨w.heap.size + 1 + 1 + 1, 3, none⟩ = some (txt d3) := ⟨hD.cell a0, hD.cell a1, hD.cell a2, hD.cell a3, hD.cell b0, hD.cell b1, hD.cell b2, hD.cell b3⟩
  refine wp_region_heldE 99 (fun w' => w'.cell? ⟨w.heap.size + 1 + 1, 0, none⟩ = some (txt n0) ∧ w'.cell? ⟨w.heap.size + 1 + 1, 1, none⟩ = some (txt n1) ∧ w'.cell? ⟨w.heap.size + 1 + 1, 2, none⟩ = some (txt n2) ∧ w'.cell? ⟨w.heap.size + 1 + 1, 3, none⟩ = some (txt n3) ∧ w'.cell? ⟨w.heap.size + 1 + 1 + 1, 0, none⟩ = some (txt d0) ∧ w'.cell? ⟨w.heap.size + 1 + 1 + 1, 1, none⟩ = some (txt d1) ∧ w'.cell? ⟨w.heap.size + 1 + 1 + 1, 2, none⟩ = some (txt d2) ∧ w'.cell? ⟨w.heap.size + 1 + 1 + 1, 3, none⟩ = some (txt d3)) (by kernel_rfl) ?_
  clear a0 a1 a2 a3 b0 b1 b2 b3 E X hD
  generalize w4.drew = w5 at ED hS ⊢
  ((refine eTk 0 ?_); (refine eTk 1 ?_); (refine eTk 2 ?_); (refine eTk 3 ?_); (refine eTk 4 ?_); (refine eTk 5 ?_); (refine eTk 6 ?_); (refine eTk 7 ?_); (refine eTk 10 ?_); (refine eTk 11 ?_); (refine eTk 12 ?_); (refine eTk 13 ?_); (refine eTk 14 ?_); (refine eTk 15 ?_); (refine eTk 16 ?_); (refine eTk 17 ?_))
  refine wpAnyE_two (i := 8) (j := 18) (o := ?_) (p := ?_) (by (simp only [List.getElem?_toArray, List.getElem?_cons_succ, List.getElem?_cons_zero]; exact rfl)) (by (simp only [List.getElem?_toArray, List.getElem?_cons_succ, List.getElem?_cons_zero]; exact rfl)) (by kernel_rfl) (fun K hK => ?_) (fun K hK => ?_)
  · have FA : FourAt w5.heap.size (w5.alloc (.cells #[txt n0, txt n1, txt d2, txt d3] 9)) n0 n1 d2 d3 := ⟨by go_simp, by go_simp, by go_simp, by go_simp, by go_simp, by go_simp, by go_simp, by go_simp⟩
    have EB : Ext w5 (w5.alloc (.cells #[txt n0, txt n1, txt d2, txt d3] 9)) := extA
    go_simp
    refine hK.out _ _ ⟨EB.cell hS.1, EB.cell hS.2.1, EB.cell hS.2.2.1, EB.cell hS.2.2.2.1, EB.cell hS.2.2.2.2.1, EB.cell hS.2.2.2.2.2.1, EB.cell hS.2.2.2.2.2.2.1, EB.cell hS.2.2.2.2.2.2.2⟩ (fun _ => ?_)
    clear hK K
    (try simp only [Act.put, List.setIfInBounds_toArray, List.set_cons_zero, List.set_cons_succ])
    replace ED := ED.trans EB
    replace hS : (w5.alloc (.cells #[txt n0, txt n1, txt d2, txt d3] 9)).cell? ⟨w.heap.size + 1 + 1, 0, none⟩ = some (txt n0) ∧ (w5.alloc (.cells #[txt n0, txt n1, txt d2, txt d3] 9)).cell? ⟨w.heap.size + 1 + 1, 1, none⟩ = some (txt n1) ∧ (w5.alloc (.cells #[txt n0, txt n1, txt d2, txt d3] 9)).cell? ⟨w.heap.size + 1 + 1, 2, none⟩ = some (txt n2) ∧ (w5.alloc (.cells #[txt n0, txt n1, txt d2, txt d3] 9)).cell? ⟨w.heap.size + 1 + 1, 3, none⟩ = some (txt n3) ∧ (w5.alloc (.cells #[txt n0, txt n1, txt d2, txt d3] 9)).cell? ⟨w.heap.size + 1 + 1 + 1, 0, none⟩ = some (txt d0) ∧ (w5.alloc (.cells #[txt n0, txt n1, txt d2, txt d3] 9)).cell? ⟨w.heap.size + 1 + 1 + 1, 1, none⟩ = some (txt d1) ∧ (w5.alloc (.cells #[txt n0, txt n1, txt d2, txt d3] 9)).cell? ⟨w.heap.size + 1 + 1 + 1, 2, none⟩ = some (txt d2) ∧ (w5.alloc (.cells #[txt n0, txt n1, txt d2, txt d3] 9)).cell? ⟨w.heap.size + 1 + 1 + 1, 3, none⟩ = some (txt d3) := ⟨EB.cell hS.1, EB.cell hS.2.1, EB.cell hS.2.2.1, EB.cell hS.2.2.2.1, EB.cell hS.2.2.2.2.1, EB.cell hS.2.2.2.2.2.1, EB.cell hS.2.2.2.2.2.2.1, EB.cell hS.2.2.2.2.2.2.2⟩
    obtain ⟨ab, hab⟩ : ∃ b, b = w5.heap.size := ⟨_, rfl⟩
    rw [← hab] at FA ⊢
    generalize (w5.alloc (.cells #[txt n0, txt n1, txt d2, txt d3] 9)) = w6 at ED hS FA  ⊢
    clear hab EB
    refine wpAnyE_two (i := 9) (j := 18) (o := ?_) (p := ?_) (by (simp only [List.getElem?_toArray, List.getElem?_cons_succ, List.getElem?_cons_zero]; exact rfl)) (by (simp only [List.getElem?_toArray, List.getElem?_cons_succ, List.getElem?_cons_zero]; exact rfl)) (by kernel_rfl) (fun K hK => ?_) (fun K hK => ?_)
    · go_simp
      go_at_call 111
      refine (HP.out ab w6 FA).mono ?_
      rintro e w7 ⟨rfl, hE⟩
      go_wp2_with fail
      refine hK.out _ _ ⟨hE.cell hS.1, hE.cell hS.2.1, hE.cell hS.2.2.1, hE.cell hS.2.2.2.1, hE.cell hS.2.2.2.2.1, hE.cell hS.2.2.2.2.2.1, hE.cell hS.2.2.2.2.2.2.1, hE.cell hS.2.2.2.2.2.2.2⟩ (fun _ => ?_)
      clear hK K
      (try simp only [Act.put, List.setIfInBounds_toArray, List.set_cons_zero, List.set_cons_succ])
      replace ED := ED.trans hE
      replace hS : w7.cell? ⟨w.heap.size + 1 + 1, 0, none⟩ = some (txt n0) ∧ w7.cell? ⟨w.heap.size + 1 + 1, 1, none⟩ = some (txt n1) ∧ w7.cell? ⟨w.heap.size + 1 + 1, 2, none⟩ = some (txt n2) ∧ w7.cell? ⟨w.heap.size + 1 + 1, 3, none⟩ = some (txt n3) ∧ w7.cell? ⟨w.heap.size + 1 + 1 + 1, 0, none⟩ = some (txt d0) ∧ w7.cell? ⟨w.heap.size + 1 + 1 + 1, 1, none⟩ = some (txt d1) ∧ w7.cell? ⟨w.heap.size + 1 + 1 + 1, 2, none⟩ = some (txt d2) ∧ w7.cell? ⟨w.heap.size + 1 + 1 + 1, 3, none⟩ = some (txt d3) := ⟨hE.cell hS.1, hE.cell hS.2.1, hE.cell hS.2.2.1, hE.cell hS.2.2.2.1, hE.cell hS.2.2.2.2.1, hE.cell hS.2.2.2.2.2.1, hE.cell hS.2.2.2.2.2.2.1, hE.cell hS.2.2.2.2.2.2.2⟩
      clear hE FA
      have FB : FourAt w7.heap.size (w7.alloc (.cells #[txt n2, txt n3, txt d0, txt d1] 9)) n2 n3 d0 d1 := ⟨by go_simp, by go_simp, by go_simp, by go_simp, by go_simp, by go_simp, by go_simp, by go_simp⟩
      have EB : Ext w7 (w7.alloc (.cells #[txt n2, txt n3, txt d0, txt d1] 9)) := extA
      (refine wpAnyE_one (i := 18) (o := ?_) ?_ (by kernel_rfl) (fun K hK => ?_); rotate_left; (focus ((simp only [List.getElem?_toArray, List.getElem?_cons_succ, List.getElem?_cons_zero]; exact rfl))); go_simp; refine hK.out _ _ ?_ (fun hHeld => ?_); rotate_left; clear hK K; (try simp only [Act.put, List.setIfInBounds_toArray, List.set_cons_zero, List.set_cons_succ]))
      rotate_left
      · exact ⟨EB.cell hS.1, EB.cell hS.2.1, EB.cell hS.2.2.1, EB.cell hS.2.2.2.1, EB.cell hS.2.2.2.2.1, EB.cell hS.2.2.2.2.2.1, EB.cell hS.2.2.2.2.2.2.1, EB.cell hS.2.2.2.2.2.2.2⟩
      clear hHeld
      replace ED := ED.trans EB
      replace hS : (w7.alloc (.cells #[txt n2, txt n3, txt d0, txt d1] 9)).cell? ⟨w.heap.size + 1 + 1, 0, none⟩ = some (txt n0) ∧ (w7.alloc (.cells #[txt n2, txt n3, txt d0, txt d1] 9)).cell? ⟨w.heap.size + 1 + 1, 1, none⟩ = some (txt n1) ∧ (w7.alloc (.cells #[txt n2, txt n3, txt d0, txt d1] 9)).cell? ⟨w.heap.size + 1 + 1, 2, none⟩ = some (txt n2) ∧ (w7.alloc (.cells #[txt n2, txt n3, txt d0, txt d1] 9)).cell? ⟨w.heap.size + 1 + 1, 3, none⟩ = some (txt n3) ∧ (w7.alloc (.cells #[txt n2, txt n3, txt d0, txt d1] 9)).cell? ⟨w.heap.size + 1 + 1 + 1, 0, none⟩ = some (txt d0) ∧ (w7.alloc (.cells #[txt n2, txt n3, txt d0, txt d1] 9)).cell? ⟨w.heap.size + 1 + 1 + 1, 1, none⟩ = some (txt d1) ∧ (w7.alloc (.cells #[txt n2, txt n3, txt d0, txt d1] 9)).cell? ⟨w.heap.size + 1 + 1 + 1, 2, none⟩ = some (txt d2) ∧ (w7.alloc (.cells #[txt n2, txt n3, txt d0, txt d1] 9)).cell? ⟨w.heap.size + 1 + 1 + 1, 3, none⟩ = some (txt d3) := ⟨EB.cell hS.1, EB.cell hS.2.1, EB.cell hS.2.2.1, EB.cell hS.2.2.2.1, EB.cell hS.2.2.2.2.1, EB.cell hS.2.2.2.2.2.1, EB.cell hS.2.2.2.2.2.2.1, EB.cell hS.2.2.2.2.2.2.2⟩
      obtain ⟨bb, hbb⟩ : ∃ b, b = w7.heap.size := ⟨_, rfl⟩
      rw [← hbb] at FB ⊢
      generalize (w7.alloc (.cells #[txt n2, txt n3, txt d0, txt d1] 9)) = w8 at ED hS FB  ⊢
      clear hbb EB
      (refine wpAnyE_one (i := 19) (o := ?_) ?_ (by kernel_rfl) (fun K hK => ?_); rotate_left; (focus ((simp only [List.getElem?_toArray, List.getElem?_cons_succ, List.getElem?_cons_zero]; exact rfl))); go_simp; go_at_call 111; refine (HQ.out bb w8 FB).mono ?_; rintro e w9 ⟨rfl, hE⟩; go_wp2_with fail; refine hK.out _ _ ?_ (fun hHeld => ?_); rotate_left; clear hK K; (try simp only [Act.put, List.setIfInBounds_toArray, List.set_cons_zero, List.set_cons_succ]))
      rotate_left
      · exact ⟨hE.cell hS.1, hE.cell hS.2.1, hE.cell hS.2.2.1, hE.cell hS.2.2.2.1, hE.cell hS.2.2.2.2.1, hE.cell hS.2.2.2.2.2.1, hE.cell hS.2.2.2.2.2.2.1, hE.cell hS.2.2.2.2.2.2.2⟩
      clear hHeld
      replace ED := ED.trans hE
      replace hS : w9.cell? ⟨w.heap.size + 1 + 1, 0, none⟩ = some (txt n0) ∧ w9.cell? ⟨w.heap.size + 1 + 1, 1, none⟩ = some (txt n1) ∧ w9.cell? ⟨w.heap.size + 1 + 1, 2, none⟩ = some (txt n2) ∧ w9.cell? ⟨w.heap.size + 1 + 1, 3, none⟩ = some (txt n3) ∧ w9.cell? ⟨w.heap.size + 1 + 1 + 1, 0, none⟩ = some (txt d0) ∧ w9.cell? ⟨w.heap.size + 1 + 1 + 1, 1, none⟩ = some (txt d1) ∧ w9.cell? ⟨w.heap.size + 1 + 1 + 1, 2, none⟩ = some (txt d2) ∧ w9.cell? ⟨w.heap.size + 1 + 1 + 1, 3, none⟩ = some (txt d3) := ⟨hE.cell hS.1, hE.cell hS.2.1, hE.cell hS.2.2.1, hE.cell hS.2.2.2.1, hE.cell hS.2.2.2.2.1, hE.cell hS.2.2.2.2.2.1, hE.cell hS.2.2.2.2.2.2.1, hE.cell hS.2.2.2.2.2.2.2⟩
      clear hE FB
      ((refine ePu 20 ?_); (refine ePu 21 ?_))
      refine wpAnyE_done (by kernel_rfl) ?_ _
      clear hS
      by_cases hle : (decDigits A).length = (decDigits B).length
      · have g1 : ((((decDigits A).length : Nat) : Int) != (((decDigits B).length : Nat) : Int)) = false := by rw [hle]; simp
        have HF := Lib.hid ((HC.out.trans (dec_order hle).symm).trans (Bool.not_or _ _))
        clear hle
        go_wp2
        go_ret
        exact ⟨by rw [HF.out]; rfl, extA⟩
      · have g1 : ((((decDigits A).length : Nat) : Int) != (((decDigits B).length : Nat) : Int)) = true := by rw [bne_iff_ne]; omega
        have HF := Lib.hid (HC.out.trans (dec_order_len hle).symm)
        clear hle
        go_wp2
        go_ret
        exact ⟨by rw [HF.out]; simp, extA⟩
    · have FB : FourAt w6.heap.size (w6.alloc (.cells #[txt n2, txt n3, txt d0, txt d1] 9)) n2 n3 d0 d1 := ⟨by go_simp, by go_simp, by go_simp, by go_simp, by go_simp, by go_simp, by go_simp, by go_simp⟩
      have EB : Ext w6 (w6.alloc (.cells #[txt n2, txt n3, txt d0, txt d1] 9)) := extA
      go_simp
      refine hK.out _ _ ⟨EB.cell hS.1, EB.cell hS.2.1, EB.cell hS.2.2.1, EB.cell hS.2.2.2.1, EB.cell hS.2.2.2.2.1, EB.cell hS.2.2.2.2.2.1, EB.cell hS.2.2.2.2.2.2.1, EB.cell hS.2.2.2.2.2.2.2⟩ (fun _ => ?_)
      clear hK K
      (try simp only [Act.put, List.setIfInBounds_toArray, List.set_cons_zero, List.set_cons_succ])
      replace ED := ED.trans EB
      replace hS : (w6.alloc (.cells #[txt n2, txt n3, txt d0, txt d1] 9)).cell? ⟨w.heap.size + 1 + 1, 0, none⟩ = some (txt n0) ∧ (w6.alloc (.cells #[txt n2, txt n3, txt d0, txt d1] 9)).cell? ⟨w.heap.size + 1 + 1, 1, none⟩ = some (txt n1) ∧ (w6.alloc (.cells #[txt n2, txt n3, txt d0, txt d1] 9)).cell? ⟨w.heap.size + 1 + 1, 2, none⟩ = some (txt n2) ∧ (w6.alloc (.cells #[txt n2, txt n3, txt d0, txt d1] 9)).cell? ⟨w.heap.size + 1 + 1, 3, none⟩ = some (txt n3) ∧ (w6.alloc (.cells #[txt n2, txt n3, txt d0, txt d1] 9)).cell? ⟨w.heap.size + 1 + 1 + 1, 0, none⟩ = some (txt d0) ∧ (w6.alloc (.cells #[txt n2, txt n3, txt d0, txt d1] 9)).cell? ⟨w.heap.size + 1 + 1 + 1, 1, none⟩ = some (txt d1) ∧ (w6.alloc (.cells #[txt n2, txt n3, txt d0, txt d1] 9)).cell? ⟨w.heap.size + 1 + 1 + 1, 2, none⟩ = some (txt d2) ∧ (w6.alloc (.cells #[txt n2, txt n3, txt d0, txt d1] 9)).cell? ⟨w.heap.size + 1 + 1 + 1, 3, none⟩ = some (txt d3) := ⟨EB.cell hS.1, EB.cell hS.2.1, EB.cell hS.2.2.1, EB.cell hS.2.2.2.1, EB.cell hS.2.2.2.2.1, EB.cell hS.2.2.2.2.2.1, EB.cell hS.2.2.2.2.2.2.1, EB.cell hS.2.2.2.2.2.2.2⟩
      replace FA := FA.ext EB
      obtain ⟨bb, hbb⟩ : ∃ b, b = w6.heap.size := ⟨_, rfl⟩
      rw [← hbb] at FB ⊢
      generalize (w6.alloc (.cells #[txt n2, txt n3, txt d0, txt d1] 9)) = w7 at ED hS FB FA ⊢
      clear hbb EB
      (refine wpAnyE_one (i := 9) (o := ?_) ?_ (by kernel_rfl) (fun K hK => ?_); rotate_left; (focus ((simp only [List.getElem?_toArray, List.getElem?_cons_succ, List.getElem?_cons_zero]; exact rfl))); go_simp; go_at_call 111; refine (HP.out ab w7 FA).mono ?_; rintro e w8 ⟨rfl, hE⟩; go_wp2_with fail; refine hK.out _ _ ?_ (fun hHeld => ?_); rotate_left; clear hK K; (try simp only [Act.put, List.setIfInBounds_toArray, List.set_cons_zero, List.set_cons_succ]))
      rotate_left
      · exact ⟨hE.cell hS.1, hE.cell hS.2.1, hE.cell hS.2.2.1, hE.cell hS.2.2.2.1, hE.cell hS.2.2.2.2.1, hE.cell hS.2.2.2.2.2.1, hE.cell hS.2.2.2.2.2.2.1, hE.cell hS.2.2.2.2.2.2.2⟩
      clear hHeld
      replace ED := ED.trans hE
      replace hS : w8.cell? ⟨w.heap.size + 1 + 1, 0, none⟩ = some (txt n0) ∧ w8.cell? ⟨w.heap.size + 1 + 1, 1, none⟩ = some (txt n1) ∧ w8.cell? ⟨w.heap.size + 1 + 1, 2, none⟩ = some (txt n2) ∧ w8.cell? ⟨w.heap.size + 1 + 1, 3, none⟩ = some (txt n3) ∧ w8.cell? ⟨w.heap.size + 1 + 1 + 1, 0, none⟩ = some (txt d0) ∧ w8.cell? ⟨w.heap.size + 1 + 1 + 1, 1, none⟩ = some (txt d1) ∧ w8.cell? ⟨w.heap.size + 1 + 1 + 1, 2, none⟩ = some (txt d2) ∧ w8.cell? ⟨w.heap.size + 1 + 1 + 1, 3, none⟩ = some (txt d3) := ⟨hE.cell hS.1, hE.cell hS.2.1, hE.cell hS.2.2.1, hE.cell hS.2.2.2.1, hE.cell hS.2.2.2.2.1, hE.cell hS.2.2.2.2.2.1, hE.cell hS.2.2.2.2.2.2.1, hE.cell hS.2.2.2.2.2.2.2⟩
      replace FB := FB.ext hE
      clear hE FA
      (refine wpAnyE_one (i := 19) (o := ?_) ?_ (by kernel_rfl) (fun K hK => ?_); rotate_left; (focus ((simp only [List.getElem?_toArray, List.getElem?_cons_succ, List.getElem?_cons_zero]; exact rfl))); go_simp; go_at_call 111; refine (HQ.out bb w8 FB).mono ?_; rintro e w9 ⟨rfl, hE⟩; go_wp2_with fail; refine hK.out _ _ ?_ (fun hHeld => ?_); rotate_left; clear hK K; (try simp only [Act.put, List.setIfInBounds_toArray, List.set_cons_zero, List.set_cons_succ]))
      rotate_left
      · exact ⟨hE.cell hS.1, hE.cell hS.2.1, hE.cell hS.2.2.1, hE.cell hS.2.2.2.1, hE.cell hS.2.2.2.2.1, hE.cell hS.2.2.2.2.2.1, hE.cell hS.2.2.2.2.2.2.1, hE.cell hS.2.2.2.2.2.2.2⟩
      clear hHeld
      replace ED := ED.trans hE
      replace hS : w9.cell? ⟨w.heap.size + 1 + 1, 0, none⟩ = some (txt n0) ∧ w9.cell? ⟨w.heap.size + 1 + 1, 1, none⟩ = some (txt n1) ∧ w9.cell? ⟨w.heap.size + 1 + 1, 2, none⟩ = some (txt n2) ∧ w9.cell? ⟨w.heap.size + 1 + 1, 3, none⟩ = some (txt n3) ∧ w9.cell? ⟨w.heap.size + 1 + 1 + 1, 0, none⟩ = some (txt d0) ∧ w9.cell? ⟨w.heap.size + 1 + 1 + 1, 1, none⟩ = some (txt d1) ∧ w9.cell? ⟨w.heap.size + 1 + 1 + 1, 2, none⟩ = some (txt d2) ∧ w9.cell? ⟨w.heap.size + 1 + 1 + 1, 3, none⟩ = some (txt d3) := ⟨hE.cell hS.1, hE.cell hS.2.1, hE.cell hS.2.2.1, hE.cell hS.2.2.2.1, hE.cell hS.2.2.2.2.1, hE.cell hS.2.2.2.2.2.1, hE.cell hS.2.2.2.2.2.2.1, hE.cell hS.2.2.2.2.2.2.2⟩
      clear hE FB
      ((refine ePu 20 ?_); (refine ePu 21 ?_))
      refine wpAnyE_done (by kernel_rfl) ?_ _
      clear hS
      by_cases hle : (decDigits A).length = (decDigits B).length
      · have g1 : ((((decDigits A).length : Nat) : Int) != (((decDigits B).length : Nat) : Int)) = false := by rw [hle]; simp
        have HF := Lib.hid ((HC.out.trans (dec_order hle).symm).trans (Bool.not_or _ _))
        clear hle
        go_wp2
        go_ret
        exact ⟨by rw [HF.out]; rfl, extA⟩
      · have g1 : ((((decDigits A).length : Nat) : Int) != (((decDigits B).length : Nat) : Int)) = true := by rw [bne_iff_ne]; omega
        have HF := Lib.hid (HC.out.trans (dec_order_len hle).symm)
        clear hle
        go_wp2
        go_ret
        exact ⟨by rw [HF.out]; simp, extA⟩
  · have FB : FourAt w5.heap.size (w5.alloc (.cells #[txt n2, txt n3, txt d0, txt d1] 9)) n2 n3 d0 d1 := ⟨by go_simp, by go_simp, by go_simp, by go_simp, by go_simp, by go_simp, by go_simp, by go_simp⟩
    have EB : Ext w5 (w5.alloc (.cells #[txt n2, txt n3, txt d0, txt d1] 9)) := extA
    go_simp
    refine hK.out _ _ ⟨EB.cell hS.1, EB.cell hS.2.1, EB.cell hS.2.2.1, EB.cell hS.2.2.2.1, EB.cell hS.2.2.2.2.1, EB.cell hS.2.2.2.2.2.1, EB.cell hS.2.2.2.2.2.2.1, EB.cell hS.2.2.2.2.2.2.2⟩ (fun _ => ?_)
    clear hK K
    (try simp only [Act.put, List.setIfInBounds_toArray, List.set_cons_zero, List.set_cons_succ])
    replace ED := ED.trans EB
    replace hS : (w5.alloc (.cells #[txt n2, txt n3, txt d0, txt d1] 9)).cell? ⟨w.heap.size + 1 + 1, 0, none⟩ = some (txt n0) ∧ (w5.alloc (.cells #[txt n2, txt n3, txt d0, txt d1] 9)).cell? ⟨w.heap.size + 1 + 1, 1, none⟩ = some (txt n1) ∧ (w5.alloc (.cells #[txt n2, txt n3, txt d0, txt d1] 9)).cell? ⟨w.heap.size + 1 + 1, 2, none⟩ = some (txt n2) ∧ (w5.alloc (.cells #[txt n2, txt n3, txt d0, txt d1] 9)).cell? ⟨w.heap.size + 1 + 1, 3, none⟩ = some (txt n3) ∧ (w5.alloc (.cells #[txt n2, txt n3, txt d0, txt d1] 9)).cell? ⟨w.heap.size + 1 + 1 + 1, 0, none⟩ = some (txt d0) ∧ (w5.alloc (.cells #[txt n2, txt n3, txt d0, txt d1] 9)).cell? ⟨w.heap.size + 1 + 1 + 1, 1, none⟩ = some (txt d1) ∧ (w5.alloc (.cells #[txt n2, txt n3, txt d0, txt d1] 9)).cell? ⟨w.heap.size + 1 + 1 + 1, 2, none⟩ = some (txt d2) ∧ (w5.alloc (.cells #[txt n2, txt n3, txt d0, txt d1] 9)).cell? ⟨w.heap.size + 1 + 1 + 1, 3, none⟩ = some (txt d3) := ⟨EB.cell hS.1, EB.cell hS.2.1, EB.cell hS.2.2.1, EB.cell hS.2.2.2.1, EB.cell hS.2.2.2.2.1, EB.cell hS.2.2.2.2.2.1, EB.cell hS.2.2.2.2.2.2.1, EB.cell hS.2.2.2.2.2.2.2⟩
    obtain ⟨bb, hbb⟩ : ∃ b, b = w5.heap.size := ⟨_, rfl⟩
    rw [← hbb] at FB ⊢
    generalize (w5.alloc (.cells #[txt n2, txt n3, txt d0, txt d1] 9)) = w6 at ED hS FB  ⊢
    clear hbb EB
    have FA : FourAt w6.heap.size (w6.alloc (.cells #[txt n0, txt n1, txt d2, txt d3] 9)) n0 n1 d2 d3 := ⟨by go_simp, by go_simp, by go_simp, by go_simp, by go_simp, by go_simp, by go_simp, by go_simp⟩
    have EB : Ext w6 (w6.alloc (.cells #[txt n0, txt n1, txt d2, txt d3] 9)) := extA
    (refine wpAnyE_one (i := 8) (o := ?_) ?_ (by kernel_rfl) (fun K hK => ?_); rotate_left; (focus ((simp only [List.getElem?_toArray, List.getElem?_cons_succ, List.getElem?_cons_zero]; exact rfl))); go_simp; refine hK.out _ _ ?_ (fun hHeld => ?_); rotate_left; clear hK K; (try simp only [Act.put, List.setIfInBounds_toArray, List.set_cons_zero, List.set_cons_succ]))
    rotate_left
    · exact ⟨EB.cell hS.1, EB.cell hS.2.1, EB.cell hS.2.2.1, EB.cell hS.2.2.2.1, EB.cell hS.2.2.2.2.1, EB.cell hS.2.2.2.2.2.1, EB.cell hS.2.2.2.2.2.2.1, EB.cell hS.2.2.2.2.2.2.2⟩
    clear hHeld
    replace ED := ED.trans EB
    replace hS : (w6.alloc (.cells #[txt n0, txt n1, txt d2, txt d3] 9)).cell? ⟨w.heap.size + 1 + 1, 0, none⟩ = some (txt n0) ∧ (w6.alloc (.cells #[txt n0, txt n1, txt d2, txt d3] 9)).cell? ⟨w.heap.size + 1 + 1, 1, none⟩ = some (txt n1) ∧ (w6.alloc (.cells #[txt n0, txt n1, txt d2, txt d3] 9)).cell? ⟨w.heap.size + 1 + 1, 2, none⟩ = some (txt n2) ∧ (w6.alloc (.cells #[txt n0, txt n1, txt d2, txt d3] 9)).cell? ⟨w.heap.size + 1 + 1, 3, none⟩ = some (txt n3) ∧ (w6.alloc (.cells #[txt n0, txt n1, txt d2, txt d3] 9)).cell? ⟨w.heap.size + 1 + 1 + 1, 0, none⟩ = some (txt d0) ∧ (w6.alloc (.cells #[txt n0, txt n1, txt d2, txt d3] 9)).cell? ⟨w.heap.size + 1 + 1 + 1, 1, none⟩ = some (txt d1) ∧ (w6.alloc (.cells #[txt n0, txt n1, txt d2, txt d3] 9)).cell? ⟨w.heap.size + 1 + 1 + 1, 2, none⟩ = some (txt d2) ∧ (w6.alloc (.cells #[txt n0, txt n1, txt d2, txt d3] 9)).cell? ⟨w.heap.size + 1 + 1 + 1, 3, none⟩ = some (txt d3) := ⟨EB.cell hS.1, EB.cell hS.2.1, EB.cell hS.2.2.1, EB.cell hS.2.2.2.1, EB.cell hS.2.2.2.2.1, EB.cell hS.2.2.2.2.2.1, EB.cell hS.2.2.2.2.2.2.1, EB.cell hS.2.2.2.2.2.2.2⟩
    replace FB := FB.ext EB
    obtain ⟨ab, hab⟩ : ∃ b, b = w6.heap.size := ⟨_, rfl⟩
    rw [← hab] at FA ⊢
    generalize (w6.alloc (.cells #[txt n0, txt n1, txt d2, txt d3] 9)) = w7 at ED hS FA FB ⊢
    clear hab EB
    (refine wpAnyE_one (i := 9) (o := ?_) ?_ (by kernel_rfl) (fun K hK => ?_); rotate_left; (focus ((simp only [List.getElem?_toArray, List.getElem?_cons_succ, List.getElem?_cons_zero]; exact rfl))); go_simp; go_at_call 111; refine (HP.out ab w7 FA).mono ?_; rintro e w8 ⟨rfl, hE⟩; go_wp2_with fail; refine hK.out _ _ ?_ (fun hHeld => ?_); rotate_left; clear hK K; (try simp only [Act.put, List.setIfInBounds_toArray, List.set_cons_zero, List.set_cons_succ]))
    rotate_left
    · exact ⟨hE.cell hS.1, hE.cell hS.2.1, hE.cell hS.2.2.1, hE.cell hS.2.2.2.1, hE.cell hS.2.2.2.2.1, hE.cell hS.2.2.2.2.2.1, hE.cell hS.2.2.2.2.2.2.1, hE.cell hS.2.2.2.2.2.2.2⟩
    clear hHeld
    replace ED := ED.trans hE
    replace hS : w8.cell? ⟨w.heap.size + 1 + 1, 0, none⟩ = some (txt n0) ∧ w8.cell? ⟨w.heap.size + 1 + 1, 1, none⟩ = some (txt n1) ∧ w8.cell? ⟨w.heap.size + 1 + 1, 2, none⟩ = some (txt n2) ∧ w8.cell? ⟨w.heap.size + 1 + 1, 3, none⟩ = some (txt n3) ∧ w8.cell? ⟨w.heap.size + 1 + 1 + 1, 0, none⟩ = some (txt d0) ∧ w8.cell? ⟨w.heap.size + 1 + 1 + 1, 1, none⟩ = some (txt d1) ∧ w8.cell? ⟨w.heap.size + 1 + 1 + 1, 2, none⟩ = some (txt d2) ∧ w8.cell? ⟨w.heap.size + 1 + 1 + 1, 3, none⟩ = some (txt d3) := ⟨hE.cell hS.1, hE.cell hS.2.1, hE.cell hS.2.2.1, hE.cell hS.2.2.2.1, hE.cell hS.2.2.2.2.1, hE.cell hS.2.2.2.2.2.1, hE.cell hS.2.2.2.2.2.2.1, hE.cell hS.2.2.2.2.2.2.2⟩
    replace FB := FB.ext hE
    clear hE FA
    (refine wpAnyE_one (i := 19) (o := ?_) ?_ (by kernel_rfl) (fun K hK => ?_); rotate_left; (focus ((simp only [List.getElem?_toArray, List.getElem?_cons_succ, List.getElem?_cons_zero]; exact rfl))); go_simp; go_at_call 111; refine (HQ.out bb w8 FB).mono ?_; rintro e w9 ⟨rfl, hE⟩; go_wp2_with fail; refine hK.out _ _ ?_ (fun hHeld => ?_); rotate_left; clear hK K; (try simp only [Act.put, List.setIfInBounds_toArray, List.set_cons_zero, List.set_cons_succ]))
    rotate_left
    · exact ⟨hE.cell hS.1, hE.cell hS.2.1, hE.cell hS.2.2.1, hE.cell hS.2.2.2.1, hE.cell hS.2.2.2.2.1, hE.cell hS.2.2.2.2.2.1, hE.cell hS.2.2.2.2.2.2.1, hE.cell hS.2.2.2.2.2.2.2⟩
    clear hHeld
    replace ED := ED.trans hE
    replace hS : w9.cell? ⟨w.heap.size + 1 + 1, 0, none⟩ = some (txt n0) ∧ w9.cell? ⟨w.heap.size + 1 + 1, 1, none⟩ = some (txt n1) ∧ w9.cell? ⟨w.heap.size + 1 + 1, 2, none⟩ = some (txt n2) ∧ w9.cell? ⟨w.heap.size + 1 + 1, 3, none⟩ = some (txt n3) ∧ w9.cell? ⟨w.heap.size + 1 + 1 + 1, 0, none⟩ = some (txt d0) ∧ w9.cell? ⟨w.heap.size + 1 + 1 + 1, 1, none⟩ = some (txt d1) ∧ w9.cell? ⟨w.heap.size + 1 + 1 + 1, 2, none⟩ = some (txt d2) ∧ w9.cell? ⟨w.heap.size + 1 + 1 + 1, 3, none⟩ = some (txt d3) := ⟨hE.cell hS.1, hE.cell hS.2.1, hE.cell hS.2.2.1, hE.cell hS.2.2.2.1, hE.cell hS.2.2.2.2.1, hE.cell hS.2.2.2.2.2.1, hE.cell hS.2.2.2.2.2.2.1, hE.cell hS.2.2.2.2.2.2.2⟩
    clear hE FB
    ((refine ePu 20 ?_); (refine ePu 21 ?_))
    refine wpAnyE_done (by kernel_rfl) ?_ _
    clear hS
    by_cases hle : (decDigits A).length = (decDigits B).length
    · have g1 : ((((decDigits A).length : Nat) : Int) != (((decDigits B).length : Nat) : Int)) = false := by rw [hle]; simp
      have HF := Lib.hid ((HC.out.trans (dec_order hle).symm).trans (Bool.not_or _ _))
      clear hle
      go_wp2
      go_ret
      exact ⟨by rw [HF.out]; rfl, extA⟩
    · have g1 : ((((decDigits A).length : Nat) : Int) != (((decDigits B).length : Nat) : Int)) = true := by rw [bne_iff_ne]; omega
      have HF := Lib.hid (HC.out.trans (dec_order_len hle).symm)
      clear hle
      go_wp2
      go_ret
      exact ⟨by rw [HF.out]; simp, extA⟩
end Go.Proofs.YtdejgaiocjfhjaaGreatDoor
namespace Go.Proofs.YtdejgaiocjfhjaaGreatDoor
open Go.RowKit
structure BestI (n0 : Nat) (W : World) (l h m k : Txt) (s : Enc × Enc) : Prop where
  b : EncAt (n0 + 1) W m k
  x : EncAt (n0 + 1 + 1) W [] []
  best : FourAt (n0 + 1 + 1 + 1) W s.1.1 s.1.2 s.2.1 s.2.2
  sl : EncAt (n0 + 1 + 1 + 1 + 1) W l h
theorem BestI.ext {n0 : Nat} {A B : World} {l h m k : Txt} {s : Enc × Enc} (x : BestI n0 A l h m k s) (e : Ext A B) : BestI n0 B l h m k s := ⟨x.b.ext e, x.x.ext e, x.best.ext e, x.sl.ext e⟩
theorem BestI.lo {n0 : Nat} {A : World} {l h m k : Txt} {s : Enc × Enc} (x : BestI n0 A l h m k s) (p q : Txt) : BestI n0 ((A.setCell ⟨n0 + 1 + 1 + 1, 0, none⟩ (txt p)).setCell ⟨n0 + 1 + 1 + 1, 1, none⟩ (txt q)) l h m k ((p, q), s.2) :=
  ⟨(x.b.other (by omega)).other (by omega), (x.x.other (by omega)).other (by omega), (x.best.set0 p).set1 q, (x.sl.other (by omega)).other (by omega)⟩
theorem BestI.hi {n0 : Nat} {A : World} {l h m k : Txt} {s : Enc × Enc} (x : BestI n0 A l h m k s) (p q : Txt) : BestI n0 ((A.setCell ⟨n0 + 1 + 1 + 1, 2, none⟩ (txt p)).setCell ⟨n0 + 1 + 1 + 1, 3, none⟩ (txt q)) l h m k (s.1, (p, q)) :=
  ⟨(x.b.other (by omega)).other (by omega), (x.x.other (by omega)).other (by omega), (x.best.set2 p).set3 q, (x.sl.other (by omega)).other (by omega)⟩
theorem EncAt.two {b c o1 o2 : Nat} {A : World} {l h : Txt} {v u : Value} (x : EncAt b A l h) (hn : b ≠ c) : EncAt b ((A.setCell ⟨c, o1, none⟩ v).setCell ⟨c, o2, none⟩ u) l h := (x.other hn).other hn
theorem encAt_new (W : World) (n : Nat) (hn : n = W.heap.size) (p q : Txt) (t : TypeId) : EncAt n (W.alloc (.cells #[txt p, txt q] t)) p q := by
  subst hn
  exact ⟨by go_simp, by go_simp, by go_simp, by go_simp⟩
theorem EncAt.get {b : Nat} {W : World} {l h : Txt} (x : EncAt b W l h) {i : Nat} (hi : i < 2) : W.cell? ⟨b, i, none⟩ = some (txt ([l, h].getD i [])) := by
  rcases i with _ | _ | i
  · exact x.c0
  · exact x.c1
  · omega
set_option maxHeartbeats 16000000 in
set_option maxRecDepth 100000 in
theorem rExtreme_any (a b : Enc) (g sg : Bool) (w : World) (hOk : EndsOk g sg a b) : Calls Tryz.prog 83 #[encV a, encV b, .bool g] w (EncP (extremeE g a b) w) := by
  have HB : Hid (∀ p q, PairOk g sg p → PairOk g sg q → ∀ W, Calls Tryz.prog 120 #[.agg #[txt p.1, txt p.2], .agg #[txt q.1, txt q.2], .bool g] W fun e w' => e = .returned (.bool (beforeE p q g)) ∧ Ext W w') :=
    fun p q hp hq W => rBefore_any p q g W hp.r hq.r
  have HOK := Lib.hid hOk
  clear hOk
  obtain ⟨C, hC⟩ : ∃ C, C = extremeE g a b := ⟨_, rfl⟩
  unfold EncP
  rw [← hC]
  have HC := Lib.hid hC
  clear hC
  obtain ⟨l, h⟩ := a
  obtain ⟨m, k⟩ := b
  dsimp only [encV]
  have I0 : BestI w.heap.size (((((w.alloc (.cells #[txt l, txt h] 24)).alloc (.cells #[txt m, txt k] 24)).alloc (.cells #[.string ⟨#[]⟩, .string ⟨#[]⟩] 24)).alloc (.cells #[.string ⟨#[]⟩, .string ⟨#[]⟩, .string ⟨#[]⟩, .string ⟨#[]⟩] 95)).alloc (.cells #[txt l, txt h] 22)) l h m k (([], []), ([], [])) := ⟨⟨by go_simp, by go_simp, by go_simp, by go_simp⟩, ⟨by go_simp, by go_simp, by go_simp, by go_simp⟩, ⟨by go_simp, by go_simp, by go_simp, by go_simp, by go_simp, by go_simp, by go_simp, by go_simp⟩, ⟨by go_simp, by go_simp, by go_simp, by go_simp⟩⟩
  have E0 : Ext w (((((w.alloc (.cells #[txt l, txt h] 24)).alloc (.cells #[txt m, txt k] 24)).alloc (.cells #[.string ⟨#[]⟩, .string ⟨#[]⟩] 24)).alloc (.cells #[.string ⟨#[]⟩, .string ⟨#[]⟩, .string ⟨#[]⟩, .string ⟨#[]⟩] 95)).alloc (.cells #[txt l, txt h] 22)) := extA
  go_enter Tryz.func83, Tryz.ntmps83
  go_wp2
  generalize (((((w.alloc (.cells #[txt l, txt h] 24)).alloc (.cells #[txt m, txt k] 24)).alloc (.cells #[.string ⟨#[]⟩, .string ⟨#[]⟩] 24)).alloc (.cells #[.string ⟨#[]⟩, .string ⟨#[]⟩, .string ⟨#[]⟩, .string ⟨#[]⟩] 95)).alloc (.cells #[txt l, txt h] 22)) = w0 at I0 E0 ⊢
  go_loopw [9, 24] (fun f i wr => ∃ (n : Nat) (fb : Bool), i = .int .i64 (n : Nat) ∧ f = .bool fb ∧ n ≤ 2 ∧ fb = decide (0 < n) ∧ Hid (BestI w.heap.size wr l h m k (bestS g (l, h) (m, k) (2 * n))) ∧ Ext w wr) (fun _ i _ => 2 - (intOf i).toNat)
  case atStart => exact ⟨0, false, rfl, rfl, by omega, by simp, I0, E0⟩
  case round =>
    obtain ⟨n, fb, rfl, rfl, hn, hfb, hI, he⟩ := hrel
    by_cases hn2 : n < 2
    · have hni : (n : Int) < 2 := by omega
      have hnw : IntKind.i64.wrap ((n : Int) + 1) = (n : Int) + 1 := by rw [IntKind.wrap_i64]; omega
      have I := hI.out
      have hsl := I.sl.get hn2
      obtain ⟨m0, m1, _, _⟩ := I.b
      have z1 := cell_lt m0
      have z2 := cell_lt hsl
      dsimp only at z1 z2
      obtain ⟨x, hx⟩ : ∃ x, x = [l, h].getD n [] := ⟨_, rfl⟩
      rw [← hx] at hsl
      have HX := Lib.hid hx
      clear hx hI
      obtain ⟨sb, hsb⟩ : ∃ sb, sb = wr.heap.size := ⟨_, rfl⟩
      have S2 := encAt_new wr sb hsb m k 22
      have EA : Ext wr (wr.alloc (.cells #[txt m, txt k] 22)) := extA
      have I1 := I.ext EA
      have he1 := he.trans EA
      have z4 : w.heap.size + 1 + 1 + 1 < sb := by rw [hsb]; exact cell_lt I.best.c0
      go_wp2
      rw [← hsb]
      clear I m0 m1 z1 z2 hsl he
      generalize (wr.alloc (.cells #[txt m, txt k] 22)) = w1 at S2 I1 he1 ⊢
      clear EA hsb
      go_loopw [9, 34] (fun f i wr => ∃ (j : Nat) (fb : Bool), i = .int .i64 (j : Nat) ∧ f = .bool fb ∧ j ≤ 2 ∧ fb = decide (0 < 2 * n + j) ∧ Hid (BestI w.heap.size wr l h m k (bestS g (l, h) (m, k) (2 * n + j))) ∧ Hid (EncAt sb wr m k) ∧ Ext w wr) (fun _ i _ => 2 - (intOf i).toNat)
      case atStart => exact ⟨0, fb, rfl, rfl, by omega, by rw [hfb]; congr 1; simp, I1, S2, he1⟩
      case round =>
        obtain ⟨j, fb, rfl, rfl, hj, hfb2, hI, hS2, he⟩ := hrel
        by_cases hj2 : j < 2
        · have hji : (j : Int) < 2 := by omega
          have hjw : IntKind.i64.wrap ((j : Int) + 1) = (j : Int) + 1 := by rw [IntKind.wrap_i64]; omega
          have hsl := hS2.out.get hj2
          obtain ⟨y, hy⟩ : ∃ y, y = [m, k].getD j [] := ⟨_, rfl⟩
          rw [← hy] at hsl
          have hpair : pairAt (l, h) (m, k) (2 * n + j) = (x, y) := by rw [pairAt_ij _ _ _ _ hj2, HX.out, hy]
          have HP : Hid (PairOk g sg (x, y)) := by have := HOK.out.pair hn2 hj2; dsimp only at this; rw [← HX.out, ← hy] at this; exact this
          clear hy
          have z3 := cell_lt hsl
          dsimp only at z3
          have hwz := he.size
          have z5 : w.heap.size + 1 + 1 + 1 < wr.heap.size := by omega
          obtain ⟨pb, hpb⟩ : ∃ pb, pb = wr.heap.size := ⟨_, rfl⟩
          have P := encAt_new wr pb hpb x y 93
          have EA : Ext wr (wr.alloc (.cells #[txt x, txt y] 93)) := extA
          have I := hI.out.ext EA
          have S2 := hS2.out.ext EA
          have he0 := he
          replace he := he.trans EA
          have z6 : w.heap.size + 1 + 1 + 1 < pb := by omega
          have z7 : sb < pb := by omega
          clear EA
          by_cases hN : 2 * n + j = 0
          · have hff : fb = false := by rw [hfb2, hN]; rfl
            subst hff
            have HS : Hid (bestS g (l, h) (m, k) (2 * n + (j + 1)) = ((x, y), (x, y))) := by
              show _ = _
              rw [show 2 * n + (j + 1) = (2 * n + j) + 1 by omega, hN]
              show (if (0 : Nat) = 0 then _ else _ : Enc × Enc) = _
              rw [if_pos rfl, ← hN, hpair]
            have I4 := Lib.hid (((hI.out.lo x y).hi x y).ext ((Ext.refl _).alloc (.cells #[txt x, txt y] 93)))
            have S4 := Lib.hid (((hS2.out.two (c := w.heap.size + 1 + 1 + 1) (o1 := 0) (v := txt x) (o2 := 1) (u := txt y) (by omega)).two (c := w.heap.size + 1 + 1 + 1) (o1 := 2) (v := txt x) (o2 := 3) (u := txt y) (by omega)).ext ((Ext.refl _).alloc (.cells #[txt x, txt y] 93)))
            have he4 := ((((he0.set (b := w.heap.size + 1 + 1 + 1) (o := 0) (by omega) (txt x)).set (b := w.heap.size + 1 + 1 + 1) (o := 1) (by omega) (txt y)).set (b := w.heap.size + 1 + 1 + 1) (o := 2) (by omega) (txt x)).set (b := w.heap.size + 1 + 1 + 1) (o := 3) (by omega) (txt y)).trans ((Ext.refl _).alloc (.cells #[txt x, txt y] 93))
            obtain ⟨b0, b1, b2, b3, f0, f1, f2, f3⟩ := hI.out.best
            clear I S2 he hI hpair hfb2 HP P hS2 he0
            go_wp2
            refine ⟨⟨j + 1, true, by go_num, rfl, by omega, by rw [decide_eq_true (by omega)], ?_, S4, he4⟩, by simp [intOf]; omega⟩
            rw [HS.out]
            exact I4
          · have hft : fb = true := by rw [hfb2, decide_eq_true (by omega)]
            subst hft
            have HB1 := HOK.out.best (2 * n + j - 1) (by omega)
            rw [show 2 * n + j - 1 + 1 = 2 * n + j by omega] at HB1
            have hst : bestS g (l, h) (m, k) (2 * n + (j + 1)) = (if beforeE (x, y) (bestS g (l, h) (m, k) (2 * n + j)).1 g = true then (x, y) else (bestS g (l, h) (m, k) (2 * n + j)).1, if beforeE (bestS g (l, h) (m, k) (2 * n + j)).2 (x, y) g = true then (x, y) else (bestS g (l, h) (m, k) (2 * n + j)).2) := by
              rw [show 2 * n + (j + 1) = (2 * n + j) + 1 by omega]
              show (if 2 * n + j = 0 then _ else _ : Enc × Enc) = _
              rw [if_neg hN, hpair]
            have H1 := Lib.hid (fun W => HB.out (x, y) (bestS g (l, h) (m, k) (2 * n + j)).1 HP.out HB1.1 W)
            have H2 := Lib.hid (fun W => HB.out (bestS g (l, h) (m, k) (2 * n + j)).2 (x, y) HB1.2 HP.out W)
            generalize bestS g (l, h) (m, k) (2 * n + j) = s at *
            obtain ⟨⟨s1, s2⟩, s3, s4⟩ := s
            dsimp only at H1 H2 hst
            generalize beforeE (x, y) (s1, s2) g = r1 at *
            generalize beforeE (s3, s4) (x, y) g = r2 at *
            have HS := Lib.hid hst
            obtain ⟨b0, b1, b2, b3, f0, f1, f2, f3⟩ := hI.out.best
            clear hst hfb2 hpair HP HB1 hI hN hS2 he0
            go_wp2_with fail
            clear b0 b1 b2 b3 f0 f1 f2 f3
            rw [← hpb]
            generalize (wr.alloc (.cells #[txt x, txt y] 93)) = wb at P I S2 he ⊢
            clear hpb z3 z5 hsl hwz
            refine (H1.out _).mono ?_
            clear H1
            rintro e wc ⟨rfl, hE⟩
            replace P := P.ext hE
            replace I := I.ext hE
            replace S2 := S2.ext hE
            replace he := he.trans hE
            clear hE
            have z8 := cell_lt P.c0
            dsimp only at z8
            obtain ⟨p0, p1, q0, q1⟩ := P
            obtain ⟨b0, b1, b2, b3, f0, f1, f2, f3⟩ := I.best
            cases r1
            · go_wp2_with fail
              refine (H2.out _).mono ?_
              clear b0 b1 b2 b3 f0 f1 f2 f3 H2
              rintro e wd ⟨rfl, hE⟩
              have P := (EncAt.mk p0 p1 q0 q1).ext hE
              replace I := I.ext hE
              replace S2 := S2.ext hE
              replace he := he.trans hE
              clear hE p0 p1 q0 q1
              have z9 := cell_lt P.c0
              dsimp only at z9
              obtain ⟨p0, p1, _, _⟩ := P
              obtain ⟨b0, b1, b2, b3, f0, f1, f2, f3⟩ := I.best
              cases r2
              · go_wp2
                refine ⟨⟨j + 1, true, by go_num, rfl, by omega, by rw [decide_eq_true (by omega)], ?_, S2, he⟩, by simp [intOf]; omega⟩
                rw [HS.out]
                exact I
              · have I5 := Lib.hid (I.hi x y)
                have S5 := Lib.hid (S2.two (c := w.heap.size + 1 + 1 + 1) (o1 := 2) (v := txt x) (o2 := 3) (u := txt y) (by omega))
                have he5 := (he.set (b := w.heap.size + 1 + 1 + 1) (o := 2) (by omega) (txt x)).set (b := w.heap.size + 1 + 1 + 1) (o := 3) (by omega) (txt y)
                clear I S2 he
                go_wp2
                refine ⟨⟨j + 1, true, by go_num, rfl, by omega, by rw [decide_eq_true (by omega)], ?_, S5.out, he5⟩, by simp [intOf]; omega⟩
                rw [HS.out]
                exact I5.out
            · go_wp2_with fail
              replace I := I.lo x y
              replace S2 := S2.two (c := w.heap.size + 1 + 1 + 1) (o1 := 0) (v := txt x) (o2 := 1) (u := txt y) (by omega)
              have P := (EncAt.mk p0 p1 q0 q1).two (c := w.heap.size + 1 + 1 + 1) (o1 := 0) (v := txt x) (o2 := 1) (u := txt y) (by omega)
              replace he := (he.set (b := w.heap.size + 1 + 1 + 1) (o := 0) (by omega) (txt x)).set (b := w.heap.size + 1 + 1 + 1) (o := 1) (by omega) (txt y)
              clear b0 b1 b2 b3 f0 f1 f2 f3 p0 p1 q0 q1 z8
              generalize ((wc.setCell ⟨w.heap.size + 1 + 1 + 1, 0, none⟩ (txt x)).setCell ⟨w.heap.size + 1 + 1 + 1, 1, none⟩ (txt y)) = wc at P I S2 he ⊢
              refine (H2.out _).mono ?_
              clear H2
              rintro e wd ⟨rfl, hE⟩
              replace P := P.ext hE
              replace I := I.ext hE
              replace S2 := S2.ext hE
              replace he := he.trans hE
              clear hE
              have z9 := cell_lt P.c0
              dsimp only at z9
              obtain ⟨p0, p1, _, _⟩ := P
              obtain ⟨b0, b1, b2, b3, f0, f1, f2, f3⟩ := I.best
              cases r2
              · go_wp2
                refine ⟨⟨j + 1, true, by go_num, rfl, by omega, by rw [decide_eq_true (by omega)], ?_, S2, he⟩, by simp [intOf]; omega⟩
                rw [HS.out]
                exact I
              · have I5 := Lib.hid (I.hi x y)
                have S5 := Lib.hid (S2.two (c := w.heap.size + 1 + 1 + 1) (o1 := 2) (v := txt x) (o2 := 3) (u := txt y) (by omega))
                have he5 := (he.set (b := w.heap.size + 1 + 1 + 1) (o := 2) (by omega) (txt x)).set (b := w.heap.size + 1 + 1 + 1) (o := 3) (by omega) (txt y)
                clear I S2 he
                go_wp2
                refine ⟨⟨j + 1, true, by go_num, rfl, by omega, by rw [decide_eq_true (by omega)], ?_, S5.out, he5⟩, by simp [intOf]; omega⟩
                rw [HS.out]
                exact I5.out
        · have hj3 : j = 2 := by omega
          subst hj3
          have hji : ¬ (((2 : Nat) : Int) < 2) := by omega
          clear hS2
          go_wp2
          refine ⟨⟨n + 1, fb, by go_num, rfl, by omega, ?_, hI.out, he⟩, by simp [intOf]; omega⟩
          rw [hfb2, decide_eq_true (by omega), decide_eq_true (by omega)]
    · have hn3 : n = 2 := by omega
      subst hn3
      have hni : ¬ (((2 : Nat) : Int) < 2) := by omega
      have hs4 : bestS g (l, h) (m, k) (2 * 2) = bestS g (l, h) (m, k) 4 := rfl
      rw [hs4] at hI
      obtain ⟨k1, k2⟩ := HOK.out.best 3 (by omega)
      have q1 := opS_is k1
      have q2 := opS_is k2
      have hC := HC.out
      unfold extremeE at hC
      rw [← four_sort] at hC
      have HRT := Lib.hid (four_right (p := valP g (bestS g (l, h) (m, k) (3 + 1)).1) (q := valP g (bestS g (l, h) (m, k) (3 + 1)).2))
      rw [← q1, ← q2] at HRT
      have H1 : Hid (∀ W, Calls Tryz.prog (bif g then 121 else 75) #[txt (bestS g (l, h) (m, k) 4).1.1, txt (bestS g (l, h) (m, k) 4).1.2] W (ResP (opS g (bestS g (l, h) (m, k) 4).1) W)) := fun W => by
        unfold opS
        cases g
        · exact rMul_any _ _ W (len_right k1.r.x) (len_right k1.r.y)
        · exact rDiv_any _ _ W (len_right k1.r.x) (len_right k1.r.y)
      have H2 : Hid (∀ W, Calls Tryz.prog (bif g then 121 else 75) #[txt (bestS g (l, h) (m, k) 4).2.1, txt (bestS g (l, h) (m, k) 4).2.2] W (ResP (opS g (bestS g (l, h) (m, k) 4).2) W)) := fun W => by
        unfold opS
        cases g
        · exact rMul_any _ _ W (len_right k2.r.x) (len_right k2.r.y)
        · exact rDiv_any _ _ W (len_right k2.r.x) (len_right k2.r.y)
      unfold ResP at H1 H2
      change C = fourE [(opS g (bestS g (l, h) (m, k) 4).1).1, (opS g (bestS g (l, h) (m, k) 4).2).1] (E2 (opS g (bestS g (l, h) (m, k) 4).1) (opS g (bestS g (l, h) (m, k) 4).2)) at hC
      change Hid (E2 (opS g (bestS g (l, h) (m, k) 4).1) (opS g (bestS g (l, h) (m, k) 4).2) = 0 → ∀ x ∈ [(opS g (bestS g (l, h) (m, k) 4).1).1, (opS g (bestS g (l, h) (m, k) 4).2).1], fracE x = 0) at HRT
      generalize opS g (bestS g (l, h) (m, k) 4).1 = r at H1 hC HRT
      generalize opS g (bestS g (l, h) (m, k) 4).2 = s at H2 hC HRT
      generalize bestS g (l, h) (m, k) 4 = S at H1 H2 hI
      obtain ⟨⟨s1, s2⟩, s3, s4⟩ := S
      obtain ⟨r, re⟩ := r
      obtain ⟨s, se⟩ := s
      dsimp only at H1 H2 hC HRT
      have hi0 : ∀ W, (Instr.index 95 (.agg #[txt s1, txt s2, txt s3, txt s4]) (.int .i64 0)).run Tryz.prog W = .ok (.agg #[txt s1, txt s2]) W := fun W => by simp [Instr.index, go_sem]
      have hi1 : ∀ W, (Instr.index 95 (.agg #[txt s1, txt s2, txt s3, txt s4]) (.int .i64 1)).run Tryz.prog W = .ok (.agg #[txt s3, txt s4]) W := fun W => by simp [Instr.index, go_sem]
      generalize hEE : E2 (r, re) (s, se) = EE at hC HRT
      have HEE := Lib.hid hEE
      have HR := Lib.hid hC
      clear hEE hC k1 k2 q1 q2 hs4 HB HOK HC hn hfb
      obtain ⟨_, X, D, _⟩ := hI.out
      clear hI
      have E := he
      clear he
      have z1 := cell_lt X.c0
      have z2 := cell_lt D.c0
      dsimp only at z1 z2
      obtain ⟨gb, hgb⟩ : ∃ gb, gb = wr.heap.size := ⟨_, rfl⟩
      have hg2 : w.heap.size + 1 + 1 < gb := by omega
      have hgl : w.heap.size ≤ gb := by omega
      have FO := four_new wr gb hgb
      have EA : Ext wr (wr.alloc (.cells #[.slice none 0 0, .int .i64 0] 98)) := extA
      obtain ⟨b0, b1, b2, b3, _, _, _, _⟩ := D
      replace X := X.ext EA
      replace E := E.trans EA
      go_wp2_with fail
      rw [← hgb]
      generalize (wr.alloc (.cells #[.slice none 0 0, .int .i64 0] 98)) = w1 at FO X E ⊢
      clear EA hgb b0 b1 b2 b3 z1 z2
      have hg := hgl
      clear hgl
      cases g
      all_goals
        refine wp_loop_rounds 3 ?_
        rw [rounds_succ]
        have EAw1 : Ext w1 (w1.alloc (.cells #[txt s1, txt s2] 93)) := extA
        replace FO := FO.ext EAw1
        replace X := X.ext EAw1
        replace E := E.trans EAw1
        go_wp2_with fail
        generalize (w1.alloc (.cells #[txt s1, txt s2] 93)) = w1a at FO X E ⊢
        clear EAw1
        refine (H1.out _).mono ?_
        clear H1
        rintro e w1b ⟨rfl, hE⟩
        replace FO := FO.ext hE
        replace X := X.ext hE
        replace E := E.trans hE
        clear hE
        go_wp2_with fail
        have K := rWith_any gb [] 0 re r w1b FO (Nat.le_of_ble_eq_true rfl)
        refine K.mono ?_
        clear K FO
        rintro e w1c ⟨rfl, FO, hB⟩
        replace X := X.below hB hg2
        replace E := E.trans' hB hg
        clear hB
        go_wp2_with fail
        rw [rounds_succ]
        have EAw1c : Ext w1c (w1c.alloc (.cells #[txt s3, txt s4] 93)) := extA
        replace FO := FO.ext EAw1c
        replace X := X.ext EAw1c
        replace E := E.trans EAw1c
        go_wp2_with fail
        generalize (w1c.alloc (.cells #[txt s3, txt s4] 93)) = w1ca at FO X E ⊢
        clear EAw1c
        refine (H2.out _).mono ?_
        clear H2
        rintro e w1cb ⟨rfl, hE⟩
        replace FO := FO.ext hE
        replace X := X.ext hE
        replace E := E.trans hE
        clear hE
        go_wp2_with fail
        have K := rWith_any gb ([] ++ [r]) _ se s w1cb FO (Nat.le_of_ble_eq_true rfl)
        refine K.mono ?_
        clear K FO
        rintro e w1cc ⟨rfl, FO, hB⟩
        replace X := X.below hB hg2
        replace E := E.trans' hB hg
        clear hB
        go_wp2_with fail
        have FO2 : Four gb w1cc [r, s] EE := by rw [← HEE.out]; exact FO
        clear FO
        rw [rounds_succ]
        go_wp2_with fail
        refine (rEnds_any gb [r, s] EE w1cc FO2 (Nat.zero_lt_succ _) (by simp) HRT.out).mono ?_
        unfold EncP
        rw [← HR.out]
        clear HR HRT FO2 HEE
        obtain ⟨⟨y0, y1⟩, y2⟩ := C
        rintro e w7 ⟨rfl, hE⟩
        replace X := X.ext hE
        replace E := E.trans hE
        obtain ⟨x0, x1, f0, f1⟩ := X
        go_wp2_with fail
        refine bodyPost_ret (v := .tuple #[.agg #[txt y0, txt y1], .int .i64 (y2 : Nat)]) (by rw [results_cell_tmp1 rfl]; go_simp) rfl ?_
        exact ⟨rfl, extA⟩
end Go.Proofs.YtdejgaiocjfhjaaGreatDoor
namespace Go.Proofs.YtdejgaiocjfhjaaGreatDoor
open Go.RowKit
theorem in_zero {b : Enc} : inE b [48] = has0 b := by
  have q48 : fracQ [48] = 0 := by decide
  unfold inE has0
  rw [Bool.eq_iff_iff]
  simp only [Bool.and_eq_true, decide_eq_true_eq, ord_le', q48]
theorem res_zero : resQ 0 = ([48], 0) := by
  have h : fracE [48] = 0 := by decide
  have q : fracQ [48] = 0 := by decide
  have f := frac_fit h
  rw [q] at f
  unfold resQ
  rw [(made_fit f).1, (made_fit f).2, ← q, frac_back h]
theorem hull_four {a b : Enc} (ha : encE a = 0) (hb : encE b = 0) : lowL a.1 [a.1, a.2, b.1, b.2] = lowHull a b ∧ highL a.1 [a.1, a.2, b.1, b.2] = highHull a b := by
  obtain ⟨a1, a2, _⟩ := enc_right ha
  obtain ⟨b1, b2, _⟩ := enc_right hb
  have hal := enc_le ha
  have hbl := enc_le hb
  unfold lowL highL lowHull highHull
  simp only [List.foldl_cons, List.foldl_nil, ord_lt, ord_gt]
  have n1 : ¬ fracQ a.1 < fracQ a.1 := by grind
  have n2 : ¬ fracQ a.2 < fracQ a.1 := by grind
  rw [if_neg n1, if_neg n2]
  constructor
  · by_cases c : fracQ b.1 < fracQ a.1
    · rw [if_pos c, if_neg (by grind)]
    · rw [if_neg c, if_neg (by grind)]
  · have e1 : (if fracQ a.1 < fracQ a.2 then a.2 else a.1) = a.2 := by
      split
      · rfl
      · exact frac_inj a1 a2 (by grind)
    rw [e1]
    by_cases c : fracQ a.2 < fracQ b.1
    · rw [if_pos c, if_pos (show fracQ a.2 < fracQ b.2 by grind)]
      split
      · rfl
      · exact frac_inj b1 b2 (by grind)
    · rw [if_neg c]
set_option maxHeartbeats 8000000 in
set_option maxRecDepth 100000 in
theorem rMul2_any (a b : Enc) (w : World) (hl : LenE a) (hm : LenE b) : Calls Tryz.prog 25 #[encV a, encV b] w (EncP (mulE a b) w) := by
  have HB := Lib.hid (fun W => rBoth2_any a b W hl hm)
  obtain ⟨C, hC⟩ : ∃ C, C = mulE a b := ⟨_, rfl⟩
  unfold EncP
  rw [← hC]
  unfold mulE at hC
  have hne0 : (((0 : Nat) : Int) != 0) = false := rfl
  obtain ⟨l, h⟩ := a
  obtain ⟨m, k⟩ := b
  obtain ⟨e, he⟩ : ∃ e, e = bothEE (l, h) (m, k) := ⟨_, rfl⟩
  rw [← he] at HB hC
  dsimp only [encV] at HB hC ⊢
  have c0 : (((w.alloc (.cells #[txt l, txt h] 24)).alloc (.cells #[txt m, txt k] 24)).alloc (.cells #[.string ⟨#[]⟩, .string ⟨#[]⟩] 24)).cell? ⟨w.heap.size, 0, none⟩ = some (txt l) := by go_simp
  have c1 : (((w.alloc (.cells #[txt l, txt h] 24)).alloc (.cells #[txt m, txt k] 24)).alloc (.cells #[.string ⟨#[]⟩, .string ⟨#[]⟩] 24)).cell? ⟨w.heap.size, 1, none⟩ = some (txt h) := by go_simp
  have c2 : (((w.alloc (.cells #[txt l, txt h] 24)).alloc (.cells #[txt m, txt k] 24)).alloc (.cells #[.string ⟨#[]⟩, .string ⟨#[]⟩] 24)).cell? ⟨w.heap.size + 1, 0, none⟩ = some (txt m) := by go_simp
  have c3 : (((w.alloc (.cells #[txt l, txt h] 24)).alloc (.cells #[txt m, txt k] 24)).alloc (.cells #[.string ⟨#[]⟩, .string ⟨#[]⟩] 24)).cell? ⟨w.heap.size + 1, 1, none⟩ = some (txt k) := by go_simp
  have X : EncAt (w.heap.size + 1 + 1) (((w.alloc (.cells #[txt l, txt h] 24)).alloc (.cells #[txt m, txt k] 24)).alloc (.cells #[.string ⟨#[]⟩, .string ⟨#[]⟩] 24)) [] [] := ⟨by go_simp, by go_simp, by go_simp, by go_simp⟩
  have E : Ext w (((w.alloc (.cells #[txt l, txt h] 24)).alloc (.cells #[txt m, txt k] 24)).alloc (.cells #[.string ⟨#[]⟩, .string ⟨#[]⟩] 24)) := extA
  go_enter Tryz.func25, Tryz.ntmps25
  go_wp2_with fail
  generalize (((w.alloc (.cells #[txt l, txt h] 24)).alloc (.cells #[txt m, txt k] 24)).alloc (.cells #[.string ⟨#[]⟩, .string ⟨#[]⟩] 24)) = w0 at c0 c1 c2 c3 X E ⊢
  refine (HB.out w0).mono ?_
  clear HB
  rintro e' w1 ⟨rfl, hE⟩
  replace c0 := hE.cell c0
  replace c1 := hE.cell c1
  replace c2 := hE.cell c2
  replace c3 := hE.cell c3
  replace X := X.ext hE
  replace E := E.trans hE
  clear hE
  by_cases e0 : e = 0
  rotate_left
  · rw [if_pos e0] at hC
    have HR : Hid (C = (([], []), e)) := hC
    have hne : (((e : Nat) : Int) != 0) = true := by rw [bne_iff_ne]; omega
    clear hC c0 c1 c2 c3 he e0 hl hm
    obtain ⟨x0, x1, f0, f1⟩ := X
    go_wp2_with fail
    refine bodyPost_ret (v := .tuple #[.agg #[txt [], txt []], .int .i64 (e : Nat)]) (by rw [results_cell_tmp1 rfl]; go_simp) rfl ?_
    exact ⟨by first | (rw [HR.out]; done) | (rw [HR.out]; rfl), extA⟩
  subst e0
  rw [if_neg (by decide)] at hC
  obtain ⟨ha, hb⟩ := bothEE_two he.symm
  clear he
  obtain ⟨hok, hx⟩ := extreme_mul ha hb
  have HX := Lib.hid (fun W => rExtreme_any (l, h) (m, k) false true W hok)
  rw [hx] at HX
  unfold EncP at HX
  generalize endsR (resQ (prodLo (l, h) (m, k))) (resQ (prodHi (l, h) (m, k))) = R at *
  obtain ⟨⟨r1, r2⟩, r3⟩ := R
  have HR := Lib.hid hC
  clear hC ha hb hl hm hok hx
  dsimp only [encV] at HX
  go_wp2_with fail
  refine (HX.out _).mono ?_
  rintro e w2 ⟨rfl, hE⟩
  clear c0 c1 c2 c3
  replace X := X.ext hE
  replace E := E.trans hE
  obtain ⟨x0, x1, f0, f1⟩ := X
  go_wp2_with fail
  refine bodyPost_ret (v := .tuple #[.agg #[txt r1, txt r2], .int .i64 (r3 : Nat)]) (by rw [results_cell_tmp1 rfl]; go_simp) rfl ?_
  exact ⟨by first | (rw [HR.out]; done) | (rw [HR.out]; rfl), extA⟩
set_option maxHeartbeats 8000000 in
set_option maxRecDepth 100000 in
theorem rDiv2_any (a b : Enc) (w : World) (hl : LenE a) (hm : LenE b) : Calls Tryz.prog 27 #[encV a, encV b] w (EncP (divE a b) w) := by
  have HB := Lib.hid (fun W => rBoth2_any a b W hl hm)
  obtain ⟨C, hC⟩ : ∃ C, C = divE a b := ⟨_, rfl⟩
  unfold EncP
  rw [← hC]
  unfold divE at hC
  have hne0 : (((0 : Nat) : Int) != 0) = false := rfl
  obtain ⟨l, h⟩ := a
  obtain ⟨m, k⟩ := b
  obtain ⟨e, he⟩ : ∃ e, e = bothEE (l, h) (m, k) := ⟨_, rfl⟩
  rw [← he] at HB hC
  dsimp only [encV] at HB hC ⊢
  have c0 : (((w.alloc (.cells #[txt l, txt h] 24)).alloc (.cells #[txt m, txt k] 24)).alloc (.cells #[.string ⟨#[]⟩, .string ⟨#[]⟩] 24)).cell? ⟨w.heap.size, 0, none⟩ = some (txt l) := by go_simp
  have c1 : (((w.alloc (.cells #[txt l, txt h] 24)).alloc (.cells #[txt m, txt k] 24)).alloc (.cells #[.string ⟨#[]⟩, .string ⟨#[]⟩] 24)).cell? ⟨w.heap.size, 1, none⟩ = some (txt h) := by go_simp
  have c2 : (((w.alloc (.cells #[txt l, txt h] 24)).alloc (.cells #[txt m, txt k] 24)).alloc (.cells #[.string ⟨#[]⟩, .string ⟨#[]⟩] 24)).cell? ⟨w.heap.size + 1, 0, none⟩ = some (txt m) := by go_simp
  have c3 : (((w.alloc (.cells #[txt l, txt h] 24)).alloc (.cells #[txt m, txt k] 24)).alloc (.cells #[.string ⟨#[]⟩, .string ⟨#[]⟩] 24)).cell? ⟨w.heap.size + 1, 1, none⟩ = some (txt k) := by go_simp
  have X : EncAt (w.heap.size + 1 + 1) (((w.alloc (.cells #[txt l, txt h] 24)).alloc (.cells #[txt m, txt k] 24)).alloc (.cells #[.string ⟨#[]⟩, .string ⟨#[]⟩] 24)) [] [] := ⟨by go_simp, by go_simp, by go_simp, by go_simp⟩
  have E : Ext w (((w.alloc (.cells #[txt l, txt h] 24)).alloc (.cells #[txt m, txt k] 24)).alloc (.cells #[.string ⟨#[]⟩, .string ⟨#[]⟩] 24)) := extA
  go_enter Tryz.func27, Tryz.ntmps27
  go_wp2_with fail
  generalize (((w.alloc (.cells #[txt l, txt h] 24)).alloc (.cells #[txt m, txt k] 24)).alloc (.cells #[.string ⟨#[]⟩, .string ⟨#[]⟩] 24)) = w0 at c0 c1 c2 c3 X E ⊢
  refine (HB.out w0).mono ?_
  clear HB
  rintro e' w1 ⟨rfl, hE⟩
  replace c0 := hE.cell c0
  replace c1 := hE.cell c1
  replace c2 := hE.cell c2
  replace c3 := hE.cell c3
  replace X := X.ext hE
  replace E := E.trans hE
  clear hE
  by_cases e0 : e = 0
  rotate_left
  · rw [if_pos e0] at hC
    have HR : Hid (C = (([], []), e)) := hC
    have hne : (((e : Nat) : Int) != 0) = true := by rw [bne_iff_ne]; omega
    clear hC c0 c1 c2 c3 he e0 hl hm
    obtain ⟨x0, x1, f0, f1⟩ := X
    go_wp2_with fail
    refine bodyPost_ret (v := .tuple #[.agg #[txt [], txt []], .int .i64 (e : Nat)]) (by rw [results_cell_tmp1 rfl]; go_simp) rfl ?_
    exact ⟨by first | (rw [HR.out]; done) | (rw [HR.out]; rfl), extA⟩
  subst e0
  rw [if_neg (by decide)] at hC
  obtain ⟨ha, hb⟩ := bothEE_two he.symm
  clear he
  have HZ := Lib.hid (fun W => rIn_any (m, k) [48] W hm (by decide) (enc_right hb).1 (enc_right hb).2.1 (by decide))
  rw [in_zero] at HZ
  dsimp only [encV] at HZ
  go_wp2_with fail
  refine (HZ.out _).mono ?_
  clear HZ
  rintro e w2 ⟨rfl, hE⟩
  replace c0 := hE.cell c0
  replace c1 := hE.cell c1
  replace c2 := hE.cell c2
  replace c3 := hE.cell c3
  replace X := X.ext hE
  replace E := E.trans hE
  clear hE
  by_cases hz : has0 (m, k) = true
  · rw [if_pos hz] at hC
    have HR : Hid (C = (([], []), 10)) := hC
    rw [hz]
    clear hC c0 c1 c2 c3 ha hb hl hm hz
    obtain ⟨x0, x1, f0, f1⟩ := X
    go_wp2_with fail
    refine bodyPost_ret (v := .tuple #[.agg #[txt [], txt []], .int .i64 10]) (by rw [results_cell_tmp1 rfl]; go_simp) rfl ?_
    exact ⟨by first | (rw [HR.out]; done) | (rw [HR.out]; rfl), extA⟩
  · rw [if_neg hz] at hC
    have hz := Bool.eq_false_iff.2 hz
    rw [hz]
    obtain ⟨⟨sg, hok⟩, hx⟩ := extreme_div ha hb hz
    have HX := Lib.hid (fun W => rExtreme_any (l, h) (m, k) true sg W hok)
    rw [hx] at HX
    unfold EncP at HX
    generalize endsR (resQ (quotLo (l, h) (m, k))) (resQ (quotHi (l, h) (m, k))) = R at *
    obtain ⟨⟨r1, r2⟩, r3⟩ := R
    have HR := Lib.hid hC
    clear hC ha hb hl hm hok hx hz
    dsimp only [encV] at HX
    go_wp2_with fail
    refine (HX.out _).mono ?_
    rintro e w3 ⟨rfl, hE⟩
    clear c0 c1 c2 c3
    replace X := X.ext hE
    replace E := E.trans hE
    obtain ⟨x0, x1, f0, f1⟩ := X
    go_wp2_with fail
    refine bodyPost_ret (v := .tuple #[.agg #[txt r1, txt r2], .int .i64 (r3 : Nat)]) (by rw [results_cell_tmp1 rfl]; go_simp) rfl ?_
    exact ⟨by first | (rw [HR.out]; done) | (rw [HR.out]; rfl), extA⟩
set_option maxHeartbeats 8000000 in
set_option maxRecDepth 100000 in
theorem rHull2_any (a b : Enc) (w : World) (hl : LenE a) (hm : LenE b) : Calls Tryz.prog 31 #[encV a, encV b] w (EncP (hullE a b) w) := by
  have HB := Lib.hid (fun W => rBoth2_any a b W hl hm)
  obtain ⟨C, hC⟩ : ∃ C, C = hullE a b := ⟨_, rfl⟩
  unfold EncP
  rw [← hC]
  unfold hullE at hC
  have hne0 : (((0 : Nat) : Int) != 0) = false := rfl
  obtain ⟨l, h⟩ := a
  obtain ⟨m, k⟩ := b
  obtain ⟨e, he⟩ : ∃ e, e = bothEE (l, h) (m, k) := ⟨_, rfl⟩
  rw [← he] at HB hC
  dsimp only [encV] at HB hC ⊢
  have c0 : (((w.alloc (.cells #[txt l, txt h] 24)).alloc (.cells #[txt m, txt k] 24)).alloc (.cells #[.string ⟨#[]⟩, .string ⟨#[]⟩] 24)).cell? ⟨w.heap.size, 0, none⟩ = some (txt l) := by go_simp
  have c1 : (((w.alloc (.cells #[txt l, txt h] 24)).alloc (.cells #[txt m, txt k] 24)).alloc (.cells #[.string ⟨#[]⟩, .string ⟨#[]⟩] 24)).cell? ⟨w.heap.size, 1, none⟩ = some (txt h) := by go_simp
  have c2 : (((w.alloc (.cells #[txt l, txt h] 24)).alloc (.cells #[txt m, txt k] 24)).alloc (.cells #[.string ⟨#[]⟩, .string ⟨#[]⟩] 24)).cell? ⟨w.heap.size + 1, 0, none⟩ = some (txt m) := by go_simp
  have c3 : (((w.alloc (.cells #[txt l, txt h] 24)).alloc (.cells #[txt m, txt k] 24)).alloc (.cells #[.string ⟨#[]⟩, .string ⟨#[]⟩] 24)).cell? ⟨w.heap.size + 1, 1, none⟩ = some (txt k) := by go_simp
  have X : EncAt (w.heap.size + 1 + 1) (((w.alloc (.cells #[txt l, txt h] 24)).alloc (.cells #[txt m, txt k] 24)).alloc (.cells #[.string ⟨#[]⟩, .string ⟨#[]⟩] 24)) [] [] := ⟨by go_simp, by go_simp, by go_simp, by go_simp⟩
  have E : Ext w (((w.alloc (.cells #[txt l, txt h] 24)).alloc (.cells #[txt m, txt k] 24)).alloc (.cells #[.string ⟨#[]⟩, .string ⟨#[]⟩] 24)) := extA
  go_enter Tryz.func31, Tryz.ntmps31
  go_wp2_with fail
  generalize (((w.alloc (.cells #[txt l, txt h] 24)).alloc (.cells #[txt m, txt k] 24)).alloc (.cells #[.string ⟨#[]⟩, .string ⟨#[]⟩] 24)) = w0 at c0 c1 c2 c3 X E ⊢
  refine (HB.out w0).mono ?_
  clear HB
  rintro e' w1 ⟨rfl, hE⟩
  replace c0 := hE.cell c0
  replace c1 := hE.cell c1
  replace c2 := hE.cell c2
  replace c3 := hE.cell c3
  replace X := X.ext hE
  replace E := E.trans hE
  clear hE
  by_cases e0 : e = 0
  rotate_left
  · rw [if_pos e0] at hC
    have HR : Hid (C = (([], []), e)) := hC
    have hne : (((e : Nat) : Int) != 0) = true := by rw [bne_iff_ne]; omega
    clear hC c0 c1 c2 c3 he e0 hl hm
    obtain ⟨x0, x1, f0, f1⟩ := X
    go_wp2_with fail
    refine bodyPost_ret (v := .tuple #[.agg #[txt [], txt []], .int .i64 (e : Nat)]) (by rw [results_cell_tmp1 rfl]; go_simp) rfl ?_
    exact ⟨by first | (rw [HR.out]; done) | (rw [HR.out]; rfl), extA⟩
  subst e0
  rw [if_neg (by decide)] at hC
  obtain ⟨ha, hb⟩ := bothEE_two he.symm
  clear he
  obtain ⟨e1, e2⟩ := hull_four ha hb
  obtain ⟨a1, a2, _⟩ := enc_right ha
  obtain ⟨b1, b2, _⟩ := enc_right hb
  dsimp only at e1 e2 a1 a2 b1 b2
  rw [← e1, ← e2] at hC
  have hC2 : C = fourE [l, h, m, k] 0 := hC
  have HR := Lib.hid hC2
  have HRT : Hid (∀ x ∈ [l, h, m, k], fracE x = 0) := fun x hx => by
    simp only [List.mem_cons, List.mem_nil_iff, or_false] at hx
    rcases hx with rfl | rfl | rfl | rfl <;> assumption
  clear hC hC2 e1 e2 a1 a2 b1 b2 ha hb hl hm
  have z0 := cell_lt c0
  have z1 := cell_lt c2
  dsimp only at z0 z1
  have FO : FourV (w1.heap.size + 1) ((w1.alloc (.cells #[txt l, txt h, txt m, txt k] 22)).alloc (.cells #[.slice (some ⟨w1.heap.size, 0, none⟩) 4 4, .int .i64 0] 98)) [l, h, m, k] 0 (some ⟨w1.heap.size, 0, none⟩) 4 :=
    ⟨by go_simp, by go_simp, cells_four ⟨by go_simp, by go_simp, by go_simp, by go_simp, by go_simp, by go_simp, by go_simp, by go_simp⟩⟩
  have EA : Ext w1 ((w1.alloc (.cells #[txt l, txt h, txt m, txt k] 22)).alloc (.cells #[.slice (some ⟨w1.heap.size, 0, none⟩) 4 4, .int .i64 0] 98)) := extA
  replace X := X.ext EA
  replace E := E.trans EA
  go_wp2_with fail
  generalize ((w1.alloc (.cells #[txt l, txt h, txt m, txt k] 22)).alloc (.cells #[.slice (some ⟨w1.heap.size, 0, none⟩) 4 4, .int .i64 0] 98)) = w2 at FO X E ⊢
  obtain ⟨gb, hgb⟩ : ∃ gb, gb = w1.heap.size + 1 := ⟨_, rfl⟩
  rw [← hgb] at FO ⊢
  clear EA hgb c0 c1 c2 c3 z0 z1
  refine (rEndsV_any gb [l, h, m, k] 0 _ 4 w2 FO (Nat.zero_lt_succ _) (by simp) (fun _ => HRT.out)).mono ?_
  unfold EncP
  rw [← HR.out]
  clear HR HRT FO
  obtain ⟨⟨y0, y1⟩, y2⟩ := C
  rintro e w7 ⟨rfl, hE⟩
  replace X := X.ext hE
  replace E := E.trans hE
  obtain ⟨x0, x1, f0, f1⟩ := X
  go_wp2_with fail
  refine bodyPost_ret (v := .tuple #[.agg #[txt y0, txt y1], .int .i64 (y2 : Nat)]) (by rw [results_cell_tmp1 rfl]; go_simp) rfl ?_
  exact ⟨rfl, extA⟩
def farR (a : Enc) : Txt := if fracQ a.2 < -fracQ a.1 then a.1 else a.2
def nearR (a : Enc) : Txt := if fracQ a.2 < -fracQ a.1 then a.2 else a.1
theorem farR_is {a : Enc} (ha : encE a = 0) : mulS (farR a) (farR a) = resQ (sqHi a) ∧ (has0 a = false → mulS (nearR a) (nearR a) = resQ (sqLo a)) ∧ (has0 a = true → resQ (sqLo a) = ([48], 0)) := by
  obtain ⟨a1, a2, _⟩ := enc_right ha
  unfold farR nearR
  refine ⟨?_, fun h0 => ?_, fun h0 => ?_⟩
  · rw [sq_hi ha]
    split
    · exact mulS_right a1 a1
    · exact mulS_right a2 a2
  · rw [sq_lo ha h0]
    split
    · exact mulS_right a2 a2
    · exact mulS_right a1 a1
  · unfold sqLo; rw [if_pos h0]; exact res_zero
theorem square_sort {a : Enc} : endsR (resQ (sqLo a)) (resQ (sqHi a)) = fourE [(resQ (sqHi a)).1, (resQ (sqLo a)).1] (E2 (resQ (sqHi a)) (resQ (sqLo a))) := by
  rw [four_sort, sortR_ge sq_le.2]
set_option maxHeartbeats 8000000 in
set_option maxRecDepth 100000 in
theorem rSquare2_any (a : Enc) (w : World) (hl : LenE a) : Calls Tryz.prog 17 #[encV a] w (EncP (squareE a) w) := by
  have HB := Lib.hid (fun W => rCheck2_any a W hl)
  obtain ⟨C, hC⟩ : ∃ C, C = squareE a := ⟨_, rfl⟩
  unfold EncP
  rw [← hC]
  unfold squareE at hC
  have hne0 : (((0 : Nat) : Int) != 0) = false := rfl
  obtain ⟨l, h⟩ := a
  obtain ⟨e, he⟩ : ∃ e, e = encE (l, h) := ⟨_, rfl⟩
  rw [← he] at HB hC
  dsimp only [encV] at HB hC ⊢
  have c0 : ((w.alloc (.cells #[txt l, txt h] 24)).alloc (.cells #[.string ⟨#[]⟩, .string ⟨#[]⟩] 24)).cell? ⟨w.heap.size, 0, none⟩ = some (txt l) := by go_simp
  have c1 : ((w.alloc (.cells #[txt l, txt h] 24)).alloc (.cells #[.string ⟨#[]⟩, .string ⟨#[]⟩] 24)).cell? ⟨w.heap.size, 1, none⟩ = some (txt h) := by go_simp
  have X : EncAt (w.heap.size + 1) ((w.alloc (.cells #[txt l, txt h] 24)).alloc (.cells #[.string ⟨#[]⟩, .string ⟨#[]⟩] 24)) [] [] := ⟨by go_simp, by go_simp, by go_simp, by go_simp⟩
  have E : Ext w ((w.alloc (.cells #[txt l, txt h] 24)).alloc (.cells #[.string ⟨#[]⟩, .string ⟨#[]⟩] 24)) := extA
  go_enter Tryz.func17, Tryz.ntmps17
  go_wp2_with fail
  generalize ((w.alloc (.cells #[txt l, txt h] 24)).alloc (.cells #[.string ⟨#[]⟩, .string ⟨#[]⟩] 24)) = w0 at c0 c1 X E ⊢
  refine (HB.out w0).mono ?_
  clear HB
  rintro e' w1 ⟨rfl, hE⟩
  replace c0 := hE.cell c0
  replace c1 := hE.cell c1
  replace X := X.ext hE
  replace E := E.trans hE
  clear hE
  by_cases e0 : e = 0
  rotate_left
  · rw [if_pos e0] at hC
    have HR : Hid (C = (([], []), e)) := hC
    have hne : (((e : Nat) : Int) != 0) = true := by rw [bne_iff_ne]; omega
    clear hC c0 c1 he e0 hl
    obtain ⟨x0, x1, f0, f1⟩ := X
    go_wp2_with fail
    refine bodyPost_ret (v := .tuple #[.agg #[txt [], txt []], .int .i64 (e : Nat)]) (by rw [results_cell_tmp1 rfl]; go_simp) rfl ?_
    exact ⟨by first | (rw [HR.out]; done) | (rw [HR.out]; rfl), extA⟩
  subst e0
  rw [if_neg (by decide)] at hC
  have ha : encE (l, h) = 0 := he.symm
  clear he
  obtain ⟨a1, a2, _⟩ := enc_right ha
  obtain ⟨e1, e2, e3⟩ := farR_is ha
  obtain ⟨t1, t2, t3⟩ := neg_right a1
  have HT := Lib.hid (fun W => rTurned_any l W a1 hl.1)
  have HO := Lib.hid (fun W => rOrder_any (negR l).1 h W t2 a2 (len_right t2) hl.2)
  have hz : (0 < (fracQ (negR l).1 - fracQ h).num.sign) ↔ fracQ h < -fracQ l := by rw [← t3]; exact ord_gt
  have HI := Lib.hid (fun W => rIn_any (l, h) [48] W hl (by decide) a1 a2 (by decide))
  rw [in_zero] at HI
  have rf : fracE (farR (l, h)) = 0 := by
    unfold farR
    split
    · exact a1
    · exact a2
  have rn : fracE (nearR (l, h)) = 0 := by
    unfold nearR
    split
    · exact a2
    · exact a1
  have HF := Lib.hid (fun W => rMul_any (farR (l, h)) (farR (l, h)) W (len_right rf) (len_right rf))
  have HN := Lib.hid (fun (h0 : has0 (l, h) = false) W => by
    have q := rMul_any (nearR (l, h)) (nearR (l, h)) W (len_right rn) (len_right rn)
    rw [e2 h0] at q
    exact q)
  have HRT := Lib.hid (four_right (p := sqHi (l, h)) (q := sqLo (l, h)))
  rw [square_sort] at hC
  rw [e1] at HF
  generalize resQ (sqHi (l, h)) = r at *
  generalize resQ (sqLo (l, h)) = s at *
  have HS1 := Lib.hid e3
  obtain ⟨z, hze⟩ : ∃ z, z = (fracQ (negR l).1 - fracQ h).num.sign := ⟨_, rfl⟩
  rw [← hze] at HO hz
  unfold farR at HF
  unfold nearR at HN
  dsimp only at HF HN
  simp only [← hz] at HF HN
  generalize (negR l).1 = tl at *
  obtain ⟨r, re⟩ := r
  obtain ⟨s, se⟩ := s
  dsimp only at hC HRT
  generalize hEE : E2 (r, re) (s, se) = EE at hC HRT
  have HEE := Lib.hid hEE
  have HR := Lib.hid hC
  unfold ResP at HF HN
  dsimp only [encV] at HI HF
  clear hC hEE e1 e2 e3 t1 t2 t3 ha hl rf rn a1 a2 hz hze
  have HLH : ∀ b, ((h == l) = b) → (h == l) = b := fun _ x => x
  clear HLH
  have z0 := cell_lt c0
  have z1 := cell_lt X.c0
  dsimp only at z0 z1
  obtain ⟨gb, hgb⟩ : ∃ gb, gb = w1.heap.size := ⟨_, rfl⟩
  have hg0 : w.heap.size < gb := by omega
  have hg2 : w.heap.size + 1 < gb := by omega
  have hgl := Nat.le_of_lt hg0
  have FO := four_new w1 gb hgb
  have EA : Ext w1 (w1.alloc (.cells #[.slice none 0 0, .int .i64 0] 98)) := extA
  have EB : Ext (w1.alloc (.cells #[.slice none 0 0, .int .i64 0] 98)) (w1.alloc (.cells #[.slice none 0 0, .int .i64 0] 98)).drew := extA
  have FO := FO.ext EB
  have X := (X.ext EA).ext EB
  have E := (E.trans EA).trans EB
  have hS : (w1.alloc (.cells #[.slice none 0 0, .int .i64 0] 98)).drew.cell? ⟨w.heap.size, 0, none⟩ = some (txt l) ∧ (w1.alloc (.cells #[.slice none 0 0, .int .i64 0] 98)).drew.cell? ⟨w.heap.size, 1, none⟩ = some (txt h) := ⟨EB.cell (EA.cell c0), EB.cell (EA.cell c1)⟩
  go_wp2_with fail
  rw [← hgb]
  refine wp_region_heldE 99 (fun w' => w'.cell? ⟨w.heap.size, 0, none⟩ = some (txt l) ∧ w'.cell? ⟨w.heap.size, 1, none⟩ = some (txt h)) (by kernel_rfl) ?_
  generalize (w1.alloc (.cells #[.slice none 0 0, .int .i64 0] 98)).drew = w2 at FO X E hS ⊢
  clear EA EB c0 c1 z0 z1 hgb
  have hg := hgl
  clear hgl
  ((refine eTk 0 ?_); (refine eTk 1 ?_); (refine eTk 3 ?_); (refine eTk 4 ?_))
  (refine wpAnyE_one (i := 2) (o := ?_) ?_ (by kernel_rfl) (fun K hK => ?_); rotate_left; (focus ((simp only [List.getElem?_toArray, List.getElem?_cons_succ, List.getElem?_cons_zero]; exact rfl))); go_simp; go_at_call 73; refine (HT.out _).mono ?_; rintro e w3 ⟨rfl, hE⟩; go_wp2_with fail; refine hK.out _ _ ?_ (fun hHeld => ?_); rotate_left; clear hK K; (try simp only [Act.put, List.setIfInBounds_toArray, List.set_cons_zero, List.set_cons_succ]))
  rotate_left
  · exact ⟨hE.cell hS.1, hE.cell hS.2⟩
  replace FO := FO.ext hE
  replace X := X.ext hE
  replace E := E.trans hE
  replace hS := And.intro (hE.cell hS.1) (hE.cell hS.2)
  clear hE hHeld HT
  (refine wpAnyE_one (i := 5) (o := ?_) ?_ (by kernel_rfl) (fun K hK => ?_); rotate_left; (focus ((simp only [List.getElem?_toArray, List.getElem?_cons_succ, List.getElem?_cons_zero]; exact rfl))); go_simp; go_at_call 72; refine (HO.out _).mono ?_; rintro e w4 ⟨rfl, hE⟩; go_wp2_with fail; refine hK.out _ _ ?_ (fun hHeld => ?_); rotate_left; clear hK K; (try simp only [Act.put, List.setIfInBounds_toArray, List.set_cons_zero, List.set_cons_succ]))
  rotate_left
  · exact ⟨hE.cell hS.1, hE.cell hS.2⟩
  replace FO := FO.ext hE
  replace X := X.ext hE
  replace E := E.trans hE
  replace hS := And.intro (hE.cell hS.1) (hE.cell hS.2)
  clear hE hHeld HO
  ((refine ePu 6 ?_))
  refine wpAnyE_done (by kernel_rfl) ?_ _
  obtain ⟨c0, c1⟩ := hS
  by_cases hz : 0 < z
  all_goals
    simp only [hz, if_true, if_false] at HF HN
    go_wp2_with fail
    refine (HF.out _).mono ?_
    clear HF
    rintro e w5 ⟨rfl, hE⟩
    replace FO := FO.ext hE
    replace c0 := hE.cell c0
    replace c1 := hE.cell c1
    replace X := X.ext hE
    replace E := E.trans hE
    clear hE
    go_wp2_with fail
    have K := rWith_any gb [] 0 re r w5 FO (Nat.le_of_ble_eq_true rfl)
    refine K.mono ?_
    clear K FO
    rintro e w6 ⟨rfl, FO, hB⟩
    replace c0 := cellB hB (p := ⟨w.heap.size, 0, none⟩) hg0 c0
    replace c1 := cellB hB (p := ⟨w.heap.size, 1, none⟩) hg0 c1
    replace X := X.below hB hg2
    replace E := E.trans' hB hg
    clear hB
    go_wp2_with fail
    refine (HI.out _).mono ?_
    clear HI
    rintro e w7 ⟨rfl, hE⟩
    replace FO := FO.ext hE
    replace c0 := hE.cell c0
    replace c1 := hE.cell c1
    replace X := X.ext hE
    replace E := E.trans hE
    clear hE
    by_cases h0 : has0 (l, h) = true
    · obtain ⟨rfl, rfl⟩ := Prod.mk.inj (HS1.out h0)
      rw [h0]
      clear HS1 HN
      go_wp2_with fail
      have K := rWith_any gb ([] ++ [r]) _ 0 [48] w7 FO (Nat.le_of_ble_eq_true rfl)
      refine K.mono ?_
      clear K FO
      rintro e w8 ⟨rfl, FO, hB⟩
      replace c0 := cellB hB (p := ⟨w.heap.size, 0, none⟩) hg0 c0
      replace c1 := cellB hB (p := ⟨w.heap.size, 1, none⟩) hg0 c1
      replace X := X.below hB hg2
      replace E := E.trans' hB hg
      clear hB
      have FO2 : Four gb w8 [r, [48]] EE := by rw [← HEE.out]; exact FO
      clear FO
      go_wp2_with fail
      refine (rEnds_any gb [r, [48]] EE w8 FO2 (Nat.zero_lt_succ _) (by simp) HRT.out).mono ?_
      unfold EncP
      rw [← HR.out]
      clear HR HRT FO2 HEE
      obtain ⟨⟨y0, y1⟩, y2⟩ := C
      rintro e w9 ⟨rfl, hE⟩
      replace X := X.ext hE
      replace E := E.trans hE
      obtain ⟨x0, x1, f0, f1⟩ := X
      go_wp2_with fail
      refine bodyPost_ret (v := .tuple #[.agg #[txt y0, txt y1], .int .i64 (y2 : Nat)]) (by rw [results_cell_tmp1 rfl]; go_simp) rfl ?_
      exact ⟨rfl, extA⟩
    · have h0 := Bool.eq_false_iff.2 h0
      have HM := Lib.hid (HN.out h0)
      rw [h0]
      clear HS1 HN h0
      try by_cases hhl : h = l
      all_goals
        try have hbe : (h == l) = false := by rw [beq_eq_false_iff_ne]; exact hhl
        try subst hhl
        go_wp2_with fail
        refine (HM.out _).mono ?_
        clear HM
        rintro e w8 ⟨rfl, hE⟩
        replace FO := FO.ext hE
        replace c0 := hE.cell c0
        replace c1 := hE.cell c1
        replace X := X.ext hE
        replace E := E.trans hE
        clear hE
        go_wp2_with fail
        have K := rWith_any gb ([] ++ [r]) _ se s w8 FO (Nat.le_of_ble_eq_true rfl)
        refine K.mono ?_
        clear K FO
        rintro e wa ⟨rfl, FO, hB⟩
        replace c0 := cellB hB (p := ⟨w.heap.size, 0, none⟩) hg0 c0
        replace c1 := cellB hB (p := ⟨w.heap.size, 1, none⟩) hg0 c1
        replace X := X.below hB hg2
        replace E := E.trans' hB hg
        clear hB
        have FO2 : Four gb wa [r, s] EE := by rw [← HEE.out]; exact FO
        clear FO
        go_wp2_with fail
        refine (rEnds_any gb [r, s] EE wa FO2 (Nat.zero_lt_succ _) (by simp) HRT.out).mono ?_
        unfold EncP
        rw [← HR.out]
        clear HR HRT FO2 HEE
        obtain ⟨⟨y0, y1⟩, y2⟩ := C
        rintro e w9 ⟨rfl, hE⟩
        replace X := X.ext hE
        replace E := E.trans hE
        obtain ⟨x0, x1, f0, f1⟩ := X
        go_wp2_with fail
        refine bodyPost_ret (v := .tuple #[.agg #[txt y0, txt y1], .int .i64 (y2 : Nat)]) (by rw [results_cell_tmp1 rfl]; go_simp) rfl ?_
        exact ⟨rfl, extA⟩
end Go.Proofs.YtdejgaiocjfhjaaGreatDoor
namespace Go.Proofs.YtdejgaiocjfhjaaGreatDoor
open Go.Lib (decDigits itoa)
def absQ (q : Rat) : Rat := if q < 0 then -q else q
theorem abs_num (q : Rat) : ((q.num.natAbs : Nat) : Rat) = absQ q * (q.den : Rat) := by
  have h := num_den q
  have e : ((q.num.natAbs : Nat) : Rat) = (((q.num.natAbs : Nat) : Int) : Rat) := by push_cast; rfl
  unfold absQ
  by_cases k : q < 0
  · have k2 := num_neg_iff.2 k
    rw [if_pos k, e, show ((q.num.natAbs : Nat) : Int) = -q.num by omega]
    push_cast
    grind
  · have k2 : ¬ q.num < 0 := fun x => k (num_neg_iff.1 x)
    rw [if_neg k, e, show ((q.num.natAbs : Nat) : Int) = q.num by omega]
    exact h
theorem den_pos (q : Rat) : 0 < (q.den : Rat) := by exact_mod_cast q.den_pos
theorem abs_less (x0 x1 y0 y1 : Rat) : y0.num.natAbs * y1.num.natAbs * x0.den * x1.den < x0.num.natAbs * x1.num.natAbs * y0.den * y1.den ↔ absQ y0 * absQ y1 < absQ x0 * absQ x1 := by
  have h0 := abs_num x0
  have h1 := abs_num x1
  have h2 := abs_num y0
  have h3 := abs_num y1
  have hD : 0 < (x0.den : Rat) * (x1.den : Rat) * (y0.den : Rat) * (y1.den : Rat) :=
    Rat.mul_pos (Rat.mul_pos (Rat.mul_pos (den_pos x0) (den_pos x1)) (den_pos y0)) (den_pos y1)
  have e : (y0.num.natAbs * y1.num.natAbs * x0.den * x1.den < x0.num.natAbs * x1.num.natAbs * y0.den * y1.den) ↔
      ((y0.num.natAbs : Nat) : Rat) * ((y1.num.natAbs : Nat) : Rat) * (x0.den : Rat) * (x1.den : Rat) < ((x0.num.natAbs : Nat) : Rat) * ((x1.num.natAbs : Nat) : Rat) * (y0.den : Rat) * (y1.den : Rat) := by
    constructor
    · intro h; exact_mod_cast h
    · intro h; exact_mod_cast h
  rw [e, h0, h1, h2, h3]
  generalize (x0.den : Rat) = a at *
  generalize (x1.den : Rat) = b at *
  generalize (y0.den : Rat) = c at *
  generalize (y1.den : Rat) = d at *
  generalize absQ x0 = p at *
  generalize absQ x1 = q at *
  generalize absQ y0 = r at *
  generalize absQ y1 = s at *
  have e1 : r * c * (s * d) * a * b = r * s * (a * b * c * d) := by grind
  have e2 : p * a * (q * b) * c * d = p * q * (a * b * c * d) := by grind
  rw [e1, e2]
  generalize a * b * c * d = D at *
  constructor
  · intro h
    rcases (Rat.le_total : p * q ≤ r * s ∨ r * s ≤ p * q) with k | k
    · have := mul_le k (Rat.le_of_lt hD)
      grind
    · grind
  · intro h
    have := Rat.mul_pos (show 0 < p * q - r * s by grind) hD
    grind
end Go.Proofs.YtdejgaiocjfhjaaGreatDoor
