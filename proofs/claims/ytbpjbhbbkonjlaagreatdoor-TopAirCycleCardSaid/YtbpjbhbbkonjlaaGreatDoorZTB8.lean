/- Steps of the proof: EProd, EGrtP, EAbs, EExtP, EGrt, EExt, EMul, EOrdP, EFour, EFourE, EAddR, EBest, EXtr, EMulR. No conditions. -/
import Derived.Test.YtbpjbhbbkonjlaaGreatDoorZTB1
import Derived.Test.YtbpjbhbbkonjlaaGreatDoorZTB2
import Derived.Test.YtbpjbhbbkonjlaaGreatDoorZTB3
import Derived.Test.YtbpjbhbbkonjlaaGreatDoorZTB4
import Derived.Test.YtbpjbhbbkonjlaaGreatDoorZTB5
import Derived.Test.YtbpjbhbbkonjlaaGreatDoorZTB6
import Derived.Test.YtbpjbhbbkonjlaaGreatDoorZTB7
namespace Go.Proofs.YtbpjbhbbkonjlaaGreatDoor
open Go.RowKit
open Go.Lib (decDigits)
structure ProdA (ls : List Txt) (n : Nat) (a : List Nat) : Prop where
  ok : OkB 10 a
  l1 : 1 ≤ a.length
  l2 : a.length ≤ 1 + 60 * n
  v : valB 10 a = prodV (ls.take n)
theorem ProdA.start (ls : List Txt) : ProdA ls 0 [1] := ⟨(fun x hx => by rw [List.mem_singleton.1 hx]; omega), by simp, by simp, by simp [valB, prodV]⟩
theorem ProdA.next {ls : List Txt} {n : Nat} {a o : List Nat} (h : ProdA ls n a) (hn : n < ls.length) (hs : DigitL (ls.getD n []) ∧ (ls.getD n []).length ≤ 60) {P M : Nat}
    (hP : P = valB 10 a * valB 10 (digL (ls.getD n []))) {N : Nat} (hN : N + 1 = a.length + (ls.getD n []).length) (hc : CarI (N + 1) P M N o) : ProdA ls (n + 1) o := by
  have hlen := hc.len
  have h1 := h.l1
  have h2 := h.l2
  have hlt : P < 10 ^ (N + 1) := by
    rw [hP, hN, Nat.pow_add]
    have k1 := valB_lt h.ok
    have k2 := valB_lt (digL_ok hs.1)
    rw [digL_len] at k2
    exact Nat.mul_lt_mul'' k1 k2
  refine ⟨hc.done hlt, by omega, by omega, ?_⟩
  rw [hc.v, hP, prodV_take hn, h.v, digL_val]
theorem cells1i (w : World) (t : TypeId) : CellsN .i64 (w.alloc (.cells #[.int .i64 1] t)) (some ⟨w.heap.size, 0, none⟩) [1] := by
  intro i hi
  have : i = 0 := by simp at hi; omega
  subst this
  exact ⟨_, _, rfl, by simp⟩
theorem take_get {a : List Nat} {t i : Nat} (h : i < t) : (a.take t).getD i 0 = a.getD i 0 := by
  rw [List.getD_eq_getElem?_getD, List.getD_eq_getElem?_getD, List.getElem?_take_of_lt h]
theorem take_val {a : List Nat} {t : Nat} (h0 : a.getD t 0 = 0) : valB 10 (a.take t) = valB 10 (a.take (t + 1)) := by
  rw [valB_take_succ, h0, Nat.mul_zero, Nat.add_zero]
set_option maxHeartbeats 8000000 in
set_option maxRecDepth 100000 in
theorem product_any (ls : List Txt) (a : Option Addr) (cap : Nat) (w : World) (hc : CellsT w a ls) (hn : ls.length ≤ 4) (hL : ∀ k, k < ls.length → DigitL (ls.getD k []) ∧ (ls.getD k []).length ≤ 60) :
    Calls Tryz.prog 177 #[.slice a ls.length cap] w fun e w' => e = .returned (txt (decDigits (prodV ls))) ∧ Ext w w' := by
  have HC := Lib.hid hc
  have HL := Lib.hid hL
  clear hc hL
  have C0 := Lib.hid (cells1i w 3)
  have E0 : Ext w (w.alloc (.cells #[.int .i64 1] 3)) := (Ext.refl _).alloc _
  go_enter Tryz.func177, Tryz.ntmps177
  go_wp2
  go_loopw [3, 16] (fun o i wr => ∃ (k ob : Nat) (a1 : List Nat), k ≤ ls.length ∧ o = .slice (some ⟨ob, 0, none⟩) a1.length a1.length ∧ i = .int .i64 k ∧ Hid (ProdA ls k a1) ∧ Hid (CellsN .i64 wr (some ⟨ob, 0, none⟩) a1) ∧ Ext w wr) (fun _ i _ => ls.length - (intOf i).toNat)
  case atStart => exact ⟨0, w.heap.size, [1], by omega, rfl, rfl, ProdA.start ls, C0.out, E0⟩
  case round =>
    clear C0 E0
    obtain ⟨k, ob, a1, hk, rfl, rfl, HP, HA, he⟩ := hrel
    have hl1 := HP.out.l1
    have hl2 := HP.out.l2
    obtain ⟨wo, hwo⟩ : ∃ wo, wo = wr := ⟨wr, rfl⟩
    subst hwo
    by_cases h1 : k < ls.length
    · have hki : (k : Int) < (ls.length : Int) := by omega
      obtain ⟨b1, o1, ha1, p1⟩ := HC.out.ext he k h1
      subst ha1
      have hs60 := (HL.out k h1).2
      have HS := Lib.hid (HL.out k h1)
      obtain ⟨s, hs⟩ : ∃ s, s = ls.getD k [] := ⟨_, rfl⟩
      have HSE := Lib.hid hs
      rw [← hs] at p1 hs60 HS
      clear hs
      obtain ⟨N, hN⟩ : ∃ N, N = a1.length + s.length := ⟨_, rfl⟩
      have hmk : (Instr.makeSlice 49 (.int .i64 ((a1.length : Int) + (s.length : Int))) (.int .i64 ((a1.length : Int) + (s.length : Int)))).run Tryz.prog wo = .ok (.slice (some ⟨wo.heap.size, 0, none⟩) N N) (wo.alloc (.cells (madeCells #[.int .i64 0] N) 3)) := by
        rw [← Int.natCast_add, ← hN]
        exact run_make_row' _ _ (.int .i64 0) 8 Tryz.underlying49 infoI64 rfl _ _ N (by omega) (by omega) wo
      have O0 : Hid (OwnsN .i64 3 (wo.alloc (.cells (madeCells #[.int .i64 0] N) 3)) (.slice (some ⟨wo.heap.size, 0, none⟩) N N) (List.replicate N 0)) := madeN _ _ _ N (by omega)
      have E0 : Ext wo (wo.alloc (.cells (madeCells #[.int .i64 0] N) 3)) := (Ext.refl _).alloc _
      generalize hW : wo.alloc (.cells (madeCells #[.int .i64 0] N) 3) = W at hmk O0 E0
      clear hW
      obtain ⟨nb, hnb⟩ : ∃ nb, nb = wo.heap.size := ⟨_, rfl⟩
      rw [← hnb] at hmk O0
      have HNB := Lib.hid hnb
      have HNN := Lib.hid hN
      clear hN hnb
      have HI0 : Hid (MulK a1 (digL s) 0 0 (List.replicate N 0)) := by show MulK _ _ _ _ _; rw [HNN.out, ← digL_len s]; exact MulK.start _ _
      go_wp2
      clear hmk
      go_loopw [28] (fun i wr => ∃ (m : Nat), m ≤ a1.length ∧ i = .int .i64 m ∧ Hid (∃ o, MulK a1 (digL s) m 0 o ∧ OwnsN .i64 3 wr (.slice (some ⟨nb, 0, none⟩) N N) o) ∧ Ext wo wr) (fun i _ => a1.length - (intOf i).toNat)
      case atStart => exact ⟨0, by omega, rfl, ⟨_, HI0.out, O0.out⟩, E0⟩
      case round =>
        clear HI0 O0 E0 p1
        obtain ⟨m, hm, rfl, HW, hE⟩ := hrel
        by_cases h2 : m < a1.length
        · have hmi : (m : Int) < (a1.length : Int) := by omega
          obtain ⟨b2, o2, ha2, p2⟩ := HA.out.ext hE m h2
          cases ha2
          obtain ⟨x, hx⟩ : ∃ x, x = a1.getD m 0 := ⟨_, rfl⟩
          have hx9 : x < 10 := by rw [hx]; exact okB_getD HP.out.ok (by omega) m
          have HX := Lib.hid hx
          rw [← hx, Nat.zero_add] at p2
          clear hx
          obtain ⟨w1, hw1⟩ : ∃ w1, w1 = wr := ⟨wr, rfl⟩
          subst hw1
          go_wp2
          go_loopw [35] (fun i wr => ∃ (n : Nat), n ≤ s.length ∧ i = .int .i64 n ∧ Hid (∃ o, MulK a1 (digL s) m n o ∧ OwnsN .i64 3 wr (.slice (some ⟨nb, 0, none⟩) N N) o) ∧ Ext wo wr) (fun i _ => s.length - (intOf i).toNat)
          case atStart => exact ⟨0, by omega, rfl, HW.out, hE⟩
          case round =>
            clear HW p2 hE
            obtain ⟨n, hn2, rfl, HW, hE⟩ := hrel
            obtain ⟨o, HO1, HO2⟩ := HW.out
            have HOL := Lib.hid HO1.len
            have HOM := Lib.hid HO1
            have HO := Lib.hid HO2
            clear HO1 HO2 HW
            by_cases h3 : n < s.length
            · have hni : (n : Int) < (s.length : Int) := by omega
              have hmn : m + n < o.length := by have := HOL.out; rw [digL_len] at this; omega
              obtain ⟨s1, s2⟩ := HO.out.at hmn
              obtain ⟨y, hy⟩ : ∃ y, y = o.getD (m + n) 0 := ⟨_, rfl⟩
              have hyb : y ≤ 81 * m := by rw [hy]; exact HOM.out.bz _ (Nat.le_refl _)
              obtain ⟨q, hq⟩ : ∃ q, q = s.length - 1 - n := ⟨_, rfl⟩
              have hqs : q < s.length := by omega
              obtain ⟨c, hc⟩ : ∃ c, c = s[q]'hqs := ⟨_, rfl⟩
              have hget : ∀ h, (⟨s.toArray⟩ : ByteArray)[q]'h = c := fun h => by rw [hc]; rfl
              have hcd : 48 ≤ c.toNat ∧ c.toNat ≤ 57 := HS.out.1 c (by rw [hc]; exact List.getElem_mem _)
              have hnx := HOM.out.next HP.out.ok (digL_ok HS.out.1) h2 (by rw [digL_len]; exact h3)
              rw [digL_get s h3, ← hq, ← HX.out, ← hy, show s.getD q 0 = c by rw [hc]; simp [List.getD_eq_getElem?_getD, hqs]] at hnx
              rw [← hy] at s1
              obtain ⟨z, hz⟩ : ∃ z, z = x * (c.toNat - 48) := ⟨_, rfl⟩
              have hz81 : z ≤ 9 * 9 := by rw [hz]; exact Nat.mul_le_mul (by omega) (by omega)
              rw [← hz] at hnx
              have HNX := Lib.hid hnx
              have hw1 : IntKind.i64.wrap ((m : Int) + (n : Int)) = ((m + n : Nat) : Int) := by rw [IntKind.wrap_i64]; omega
              have hw2 : IntKind.i64.wrap ((s.length : Int) - 1) = (s.length : Int) - 1 := by rw [IntKind.wrap_i64]; omega
              have hw3 : IntKind.i64.wrap ((s.length : Int) - 1 - (n : Int)) = (q : Int) := by rw [IntKind.wrap_i64]; omega
              have hw4 : IntKind.u8.wrap ((c.toNat : Int) - 48) = (c.toNat : Int) - 48 := by rw [IntKind.wrap_u8]; omega
              have hw5 : IntKind.i64.wrap ((c.toNat : Int) - 48) = (c.toNat : Int) - 48 := by rw [IntKind.wrap_i64]; omega
              have hzz : (x : Int) * ((c.toNat : Int) - 48) = (z : Int) := by rw [hz, Int.natCast_mul, Int.natCast_sub hcd.1]; rfl
              have hw6 : IntKind.i64.wrap ((x : Int) * ((c.toNat : Int) - 48)) = (z : Int) := by rw [hzz, IntKind.wrap_i64]; omega
              have hw7 : IntKind.i64.wrap ((y : Int) + (z : Int)) = ((y + z : Nat) : Int) := by rw [IntKind.wrap_i64]; omega
              have hmN : m + n < N := by have := HNN.out; omega
              have hmNi : ((m + n : Nat) : Int) < (N : Int) := by omega
              have hqi : (q : Int) < (s.length : Int) := by omega
              have HO2 := Lib.hid ((HO.out.set (m + n) (y + z)).ext (Ext.refl _).drew)
              have E2 : Ext wo (wr.setCell ⟨nb, m + n, none⟩ (.int .i64 ((y + z : Nat) : Int))).drew := (Ext.set hE (by rw [HNB.out]; exact Nat.le_refl _) _).drew
              clear hnx hy hq hc hz hzz HO hyb hz81
              generalize m + n = r at *
              generalize y + z = t at *
              go_wp2
              go_region
              go_wp2
              refine ⟨⟨n + 1, by omega, by go_num, ⟨_, HNX.out, HO2.out⟩, E2⟩, by simp [intOf]; omega⟩
            · have hns : n = s.length := by omega
              have HN2 : Hid (∃ o, MulK a1 (digL s) (m + 1) 0 o ∧ OwnsN .i64 3 wr (.slice (some ⟨nb, 0, none⟩) N N) o) := by
                refine ⟨o, ?_, HO.out⟩
                have h := HOM.out
                rw [hns, ← digL_len s] at h
                exact h.outer
              clear HO HOM HOL hns
              go_wp2
              refine ⟨⟨m + 1, by omega, by go_num, HN2, hE⟩, by simp [intOf]; omega⟩
        · have hma : m = a1.length := by omega
          obtain ⟨o, hO1, hO2⟩ := HW.out
          rw [hma] at hO1
          obtain ⟨k1, k2, k3⟩ := hO1.done
          obtain ⟨T, hT⟩ : ∃ T, T = N - 1 := ⟨_, rfl⟩
          have hTN : T + 1 = N := by have := HNN.out; omega
          have HI1 : Hid (CarI (T + 1) (valB 10 a1 * valB 10 (digL s)) (81 * a1.length + 81) 0 o) := by
            have h := CarI.start k2
            rw [k1, k3, digL_len, ← HNN.out, ← hTN] at h
            exact h
          have HO1 := Lib.hid hO2
          have hTl : T ≤ 400 := by have := HNN.out; omega
          have hwT : IntKind.i64.wrap ((N : Int) - 1) = (T : Int) := by have := HNN.out; rw [IntKind.wrap_i64]; omega
          clear hO1 hO2 HW k1 k2 k3 hma hT hm
          obtain ⟨w1, hw1⟩ : ∃ w1, w1 = wr := ⟨wr, rfl⟩
          subst hw1
          go_wp2
          go_loopw [62] (fun i wr => ∃ (j : Nat), j ≤ T ∧ i = .int .i64 j ∧ Hid (∃ o, CarI (T + 1) (valB 10 a1 * valB 10 (digL s)) (81 * a1.length + 81) j o ∧ OwnsN .i64 3 wr (.slice (some ⟨nb, 0, none⟩) N N) o) ∧ Ext wo wr) (fun i _ => T - (intOf i).toNat)
          case atStart => exact ⟨0, by omega, rfl, ⟨_, HI1.out, HO1.out⟩, hE⟩
          case round =>
            clear HI1 HO1 hE
            obtain ⟨j, hj, rfl, HW, hE⟩ := hrel
            obtain ⟨o, hO1, hO2⟩ := HW.out
            have HOL := Lib.hid hO1.len
            have HOM := Lib.hid hO1
            have HO := Lib.hid hO2
            clear hO1 hO2 HW
            by_cases h3 : j < T
            · have hji : (j : Int) < (T : Int) := by omega
              obtain ⟨s1, s2⟩ := HO.out.at (i := j) (by have := HOL.out; omega)
              obtain ⟨r1, r2⟩ := HO.out.at (i := j + 1) (by have := HOL.out; omega)
              have hnx := HOM.out.next (by omega)
              have hbd := HOM.out.bd
              have hbr := HOM.out.br (j + 1) (by omega)
              have HO2 := HO.out.set (j + 1) (o.getD (j + 1) 0 + o.getD j 0 / 10)
              have f2 := HO2.at (i := j) (by rw [List.length_set]; have := HOL.out; omega)
              rw [getD_set_nat _ _ _ _ (by have := HOL.out; omega), if_neg (by omega)] at f2
              obtain ⟨t1, t2⟩ := f2
              have E2 : Ext wo (wr.setCell ⟨nb, j + 1, none⟩ (.int .i64 ((o.getD (j + 1) 0 + o.getD j 0 / 10 : Nat) : Int))).drew := (Ext.set hE (by rw [HNB.out]; exact Nat.le_refl _) _).drew
              have HO3 := ((HO2.ext (Ext.refl _).drew)).set j (o.getD j 0 % 10)
              have E3 := Ext.set E2 (b := nb) (o := j) (by rw [HNB.out]; exact Nat.le_refl _) (.int .i64 ((o.getD j 0 % 10 : Nat) : Int))
              replace t1 := ((Ext.refl _).drew).cell t1
              replace t2 : (wr.setCell ⟨nb, j + 1, none⟩ (.int .i64 ((o.getD (j + 1) 0 + o.getD j 0 / 10 : Nat) : Int))).drew.frozen? ⟨nb, j, none⟩ = false := by rw [World.frozen?_drew]; exact t2
              generalize hx : o.getD j 0 = x at *
              generalize hy : o.getD (j + 1) 0 = y at *
              obtain ⟨q, hq⟩ : ∃ q, q = x / 10 := ⟨_, rfl⟩
              obtain ⟨d, hd⟩ : ∃ d, d = x % 10 := ⟨_, rfl⟩
              rw [← hq] at hnx HO3 E2 E3 t1 t2
              rw [← hd] at hnx HO3 E3
              have hw1 : IntKind.i64.wrap ((j : Int) + 1) = (j : Int) + 1 := by rw [IntKind.wrap_i64]; omega
              have ht1 : (x : Int).tmod 10 = (d : Int) := by rw [Int.tmod_eq_emod_of_nonneg (by omega)]; omega
              have ht2 : (x : Int).tdiv 10 = (q : Int) := by rw [Int.tdiv_eq_ediv_of_nonneg (by omega)]; omega
              have hw2 : IntKind.i64.wrap (q : Int) = (q : Int) := by rw [IntKind.wrap_i64]; omega
              have hw3 : IntKind.i64.wrap ((y : Int) + (q : Int)) = ((y + q : Nat) : Int) := by rw [IntKind.wrap_i64]; omega
              have hw4 : IntKind.i64.wrap (d : Int) = (d : Int) := by rw [IntKind.wrap_i64]; omega
              have hb1 : (j : Int) + 1 < (N : Int) := by omega
              have hb2 : (j : Int) < (N : Int) := by omega
              have HNX := Lib.hid hnx
              have HOO := Lib.hid HO3
              clear hnx hx hy hq hd HO HO2 HO3 hbd hbr HOM
              generalize y + q = t at *
              go_wp2
              go_region
              go_wp2
              refine ⟨⟨j + 1, by omega, by go_num, ⟨_, HNX.out, HOO.out⟩, E3⟩, by simp [intOf]; omega⟩
            · have hjT : j = T := by omega
              have hPA : ProdA ls (k + 1) o := by
                have h := HOM.out
                rw [hjT, HSE.out] at h
                exact HP.out.next h1 (HL.out k h1) rfl (by rw [← HSE.out, ← HNN.out]; exact hTN) h
              have hlN : N = o.length := by rw [← hTN]; exact HOL.out.symm
              have HPA := Lib.hid hPA
              have hCC : CellsN .i64 wr (some ⟨nb, 0, none⟩) o := by
                obtain ⟨oa, oc, hov, hoc, _, _⟩ := HO.out.reads
                obtain ⟨e1, _, _⟩ := Value.slice.inj hov
                subst e1
                exact hoc
              have HCC := Lib.hid hCC
              have HlN := Lib.hid hlN
              clear hPA hCC hlN HOM HO HOL hjT
              go_wp2
              refine ⟨⟨k + 1, nb, o, by omega, by rw [HlN.out], by go_num, HPA, HCC, he.trans hE⟩, by simp [intOf]; omega⟩
    · have hkl : k = ls.length := by omega
      have HV : Hid (valB 10 a1 = prodV ls) := by
        show _ = _
        have h := HP.out.v
        rwa [hkl, List.take_length] at h
      have HOK := Lib.hid HP.out.ok
      have hl3 : a1.length ≤ 241 := by omega
      clear HP hkl hl2
      go_wp2
      go_loop [3] (fun v => ∃ t : Nat, 1 ≤ t ∧ t ≤ a1.length ∧ v = .slice (some ⟨ob, 0, none⟩) t a1.length ∧ Hid (valB 10 (a1.take t) = prodV ls)) (fun v => match v with | .slice _ n _ => n | _ => 0)
      case atStart => exact ⟨a1.length, hl1, Nat.le_refl _, rfl, by show _ = _; rw [List.take_length]; exact HV.out⟩
      case round =>
        obtain ⟨t, ht1, ht2, rfl, hz⟩ := hrel
        obtain ⟨q, rfl⟩ : ∃ q, t = q + 1 := ⟨t - 1, by omega⟩
        obtain ⟨b2, o2, ha2, p2⟩ := HA.out q (by omega)
        cases ha2
        rw [Nat.zero_add] at p2
        by_cases hgo : 0 < q ∧ a1.getD q 0 = 0
        · obtain ⟨h2, h3⟩ := hgo
          rw [h3] at p2
          have hz2 : Hid (valB 10 (a1.take q) = prodV ls) := by
            show _ = _
            rw [take_val h3]; exact hz.out
          clear h3 hz
          go_wp2
          refine ⟨⟨q, by omega, by omega, by first | rfl | go_num, hz2⟩, by simp⟩
        · have hstop : q = 0 ∨ (0 < q ∧ a1.getD q 0 ≠ 0) := by
            by_cases h : q = 0
            · exact .inl h
            · exact .inr ⟨by omega, fun e => hgo ⟨by omega, e⟩⟩
          have HT : Hid (digT (a1.take (q + 1)) = decDigits (prodV ls)) := by
            show _ = _
            have hlt : (a1.take (q + 1)).length = q + 1 := by rw [List.length_take]; omega
            rw [← hz.out]
            refine digT_dec (fun x hx => HOK.out x (List.mem_of_mem_take hx)) (by omega) ?_
            rw [hlt]
            rcases hstop with h | h
            · exact .inl (by omega)
            · right; rw [take_get (by omega)]; exact h.2
          have HDB := Lib.hid (fun (m : Nat) (hm : m < q + 1) => digT_take (t := a1.take (q + 1)) (k := m) (by rw [List.length_take]; omega))
          have HDL : Hid ((decDigits (prodV ls)).length = q + 1) := by show _ = _; rw [← HT.out, digT_len, List.length_take]; omega
          rw [HT.out] at HDB
          obtain ⟨D, hD⟩ : ∃ D, D = decDigits (prodV ls) := ⟨_, rfl⟩
          rw [← hD] at HDB HDL
          have HDE := Lib.hid hD
          clear hD
          have E1 : Ext wo (wo.alloc (.cells #[.pointer none, .slice none 0 0] 188)) := extA
          have hb3 : (wo.alloc (.cells #[.pointer none, .slice none 0 0] 188)).heap[wo.heap.size]? = some (.cells #[.pointer none, .slice none 0 0] 188 (0, 0)) := World.alloc_heap_new _ _
          have hs3 : (wo.alloc (.cells #[.pointer none, .slice none 0 0] 188)).heap.size = wo.heap.size + 1 := by simp
          have HB0 : Hid (BldW wo.heap.size (wo.heap.size + 1) (D.take 0) (wo.alloc (.cells #[.pointer none, .slice none 0 0] 188))) := BldW.fresh hb3
          have HA1 : Hid (CellsN .i64 (wo.alloc (.cells #[.pointer none, .slice none 0 0] 188)) (some ⟨ob, 0, none⟩) a1) := HA.out.ext E1
          have EE := he.trans E1
          have hob : ob < wo.heap.size := cell_lt p2
          have hws := he.size
          clear hb3 HT HV HA E1
          rcases hstop with hq | ⟨hq, hx⟩
          · have hqi : ¬ 0 < q := by omega
            clear p2 hq
            go_wp2
            go_loopw [105] (fun i W => ∃ m : Nat, m ≤ q + 1 ∧ i = .int .i64 m ∧ Hid (BldW wo.heap.size (wo.heap.size + 1) (D.take m) W) ∧ Hid (CellsN .i64 W (some ⟨ob, 0, none⟩) a1) ∧ Ext w W ∧ wo.heap.size + 1 ≤ W.heap.size) (fun i _ => q + 1 - (intOf i).toNat)
            case atStart => exact ⟨0, by omega, rfl, HB0.out, HA1.out, EE, by omega⟩
            case round =>
              clear HB0 HA1 EE hs3
              obtain ⟨m, hm, rfl, HB, HA, hE, hz⟩ := hrel
              obtain ⟨W0, hW0⟩ : ∃ W0, W0 = wr := ⟨wr, rfl⟩
              subst hW0
              by_cases h3 : m < q + 1
              · obtain ⟨r, hr⟩ : ∃ r, r = q - m := ⟨_, rfl⟩
                obtain ⟨b2, o2, ha2, p2⟩ := HA.out r (by omega)
                cases ha2
                rw [Nat.zero_add] at p2
                have hd := okB_getD HOK.out (by omega) r
                have hnx := HDB.out m h3
                rw [show (a1.take (q + 1)).length - 1 - m = r by rw [List.length_take]; omega, take_get (by omega)] at hnx
                generalize a1.getD r 0 = d at p2 hd hnx
                obtain ⟨c, hc⟩ : ∃ c, c = UInt8.ofNat (48 + d) := ⟨_, rfl⟩
                rw [← hc] at hnx
                have hcn : c.toNat = 48 + d := by rw [hc]; exact digit_toNat hd
                have hw2 : IntKind.i64.wrap ((q : Int) - (m : Int)) = (r : Int) := by rw [IntKind.wrap_i64]; omega
                have hw3 : IntKind.i64.wrap (48 + (d : Int)) = 48 + (d : Int) := by rw [IntKind.wrap_i64]; omega
                have hw4 : IntKind.u8.wrap (48 + (d : Int)) = (c.toNat : Int) := by rw [IntKind.wrap_u8, hcn]; omega
                have hri : (r : Int) < ((q + 1 : Nat) : Int) := by omega
                have hmi : (m : Int) < ((q + 1 : Nat) : Int) := by omega
                have HWB := Lib.hid (WriteByte_any wo.heap.size (wo.heap.size + 1) (D.take m) c W0 HB.out (by omega) hz (by have := HDL.out; rw [List.length_take]; omega))
                rw [← hnx] at HWB
                clear hr hc hcn hnx hd HB
                go_wp2_with (go_at_call 200; refine HWB.out.mono ?_; rintro e w5 ⟨rfl, hB5, hE5⟩)
                have HB5 := Lib.hid hB5
                have HA5 : Hid (CellsN .i64 w5 (some ⟨ob, 0, none⟩) a1) := fun i hi => by
                  obtain ⟨b, off, h1, h2⟩ := HA.out i hi
                  refine ⟨b, off, h1, ?_⟩
                  cases h1
                  rw [Below.cell hE5 (by show ob < wo.heap.size; exact hob)]
                  exact h2
                have E5 := hE.trans' hE5 hws
                have hz5 := hE5.size
                clear hB5 hE5 HWB HA p2
                go_wp2
                refine ⟨⟨m + 1, by omega, by go_num, HB5, HA5, E5, by omega⟩, by simp [intOf]; omega⟩
              · have hmt : D.take m = D := List.take_of_length_le (by have := HDL.out; omega)
                rw [hmt] at HB
                have HS := Lib.hid (Tryz.Builder_String_any wo.heap.size wo.heap.size D W0 (HB.out.is (by omega)) (by omega))
                have hmi : ¬ (m : Int) < ((q + 1 : Nat) : Int) := by omega
                clear hmt HB HA
                go_wp2_with (go_at_call 132; refine HS.out.mono ?_; rintro e w5 ⟨rfl, hE5⟩)
                refine bodyPost_ret (v := txt D) ((results_tmp (t := 2) rfl _ _ _).trans rfl) rfl ?_
                exact ⟨by rw [HDE.out], hE.trans' hE5 hws⟩
          · have hx2 : ((a1.getD q 0 : Int) == 0) = false := by rw [beq_eq_false_iff_ne]; omega
            generalize a1.getD q 0 = x at p2 hx2 hx
            go_wp2
            clear p2 hx2 hx
            go_loopw [105] (fun i W => ∃ m : Nat, m ≤ q + 1 ∧ i = .int .i64 m ∧ Hid (BldW wo.heap.size (wo.heap.size + 1) (D.take m) W) ∧ Hid (CellsN .i64 W (some ⟨ob, 0, none⟩) a1) ∧ Ext w W ∧ wo.heap.size + 1 ≤ W.heap.size) (fun i _ => q + 1 - (intOf i).toNat)
            case atStart => exact ⟨0, by omega, rfl, HB0.out, HA1.out, EE, by omega⟩
            case round =>
              clear HB0 HA1 EE hs3
              obtain ⟨m, hm, rfl, HB, HA, hE, hz⟩ := hrel
              obtain ⟨W0, hW0⟩ : ∃ W0, W0 = wr := ⟨wr, rfl⟩
              subst hW0
              by_cases h3 : m < q + 1
              · obtain ⟨r, hr⟩ : ∃ r, r = q - m := ⟨_, rfl⟩
                obtain ⟨b2, o2, ha2, p2⟩ := HA.out r (by omega)
                cases ha2
                rw [Nat.zero_add] at p2
                have hd := okB_getD HOK.out (by omega) r
                have hnx := HDB.out m h3
                rw [show (a1.take (q + 1)).length - 1 - m = r by rw [List.length_take]; omega, take_get (by omega)] at hnx
                generalize a1.getD r 0 = d at p2 hd hnx
                obtain ⟨c, hc⟩ : ∃ c, c = UInt8.ofNat (48 + d) := ⟨_, rfl⟩
                rw [← hc] at hnx
                have hcn : c.toNat = 48 + d := by rw [hc]; exact digit_toNat hd
                have hw2 : IntKind.i64.wrap ((q : Int) - (m : Int)) = (r : Int) := by rw [IntKind.wrap_i64]; omega
                have hw3 : IntKind.i64.wrap (48 + (d : Int)) = 48 + (d : Int) := by rw [IntKind.wrap_i64]; omega
                have hw4 : IntKind.u8.wrap (48 + (d : Int)) = (c.toNat : Int) := by rw [IntKind.wrap_u8, hcn]; omega
                have hri : (r : Int) < ((q + 1 : Nat) : Int) := by omega
                have hmi : (m : Int) < ((q + 1 : Nat) : Int) := by omega
                have HWB := Lib.hid (WriteByte_any wo.heap.size (wo.heap.size + 1) (D.take m) c W0 HB.out (by omega) hz (by have := HDL.out; rw [List.length_take]; omega))
                rw [← hnx] at HWB
                clear hr hc hcn hnx hd HB
                go_wp2_with (go_at_call 200; refine HWB.out.mono ?_; rintro e w5 ⟨rfl, hB5, hE5⟩)
                have HB5 := Lib.hid hB5
                have HA5 : Hid (CellsN .i64 w5 (some ⟨ob, 0, none⟩) a1) := fun i hi => by
                  obtain ⟨b, off, h1, h2⟩ := HA.out i hi
                  refine ⟨b, off, h1, ?_⟩
                  cases h1
                  rw [Below.cell hE5 (by show ob < wo.heap.size; exact hob)]
                  exact h2
                have E5 := hE.trans' hE5 hws
                have hz5 := hE5.size
                clear hB5 hE5 HWB HA p2
                go_wp2
                refine ⟨⟨m + 1, by omega, by go_num, HB5, HA5, E5, by omega⟩, by simp [intOf]; omega⟩
              · have hmt : D.take m = D := List.take_of_length_le (by have := HDL.out; omega)
                rw [hmt] at HB
                have HS := Lib.hid (Tryz.Builder_String_any wo.heap.size wo.heap.size D W0 (HB.out.is (by omega)) (by omega))
                have hmi : ¬ (m : Int) < ((q + 1 : Nat) : Int) := by omega
                clear hmt HB HA
                go_wp2_with (go_at_call 132; refine HS.out.mono ?_; rintro e w5 ⟨rfl, hE5⟩)
                refine bodyPost_ret (v := txt D) ((results_tmp (t := 2) rfl _ _ _).trans rfl) rfl ?_
                exact ⟨by rw [HDE.out], hE.trans' hE5 hws⟩
end Go.Proofs.YtbpjbhbbkonjlaaGreatDoor
namespace Go.Proofs.YtbpjbhbbkonjlaaGreatDoor
open Go.Lib (decDigits)
def absN (a : Txt) : Nat := decV (topS (bareS a))
def absD (a : Txt) : Nat := decV (lowS (bareS a))
def greaterE (x y : Txt × Txt) : Bool := decide (prodV [topS (bareS y.1), topS (bareS y.2), lowS (bareS x.1), lowS (bareS x.2)] < prodV [topS (bareS x.1), topS (bareS x.2), lowS (bareS y.1), lowS (bareS y.2)])
theorem prodV_four (a b c d : Txt) : prodV [a, b, c, d] = decV a * decV b * decV c * decV d := by simp [prodV]
theorem bare_top (a : Txt) : topS (bareS a) = bareS (topS a) ∧ lowS (bareS a) = lowS a ∧ negS (topS a) = negS a := by
  cases hn : negS a
  · rw [bare_pos hn]
    have h2 : negS (topS a) = false := by
      unfold negS at hn ⊢
      cases a with
      | nil => rfl
      | cons c a =>
        unfold topS
        rw [List.takeWhile_cons]
        split
        · exact hn
        · rfl
    rw [bare_pos h2]
    exact ⟨rfl, rfl, h2⟩
  · have e := neg_cons hn
    generalize bareS a = s at *
    subst e
    have h1 : topS (45 :: s) = 45 :: topS s := by
      unfold topS
      rw [List.takeWhile_cons, if_pos (by decide)]
    have h2 : lowS (45 :: s) = lowS s := by
      unfold lowS
      have hm : (47 ∈ (45 :: s : Txt)) ↔ 47 ∈ s := ⟨fun h => (List.mem_cons.1 h).resolve_left (by decide), fun h => List.mem_cons_of_mem _ h⟩
      by_cases k : 47 ∈ s
      · rw [if_pos k, if_pos (hm.2 k), List.dropWhile_cons, if_pos (by decide)]
      · rw [if_neg k, if_neg (fun h => k (hm.1 h))]
    rw [h1, h2]
    exact ⟨rfl, rfl, rfl⟩
theorem canon_len {s : Txt} {v : Nat} (h : CanonL s) (e : decV s = v) (hv : v < 10 ^ 60) : s.length ≤ 60 := by
  rw [← canon_back h, e]
  exact (digits_len_le v 60 (by omega)).2 hv
theorem right_parts {a : Txt} (h : fracE a = 0) : (DigitL (topS (bareS a)) ∧ (topS (bareS a)).length ≤ 60) ∧ (DigitL (lowS (bareS a)) ∧ (lowS (bareS a)).length ≤ 60) ∧
    absN a = (fracQ a).num.natAbs ∧ absD a = (fracQ a).den := by
  obtain ⟨h1, h2, h3, h4, h5, _, _⟩ := frac_parts h
  obtain ⟨k1, k2⟩ := frac_num h
  obtain ⟨b1, b2, _⟩ := bare_top a
  unfold absN absD
  rw [b1, b2, k1, k2, intV_abs]
  rw [intV_abs] at h2
  exact ⟨⟨h1.1.1, canon_len h1.1 rfl h2⟩, ⟨h3.1, canon_len h3 rfl h5⟩, rfl, rfl⟩
theorem decV_cons (c : UInt8) (l : Txt) : decV (c :: l) = (c.toNat - 48) * 10 ^ l.length + decV l := by
  rw [show c :: l = [c] ++ l from rfl, decV_append]
  congr 2
  simp [decV]
theorem bytes_less : ∀ {a b : Txt}, DigitL a → DigitL b → a.length = b.length → Op.bytesLess a b = decide (decV a < decV b)
  | [], [], _, _, _ => by simp [Op.bytesLess]
  | [], _ :: _, _, _, h => by simp at h
  | _ :: _, [], _, _, h => by simp at h
  | c :: a, d :: b, ha, hb, h => by
    have ha2 : DigitL a := fun x hx => ha x (List.mem_cons_of_mem _ hx)
    have hb2 : DigitL b := fun x hx => hb x (List.mem_cons_of_mem _ hx)
    have hl : a.length = b.length := by simpa using h
    have hc := ha c (List.mem_cons_self ..)
    have hd := hb d (List.mem_cons_self ..)
    have ih := bytes_less ha2 hb2 hl
    have k1 := decV_lt ha2
    have k2 := decV_lt hb2
    unfold Op.bytesLess
    rw [ih, decV_cons, decV_cons, hl]
    rw [hl] at k1
    generalize decV a = x at *
    generalize decV b = y at *
    generalize 10 ^ b.length = T at *
    rcases Nat.lt_trichotomy c.toNat d.toNat with e | e | e
    · have h1 : (c.toNat - 48) * T + T ≤ (d.toNat - 48) * T := by
        rw [← Nat.succ_mul]; exact Nat.mul_le_mul_right _ (by omega)
      have h2 : c < d := UInt8.lt_iff_toNat_lt.2 e
      have h9 : (c.toNat - 48) * T + x < (d.toNat - 48) * T + y := by omega
      rw [decide_eq_true h2, decide_eq_true h9]
      rfl
    · have e2 : c = d := UInt8.toNat_inj.1 e
      subst e2
      rw [decide_eq_false (fun h => Nat.lt_irrefl _ (UInt8.lt_iff_toNat_lt.1 h))]
      simp
    · have h1 : (d.toNat - 48) * T + T ≤ (c.toNat - 48) * T := by
        rw [← Nat.succ_mul]; exact Nat.mul_le_mul_right _ (by omega)
      have h2 : ¬ c < d := fun h => by have := UInt8.lt_iff_toNat_lt.1 h; omega
      have h3 : (c == d) = false := by rw [beq_eq_false_iff_ne]; intro h; rw [h] at e; omega
      have h9 : ¬ (c.toNat - 48) * T + x < (d.toNat - 48) * T + y := by omega
      rw [decide_eq_false h2, h3, decide_eq_false h9]
      rfl
theorem dec_len_lt {P Q : Nat} (h : (decDigits Q).length < (decDigits P).length) : Q < P := by
  have h0 : 1 ≤ (decDigits Q).length := by
    have := (digits_ok Q).2.2
    cases hd : decDigits Q with
    | nil => exact absurd hd this
    | cons _ _ => simp
  have h1 : ¬ P < 10 ^ (decDigits Q).length := fun h2 => by
    have := (digits_len_le P _ h0).2 h2
    omega
  have h3 := (digits_len_le Q _ h0).1 (Nat.le_refl _)
  omega
theorem dec_order_len {P Q : Nat} (h : (decDigits P).length ≠ (decDigits Q).length) : decide ((decDigits Q).length < (decDigits P).length) = decide (Q < P) := by
  by_cases k : (decDigits Q).length < (decDigits P).length
  · rw [decide_eq_true k, decide_eq_true (dec_len_lt k)]
  · have := dec_len_lt (P := Q) (Q := P) (by omega)
    rw [decide_eq_false k, decide_eq_false (by omega)]
theorem dec_order {P Q : Nat} (h : (decDigits P).length = (decDigits Q).length) : (!(Op.bytesLess (decDigits P) (decDigits Q) || decDigits P == decDigits Q)) = decide (Q < P) := by
  rw [bytes_less (digits_ok P).1 (digits_ok Q).1 h, (digits_ok P).2.1, (digits_ok Q).2.1]
  have he : (decDigits P == decDigits Q) = decide (P = Q) := by
    by_cases k : P = Q
    · subst k; simp
    · rw [decide_eq_false k, beq_eq_false_iff_ne]
      intro e
      have := congrArg decV e
      rw [(digits_ok P).2.1, (digits_ok Q).2.1] at this
      exact k this
  rw [he]
  by_cases k : Q < P
  · rw [decide_eq_true k, decide_eq_false (show ¬ P < Q by omega), decide_eq_false (show ¬ P = Q by omega)]; rfl
  · rw [decide_eq_false k]
    by_cases k2 : P < Q
    · rw [decide_eq_true k2]; rfl
    · rw [decide_eq_true (show P = Q by omega)]; simp
end Go.Proofs.YtbpjbhbbkonjlaaGreatDoor
namespace Go.Proofs.YtbpjbhbbkonjlaaGreatDoor
open Go.Lib (decDigits itoa)
def absQ (q : Rat) : Rat := if q < 0 then -q else q
theorem abs_num (q : Rat) : ((q.num.natAbs : Nat) : Rat) = absQ q * (q.den : Rat) := by
  have h := num_den q
  have e : ((q.num.natAbs : Nat) : Rat) = (((q.num.natAbs : Nat) : Int) : Rat) := by push_cast; rfl
  unfold absQ
  by_cases k : q < 0
  · have k2 := num_neg_iff.2 k
    rw [if_pos k, e, show ((q.num.natAbs : Nat) : Int) = -q.num by omega]
    push_cast
    grind
  · have k2 : ¬ q.num < 0 := fun x => k (num_neg_iff.1 x)
    rw [if_neg k, e, show ((q.num.natAbs : Nat) : Int) = q.num by omega]
    exact h
theorem den_pos (q : Rat) : 0 < (q.den : Rat) := by exact_mod_cast q.den_pos
theorem abs_less (x0 x1 y0 y1 : Rat) : y0.num.natAbs * y1.num.natAbs * x0.den * x1.den < x0.num.natAbs * x1.num.natAbs * y0.den * y1.den ↔ absQ y0 * absQ y1 < absQ x0 * absQ x1 := by
  have h0 := abs_num x0
  have h1 := abs_num x1
  have h2 := abs_num y0
  have h3 := abs_num y1
  have hD : 0 < (x0.den : Rat) * (x1.den : Rat) * (y0.den : Rat) * (y1.den : Rat) :=
    Rat.mul_pos (Rat.mul_pos (Rat.mul_pos (den_pos x0) (den_pos x1)) (den_pos y0)) (den_pos y1)
  have e : (y0.num.natAbs * y1.num.natAbs * x0.den * x1.den < x0.num.natAbs * x1.num.natAbs * y0.den * y1.den) ↔
      ((y0.num.natAbs : Nat) : Rat) * ((y1.num.natAbs : Nat) : Rat) * (x0.den : Rat) * (x1.den : Rat) < ((x0.num.natAbs : Nat) : Rat) * ((x1.num.natAbs : Nat) : Rat) * (y0.den : Rat) * (y1.den : Rat) := by
    constructor
    · intro h; exact_mod_cast h
    · intro h; exact_mod_cast h
  rw [e, h0, h1, h2, h3]
  generalize (x0.den : Rat) = a at *
  generalize (x1.den : Rat) = b at *
  generalize (y0.den : Rat) = c at *
  generalize (y1.den : Rat) = d at *
  generalize absQ x0 = p at *
  generalize absQ x1 = q at *
  generalize absQ y0 = r at *
  generalize absQ y1 = s at *
  have e1 : r * c * (s * d) * a * b = r * s * (a * b * c * d) := by grind
  have e2 : p * a * (q * b) * c * d = p * q * (a * b * c * d) := by grind
  rw [e1, e2]
  generalize a * b * c * d = D at *
  constructor
  · intro h
    rcases (Rat.le_total : p * q ≤ r * s ∨ r * s ≤ p * q) with k | k
    · have := mul_le k (Rat.le_of_lt hD)
      grind
    · grind
  · intro h
    have := Rat.mul_pos (show 0 < p * q - r * s by grind) hD
    grind
end Go.Proofs.YtbpjbhbbkonjlaaGreatDoor
namespace Go.Proofs.YtbpjbhbbkonjlaaGreatDoor
open Go.Lib (decDigits)
theorem greater_is {x0 x1 y0 y1 : Txt} (r1 : fracE x0 = 0) (r2 : fracE x1 = 0) (r3 : fracE y0 = 0) (r4 : fracE y1 = 0) :
    greaterE (x0, x1) (y0, y1) = decide (absQ (fracQ y0) * absQ (fracQ y1) < absQ (fracQ x0) * absQ (fracQ x1)) := by
  obtain ⟨_, _, n0, d0⟩ := right_parts r1
  obtain ⟨_, _, n1, d1⟩ := right_parts r2
  obtain ⟨_, _, n2, d2⟩ := right_parts r3
  obtain ⟨_, _, n3, d3⟩ := right_parts r4
  have h := abs_less (fracQ x0) (fracQ x1) (fracQ y0) (fracQ y1)
  rw [← n0, ← n1, ← n2, ← n3, ← d0, ← d1, ← d2, ← d3] at h
  unfold greaterE
  dsimp only
  rw [prodV_four, prodV_four]
  unfold absN absD at h
  simp only [h]
def extremesE (a b : Enc) : Enc × Enc :=
  if negS b.1 = false then ((a.1, if negS a.1 then b.2 else b.1), (a.2, if negS a.2 then b.1 else b.2))
  else if (negS b.2 || b.2 == [48]) = true then ((a.2, if negS a.2 then b.2 else b.1), (a.1, if negS a.1 then b.1 else b.2))
  else if negS a.1 = false then ((a.2, b.1), (a.2, b.2))
  else if (negS a.2 || a.2 == [48]) = true then ((a.1, b.2), (a.1, b.1))
  else (if greaterE (a.2, b.1) (a.1, b.2) then (a.2, b.1) else (a.1, b.2), if greaterE (a.2, b.2) (a.1, b.1) then (a.2, b.2) else (a.1, b.1))
structure ExtR (a b : Enc) (p : Enc × Enc) : Prop where
  lo : fracQ p.1.1 * fracQ p.1.2 = prodLo a b
  hi : fracQ p.2.1 * fracQ p.2.2 = prodHi a b
  l : RightP p.1
  h : RightP p.2
theorem pick_q {c : Prop} [Decidable c] (x y : Txt) : fracQ (if c then x else y) = if c then fracQ x else fracQ y := by split <;> rfl
theorem pick_e {c : Prop} [Decidable c] {x y : Txt} (hx : fracE x = 0) (hy : fracE y = 0) : fracE (if c then x else y) = 0 := by split <;> assumption
theorem extremes_is {a b : Enc} (ha : encE a = 0) (hb : encE b = 0) : ExtR a b (extremesE a b) := by
  obtain ⟨a1, a2, _⟩ := enc_right ha
  obtain ⟨b1, b2, _⟩ := enc_right hb
  have hal := enc_le ha
  have hbl := enc_le hb
  unfold extremesE
  simp only [negS_right a1, negS_right a2, negS_right b1, negS_right b2, zero_right b2, zero_right a2, decide_eq_true_eq, decide_eq_false_iff_not, Bool.or_eq_true]
  by_cases h1 : fracQ b.1 < 0
  · rw [if_neg (not_not_intro h1)]
    by_cases h2 : fracQ b.2 < 0 ∨ fracQ b.2 = 0
    · rw [if_pos h2]
      obtain ⟨k1, k2⟩ := ends2 hal hbl (show fracQ b.2 ≤ 0 by grind)
      exact ⟨by unfold prodLo; rw [k1, pick_q], by unfold prodHi; rw [k2, pick_q], ⟨a2, pick_e b2 b1⟩, ⟨a1, pick_e b1 b2⟩⟩
    · rw [if_neg h2]
      by_cases h3 : fracQ a.1 < 0
      · rw [if_neg (not_not_intro h3)]
        by_cases h4 : fracQ a.2 < 0 ∨ fracQ a.2 = 0
        · rw [if_pos h4]
          obtain ⟨k1, k2⟩ := ends4 hal hbl (show fracQ b.1 ≤ 0 by grind) (show 0 ≤ fracQ b.2 by grind) (show fracQ a.2 ≤ 0 by grind)
          exact ⟨by unfold prodLo; rw [k1], by unfold prodHi; rw [k2], ⟨a1, b2⟩, ⟨a1, b1⟩⟩
        · rw [if_neg h4]
          obtain ⟨k1, k2⟩ := ends5 (a := fracQ a.1) (A := fracQ a.2) (show fracQ b.1 ≤ 0 by grind) (show 0 ≤ fracQ b.2 by grind) (show fracQ a.1 ≤ 0 by grind) (show 0 ≤ fracQ a.2 by grind)
          rw [greater_is a2 b1 a1 b2, greater_is a2 b2 a1 b1]
          have e1 : absQ (fracQ a.1) = -fracQ a.1 := if_pos h3
          have e2 : absQ (fracQ a.2) = fracQ a.2 := if_neg (by grind)
          have e3 : absQ (fracQ b.1) = -fracQ b.1 := if_pos h1
          have e4 : absQ (fracQ b.2) = fracQ b.2 := if_neg (by grind)
          rw [e1, e2, e3, e4]
          simp only [decide_eq_true_eq]
          have c1 : -fracQ a.1 * fracQ b.2 < fracQ a.2 * -fracQ b.1 ↔ fracQ a.2 * fracQ b.1 < fracQ a.1 * fracQ b.2 := by constructor <;> intro <;> grind
          have c2 : -fracQ a.1 * -fracQ b.1 < fracQ a.2 * fracQ b.2 ↔ fracQ a.1 * fracQ b.1 < fracQ a.2 * fracQ b.2 := by constructor <;> intro <;> grind
          simp only [c1, c2]
          refine ⟨?_, ?_, ?_, ?_⟩
          · unfold prodLo; rw [k1]; by_cases z : fracQ a.2 * fracQ b.1 < fracQ a.1 * fracQ b.2 <;> simp only [z, if_true, if_false]
          · unfold prodHi; rw [k2]; by_cases z : fracQ a.1 * fracQ b.1 < fracQ a.2 * fracQ b.2 <;> simp only [z, if_true, if_false]
          · dsimp only; split
            · exact ⟨a2, b1⟩
            · exact ⟨a1, b2⟩
          · dsimp only; split
            · exact ⟨a2, b2⟩
            · exact ⟨a1, b1⟩
      · rw [if_pos h3]
        obtain ⟨k1, k2⟩ := ends3 hal hbl (show fracQ b.1 ≤ 0 by grind) (show 0 ≤ fracQ b.2 by grind) (show 0 ≤ fracQ a.1 by grind)
        exact ⟨by unfold prodLo; rw [k1], by unfold prodHi; rw [k2], ⟨a2, b1⟩, ⟨a2, b2⟩⟩
  · rw [if_pos h1]
    obtain ⟨k1, k2⟩ := ends1 hal hbl (show 0 ≤ fracQ b.1 by grind)
    exact ⟨by unfold prodLo; rw [k1, pick_q], by unfold prodHi; rw [k2, pick_q], ⟨a1, pick_e b2 b1⟩, ⟨a2, pick_e b1 b2⟩⟩
end Go.Proofs.YtbpjbhbbkonjlaaGreatDoor
namespace Go.Proofs.YtbpjbhbbkonjlaaGreatDoor
open Go.RowKit
open Go.Lib (decDigits)
attribute [local go_sem] Oper.semAt_some
set_option maxHeartbeats 2000000 in
theorem eParts_any (a : Txt) (w : World) (hG : Glob w) (hl : a.length ≤ 400) : Calls Tryz.prog 176 #[txt a] w fun e w' => e = .returned (.tuple #[txt (topS (bareS a)), txt (lowS (bareS a))]) ∧ Ext w w' := by
  have HT := Lib.hid (fun W => TrimPrefix_any a W)
  have HC := Lib.hid (Cut_any (bareS a) w hG (Nat.le_trans (bare_len a) (by omega)))
  clear hG hl
  generalize bareS a = s at *
  by_cases hs : 47 ∈ s
  · rw [if_pos hs, decide_eq_true hs] at HC
    clear hs
    generalize topS s = n at *
    generalize lowS s = d at *
    go_enter Tryz.func176, Tryz.ntmps176
    go_wp2_with (first
      | (go_at_call 120; (refine (HT.out _).mono ?_); rintro e w1 ⟨rfl, rfl⟩)
      | (go_at_call 96; (refine HC.out.mono ?_); rintro e w2 ⟨rfl, hE⟩))
    go_ret2
    exact ⟨rfl, hE⟩
  · rw [if_neg hs, decide_eq_false hs] at HC
    rw [(split_none hs).2]
    clear hs
    generalize topS s = n at *
    go_enter Tryz.func176, Tryz.ntmps176
    go_wp2_with (first
      | (go_at_call 120; (refine (HT.out _).mono ?_); rintro e w1 ⟨rfl, rfl⟩)
      | (go_at_call 96; (refine HC.out.mono ?_); rintro e w2 ⟨rfl, hE⟩))
    go_ret2
    exact ⟨rfl, hE⟩
structure FourAt (b : Nat) (W : World) (p q r s : Txt) : Prop where
  c0 : W.cell? ⟨b, 0, none⟩ = some (txt p)
  c1 : W.cell? ⟨b, 1, none⟩ = some (txt q)
  c2 : W.cell? ⟨b, 2, none⟩ = some (txt r)
  c3 : W.cell? ⟨b, 3, none⟩ = some (txt s)
  f0 : W.frozen? ⟨b, 0, none⟩ = false
  f1 : W.frozen? ⟨b, 1, none⟩ = false
  f2 : W.frozen? ⟨b, 2, none⟩ = false
  f3 : W.frozen? ⟨b, 3, none⟩ = false
theorem FourAt.ext {b : Nat} {A B : World} {p q r s : Txt} (x : FourAt b A p q r s) (e : Ext A B) : FourAt b B p q r s := by
  have hlt : b < A.heap.size := cell_lt x.c0
  exact ⟨e.cell x.c0, e.cell x.c1, e.cell x.c2, e.cell x.c3, by rw [Below.frozen e hlt]; exact x.f0, by rw [Below.frozen e hlt]; exact x.f1, by rw [Below.frozen e hlt]; exact x.f2, by rw [Below.frozen e hlt]; exact x.f3⟩
theorem FourAt.other {b c o : Nat} {A : World} {p q r s : Txt} {v : Value} (x : FourAt b A p q r s) (hn : b ≠ c) : FourAt b (A.setCell ⟨c, o, none⟩ v) p q r s :=
  ⟨by rw [World.cell?_setCell_other _ _ _ _ (fun h => by simp only [Addr.mk.injEq] at h; omega)]; exact x.c0, by rw [World.cell?_setCell_other _ _ _ _ (fun h => by simp only [Addr.mk.injEq] at h; omega)]; exact x.c1, by rw [World.cell?_setCell_other _ _ _ _ (fun h => by simp only [Addr.mk.injEq] at h; omega)]; exact x.c2, by rw [World.cell?_setCell_other _ _ _ _ (fun h => by simp only [Addr.mk.injEq] at h; omega)]; exact x.c3, by rw [World.frozen?_setCell]; exact x.f0, by rw [World.frozen?_setCell]; exact x.f1, by rw [World.frozen?_setCell]; exact x.f2, by rw [World.frozen?_setCell]; exact x.f3⟩
theorem FourAt.set0 {b : Nat} {A : World} {p q r s : Txt} (x : FourAt b A p q r s) (v : Txt) : FourAt b (A.setCell ⟨b, 0, none⟩ (txt v)) v q r s :=
  ⟨World.cell?_setCell_same _ _ _ x.c0, by rw [World.cell?_setCell_other _ _ _ _ (fun h => by simp only [Addr.mk.injEq] at h; omega)]; exact x.c1, by rw [World.cell?_setCell_other _ _ _ _ (fun h => by simp only [Addr.mk.injEq] at h; omega)]; exact x.c2, by rw [World.cell?_setCell_other _ _ _ _ (fun h => by simp only [Addr.mk.injEq] at h; omega)]; exact x.c3, by rw [World.frozen?_setCell]; exact x.f0, by rw [World.frozen?_setCell]; exact x.f1, by rw [World.frozen?_setCell]; exact x.f2, by rw [World.frozen?_setCell]; exact x.f3⟩
theorem FourAt.set1 {b : Nat} {A : World} {p q r s : Txt} (x : FourAt b A p q r s) (v : Txt) : FourAt b (A.setCell ⟨b, 1, none⟩ (txt v)) p v r s :=
  ⟨by rw [World.cell?_setCell_other _ _ _ _ (fun h => by simp only [Addr.mk.injEq] at h; omega)]; exact x.c0, World.cell?_setCell_same _ _ _ x.c1, by rw [World.cell?_setCell_other _ _ _ _ (fun h => by simp only [Addr.mk.injEq] at h; omega)]; exact x.c2, by rw [World.cell?_setCell_other _ _ _ _ (fun h => by simp only [Addr.mk.injEq] at h; omega)]; exact x.c3, by rw [World.frozen?_setCell]; exact x.f0, by rw [World.frozen?_setCell]; exact x.f1, by rw [World.frozen?_setCell]; exact x.f2, by rw [World.frozen?_setCell]; exact x.f3⟩
theorem FourAt.set2 {b : Nat} {A : World} {p q r s : Txt} (x : FourAt b A p q r s) (v : Txt) : FourAt b (A.setCell ⟨b, 2, none⟩ (txt v)) p q v s :=
  ⟨by rw [World.cell?_setCell_other _ _ _ _ (fun h => by simp only [Addr.mk.injEq] at h; omega)]; exact x.c0, by rw [World.cell?_setCell_other _ _ _ _ (fun h => by simp only [Addr.mk.injEq] at h; omega)]; exact x.c1, World.cell?_setCell_same _ _ _ x.c2, by rw [World.cell?_setCell_other _ _ _ _ (fun h => by simp only [Addr.mk.injEq] at h; omega)]; exact x.c3, by rw [World.frozen?_setCell]; exact x.f0, by rw [World.frozen?_setCell]; exact x.f1, by rw [World.frozen?_setCell]; exact x.f2, by rw [World.frozen?_setCell]; exact x.f3⟩
theorem FourAt.set3 {b : Nat} {A : World} {p q r s : Txt} (x : FourAt b A p q r s) (v : Txt) : FourAt b (A.setCell ⟨b, 3, none⟩ (txt v)) p q r v :=
  ⟨by rw [World.cell?_setCell_other _ _ _ _ (fun h => by simp only [Addr.mk.injEq] at h; omega)]; exact x.c0, by rw [World.cell?_setCell_other _ _ _ _ (fun h => by simp only [Addr.mk.injEq] at h; omega)]; exact x.c1, by rw [World.cell?_setCell_other _ _ _ _ (fun h => by simp only [Addr.mk.injEq] at h; omega)]; exact x.c2, World.cell?_setCell_same _ _ _ x.c3, by rw [World.frozen?_setCell]; exact x.f0, by rw [World.frozen?_setCell]; exact x.f1, by rw [World.frozen?_setCell]; exact x.f2, by rw [World.frozen?_setCell]; exact x.f3⟩
theorem cells_four {W : World} {b : Nat} {p q r s : Txt} (x : FourAt b W p q r s) : CellsT W (some ⟨b, 0, none⟩) [p, q, r, s] := fun i hi => by
  refine ⟨b, 0, rfl, ?_⟩
  rw [Nat.zero_add]
  match i, hi with
  | 0, _ => exact x.c0
  | 1, _ => exact x.c1
  | 2, _ => exact x.c2
  | 3, _ => exact x.c3
theorem prod_four (p q r s : Txt) (hp : DigitL p ∧ p.length ≤ 60) (hq : DigitL q ∧ q.length ≤ 60) (hr : DigitL r ∧ r.length ≤ 60) (hs : DigitL s ∧ s.length ≤ 60) (b : Nat) (W : World) (x : FourAt b W p q r s) :
    Calls Tryz.prog 177 #[.slice (some ⟨b, 0, none⟩) 4 4] W fun e w' => e = .returned (txt (decDigits (prodV [p, q, r, s]))) ∧ Ext W w' :=
  product_any [p, q, r, s] (some ⟨b, 0, none⟩) 4 W (cells_four x) (Nat.le_refl 4) (fun k hk => by
    match k, hk with
    | 0, _ => exact hp
    | 1, _ => exact hq
    | 2, _ => exact hr
    | 3, _ => exact hs)
set_option maxHeartbeats 8000000 in
set_option maxRecDepth 100000 in
theorem eGreater_any (x0 x1 y0 y1 : Txt) (w : World) (hG : Glob w) (h1 : x0.length ≤ 400) (h2 : x1.length ≤ 400) (h3 : y0.length ≤ 400) (h4 : y1.length ≤ 400)
    (r1 : fracE x0 = 0) (r2 : fracE x1 = 0) (r3 : fracE y0 = 0) (r4 : fracE y1 = 0) :
    Calls Tryz.prog 147 #[.agg #[txt x0, txt x1], .agg #[txt y0, txt y1]] w fun e w' => e = .returned (.bool (greaterE (x0, x1) (y0, y1))) ∧ Ext w w' := by
  have H0 := Lib.hid (fun W (h : Ext w W) => eParts_any x0 W (hG.ext h) h1)
  have H1 := Lib.hid (fun W (h : Ext w W) => eParts_any x1 W (hG.ext h) h2)
  have H2 := Lib.hid (fun W (h : Ext w W) => eParts_any y0 W (hG.ext h) h3)
  have H3 := Lib.hid (fun W (h : Ext w W) => eParts_any y1 W (hG.ext h) h4)
  obtain ⟨t0, l0, _⟩ := right_parts r1
  obtain ⟨t1, l1, _⟩ := right_parts r2
  obtain ⟨t2, l2, _⟩ := right_parts r3
  obtain ⟨t3, l3, _⟩ := right_parts r4
  have HP := Lib.hid (fun b W => prod_four _ _ _ _ t0 t1 l2 l3 b W)
  have HQ := Lib.hid (fun b W => prod_four _ _ _ _ t2 t3 l0 l1 b W)
  clear hG h1 h2 h3 h4 t0 t1 t2 t3 l0 l1 l2 l3 r1 r2 r3 r4
  obtain ⟨C, hC⟩ : ∃ C, C = greaterE (x0, x1) (y0, y1) := ⟨_, rfl⟩
  rw [← hC]
  unfold greaterE at hC
  dsimp only at hC
  generalize topS (bareS x0) = n0 at *
  generalize topS (bareS x1) = n1 at *
  generalize topS (bareS y0) = n2 at *
  generalize topS (bareS y1) = n3 at *
  generalize lowS (bareS x0) = d0 at *
  generalize lowS (bareS x1) = d1 at *
  generalize lowS (bareS y0) = d2 at *
  generalize lowS (bareS y1) = d3 at *
  generalize prodV [n0, n1, d2, d3] = A at *
  generalize prodV [n2, n3, d0, d1] = B at *
  have HC := Lib.hid hC
  clear hC
  have T : FourAt (w.heap.size + 1 + 1) (((((w.alloc (.cells #[txt x0, txt x1] 74)).alloc (.cells #[txt y0, txt y1] 74)).alloc (.cells #[.string ⟨#[]⟩, .string ⟨#[]⟩, .string ⟨#[]⟩, .string ⟨#[]⟩] 239)).alloc (.cells #[.string ⟨#[]⟩, .string ⟨#[]⟩, .string ⟨#[]⟩, .string ⟨#[]⟩] 239)).alloc (.cells #[txt x0, txt x1, txt y0, txt y1] 34)) [] [] [] [] := ⟨by go_simp, by go_simp, by go_simp, by go_simp, by go_simp, by go_simp, by go_simp, by go_simp⟩
  have L : FourAt (w.heap.size + 1 + 1 + 1) (((((w.alloc (.cells #[txt x0, txt x1] 74)).alloc (.cells #[txt y0, txt y1] 74)).alloc (.cells #[.string ⟨#[]⟩, .string ⟨#[]⟩, .string ⟨#[]⟩, .string ⟨#[]⟩] 239)).alloc (.cells #[.string ⟨#[]⟩, .string ⟨#[]⟩, .string ⟨#[]⟩, .string ⟨#[]⟩] 239)).alloc (.cells #[txt x0, txt x1, txt y0, txt y1] 34)) [] [] [] [] := ⟨by go_simp, by go_simp, by go_simp, by go_simp, by go_simp, by go_simp, by go_simp, by go_simp⟩
  have X : FourAt (w.heap.size + 1 + 1 + 1 + 1) (((((w.alloc (.cells #[txt x0, txt x1] 74)).alloc (.cells #[txt y0, txt y1] 74)).alloc (.cells #[.string ⟨#[]⟩, .string ⟨#[]⟩, .string ⟨#[]⟩, .string ⟨#[]⟩] 239)).alloc (.cells #[.string ⟨#[]⟩, .string ⟨#[]⟩, .string ⟨#[]⟩, .string ⟨#[]⟩] 239)).alloc (.cells #[txt x0, txt x1, txt y0, txt y1] 34)) x0 x1 y0 y1 := ⟨by go_simp, by go_simp, by go_simp, by go_simp, by go_simp, by go_simp, by go_simp, by go_simp⟩
  have E : Ext w (((((w.alloc (.cells #[txt x0, txt x1] 74)).alloc (.cells #[txt y0, txt y1] 74)).alloc (.cells #[.string ⟨#[]⟩, .string ⟨#[]⟩, .string ⟨#[]⟩, .string ⟨#[]⟩] 239)).alloc (.cells #[.string ⟨#[]⟩, .string ⟨#[]⟩, .string ⟨#[]⟩, .string ⟨#[]⟩] 239)).alloc (.cells #[txt x0, txt x1, txt y0, txt y1] 34)) := extA
  go_enter Tryz.func147, Tryz.ntmps147
  go_wp2
  generalize (((((w.alloc (.cells #[txt x0, txt x1] 74)).alloc (.cells #[txt y0, txt y1] 74)).alloc (.cells #[.string ⟨#[]⟩, .string ⟨#[]⟩, .string ⟨#[]⟩, .string ⟨#[]⟩] 239)).alloc (.cells #[.string ⟨#[]⟩, .string ⟨#[]⟩, .string ⟨#[]⟩, .string ⟨#[]⟩] 239)).alloc (.cells #[txt x0, txt x1, txt y0, txt y1] 34)) = w0 at T L X E ⊢
  refine wp_loop_rounds 5 ?_
  have X0 := X
  obtain ⟨c0, c1, c2, c3, _, _, _, _⟩ := X0
  rw [rounds_succ]
  go_wp2_with fail
  refine (H0.out _ E).mono ?_
  clear c0 c1 c2 c3
  rintro e w1 ⟨rfl, hE⟩
  replace T := T.ext hE
  replace L := L.ext hE
  replace X := X.ext hE
  replace E := E.trans hE
  clear hE
  have T0 := T
  have L0 := L
  obtain ⟨a0, a1, a2, a3, f0, f1, f2, f3⟩ := T0
  obtain ⟨b0, b1, b2, b3, g0, g1, g2, g3⟩ := L0
  go_wp2_with fail
  clear a0 a1 a2 a3 f0 f1 f2 f3 b0 b1 b2 b3 g0 g1 g2 g3
  replace T := (T.set0 n0).other (c := w.heap.size + 1 + 1 + 1) (o := 0) (v := txt d0) (by omega)
  replace L := (L.other (c := w.heap.size + 1 + 1) (o := 0) (v := txt n0) (by omega)).set0 d0
  replace X := (X.other (c := w.heap.size + 1 + 1) (o := 0) (v := txt n0) (by omega)).other (c := w.heap.size + 1 + 1 + 1) (o := 0) (v := txt d0) (by omega)
  replace E := (E.set (b := w.heap.size + 1 + 1) (o := 0) (by omega) (txt n0)).set (b := w.heap.size + 1 + 1 + 1) (o := 0) (by omega) (txt d0)
  generalize ((w1.setCell ⟨w.heap.size + 1 + 1, 0, none⟩ (txt n0)).setCell ⟨w.heap.size + 1 + 1 + 1, 0, none⟩ (txt d0)) = w1 at T L X E ⊢
  have X0 := X
  obtain ⟨c0, c1, c2, c3, _, _, _, _⟩ := X0
  rw [rounds_succ]
  go_wp2_with fail
  refine (H1.out _ E).mono ?_
  clear c0 c1 c2 c3
  rintro e w2 ⟨rfl, hE⟩
  replace T := T.ext hE
  replace L := L.ext hE
  replace X := X.ext hE
  replace E := E.trans hE
  clear hE
  have T0 := T
  have L0 := L
  obtain ⟨a0, a1, a2, a3, f0, f1, f2, f3⟩ := T0
  obtain ⟨b0, b1, b2, b3, g0, g1, g2, g3⟩ := L0
  go_wp2_with fail
  clear a0 a1 a2 a3 f0 f1 f2 f3 b0 b1 b2 b3 g0 g1 g2 g3
  replace T := (T.set1 n1).other (c := w.heap.size + 1 + 1 + 1) (o := 1) (v := txt d1) (by omega)
  replace L := (L.other (c := w.heap.size + 1 + 1) (o := 1) (v := txt n1) (by omega)).set1 d1
  replace X := (X.other (c := w.heap.size + 1 + 1) (o := 1) (v := txt n1) (by omega)).other (c := w.heap.size + 1 + 1 + 1) (o := 1) (v := txt d1) (by omega)
  replace E := (E.set (b := w.heap.size + 1 + 1) (o := 1) (by omega) (txt n1)).set (b := w.heap.size + 1 + 1 + 1) (o := 1) (by omega) (txt d1)
  generalize ((w2.setCell ⟨w.heap.size + 1 + 1, 1, none⟩ (txt n1)).setCell ⟨w.heap.size + 1 + 1 + 1, 1, none⟩ (txt d1)) = w2 at T L X E ⊢
  have X0 := X
  obtain ⟨c0, c1, c2, c3, _, _, _, _⟩ := X0
  rw [rounds_succ]
  go_wp2_with fail
  refine (H2.out _ E).mono ?_
  clear c0 c1 c2 c3
  rintro e w3 ⟨rfl, hE⟩
  replace T := T.ext hE
  replace L := L.ext hE
  replace X := X.ext hE
  replace E := E.trans hE
  clear hE
  have T0 := T
  have L0 := L
  obtain ⟨a0, a1, a2, a3, f0, f1, f2, f3⟩ := T0
  obtain ⟨b0, b1, b2, b3, g0, g1, g2, g3⟩ := L0
  go_wp2_with fail
  clear a0 a1 a2 a3 f0 f1 f2 f3 b0 b1 b2 b3 g0 g1 g2 g3
  replace T := (T.set2 n2).other (c := w.heap.size + 1 + 1 + 1) (o := 2) (v := txt d2) (by omega)
  replace L := (L.other (c := w.heap.size + 1 + 1) (o := 2) (v := txt n2) (by omega)).set2 d2
  replace X := (X.other (c := w.heap.size + 1 + 1) (o := 2) (v := txt n2) (by omega)).other (c := w.heap.size + 1 + 1 + 1) (o := 2) (v := txt d2) (by omega)
  replace E := (E.set (b := w.heap.size + 1 + 1) (o := 2) (by omega) (txt n2)).set (b := w.heap.size + 1 + 1 + 1) (o := 2) (by omega) (txt d2)
  generalize ((w3.setCell ⟨w.heap.size + 1 + 1, 2, none⟩ (txt n2)).setCell ⟨w.heap.size + 1 + 1 + 1, 2, none⟩ (txt d2)) = w3 at T L X E ⊢
  have X0 := X
  obtain ⟨c0, c1, c2, c3, _, _, _, _⟩ := X0
  rw [rounds_succ]
  go_wp2_with fail
  refine (H3.out _ E).mono ?_
  clear c0 c1 c2 c3
  rintro e w4 ⟨rfl, hE⟩
  replace T := T.ext hE
  replace L := L.ext hE
  replace X := X.ext hE
  replace E := E.trans hE
  clear hE
  have T0 := T
  have L0 := L
  obtain ⟨a0, a1, a2, a3, f0, f1, f2, f3⟩ := T0
  obtain ⟨b0, b1, b2, b3, g0, g1, g2, g3⟩ := L0
  go_wp2_with fail
  clear a0 a1 a2 a3 f0 f1 f2 f3 b0 b1 b2 b3 g0 g1 g2 g3
  replace T := (T.set3 n3).other (c := w.heap.size + 1 + 1 + 1) (o := 3) (v := txt d3) (by omega)
  replace L := (L.other (c := w.heap.size + 1 + 1) (o := 3) (v := txt n3) (by omega)).set3 d3
  replace X := (X.other (c := w.heap.size + 1 + 1) (o := 3) (v := txt n3) (by omega)).other (c := w.heap.size + 1 + 1 + 1) (o := 3) (v := txt d3) (by omega)
  replace E := (E.set (b := w.heap.size + 1 + 1) (o := 3) (by omega) (txt n3)).set (b := w.heap.size + 1 + 1 + 1) (o := 3) (by omega) (txt d3)
  generalize ((w4.setCell ⟨w.heap.size + 1 + 1, 3, none⟩ (txt n3)).setCell ⟨w.heap.size + 1 + 1 + 1, 3, none⟩ (txt d3)) = w4 at T L X E ⊢
  rw [rounds_succ]
  go_wp2_with fail
  have hD : Ext w4 w4.drew := extA
  have ED := E.trans hD
  obtain ⟨a0, a1, a2, a3, _, _, _, _⟩ := T
  obtain ⟨b0, b1, b2, b3, _, _, _, _⟩ := L
  have hS : w4.drew.cell? ⟨w.heap.size + 1 + 1, 0, none⟩ = some (txt n0) ∧ w4.drew.cell? ⟨w.heap.size + 1 + 1, 1, none⟩ = some (txt n1) ∧ w4.drew.cell? ⟨w.heap.size + 1 + 1, 2, none⟩ = some (txt n2) ∧ w4.drew.cell? ⟨w.heap.size + 1 + 1, 3, none⟩ = some (txt n3) ∧ w4.drew.cell? ⟨w.heap.size + 1 + 1 + 1, 0, none⟩ = some (txt d0) ∧ w4.drew.cell? ⟨w.heap.size + 1 + 1 + 1, 1, none⟩ = some (txt d1) ∧ w4.drew.cell? ⟨w.heap.size + 1 + 1 + 1, 2, none⟩ = some (txt d2) ∧ w4.drew.cell? ⟨w.heap.size + 1 + 1 + 1, 3, none⟩ = some (txt d3) := ⟨hD.cell a0, hD.cell a1, hD.cell a2, hD.cell a3, hD.cell b0, hD.cell b1, hD.cell b2, hD.cell b3⟩
  refine wp_region_heldE 99 (fun w' => w'.cell? ⟨w.heap.size + 1 + 1, 0, none⟩ = some (txt n0) ∧ w'.cell? ⟨w.heap.size + 1 + 1, 1, none⟩ = some (txt n1) ∧ w'.cell? ⟨w.heap.size + 1 + 1, 2, none⟩ = some (txt n2) ∧ w'.cell? ⟨w.heap.size + 1 + 1, 3, none⟩ = some (txt n3) ∧ w'.cell? ⟨w.heap.size + 1 + 1 + 1, 0, none⟩ = some (txt d0) ∧ w'.cell? ⟨w.heap.size + 1 + 1 + 1, 1, none⟩ = some (txt d1) ∧ w'.cell? ⟨w.heap.size + 1 + 1 + 1, 2, none⟩ = some (txt d2) ∧ w'.cell? ⟨w.heap.size + 1 + 1 + 1, 3, none⟩ = some (txt d3)) (by kernel_rfl) ?_
  clear a0 a1 a2 a3 b0 b1 b2 b3 E X hD
  generalize w4.drew = w5 at ED hS ⊢
  ((refine eTk 0 ?_); (refine eTk 1 ?_); (refine eTk 2 ?_); (refine eTk 3 ?_); (refine eTk 4 ?_); (refine eTk 5 ?_); (refine eTk 6 ?_); (refine eTk 7 ?_); (refine eTk 10 ?_); (refine eTk 11 ?_); (refine eTk 12 ?_); (refine eTk 13 ?_); (refine eTk 14 ?_); (refine eTk 15 ?_); (refine eTk 16 ?_); (refine eTk 17 ?_))
  refine wpAnyE_two (i := 8) (j := 18) (o := ?_) (p := ?_) (by (simp only [List.getElem?_toArray, List.getElem?_cons_succ, List.getElem?_cons_zero]; exact rfl)) (by (simp only [List.getElem?_toArray, List.getElem?_cons_succ, List.getElem?_cons_zero]; exact rfl)) (by kernel_rfl) (fun K hK => ?_) (fun K hK => ?_)
  · have FA : FourAt w5.heap.size (w5.alloc (.cells #[txt n0, txt n1, txt d2, txt d3] 9)) n0 n1 d2 d3 := ⟨by go_simp, by go_simp, by go_simp, by go_simp, by go_simp, by go_simp, by go_simp, by go_simp⟩
    have EB : Ext w5 (w5.alloc (.cells #[txt n0, txt n1, txt d2, txt d3] 9)) := extA
    go_simp
    refine hK.out _ _ ⟨EB.cell hS.1, EB.cell hS.2.1, EB.cell hS.2.2.1, EB.cell hS.2.2.2.1, EB.cell hS.2.2.2.2.1, EB.cell hS.2.2.2.2.2.1, EB.cell hS.2.2.2.2.2.2.1, EB.cell hS.2.2.2.2.2.2.2⟩ (fun _ => ?_)
    clear hK K
    (try simp only [Act.put, List.setIfInBounds_toArray, List.set_cons_zero, List.set_cons_succ])
    replace ED := ED.trans EB
    replace hS : (w5.alloc (.cells #[txt n0, txt n1, txt d2, txt d3] 9)).cell? ⟨w.heap.size + 1 + 1, 0, none⟩ = some (txt n0) ∧ (w5.alloc (.cells #[txt n0, txt n1, txt d2, txt d3] 9)).cell? ⟨w.heap.size + 1 + 1, 1, none⟩ = some (txt n1) ∧ (w5.alloc (.cells #[txt n0, txt n1, txt d2, txt d3] 9)).cell? ⟨w.heap.size + 1 + 1, 2, none⟩ = some (txt n2) ∧ (w5.alloc (.cells #[txt n0, txt n1, txt d2, txt d3] 9)).cell? ⟨w.heap.size + 1 + 1, 3, none⟩ = some (txt n3) ∧ (w5.alloc (.cells #[txt n0, txt n1, txt d2, txt d3] 9)).cell? ⟨w.heap.size + 1 + 1 + 1, 0, none⟩ = some (txt d0) ∧ (w5.alloc (.cells #[txt n0, txt n1, txt d2, txt d3] 9)).cell? ⟨w.heap.size + 1 + 1 + 1, 1, none⟩ = some (txt d1) ∧ (w5.alloc (.cells #[txt n0, txt n1, txt d2, txt d3] 9)).cell? ⟨w.heap.size + 1 + 1 + 1, 2, none⟩ = some (txt d2) ∧ (w5.alloc (.cells #[txt n0, txt n1, txt d2, txt d3] 9)).cell? ⟨w.heap.size + 1 + 1 + 1, 3, none⟩ = some (txt d3) := ⟨EB.cell hS.1, EB.cell hS.2.1, EB.cell hS.2.2.1, EB.cell hS.2.2.2.1, EB.cell hS.2.2.2.2.1, EB.cell hS.2.2.2.2.2.1, EB.cell hS.2.2.2.2.2.2.1, EB.cell hS.2.2.2.2.2.2.2⟩
    obtain ⟨ab, hab⟩ : ∃ b, b = w5.heap.size := ⟨_, rfl⟩
    rw [← hab] at FA ⊢
    generalize (w5.alloc (.cells #[txt n0, txt n1, txt d2, txt d3] 9)) = w6 at ED hS FA  ⊢
    clear hab EB
    refine wpAnyE_two (i := 9) (j := 18) (o := ?_) (p := ?_) (by (simp only [List.getElem?_toArray, List.getElem?_cons_succ, List.getElem?_cons_zero]; exact rfl)) (by (simp only [List.getElem?_toArray, List.getElem?_cons_succ, List.getElem?_cons_zero]; exact rfl)) (by kernel_rfl) (fun K hK => ?_) (fun K hK => ?_)
    · go_simp
      go_at_call 177
      refine (HP.out ab w6 FA).mono ?_
      rintro e w7 ⟨rfl, hE⟩
      go_wp2_with fail
      refine hK.out _ _ ⟨hE.cell hS.1, hE.cell hS.2.1, hE.cell hS.2.2.1, hE.cell hS.2.2.2.1, hE.cell hS.2.2.2.2.1, hE.cell hS.2.2.2.2.2.1, hE.cell hS.2.2.2.2.2.2.1, hE.cell hS.2.2.2.2.2.2.2⟩ (fun _ => ?_)
      clear hK K
      (try simp only [Act.put, List.setIfInBounds_toArray, List.set_cons_zero, List.set_cons_succ])
      replace ED := ED.trans hE
      replace hS : w7.cell? ⟨w.heap.size + 1 + 1, 0, none⟩ = some (txt n0) ∧ w7.cell? ⟨w.heap.size + 1 + 1, 1, none⟩ = some (txt n1) ∧ w7.cell? ⟨w.heap.size + 1 + 1, 2, none⟩ = some (txt n2) ∧ w7.cell? ⟨w.heap.size + 1 + 1, 3, none⟩ = some (txt n3) ∧ w7.cell? ⟨w.heap.size + 1 + 1 + 1, 0, none⟩ = some (txt d0) ∧ w7.cell? ⟨w.heap.size + 1 + 1 + 1, 1, none⟩ = some (txt d1) ∧ w7.cell? ⟨w.heap.size + 1 + 1 + 1, 2, none⟩ = some (txt d2) ∧ w7.cell? ⟨w.heap.size + 1 + 1 + 1, 3, none⟩ = some (txt d3) := ⟨hE.cell hS.1, hE.cell hS.2.1, hE.cell hS.2.2.1, hE.cell hS.2.2.2.1, hE.cell hS.2.2.2.2.1, hE.cell hS.2.2.2.2.2.1, hE.cell hS.2.2.2.2.2.2.1, hE.cell hS.2.2.2.2.2.2.2⟩
      clear hE FA
      have FB : FourAt w7.heap.size (w7.alloc (.cells #[txt n2, txt n3, txt d0, txt d1] 9)) n2 n3 d0 d1 := ⟨by go_simp, by go_simp, by go_simp, by go_simp, by go_simp, by go_simp, by go_simp, by go_simp⟩
      have EB : Ext w7 (w7.alloc (.cells #[txt n2, txt n3, txt d0, txt d1] 9)) := extA
      (refine wpAnyE_one (i := 18) (o := ?_) ?_ (by kernel_rfl) (fun K hK => ?_); rotate_left; (focus ((simp only [List.getElem?_toArray, List.getElem?_cons_succ, List.getElem?_cons_zero]; exact rfl))); go_simp; refine hK.out _ _ ?_ (fun hHeld => ?_); rotate_left; clear hK K; (try simp only [Act.put, List.setIfInBounds_toArray, List.set_cons_zero, List.set_cons_succ]))
      rotate_left
      · exact ⟨EB.cell hS.1, EB.cell hS.2.1, EB.cell hS.2.2.1, EB.cell hS.2.2.2.1, EB.cell hS.2.2.2.2.1, EB.cell hS.2.2.2.2.2.1, EB.cell hS.2.2.2.2.2.2.1, EB.cell hS.2.2.2.2.2.2.2⟩
      clear hHeld
      replace ED := ED.trans EB
      replace hS : (w7.alloc (.cells #[txt n2, txt n3, txt d0, txt d1] 9)).cell? ⟨w.heap.size + 1 + 1, 0, none⟩ = some (txt n0) ∧ (w7.alloc (.cells #[txt n2, txt n3, txt d0, txt d1] 9)).cell? ⟨w.heap.size + 1 + 1, 1, none⟩ = some (txt n1) ∧ (w7.alloc (.cells #[txt n2, txt n3, txt d0, txt d1] 9)).cell? ⟨w.heap.size + 1 + 1, 2, none⟩ = some (txt n2) ∧ (w7.alloc (.cells #[txt n2, txt n3, txt d0, txt d1] 9)).cell? ⟨w.heap.size + 1 + 1, 3, none⟩ = some (txt n3) ∧ (w7.alloc (.cells #[txt n2, txt n3, txt d0, txt d1] 9)).cell? ⟨w.heap.size + 1 + 1 + 1, 0, none⟩ = some (txt d0) ∧ (w7.alloc (.cells #[txt n2, txt n3, txt d0, txt d1] 9)).cell? ⟨w.heap.size + 1 + 1 + 1, 1, none⟩ = some (txt d1) ∧ (w7.alloc (.cells #[txt n2, txt n3, txt d0, txt d1] 9)).cell? ⟨w.heap.size + 1 + 1 + 1, 2, none⟩ = some (txt d2) ∧ (w7.alloc (.cells #[txt n2, txt n3, txt d0, txt d1] 9)).cell? ⟨w.heap.size + 1 + 1 + 1, 3, none⟩ = some (txt d3) := ⟨EB.cell hS.1, EB.cell hS.2.1, EB.cell hS.2.2.1, EB.cell hS.2.2.2.1, EB.cell hS.2.2.2.2.1, EB.cell hS.2.2.2.2.2.1, EB.cell hS.2.2.2.2.2.2.1, EB.cell hS.2.2.2.2.2.2.2⟩
      obtain ⟨bb, hbb⟩ : ∃ b, b = w7.heap.size := ⟨_, rfl⟩
      rw [← hbb] at FB ⊢
      generalize (w7.alloc (.cells #[txt n2, txt n3, txt d0, txt d1] 9)) = w8 at ED hS FB  ⊢
      clear hbb EB
      (refine wpAnyE_one (i := 19) (o := ?_) ?_ (by kernel_rfl) (fun K hK => ?_); rotate_left; (focus ((simp only [List.getElem?_toArray, List.getElem?_cons_succ, List.getElem?_cons_zero]; exact rfl))); go_simp; go_at_call 177; refine (HQ.out bb w8 FB).mono ?_; rintro e w9 ⟨rfl, hE⟩; go_wp2_with fail; refine hK.out _ _ ?_ (fun hHeld => ?_); rotate_left; clear hK K; (try simp only [Act.put, List.setIfInBounds_toArray, List.set_cons_zero, List.set_cons_succ]))
      rotate_left
      · exact ⟨hE.cell hS.1, hE.cell hS.2.1, hE.cell hS.2.2.1, hE.cell hS.2.2.2.1, hE.cell hS.2.2.2.2.1, hE.cell hS.2.2.2.2.2.1, hE.cell hS.2.2.2.2.2.2.1, hE.cell hS.2.2.2.2.2.2.2⟩
      clear hHeld
      replace ED := ED.trans hE
      replace hS : w9.cell? ⟨w.heap.size + 1 + 1, 0, none⟩ = some (txt n0) ∧ w9.cell? ⟨w.heap.size + 1 + 1, 1, none⟩ = some (txt n1) ∧ w9.cell? ⟨w.heap.size + 1 + 1, 2, none⟩ = some (txt n2) ∧ w9.cell? ⟨w.heap.size + 1 + 1, 3, none⟩ = some (txt n3) ∧ w9.cell? ⟨w.heap.size + 1 + 1 + 1, 0, none⟩ = some (txt d0) ∧ w9.cell? ⟨w.heap.size + 1 + 1 + 1, 1, none⟩ = some (txt d1) ∧ w9.cell? ⟨w.heap.size + 1 + 1 + 1, 2, none⟩ = some (txt d2) ∧ w9.cell? ⟨w.heap.size + 1 + 1 + 1, 3, none⟩ = some (txt d3) := ⟨hE.cell hS.1, hE.cell hS.2.1, hE.cell hS.2.2.1, hE.cell hS.2.2.2.1, hE.cell hS.2.2.2.2.1, hE.cell hS.2.2.2.2.2.1, hE.cell hS.2.2.2.2.2.2.1, hE.cell hS.2.2.2.2.2.2.2⟩
      clear hE FB
      ((refine ePu 20 ?_); (refine ePu 21 ?_))
      refine wpAnyE_done (by kernel_rfl) ?_ _
      clear hS
      by_cases hle : (decDigits A).length = (decDigits B).length
      · have g1 : ((((decDigits A).length : Nat) : Int) != (((decDigits B).length : Nat) : Int)) = false := by rw [hle]; simp
        have HF := Lib.hid ((HC.out.trans (dec_order hle).symm).trans (Bool.not_or _ _))
        clear hle
        go_wp2
        go_ret
        exact ⟨by rw [HF.out]; rfl, extA⟩
      · have g1 : ((((decDigits A).length : Nat) : Int) != (((decDigits B).length : Nat) : Int)) = true := by rw [bne_iff_ne]; omega
        have HF := Lib.hid (HC.out.trans (dec_order_len hle).symm)
        clear hle
        go_wp2
        go_ret
        exact ⟨by rw [HF.out]; simp, extA⟩
    · have FB : FourAt w6.heap.size (w6.alloc (.cells #[txt n2, txt n3, txt d0, txt d1] 9)) n2 n3 d0 d1 := ⟨by go_simp, by go_simp, by go_simp, by go_simp, by go_simp, by go_simp, by go_simp, by go_simp⟩
      have EB : Ext w6 (w6.alloc (.cells #[txt n2, txt n3, txt d0, txt d1] 9)) := extA
      go_simp
      refine hK.out _ _ ⟨EB.cell hS.1, EB.cell hS.2.1, EB.cell hS.2.2.1, EB.cell hS.2.2.2.1, EB.cell hS.2.2.2.2.1, EB.cell hS.2.2.2.2.2.1, EB.cell hS.2.2.2.2.2.2.1, EB.cell hS.2.2.2.2.2.2.2⟩ (fun _ => ?_)
      clear hK K
      (try simp only [Act.put, List.setIfInBounds_toArray, List.set_cons_zero, List.set_cons_succ])
      replace ED := ED.trans EB
      replace hS : (w6.alloc (.cells #[txt n2, txt n3, txt d0, txt d1] 9)).cell? ⟨w.heap.size + 1 + 1, 0, none⟩ = some (txt n0) ∧ (w6.alloc (.cells #[txt n2, txt n3, txt d0, txt d1] 9)).cell? ⟨w.heap.size + 1 + 1, 1, none⟩ = some (txt n1) ∧ (w6.alloc (.cells #[txt n2, txt n3, txt d0, txt d1] 9)).cell? ⟨w.heap.size + 1 + 1, 2, none⟩ = some (txt n2) ∧ (w6.alloc (.cells #[txt n2, txt n3, txt d0, txt d1] 9)).cell? ⟨w.heap.size + 1 + 1, 3, none⟩ = some (txt n3) ∧ (w6.alloc (.cells #[txt n2, txt n3, txt d0, txt d1] 9)).cell? ⟨w.heap.size + 1 + 1 + 1, 0, none⟩ = some (txt d0) ∧ (w6.alloc (.cells #[txt n2, txt n3, txt d0, txt d1] 9)).cell? ⟨w.heap.size + 1 + 1 + 1, 1, none⟩ = some (txt d1) ∧ (w6.alloc (.cells #[txt n2, txt n3, txt d0, txt d1] 9)).cell? ⟨w.heap.size + 1 + 1 + 1, 2, none⟩ = some (txt d2) ∧ (w6.alloc (.cells #[txt n2, txt n3, txt d0, txt d1] 9)).cell? ⟨w.heap.size + 1 + 1 + 1, 3, none⟩ = some (txt d3) := ⟨EB.cell hS.1, EB.cell hS.2.1, EB.cell hS.2.2.1, EB.cell hS.2.2.2.1, EB.cell hS.2.2.2.2.1, EB.cell hS.2.2.2.2.2.1, EB.cell hS.2.2.2.2.2.2.1, EB.cell hS.2.2.2.2.2.2.2⟩
      replace FA := FA.ext EB
      obtain ⟨bb, hbb⟩ : ∃ b, b = w6.heap.size := ⟨_, rfl⟩
      rw [← hbb] at FB ⊢
      generalize (w6.alloc (.cells #[txt n2, txt n3, txt d0, txt d1] 9)) = w7 at ED hS FB FA ⊢
      clear hbb EB
      (refine wpAnyE_one (i := 9) (o := ?_) ?_ (by kernel_rfl) (fun K hK => ?_); rotate_left; (focus ((simp only [List.getElem?_toArray, List.getElem?_cons_succ, List.getElem?_cons_zero]; exact rfl))); go_simp; go_at_call 177; refine (HP.out ab w7 FA).mono ?_; rintro e w8 ⟨rfl, hE⟩; go_wp2_with fail; refine hK.out _ _ ?_ (fun hHeld => ?_); rotate_left; clear hK K; (try simp only [Act.put, List.setIfInBounds_toArray, List.set_cons_zero, List.set_cons_succ]))
      rotate_left
      · exact ⟨hE.cell hS.1, hE.cell hS.2.1, hE.cell hS.2.2.1, hE.cell hS.2.2.2.1, hE.cell hS.2.2.2.2.1, hE.cell hS.2.2.2.2.2.1, hE.cell hS.2.2.2.2.2.2.1, hE.cell hS.2.2.2.2.2.2.2⟩
      clear hHeld
      replace ED := ED.trans hE
      replace hS : w8.cell? ⟨w.heap.size + 1 + 1, 0, none⟩ = some (txt n0) ∧ w8.cell? ⟨w.heap.size + 1 + 1, 1, none⟩ = some (txt n1) ∧ w8.cell? ⟨w.heap.size + 1 + 1, 2, none⟩ = some (txt n2) ∧ w8.cell? ⟨w.heap.size + 1 + 1, 3, none⟩ = some (txt n3) ∧ w8.cell? ⟨w.heap.size + 1 + 1 + 1, 0, none⟩ = some (txt d0) ∧ w8.cell? ⟨w.heap.size + 1 + 1 + 1, 1, none⟩ = some (txt d1) ∧ w8.cell? ⟨w.heap.size + 1 + 1 + 1, 2, none⟩ = some (txt d2) ∧ w8.cell? ⟨w.heap.size + 1 + 1 + 1, 3, none⟩ = some (txt d3) := ⟨hE.cell hS.1, hE.cell hS.2.1, hE.cell hS.2.2.1, hE.cell hS.2.2.2.1, hE.cell hS.2.2.2.2.1, hE.cell hS.2.2.2.2.2.1, hE.cell hS.2.2.2.2.2.2.1, hE.cell hS.2.2.2.2.2.2.2⟩
      replace FB := FB.ext hE
      clear hE FA
      (refine wpAnyE_one (i := 19) (o := ?_) ?_ (by kernel_rfl) (fun K hK => ?_); rotate_left; (focus ((simp only [List.getElem?_toArray, List.getElem?_cons_succ, List.getElem?_cons_zero]; exact rfl))); go_simp; go_at_call 177; refine (HQ.out bb w8 FB).mono ?_; rintro e w9 ⟨rfl, hE⟩; go_wp2_with fail; refine hK.out _ _ ?_ (fun hHeld => ?_); rotate_left; clear hK K; (try simp only [Act.put, List.setIfInBounds_toArray, List.set_cons_zero, List.set_cons_succ]))
      rotate_left
      · exact ⟨hE.cell hS.1, hE.cell hS.2.1, hE.cell hS.2.2.1, hE.cell hS.2.2.2.1, hE.cell hS.2.2.2.2.1, hE.cell hS.2.2.2.2.2.1, hE.cell hS.2.2.2.2.2.2.1, hE.cell hS.2.2.2.2.2.2.2⟩
      clear hHeld
      replace ED := ED.trans hE
      replace hS : w9.cell? ⟨w.heap.size + 1 + 1, 0, none⟩ = some (txt n0) ∧ w9.cell? ⟨w.heap.size + 1 + 1, 1, none⟩ = some (txt n1) ∧ w9.cell? ⟨w.heap.size + 1 + 1, 2, none⟩ = some (txt n2) ∧ w9.cell? ⟨w.heap.size + 1 + 1, 3, none⟩ = some (txt n3) ∧ w9.cell? ⟨w.heap.size + 1 + 1 + 1, 0, none⟩ = some (txt d0) ∧ w9.cell? ⟨w.heap.size + 1 + 1 + 1, 1, none⟩ = some (txt d1) ∧ w9.cell? ⟨w.heap.size + 1 + 1 + 1, 2, none⟩ = some (txt d2) ∧ w9.cell? ⟨w.heap.size + 1 + 1 + 1, 3, none⟩ = some (txt d3) := ⟨hE.cell hS.1, hE.cell hS.2.1, hE.cell hS.2.2.1, hE.cell hS.2.2.2.1, hE.cell hS.2.2.2.2.1, hE.cell hS.2.2.2.2.2.1, hE.cell hS.2.2.2.2.2.2.1, hE.cell hS.2.2.2.2.2.2.2⟩
      clear hE FB
      ((refine ePu 20 ?_); (refine ePu 21 ?_))
      refine wpAnyE_done (by kernel_rfl) ?_ _
      clear hS
      by_cases hle : (decDigits A).length = (decDigits B).length
      · have g1 : ((((decDigits A).length : Nat) : Int) != (((decDigits B).length : Nat) : Int)) = false := by rw [hle]; simp
        have HF := Lib.hid ((HC.out.trans (dec_order hle).symm).trans (Bool.not_or _ _))
        clear hle
        go_wp2
        go_ret
        exact ⟨by rw [HF.out]; rfl, extA⟩
      · have g1 : ((((decDigits A).length : Nat) : Int) != (((decDigits B).length : Nat) : Int)) = true := by rw [bne_iff_ne]; omega
        have HF := Lib.hid (HC.out.trans (dec_order_len hle).symm)
        clear hle
        go_wp2
        go_ret
        exact ⟨by rw [HF.out]; simp, extA⟩
  · have FB : FourAt w5.heap.size (w5.alloc (.cells #[txt n2, txt n3, txt d0, txt d1] 9)) n2 n3 d0 d1 := ⟨by go_simp, by go_simp, by go_simp, by go_simp, by go_simp, by go_simp, by go_simp, by go_simp⟩
    have EB : Ext w5 (w5.alloc (.cells #[txt n2, txt n3, txt d0, txt d1] 9)) := extA
    go_simp
    refine hK.out _ _ ⟨EB.cell hS.1, EB.cell hS.2.1, EB.cell hS.2.2.1, EB.cell hS.2.2.2.1, EB.cell hS.2.2.2.2.1, EB.cell hS.2.2.2.2.2.1, EB.cell hS.2.2.2.2.2.2.1, EB.cell hS.2.2.2.2.2.2.2⟩ (fun _ => ?_)
    clear hK K
    (try simp only [Act.put, List.setIfInBounds_toArray, List.set_cons_zero, List.set_cons_succ])
    replace ED := ED.trans EB
    replace hS : (w5.alloc (.cells #[txt n2, txt n3, txt d0, txt d1] 9)).cell? ⟨w.heap.size + 1 + 1, 0, none⟩ = some (txt n0) ∧ (w5.alloc (.cells #[txt n2, txt n3, txt d0, txt d1] 9)).cell? ⟨w.heap.size + 1 + 1, 1, none⟩ = some (txt n1) ∧ (w5.alloc (.cells #[txt n2, txt n3, txt d0, txt d1] 9)).cell? ⟨w.heap.size + 1 + 1, 2, none⟩ = some (txt n2) ∧ (w5.alloc (.cells #[txt n2, txt n3, txt d0, txt d1] 9)).cell? ⟨w.heap.size + 1 + 1, 3, none⟩ = some (txt n3) ∧ (w5.alloc (.cells #[txt n2, txt n3, txt d0, txt d1] 9)).cell? ⟨w.heap.size + 1 + 1 + 1, 0, none⟩ = some (txt d0) ∧ (w5.alloc (.cells #[txt n2, txt n3, txt d0, txt d1] 9)).cell? ⟨w.heap.size + 1 + 1 + 1, 1, none⟩ = some (txt d1) ∧ (w5.alloc (.cells #[txt n2, txt n3, txt d0, txt d1] 9)).cell? ⟨w.heap.size + 1 + 1 + 1, 2, none⟩ = some (txt d2) ∧ (w5.alloc (.cells #[txt n2, txt n3, txt d0, txt d1] 9)).cell? ⟨w.heap.size + 1 + 1 + 1, 3, none⟩ = some (txt d3) := ⟨EB.cell hS.1, EB.cell hS.2.1, EB.cell hS.2.2.1, EB.cell hS.2.2.2.1, EB.cell hS.2.2.2.2.1, EB.cell hS.2.2.2.2.2.1, EB.cell hS.2.2.2.2.2.2.1, EB.cell hS.2.2.2.2.2.2.2⟩
    obtain ⟨bb, hbb⟩ : ∃ b, b = w5.heap.size := ⟨_, rfl⟩
    rw [← hbb] at FB ⊢
    generalize (w5.alloc (.cells #[txt n2, txt n3, txt d0, txt d1] 9)) = w6 at ED hS FB  ⊢
    clear hbb EB
    have FA : FourAt w6.heap.size (w6.alloc (.cells #[txt n0, txt n1, txt d2, txt d3] 9)) n0 n1 d2 d3 := ⟨by go_simp, by go_simp, by go_simp, by go_simp, by go_simp, by go_simp, by go_simp, by go_simp⟩
    have EB : Ext w6 (w6.alloc (.cells #[txt n0, txt n1, txt d2, txt d3] 9)) := extA
    (refine wpAnyE_one (i := 8) (o := ?_) ?_ (by kernel_rfl) (fun K hK => ?_); rotate_left; (focus ((simp only [List.getElem?_toArray, List.getElem?_cons_succ, List.getElem?_cons_zero]; exact rfl))); go_simp; refine hK.out _ _ ?_ (fun hHeld => ?_); rotate_left; clear hK K; (try simp only [Act.put, List.setIfInBounds_toArray, List.set_cons_zero, List.set_cons_succ]))
    rotate_left
    · exact ⟨EB.cell hS.1, EB.cell hS.2.1, EB.cell hS.2.2.1, EB.cell hS.2.2.2.1, EB.cell hS.2.2.2.2.1, EB.cell hS.2.2.2.2.2.1, EB.cell hS.2.2.2.2.2.2.1, EB.cell hS.2.2.2.2.2.2.2⟩
    clear hHeld
    replace ED := ED.trans EB
    replace hS : (w6.alloc (.cells #[txt n0, txt n1, txt d2, txt d3] 9)).cell? ⟨w.heap.size + 1 + 1, 0, none⟩ = some (txt n0) ∧ (w6.alloc (.cells #[txt n0, txt n1, txt d2, txt d3] 9)).cell? ⟨w.heap.size + 1 + 1, 1, none⟩ = some (txt n1) ∧ (w6.alloc (.cells #[txt n0, txt n1, txt d2, txt d3] 9)).cell? ⟨w.heap.size + 1 + 1, 2, none⟩ = some (txt n2) ∧ (w6.alloc (.cells #[txt n0, txt n1, txt d2, txt d3] 9)).cell? ⟨w.heap.size + 1 + 1, 3, none⟩ = some (txt n3) ∧ (w6.alloc (.cells #[txt n0, txt n1, txt d2, txt d3] 9)).cell? ⟨w.heap.size + 1 + 1 + 1, 0, none⟩ = some (txt d0) ∧ (w6.alloc (.cells #[txt n0, txt n1, txt d2, txt d3] 9)).cell? ⟨w.heap.size + 1 + 1 + 1, 1, none⟩ = some (txt d1) ∧ (w6.alloc (.cells #[txt n0, txt n1, txt d2, txt d3] 9)).cell? ⟨w.heap.size + 1 + 1 + 1, 2, none⟩ = some (txt d2) ∧ (w6.alloc (.cells #[txt n0, txt n1, txt d2, txt d3] 9)).cell? ⟨w.heap.size + 1 + 1 + 1, 3, none⟩ = some (txt d3) := ⟨EB.cell hS.1, EB.cell hS.2.1, EB.cell hS.2.2.1, EB.cell hS.2.2.2.1, EB.cell hS.2.2.2.2.1, EB.cell hS.2.2.2.2.2.1, EB.cell hS.2.2.2.2.2.2.1, EB.cell hS.2.2.2.2.2.2.2⟩
    replace FB := FB.ext EB
    obtain ⟨ab, hab⟩ : ∃ b, b = w6.heap.size := ⟨_, rfl⟩
    rw [← hab] at FA ⊢
    generalize (w6.alloc (.cells #[txt n0, txt n1, txt d2, txt d3] 9)) = w7 at ED hS FA FB ⊢
    clear hab EB
    (refine wpAnyE_one (i := 9) (o := ?_) ?_ (by kernel_rfl) (fun K hK => ?_); rotate_left; (focus ((simp only [List.getElem?_toArray, List.getElem?_cons_succ, List.getElem?_cons_zero]; exact rfl))); go_simp; go_at_call 177; refine (HP.out ab w7 FA).mono ?_; rintro e w8 ⟨rfl, hE⟩; go_wp2_with fail; refine hK.out _ _ ?_ (fun hHeld => ?_); rotate_left; clear hK K; (try simp only [Act.put, List.setIfInBounds_toArray, List.set_cons_zero, List.set_cons_succ]))
    rotate_left
    · exact ⟨hE.cell hS.1, hE.cell hS.2.1, hE.cell hS.2.2.1, hE.cell hS.2.2.2.1, hE.cell hS.2.2.2.2.1, hE.cell hS.2.2.2.2.2.1, hE.cell hS.2.2.2.2.2.2.1, hE.cell hS.2.2.2.2.2.2.2⟩
    clear hHeld
    replace ED := ED.trans hE
    replace hS : w8.cell? ⟨w.heap.size + 1 + 1, 0, none⟩ = some (txt n0) ∧ w8.cell? ⟨w.heap.size + 1 + 1, 1, none⟩ = some (txt n1) ∧ w8.cell? ⟨w.heap.size + 1 + 1, 2, none⟩ = some (txt n2) ∧ w8.cell? ⟨w.heap.size + 1 + 1, 3, none⟩ = some (txt n3) ∧ w8.cell? ⟨w.heap.size + 1 + 1 + 1, 0, none⟩ = some (txt d0) ∧ w8.cell? ⟨w.heap.size + 1 + 1 + 1, 1, none⟩ = some (txt d1) ∧ w8.cell? ⟨w.heap.size + 1 + 1 + 1, 2, none⟩ = some (txt d2) ∧ w8.cell? ⟨w.heap.size + 1 + 1 + 1, 3, none⟩ = some (txt d3) := ⟨hE.cell hS.1, hE.cell hS.2.1, hE.cell hS.2.2.1, hE.cell hS.2.2.2.1, hE.cell hS.2.2.2.2.1, hE.cell hS.2.2.2.2.2.1, hE.cell hS.2.2.2.2.2.2.1, hE.cell hS.2.2.2.2.2.2.2⟩
    replace FB := FB.ext hE
    clear hE FA
    (refine wpAnyE_one (i := 19) (o := ?_) ?_ (by kernel_rfl) (fun K hK => ?_); rotate_left; (focus ((simp only [List.getElem?_toArray, List.getElem?_cons_succ, List.getElem?_cons_zero]; exact rfl))); go_simp; go_at_call 177; refine (HQ.out bb w8 FB).mono ?_; rintro e w9 ⟨rfl, hE⟩; go_wp2_with fail; refine hK.out _ _ ?_ (fun hHeld => ?_); rotate_left; clear hK K; (try simp only [Act.put, List.setIfInBounds_toArray, List.set_cons_zero, List.set_cons_succ]))
    rotate_left
    · exact ⟨hE.cell hS.1, hE.cell hS.2.1, hE.cell hS.2.2.1, hE.cell hS.2.2.2.1, hE.cell hS.2.2.2.2.1, hE.cell hS.2.2.2.2.2.1, hE.cell hS.2.2.2.2.2.2.1, hE.cell hS.2.2.2.2.2.2.2⟩
    clear hHeld
    replace ED := ED.trans hE
    replace hS : w9.cell? ⟨w.heap.size + 1 + 1, 0, none⟩ = some (txt n0) ∧ w9.cell? ⟨w.heap.size + 1 + 1, 1, none⟩ = some (txt n1) ∧ w9.cell? ⟨w.heap.size + 1 + 1, 2, none⟩ = some (txt n2) ∧ w9.cell? ⟨w.heap.size + 1 + 1, 3, none⟩ = some (txt n3) ∧ w9.cell? ⟨w.heap.size + 1 + 1 + 1, 0, none⟩ = some (txt d0) ∧ w9.cell? ⟨w.heap.size + 1 + 1 + 1, 1, none⟩ = some (txt d1) ∧ w9.cell? ⟨w.heap.size + 1 + 1 + 1, 2, none⟩ = some (txt d2) ∧ w9.cell? ⟨w.heap.size + 1 + 1 + 1, 3, none⟩ = some (txt d3) := ⟨hE.cell hS.1, hE.cell hS.2.1, hE.cell hS.2.2.1, hE.cell hS.2.2.2.1, hE.cell hS.2.2.2.2.1, hE.cell hS.2.2.2.2.2.1, hE.cell hS.2.2.2.2.2.2.1, hE.cell hS.2.2.2.2.2.2.2⟩
    clear hE FB
    ((refine ePu 20 ?_); (refine ePu 21 ?_))
    refine wpAnyE_done (by kernel_rfl) ?_ _
    clear hS
    by_cases hle : (decDigits A).length = (decDigits B).length
    · have g1 : ((((decDigits A).length : Nat) : Int) != (((decDigits B).length : Nat) : Int)) = false := by rw [hle]; simp
      have HF := Lib.hid ((HC.out.trans (dec_order hle).symm).trans (Bool.not_or _ _))
      clear hle
      go_wp2
      go_ret
      exact ⟨by rw [HF.out]; rfl, extA⟩
    · have g1 : ((((decDigits A).length : Nat) : Int) != (((decDigits B).length : Nat) : Int)) = true := by rw [bne_iff_ne]; omega
      have HF := Lib.hid (HC.out.trans (dec_order_len hle).symm)
      clear hle
      go_wp2
      go_ret
      exact ⟨by rw [HF.out]; simp, extA⟩
end Go.Proofs.YtbpjbhbbkonjlaaGreatDoor
namespace Go.Proofs.YtbpjbhbbkonjlaaGreatDoor
open Go.RowKit
theorem eChoose_any (m : Bool) (x y : Txt) (w : World) : Calls Tryz.prog 145 #[.bool m, txt x, txt y] w fun e w' => e = .returned (txt (if m then x else y)) ∧ w' = w := by
  cases m
  · go_enter Tryz.func145, Tryz.ntmps145
    go_wp2
    go_ret
    exact ⟨rfl, rfl⟩
  · go_enter Tryz.func145, Tryz.ntmps145
    go_wp2
    go_ret
    exact ⟨rfl, rfl⟩
def pairsV (p : Enc × Enc) : Value := .agg #[txt p.1.1, txt p.1.2, txt p.2.1, txt p.2.2]
set_option maxHeartbeats 16000000 in
set_option maxRecDepth 100000 in
theorem eExtremes_any (a b : Enc) (w : World) (hG : Glob w) (hl : LenE a) (hm : LenE b) (ha : encE a = 0) (hb : encE b = 0) :
    Calls Tryz.prog 114 #[encV a, encV b] w fun e w' => e = .returned (pairsV (extremesE a b)) ∧ Ext w w' := by
  obtain ⟨a1, a2, _⟩ := enc_right ha
  obtain ⟨b1, b2, _⟩ := enc_right hb
  have G1 := Lib.hid (fun W (e : Ext w W) => eGreater_any a.2 b.1 a.1 b.2 W (hG.ext e) hl.2 hm.1 hl.1 hm.2 a2 b1 a1 b2)
  have G2 := Lib.hid (fun W (e : Ext w W) => eGreater_any a.2 b.2 a.1 b.1 W (hG.ext e) hl.2 hm.2 hl.1 hm.1 a2 b2 a1 b1)
  clear hG hl hm ha hb a1 a2 b1 b2
  obtain ⟨C, hC⟩ : ∃ C, C = extremesE a b := ⟨_, rfl⟩
  rw [← hC]
  unfold extremesE at hC
  obtain ⟨l, h⟩ := a
  obtain ⟨m, k⟩ := b
  dsimp only [encV] at *
  have HB1 := Lib.hid (fun W => eBelow_any m W)
  have HB2 := Lib.hid (fun W => eBelow_any k W)
  have HA1 := Lib.hid (fun W => eBelow_any l W)
  have HA2 := Lib.hid (fun W => eBelow_any h W)
  generalize negS l = nl at *
  generalize negS h = nh at *
  generalize negS m = nm at *
  generalize negS k = nk at *
  obtain ⟨zk, hzk⟩ : ∃ z, z = (k == [48]) := ⟨_, rfl⟩
  obtain ⟨zh, hzh⟩ : ∃ z, z = (h == [48]) := ⟨_, rfl⟩
  rw [← hzk, ← hzh] at hC
  have HC := Lib.hid hC
  clear hC
  have zk1 := hzk.symm
  have zh1 := hzh.symm
  clear hzk hzh
  have c0 : (((w.alloc (.cells #[txt l, txt h] 36)).alloc (.cells #[txt m, txt k] 36)).alloc (.cells #[.string ⟨#[]⟩, .string ⟨#[]⟩, .string ⟨#[]⟩, .string ⟨#[]⟩] 75)).cell? ⟨w.heap.size, 0, none⟩ = some (txt l) := by go_simp
  have c1 : (((w.alloc (.cells #[txt l, txt h] 36)).alloc (.cells #[txt m, txt k] 36)).alloc (.cells #[.string ⟨#[]⟩, .string ⟨#[]⟩, .string ⟨#[]⟩, .string ⟨#[]⟩] 75)).cell? ⟨w.heap.size, 1, none⟩ = some (txt h) := by go_simp
  have c2 : (((w.alloc (.cells #[txt l, txt h] 36)).alloc (.cells #[txt m, txt k] 36)).alloc (.cells #[.string ⟨#[]⟩, .string ⟨#[]⟩, .string ⟨#[]⟩, .string ⟨#[]⟩] 75)).cell? ⟨w.heap.size + 1, 0, none⟩ = some (txt m) := by go_simp
  have c3 : (((w.alloc (.cells #[txt l, txt h] 36)).alloc (.cells #[txt m, txt k] 36)).alloc (.cells #[.string ⟨#[]⟩, .string ⟨#[]⟩, .string ⟨#[]⟩, .string ⟨#[]⟩] 75)).cell? ⟨w.heap.size + 1, 1, none⟩ = some (txt k) := by go_simp
  have X : FourAt (w.heap.size + 1 + 1) (((w.alloc (.cells #[txt l, txt h] 36)).alloc (.cells #[txt m, txt k] 36)).alloc (.cells #[.string ⟨#[]⟩, .string ⟨#[]⟩, .string ⟨#[]⟩, .string ⟨#[]⟩] 75)) [] [] [] [] := ⟨by go_simp, by go_simp, by go_simp, by go_simp, by go_simp, by go_simp, by go_simp, by go_simp⟩
  have E : Ext w (((w.alloc (.cells #[txt l, txt h] 36)).alloc (.cells #[txt m, txt k] 36)).alloc (.cells #[.string ⟨#[]⟩, .string ⟨#[]⟩, .string ⟨#[]⟩, .string ⟨#[]⟩] 75)) := extA
  go_enter Tryz.func114, Tryz.ntmps114
  go_wp2_with fail
  generalize (((w.alloc (.cells #[txt l, txt h] 36)).alloc (.cells #[txt m, txt k] 36)).alloc (.cells #[.string ⟨#[]⟩, .string ⟨#[]⟩, .string ⟨#[]⟩, .string ⟨#[]⟩] 75)) = w0 at c0 c1 c2 c3 X E ⊢
  refine (HB1.out _).mono ?_
  rintro e w' ⟨rfl, hw⟩; obtain rfl := hw.symm; clear hw
  have zX := cell_lt X.c0
  have z0 := cell_lt c0
  have z2 := cell_lt c2
  dsimp only at zX z0 z2
  clear HB1
  cases nm
  · have HR : Hid (C = ((l, if nl then k else m), (h, if nh then m else k))) := HC.out
    clear HC HB2 G1 G2 zk1 zh1
    go_wp2_with fail
    have K1 := Lib.hid (fun W => eChoose_any nl k m W)
    have K2 := Lib.hid (fun W => eChoose_any nh m k W)
    obtain ⟨r2, hr2⟩ : ∃ r, r = (if nl = true then k else m) := ⟨_, rfl⟩
    obtain ⟨r4, hr4⟩ : ∃ r, r = (if nh = true then m else k) := ⟨_, rfl⟩
    rw [← hr2] at HR K1
    rw [← hr4] at HR K2
    clear hr2 hr4
    have hD : Ext w0 w0.drew := extA
    replace X := X.ext hD
    replace E := E.trans hD
    have hS : w0.drew.cell? ⟨w.heap.size, 0, none⟩ = some (txt l) ∧ w0.drew.cell? ⟨w.heap.size, 1, none⟩ = some (txt h) ∧ w0.drew.cell? ⟨w.heap.size + 1, 0, none⟩ = some (txt m) ∧ w0.drew.cell? ⟨w.heap.size + 1, 1, none⟩ = some (txt k) := ⟨hD.cell c0, hD.cell c1, hD.cell c2, hD.cell c3⟩
    refine wp_region_heldE 99 (fun w' => w'.cell? ⟨w.heap.size, 0, none⟩ = some (txt l) ∧ w'.cell? ⟨w.heap.size, 1, none⟩ = some (txt h) ∧ w'.cell? ⟨w.heap.size + 1, 0, none⟩ = some (txt m) ∧ w'.cell? ⟨w.heap.size + 1, 1, none⟩ = some (txt k)) (by kernel_rfl) ?_
    clear c0 c1 c2 c3 hD zX z0 z2
    generalize w0.drew = w1 at X E hS ⊢
    have zX := cell_lt X.c0
    dsimp only at zX
    ((refine eTk 0 ?_); (refine eTk 1 ?_); (refine eTk 2 ?_); (refine eTk 3 ?_); (refine eTk 4 ?_); (refine eTk 6 ?_); (refine eTk 7 ?_); (refine eTk 8 ?_); (refine eTk 9 ?_); (refine eTk 12 ?_); (refine eTk 13 ?_); (refine eTk 14 ?_); (refine eTk 15 ?_); (refine eTk 16 ?_); (refine eTk 18 ?_); (refine eTk 19 ?_); (refine eTk 20 ?_); (refine eTk 21 ?_))
    (refine wpAnyE_one (i := 5) (o := ?_) ?_ (by kernel_rfl) (fun K hK => ?_); rotate_left; (focus ((simp only [List.getElem?_toArray, List.getElem?_cons_succ, List.getElem?_cons_zero]; exact rfl))); go_simp; go_at_call 146; refine (HA1.out _).mono ?_; rintro e w' ⟨rfl, rfl⟩; go_wp2_with fail; refine hK.out _ _ ?_ (fun hHeld => ?_); rotate_left; clear hK K; (try simp only [Act.put, List.setIfInBounds_toArray, List.set_cons_zero, List.set_cons_succ]))
    rotate_left
    · exact hS
    clear hHeld
    (refine wpAnyE_one (i := 10) (o := ?_) ?_ (by kernel_rfl) (fun K hK => ?_); rotate_left; (focus ((simp only [List.getElem?_toArray, List.getElem?_cons_succ, List.getElem?_cons_zero]; exact rfl))); go_simp; go_at_call 145; refine (K1.out _).mono ?_; rintro e w' ⟨rfl, rfl⟩; go_wp2_with fail; refine hK.out _ _ ?_ (fun hHeld => ?_); rotate_left; clear hK K; (try simp only [Act.put, List.setIfInBounds_toArray, List.set_cons_zero, List.set_cons_succ]))
    rotate_left
    · exact hS
    clear hHeld
    ((refine eTk 11 ?_))
    (refine wpAnyE_one (i := 17) (o := ?_) ?_ (by kernel_rfl) (fun K hK => ?_); rotate_left; (focus ((simp only [List.getElem?_toArray, List.getElem?_cons_succ, List.getElem?_cons_zero]; exact rfl))); go_simp; go_at_call 146; refine (HA2.out _).mono ?_; rintro e w' ⟨rfl, rfl⟩; go_wp2_with fail; refine hK.out _ _ ?_ (fun hHeld => ?_); rotate_left; clear hK K; (try simp only [Act.put, List.setIfInBounds_toArray, List.set_cons_zero, List.set_cons_succ]))
    rotate_left
    · exact hS
    clear hHeld
    (refine wpAnyE_one (i := 22) (o := ?_) ?_ (by kernel_rfl) (fun K hK => ?_); rotate_left; (focus ((simp only [List.getElem?_toArray, List.getElem?_cons_succ, List.getElem?_cons_zero]; exact rfl))); go_simp; go_at_call 145; refine (K2.out _).mono ?_; rintro e w' ⟨rfl, rfl⟩; go_wp2_with fail; refine hK.out _ _ ?_ (fun hHeld => ?_); rotate_left; clear hK K; (try simp only [Act.put, List.setIfInBounds_toArray, List.set_cons_zero, List.set_cons_succ]))
    rotate_left
    · exact hS
    clear hHeld
    ((refine eTk 23 ?_); (refine eTk 24 ?_))
    obtain ⟨c0, c1, c2, c3⟩ := hS
    obtain ⟨x0, x1, x2, x3, f0, f1, f2, f3⟩ := X
    (refine wpAnyE_one (i := 25) (o := ?_) ?_ (by kernel_rfl) (fun K hK => ?_); rotate_left; (focus ((simp only [List.getElem?_toArray, List.getElem?_cons_succ, List.getElem?_cons_zero]; exact rfl))); go_simp; refine hK.out _ _ ?_ (fun hHeld => ?_); rotate_left; clear hK K; (try simp only [Act.put, List.setIfInBounds_toArray, List.set_cons_zero, List.set_cons_succ]))
    rotate_left
    · exact ⟨by go_simp, by go_simp, by go_simp, by go_simp⟩
    clear hHeld c0 c1 c2 c3
    refine wpAnyE_done (by kernel_rfl) ?_ _
    go_wp2_with fail
    refine bodyPost_ret (v := .agg #[txt l, txt r2, txt h, txt r4]) (by rw [results_cell1 rfl]; go_simp) rfl ?_
    exact ⟨by rw [HR.out]; rfl, extA⟩
  · go_wp2_with fail
    refine (HB2.out _).mono ?_
    rintro e w' ⟨rfl, hw⟩; obtain rfl := hw.symm; clear hw
    clear HB2
    cases nk
    rotate_left
    · have HR : Hid (C = ((h, if nh then k else m), (l, if nl then m else k))) := HC.out
      clear HC G1 G2 zk1 zh1
      go_wp2_with fail
      have K1 := Lib.hid (fun W => eChoose_any nh k m W)
      have K2 := Lib.hid (fun W => eChoose_any nl m k W)
      obtain ⟨r2, hr2⟩ : ∃ r, r = (if nh = true then k else m) := ⟨_, rfl⟩
      obtain ⟨r4, hr4⟩ : ∃ r, r = (if nl = true then m else k) := ⟨_, rfl⟩
      rw [← hr2] at HR K1
      rw [← hr4] at HR K2
      clear hr2 hr4
      have hD : Ext w0 w0.drew := extA
      replace X := X.ext hD
      replace E := E.trans hD
      have hS : w0.drew.cell? ⟨w.heap.size, 0, none⟩ = some (txt l) ∧ w0.drew.cell? ⟨w.heap.size, 1, none⟩ = some (txt h) ∧ w0.drew.cell? ⟨w.heap.size + 1, 0, none⟩ = some (txt m) ∧ w0.drew.cell? ⟨w.heap.size + 1, 1, none⟩ = some (txt k) := ⟨hD.cell c0, hD.cell c1, hD.cell c2, hD.cell c3⟩
      refine wp_region_heldE 99 (fun w' => w'.cell? ⟨w.heap.size, 0, none⟩ = some (txt l) ∧ w'.cell? ⟨w.heap.size, 1, none⟩ = some (txt h) ∧ w'.cell? ⟨w.heap.size + 1, 0, none⟩ = some (txt m) ∧ w'.cell? ⟨w.heap.size + 1, 1, none⟩ = some (txt k)) (by kernel_rfl) ?_
      clear c0 c1 c2 c3 hD zX z0 z2
      generalize w0.drew = w1 at X E hS ⊢
      have zX := cell_lt X.c0
      dsimp only at zX
      ((refine eTk 0 ?_); (refine eTk 1 ?_); (refine eTk 2 ?_); (refine eTk 3 ?_); (refine eTk 4 ?_); (refine eTk 6 ?_); (refine eTk 7 ?_); (refine eTk 8 ?_); (refine eTk 9 ?_); (refine eTk 12 ?_); (refine eTk 13 ?_); (refine eTk 14 ?_); (refine eTk 15 ?_); (refine eTk 16 ?_); (refine eTk 18 ?_); (refine eTk 19 ?_); (refine eTk 20 ?_); (refine eTk 21 ?_))
      (refine wpAnyE_one (i := 5) (o := ?_) ?_ (by kernel_rfl) (fun K hK => ?_); rotate_left; (focus ((simp only [List.getElem?_toArray, List.getElem?_cons_succ, List.getElem?_cons_zero]; exact rfl))); go_simp; go_at_call 146; refine (HA2.out _).mono ?_; rintro e w' ⟨rfl, rfl⟩; go_wp2_with fail; refine hK.out _ _ ?_ (fun hHeld => ?_); rotate_left; clear hK K; (try simp only [Act.put, List.setIfInBounds_toArray, List.set_cons_zero, List.set_cons_succ]))
      rotate_left
      · exact hS
      clear hHeld
      (refine wpAnyE_one (i := 10) (o := ?_) ?_ (by kernel_rfl) (fun K hK => ?_); rotate_left; (focus ((simp only [List.getElem?_toArray, List.getElem?_cons_succ, List.getElem?_cons_zero]; exact rfl))); go_simp; go_at_call 145; refine (K1.out _).mono ?_; rintro e w' ⟨rfl, rfl⟩; go_wp2_with fail; refine hK.out _ _ ?_ (fun hHeld => ?_); rotate_left; clear hK K; (try simp only [Act.put, List.setIfInBounds_toArray, List.set_cons_zero, List.set_cons_succ]))
      rotate_left
      · exact hS
      clear hHeld
      ((refine eTk 11 ?_))
      (refine wpAnyE_one (i := 17) (o := ?_) ?_ (by kernel_rfl) (fun K hK => ?_); rotate_left; (focus ((simp only [List.getElem?_toArray, List.getElem?_cons_succ, List.getElem?_cons_zero]; exact rfl))); go_simp; go_at_call 146; refine (HA1.out _).mono ?_; rintro e w' ⟨rfl, rfl⟩; go_wp2_with fail; refine hK.out _ _ ?_ (fun hHeld => ?_); rotate_left; clear hK K; (try simp only [Act.put, List.setIfInBounds_toArray, List.set_cons_zero, List.set_cons_succ]))
      rotate_left
      · exact hS
      clear hHeld
      (refine wpAnyE_one (i := 22) (o := ?_) ?_ (by kernel_rfl) (fun K hK => ?_); rotate_left; (focus ((simp only [List.getElem?_toArray, List.getElem?_cons_succ, List.getElem?_cons_zero]; exact rfl))); go_simp; go_at_call 145; refine (K2.out _).mono ?_; rintro e w' ⟨rfl, rfl⟩; go_wp2_with fail; refine hK.out _ _ ?_ (fun hHeld => ?_); rotate_left; clear hK K; (try simp only [Act.put, List.setIfInBounds_toArray, List.set_cons_zero, List.set_cons_succ]))
      rotate_left
      · exact hS
      clear hHeld
      ((refine eTk 23 ?_); (refine eTk 24 ?_))
      obtain ⟨c0, c1, c2, c3⟩ := hS
      obtain ⟨x0, x1, x2, x3, f0, f1, f2, f3⟩ := X
      (refine wpAnyE_one (i := 25) (o := ?_) ?_ (by kernel_rfl) (fun K hK => ?_); rotate_left; (focus ((simp only [List.getElem?_toArray, List.getElem?_cons_succ, List.getElem?_cons_zero]; exact rfl))); go_simp; refine hK.out _ _ ?_ (fun hHeld => ?_); rotate_left; clear hK K; (try simp only [Act.put, List.setIfInBounds_toArray, List.set_cons_zero, List.set_cons_succ]))
      rotate_left
      · exact ⟨by go_simp, by go_simp, by go_simp, by go_simp⟩
      clear hHeld c0 c1 c2 c3
      refine wpAnyE_done (by kernel_rfl) ?_ _
      go_wp2_with fail
      refine bodyPost_ret (v := .agg #[txt h, txt r2, txt l, txt r4]) (by rw [results_cell1 rfl]; go_simp) rfl ?_
      exact ⟨by rw [HR.out]; rfl, extA⟩
    · cases zk
      rotate_left
      · have HR : Hid (C = ((h, if nh then k else m), (l, if nl then m else k))) := HC.out
        clear HC G1 G2 zh1
        go_wp2_with fail
        have K1 := Lib.hid (fun W => eChoose_any nh k m W)
        have K2 := Lib.hid (fun W => eChoose_any nl m k W)
        obtain ⟨r2, hr2⟩ : ∃ r, r = (if nh = true then k else m) := ⟨_, rfl⟩
        obtain ⟨r4, hr4⟩ : ∃ r, r = (if nl = true then m else k) := ⟨_, rfl⟩
        rw [← hr2] at HR K1
        rw [← hr4] at HR K2
        clear hr2 hr4
        have hD : Ext w0 w0.drew := extA
        replace X := X.ext hD
        replace E := E.trans hD
        have hS : w0.drew.cell? ⟨w.heap.size, 0, none⟩ = some (txt l) ∧ w0.drew.cell? ⟨w.heap.size, 1, none⟩ = some (txt h) ∧ w0.drew.cell? ⟨w.heap.size + 1, 0, none⟩ = some (txt m) ∧ w0.drew.cell? ⟨w.heap.size + 1, 1, none⟩ = some (txt k) := ⟨hD.cell c0, hD.cell c1, hD.cell c2, hD.cell c3⟩
        refine wp_region_heldE 99 (fun w' => w'.cell? ⟨w.heap.size, 0, none⟩ = some (txt l) ∧ w'.cell? ⟨w.heap.size, 1, none⟩ = some (txt h) ∧ w'.cell? ⟨w.heap.size + 1, 0, none⟩ = some (txt m) ∧ w'.cell? ⟨w.heap.size + 1, 1, none⟩ = some (txt k)) (by kernel_rfl) ?_
        clear c0 c1 c2 c3 hD zX z0 z2
        generalize w0.drew = w1 at X E hS ⊢
        have zX := cell_lt X.c0
        dsimp only at zX
        ((refine eTk 0 ?_); (refine eTk 1 ?_); (refine eTk 2 ?_); (refine eTk 3 ?_); (refine eTk 4 ?_); (refine eTk 6 ?_); (refine eTk 7 ?_); (refine eTk 8 ?_); (refine eTk 9 ?_); (refine eTk 12 ?_); (refine eTk 13 ?_); (refine eTk 14 ?_); (refine eTk 15 ?_); (refine eTk 16 ?_); (refine eTk 18 ?_); (refine eTk 19 ?_); (refine eTk 20 ?_); (refine eTk 21 ?_))
        (refine wpAnyE_one (i := 5) (o := ?_) ?_ (by kernel_rfl) (fun K hK => ?_); rotate_left; (focus ((simp only [List.getElem?_toArray, List.getElem?_cons_succ, List.getElem?_cons_zero]; exact rfl))); go_simp; go_at_call 146; refine (HA2.out _).mono ?_; rintro e w' ⟨rfl, rfl⟩; go_wp2_with fail; refine hK.out _ _ ?_ (fun hHeld => ?_); rotate_left; clear hK K; (try simp only [Act.put, List.setIfInBounds_toArray, List.set_cons_zero, List.set_cons_succ]))
        rotate_left
        · exact hS
        clear hHeld
        (refine wpAnyE_one (i := 10) (o := ?_) ?_ (by kernel_rfl) (fun K hK => ?_); rotate_left; (focus ((simp only [List.getElem?_toArray, List.getElem?_cons_succ, List.getElem?_cons_zero]; exact rfl))); go_simp; go_at_call 145; refine (K1.out _).mono ?_; rintro e w' ⟨rfl, rfl⟩; go_wp2_with fail; refine hK.out _ _ ?_ (fun hHeld => ?_); rotate_left; clear hK K; (try simp only [Act.put, List.setIfInBounds_toArray, List.set_cons_zero, List.set_cons_succ]))
        rotate_left
        · exact hS
        clear hHeld
        ((refine eTk 11 ?_))
        (refine wpAnyE_one (i := 17) (o := ?_) ?_ (by kernel_rfl) (fun K hK => ?_); rotate_left; (focus ((simp only [List.getElem?_toArray, List.getElem?_cons_succ, List.getElem?_cons_zero]; exact rfl))); go_simp; go_at_call 146; refine (HA1.out _).mono ?_; rintro e w' ⟨rfl, rfl⟩; go_wp2_with fail; refine hK.out _ _ ?_ (fun hHeld => ?_); rotate_left; clear hK K; (try simp only [Act.put, List.setIfInBounds_toArray, List.set_cons_zero, List.set_cons_succ]))
        rotate_left
        · exact hS
        clear hHeld
        (refine wpAnyE_one (i := 22) (o := ?_) ?_ (by kernel_rfl) (fun K hK => ?_); rotate_left; (focus ((simp only [List.getElem?_toArray, List.getElem?_cons_succ, List.getElem?_cons_zero]; exact rfl))); go_simp; go_at_call 145; refine (K2.out _).mono ?_; rintro e w' ⟨rfl, rfl⟩; go_wp2_with fail; refine hK.out _ _ ?_ (fun hHeld => ?_); rotate_left; clear hK K; (try simp only [Act.put, List.setIfInBounds_toArray, List.set_cons_zero, List.set_cons_succ]))
        rotate_left
        · exact hS
        clear hHeld
        ((refine eTk 23 ?_); (refine eTk 24 ?_))
        obtain ⟨c0, c1, c2, c3⟩ := hS
        obtain ⟨x0, x1, x2, x3, f0, f1, f2, f3⟩ := X
        (refine wpAnyE_one (i := 25) (o := ?_) ?_ (by kernel_rfl) (fun K hK => ?_); rotate_left; (focus ((simp only [List.getElem?_toArray, List.getElem?_cons_succ, List.getElem?_cons_zero]; exact rfl))); go_simp; refine hK.out _ _ ?_ (fun hHeld => ?_); rotate_left; clear hK K; (try simp only [Act.put, List.setIfInBounds_toArray, List.set_cons_zero, List.set_cons_succ]))
        rotate_left
        · exact ⟨by go_simp, by go_simp, by go_simp, by go_simp⟩
        clear hHeld c0 c1 c2 c3
        refine wpAnyE_done (by kernel_rfl) ?_ _
        go_wp2_with fail
        refine bodyPost_ret (v := .agg #[txt h, txt r2, txt l, txt r4]) (by rw [results_cell1 rfl]; go_simp) rfl ?_
        exact ⟨by rw [HR.out]; rfl, extA⟩
      · go_wp2_with fail
        refine (HA1.out _).mono ?_
        rintro e w' ⟨rfl, hw⟩; obtain rfl := hw.symm; clear hw
        clear HA1
        obtain ⟨x0, x1, x2, x3, f0, f1, f2, f3⟩ := X
        cases nl
        · have HR : Hid (C = ((h, m), (h, k))) := HC.out
          clear HC G1 G2
          go_wp2_with fail
          refine bodyPost_ret (v := .agg #[txt h, txt m, txt h, txt k]) (by rw [results_cell1 rfl]; go_simp) rfl ?_
          exact ⟨by rw [HR.out]; rfl, extA⟩
        · go_wp2_with fail
          refine (HA2.out _).mono ?_
          rintro e w' ⟨rfl, hw⟩; obtain rfl := hw.symm; clear hw
          clear HA2
          cases nh
          rotate_left
          · have HR : Hid (C = ((l, k), (l, m))) := HC.out
            clear HC G1 G2
            go_wp2_with fail
            refine bodyPost_ret (v := .agg #[txt l, txt k, txt l, txt m]) (by rw [results_cell1 rfl]; go_simp) rfl ?_
            exact ⟨by rw [HR.out]; rfl, extA⟩
          · cases zh
            rotate_left
            · have HR : Hid (C = ((l, k), (l, m))) := HC.out
              clear HC G1 G2
              go_wp2_with fail
              refine bodyPost_ret (v := .agg #[txt l, txt k, txt l, txt m]) (by rw [results_cell1 rfl]; go_simp) rfl ?_
              exact ⟨by rw [HR.out]; rfl, extA⟩
            · go_wp2_with fail
              have HR : Hid (C = (if greaterE (h, m) (l, k) = true then (h, m) else (l, k), if greaterE (h, k) (l, m) = true then (h, k) else (l, m))) := HC.out
              clear HC zk1 zh1
              generalize greaterE (h, m) (l, k) = b1 at *
              generalize greaterE (h, k) (l, m) = b2 at *
              have OUT : FourAt w0.heap.size ((w0.alloc (.cells #[txt l, txt k, txt l, txt m] 75)).alloc (.cells #[txt h, txt m] 74)) l k l m := ⟨by go_simp, by go_simp, by go_simp, by go_simp, by go_simp, by go_simp, by go_simp, by go_simp⟩
              have T7 : EncAt (w0.heap.size + 1) ((w0.alloc (.cells #[txt l, txt k, txt l, txt m] 75)).alloc (.cells #[txt h, txt m] 74)) h m := ⟨by go_simp, by go_simp, by go_simp, by go_simp⟩
              have EA : Ext w0 ((w0.alloc (.cells #[txt l, txt k, txt l, txt m] 75)).alloc (.cells #[txt h, txt m] 74)) := extA
              have X := (FourAt.mk x0 x1 x2 x3 f0 f1 f2 f3).ext EA
              have E := E.trans EA
              have HCC : ((w0.alloc (.cells #[txt l, txt k, txt l, txt m] 75)).alloc (.cells #[txt h, txt m] 74)).cell? ⟨w.heap.size, 0, none⟩ = some (txt l) ∧ ((w0.alloc (.cells #[txt l, txt k, txt l, txt m] 75)).alloc (.cells #[txt h, txt m] 74)).cell? ⟨w.heap.size, 1, none⟩ = some (txt h) ∧ ((w0.alloc (.cells #[txt l, txt k, txt l, txt m] 75)).alloc (.cells #[txt h, txt m] 74)).cell? ⟨w.heap.size + 1, 0, none⟩ = some (txt m) ∧ ((w0.alloc (.cells #[txt l, txt k, txt l, txt m] 75)).alloc (.cells #[txt h, txt m] 74)).cell? ⟨w.heap.size + 1, 1, none⟩ = some (txt k) := ⟨EA.cell c0, EA.cell c1, EA.cell c2, EA.cell c3⟩
              go_wp2_with fail
              obtain ⟨ob, hob⟩ : ∃ ob, ob = w0.heap.size := ⟨_, rfl⟩
              rw [← hob] at OUT T7 zX z0 z2 ⊢
              generalize ((w0.alloc (.cells #[txt l, txt k, txt l, txt m] 75)).alloc (.cells #[txt h, txt m] 74)) = w1 at T7 OUT X E HCC ⊢
              clear EA c0 c1 c2 c3 x0 x1 x2 x3 f0 f1 f2 f3 hob
              refine (G1.out _ E).mono ?_
              clear G1
              rintro e w2 ⟨rfl, hE⟩
              replace T7 := T7.ext hE
              replace OUT := OUT.ext hE
              replace X := X.ext hE
              replace E := E.trans hE
              replace HCC : w2.cell? ⟨w.heap.size, 0, none⟩ = some (txt l) ∧ w2.cell? ⟨w.heap.size, 1, none⟩ = some (txt h) ∧ w2.cell? ⟨w.heap.size + 1, 0, none⟩ = some (txt m) ∧ w2.cell? ⟨w.heap.size + 1, 1, none⟩ = some (txt k) := ⟨hE.cell HCC.1, hE.cell HCC.2.1, hE.cell HCC.2.2.1, hE.cell HCC.2.2.2⟩
              clear hE
              have zO := cell_lt OUT.c0
              dsimp only at zO
              obtain ⟨c0, c1, c2, c3⟩ := HCC
              have OUT0 := OUT
              obtain ⟨y0, y1, y2, y3, p0, p1, p2, p3⟩ := OUT0
              cases b1
              · replace HR : Hid (C = ((l, k), if b2 = true then (h, k) else (l, m))) := HR.out
                clear T7
                have T8 : EncAt w2.heap.size (w2.alloc (.cells #[txt h, txt k] 74)) h k := ⟨by go_simp, by go_simp, by go_simp, by go_simp⟩
                have EA : Ext w2 (w2.alloc (.cells #[txt h, txt k] 74)) := extA
                replace OUT := OUT.ext EA
                replace X := X.ext EA
                replace E := E.trans EA
                go_wp2_with fail
                obtain ⟨tb, htb⟩ : ∃ tb, tb = w2.heap.size := ⟨_, rfl⟩
                have hto : ob < tb := by omega
                rw [← htb] at T8 ⊢
                generalize (w2.alloc (.cells #[txt h, txt k] 74)) = w4 at T8 OUT X E ⊢
                clear EA c0 c1 c2 c3 z0 z2 y0 y1 y2 y3 p0 p1 p2 p3 htb
                refine (G2.out _ E).mono ?_
                clear G2
                rintro e w5 ⟨rfl, hE⟩
                replace T8 := T8.ext hE
                replace OUT := OUT.ext hE
                replace X := X.ext hE
                replace E := E.trans hE
                clear hE
                cases b2
                · have HR2 : Hid (C = ((l, k), (l, m))) := HR.out
                  obtain ⟨y0, y1, y2, y3, p0, p1, p2, p3⟩ := OUT
                  obtain ⟨x0, x1, x2, x3, f0, f1, f2, f3⟩ := X
                  clear T8 HR
                  go_wp2_with fail
                  refine bodyPost_ret (v := .agg #[txt l, txt k, txt l, txt m]) (by rw [results_cell1 rfl]; go_simp) rfl ?_
                  exact ⟨by rw [HR2.out]; rfl, extA⟩
                · have HR2 : Hid (C = ((l, k), (h, k))) := HR.out
                  obtain ⟨t0, t1, _, _⟩ := T8
                  obtain ⟨y0, y1, y2, y3, p0, p1, p2, p3⟩ := OUT
                  obtain ⟨x0, x1, x2, x3, f0, f1, f2, f3⟩ := X
                  clear HR
                  go_wp2_with fail
                  refine bodyPost_ret (v := .agg #[txt l, txt k, txt h, txt k]) (by rw [results_cell1 rfl]; go_simp) rfl ?_
                  exact ⟨by rw [HR2.out]; rfl, extA⟩
              · replace HR : Hid (C = ((h, m), if b2 = true then (h, k) else (l, m))) := HR.out
                obtain ⟨t0, t1, _, _⟩ := T7
                replace OUT := (OUT.set0 h).set1 m
                replace X := (X.other (c := ob) (o := 0) (v := txt h) (by omega)).other (c := ob) (o := 1) (v := txt m) (by omega)
                replace E := (E.set (b := ob) (o := 0) (by omega) (txt h)).set (b := ob) (o := 1) (by omega) (txt m)
                have T8 : EncAt w2.heap.size (((w2.setCell ⟨ob, 0, none⟩ (txt h)).setCell ⟨ob, 1, none⟩ (txt m)).alloc (.cells #[txt h, txt k] 74)) h k := ⟨by go_simp, by go_simp, by go_simp, by go_simp⟩
                have EA : Ext ((w2.setCell ⟨ob, 0, none⟩ (txt h)).setCell ⟨ob, 1, none⟩ (txt m)) (((w2.setCell ⟨ob, 0, none⟩ (txt h)).setCell ⟨ob, 1, none⟩ (txt m)).alloc (.cells #[txt h, txt k] 74)) := extA
                replace OUT := OUT.ext EA
                replace X := X.ext EA
                replace E := E.trans EA
                go_wp2_with fail
                obtain ⟨tb, htb⟩ : ∃ tb, tb = w2.heap.size := ⟨_, rfl⟩
                have hto : ob < tb := by omega
                rw [← htb] at T8 ⊢
                generalize (((w2.setCell ⟨ob, 0, none⟩ (txt h)).setCell ⟨ob, 1, none⟩ (txt m)).alloc (.cells #[txt h, txt k] 74)) = w4 at T8 OUT X E ⊢
                clear EA c0 c1 c2 c3 z0 z2 y0 y1 y2 y3 p0 p1 p2 p3 htb
                refine (G2.out _ E).mono ?_
                clear G2
                rintro e w5 ⟨rfl, hE⟩
                replace T8 := T8.ext hE
                replace OUT := OUT.ext hE
                replace X := X.ext hE
                replace E := E.trans hE
                clear hE
                cases b2
                · have HR2 : Hid (C = ((h, m), (l, m))) := HR.out
                  obtain ⟨y0, y1, y2, y3, p0, p1, p2, p3⟩ := OUT
                  obtain ⟨x0, x1, x2, x3, f0, f1, f2, f3⟩ := X
                  clear T8 HR
                  go_wp2_with fail
                  refine bodyPost_ret (v := .agg #[txt h, txt m, txt l, txt m]) (by rw [results_cell1 rfl]; go_simp) rfl ?_
                  exact ⟨by rw [HR2.out]; rfl, extA⟩
                · have HR2 : Hid (C = ((h, m), (h, k))) := HR.out
                  obtain ⟨t0, t1, _, _⟩ := T8
                  obtain ⟨y0, y1, y2, y3, p0, p1, p2, p3⟩ := OUT
                  obtain ⟨x0, x1, x2, x3, f0, f1, f2, f3⟩ := X
                  clear HR
                  go_wp2_with fail
                  refine bodyPost_ret (v := .agg #[txt h, txt m, txt h, txt k]) (by rw [results_cell1 rfl]; go_simp) rfl ?_
                  exact ⟨by rw [HR2.out]; rfl, extA⟩
end Go.Proofs.YtbpjbhbbkonjlaaGreatDoor
namespace Go.Proofs.YtbpjbhbbkonjlaaGreatDoor
open Go.RowKit
theorem ext_ends {a b : Enc} (ha : encE a = 0) (hb : encE b = 0) : endsR (mulS (extremesE a b).1.1 (extremesE a b).1.2) (mulS (extremesE a b).2.1 (extremesE a b).2.2) = endsR (resQ (prodLo a b)) (resQ (prodHi a b)) := by
  have x := extremes_is ha hb
  rw [mulS_right x.l.x x.l.y, mulS_right x.h.x x.h.y, x.lo, x.hi]
theorem eMulEnds_any (a b : Enc) (w : World) (hG : Glob w) (ha : encE a = 0) (hb : encE b = 0) :
    Calls Tryz.prog 31 #[.func (.func 113) #[] #[], pairsV (extremesE a b)] w (EncP (endsR (resQ (prodLo a b)) (resQ (prodHi a b))) w) := by
  have x := extremes_is ha hb
  rw [← ext_ends ha hb]
  exact eEnds_any 113 _ _ _ _ _ _ w enters49 (fun V g => mul_any _ _ V (hG.ext g) (len_right x.l.x) (len_right x.l.y)) (fun V g => mul_any _ _ V (hG.ext g) (len_right x.h.x) (len_right x.h.y))
set_option maxHeartbeats 8000000 in
set_option maxRecDepth 100000 in
theorem eMul_any (a b : Enc) (w : World) (hG : Glob w) (hl : LenE a) (hm : LenE b) : Calls Tryz.prog 91 #[encV a, encV b] w (EncP (mulE a b) w) := by
  have HB := Lib.hid (checked_two a b w hG hl hm)
  have HG := Lib.hid hG
  clear hG
  obtain ⟨C, hC⟩ : ∃ C, C = mulE a b := ⟨_, rfl⟩
  unfold EncP
  rw [← hC]
  unfold mulE at hC
  have hne0 : (((0 : Nat) : Int) != 0) = false := rfl
  obtain ⟨l, h⟩ := a
  obtain ⟨m, k⟩ := b
  obtain ⟨e, he⟩ : ∃ e, e = bothEE (l, h) (m, k) := ⟨_, rfl⟩
  rw [← he] at HB hC
  dsimp only at HB
  have c0 : ((((w.alloc (.cells #[txt l, txt h] 36)).alloc (.cells #[txt m, txt k] 36)).alloc (.cells #[.string ⟨#[]⟩, .string ⟨#[]⟩] 36)).alloc (.cells #[txt l, txt h, txt m, txt k] 36)).cell? ⟨w.heap.size, 0, none⟩ = some (txt l) := by go_simp
  have c1 : ((((w.alloc (.cells #[txt l, txt h] 36)).alloc (.cells #[txt m, txt k] 36)).alloc (.cells #[.string ⟨#[]⟩, .string ⟨#[]⟩] 36)).alloc (.cells #[txt l, txt h, txt m, txt k] 36)).cell? ⟨w.heap.size, 1, none⟩ = some (txt h) := by go_simp
  have c2 : ((((w.alloc (.cells #[txt l, txt h] 36)).alloc (.cells #[txt m, txt k] 36)).alloc (.cells #[.string ⟨#[]⟩, .string ⟨#[]⟩] 36)).alloc (.cells #[txt l, txt h, txt m, txt k] 36)).cell? ⟨w.heap.size + 1, 0, none⟩ = some (txt m) := by go_simp
  have c3 : ((((w.alloc (.cells #[txt l, txt h] 36)).alloc (.cells #[txt m, txt k] 36)).alloc (.cells #[.string ⟨#[]⟩, .string ⟨#[]⟩] 36)).alloc (.cells #[txt l, txt h, txt m, txt k] 36)).cell? ⟨w.heap.size + 1, 1, none⟩ = some (txt k) := by go_simp
  have X : EncAt (w.heap.size + 1 + 1) ((((w.alloc (.cells #[txt l, txt h] 36)).alloc (.cells #[txt m, txt k] 36)).alloc (.cells #[.string ⟨#[]⟩, .string ⟨#[]⟩] 36)).alloc (.cells #[txt l, txt h, txt m, txt k] 36)) [] [] := ⟨by go_simp, by go_simp, by go_simp, by go_simp⟩
  have E : Ext w ((((w.alloc (.cells #[txt l, txt h] 36)).alloc (.cells #[txt m, txt k] 36)).alloc (.cells #[.string ⟨#[]⟩, .string ⟨#[]⟩] 36)).alloc (.cells #[txt l, txt h, txt m, txt k] 36)) := extA
  go_enter Tryz.func91, Tryz.ntmps91
  go_wp2_with fail
  generalize hQ : ((((w.alloc (.cells #[txt l, txt h] 36)).alloc (.cells #[txt m, txt k] 36)).alloc (.cells #[.string ⟨#[]⟩, .string ⟨#[]⟩] 36)).alloc (.cells #[txt l, txt h, txt m, txt k] 36)) = w0 at c0 c1 c2 c3 X E ⊢
  refine (HB.out w0 (((w.alloc (.cells #[txt l, txt h] 36)).alloc (.cells #[txt m, txt k] 36)).alloc (.cells #[.string ⟨#[]⟩, .string ⟨#[]⟩] 36)) (w.heap.size + 1 + 1 + 1) (by simp) hQ.symm E).mono ?_
  clear hQ HB
  rintro e' w1 ⟨rfl, hE⟩
  replace c0 := hE.cell c0
  replace c1 := hE.cell c1
  replace c2 := hE.cell c2
  replace c3 := hE.cell c3
  replace X := X.ext hE
  replace E := E.trans hE
  clear hE
  by_cases e0 : e = 0
  rotate_left
  · rw [if_pos e0] at hC
    have HR : Hid (C = (([], []), e)) := hC
    have hne : (((e : Nat) : Int) != 0) = true := by rw [bne_iff_ne]; omega
    clear hC c0 c1 c2 c3 he HG e0
    obtain ⟨x0, x1, f0, f1⟩ := X
    go_wp2_with fail
    refine bodyPost_ret (v := .tuple #[.agg #[txt [], txt []], .int .i64 (e : Nat)]) (by rw [results_cell_tmp1 rfl]; go_simp) rfl ?_
    exact ⟨by first | (rw [HR.out]; done) | (rw [HR.out]; rfl), extA⟩
  subst e0
  rw [if_neg (by decide)] at hC
  obtain ⟨ha, hb⟩ := bothEE_two he.symm
  clear he
  have HX := Lib.hid (fun W (g : Ext w W) => eExtremes_any (l, h) (m, k) W (HG.out.ext g) hl hm ha hb)
  have HE := Lib.hid (fun W (g : Ext w W) => eMulEnds_any (l, h) (m, k) W (HG.out.ext g) ha hb)
  unfold EncP at HE
  generalize extremesE (l, h) (m, k) = P at HX HE
  generalize endsR (resQ (prodLo (l, h) (m, k))) (resQ (prodHi (l, h) (m, k))) = R at HE hC
  obtain ⟨⟨r1, r2⟩, r3⟩ := R
  have HR := Lib.hid hC
  clear hC ha hb hl hm HG
  go_wp2_with fail
  refine (HX.out _ E).mono ?_
  clear HX
  rintro e w2 ⟨rfl, hE⟩
  clear c0 c1 c2 c3
  replace X := X.ext hE
  replace E := E.trans hE
  clear hE
  go_wp2_with fail
  refine (HE.out _ E).mono ?_
  rintro e w3 ⟨rfl, hE⟩
  replace X := X.ext hE
  replace E := E.trans hE
  obtain ⟨x0, x1, f0, f1⟩ := X
  go_wp2_with fail
  refine bodyPost_ret (v := .tuple #[.agg #[txt r1, txt r2], .int .i64 (r3 : Nat)]) (by rw [results_cell_tmp1 rfl]; go_simp) rfl ?_
  exact ⟨by first | (rw [HR.out]; done) | (rw [HR.out]; rfl), extA⟩
end Go.Proofs.YtbpjbhbbkonjlaaGreatDoor
namespace Go.Proofs.YtbpjbhbbkonjlaaGreatDoor
open Go.RowKit
def beforeE (p q : Txt × Txt) (divide : Bool) : Bool :=
  if divide then decide ((fracQ p.1 * fracQ q.2 - fracQ q.1 * fracQ p.2).num.sign < 0) else decide ((fracQ p.1 * fracQ p.2 - fracQ q.1 * fracQ q.2).num.sign < 0)
end Go.Proofs.YtbpjbhbbkonjlaaGreatDoor
namespace Go.Proofs.YtbpjbhbbkonjlaaGreatDoor
open Go.RowKit
def txtsV (l : List Txt) : List Value := l.map txt
theorem txtsV_get {l : List Txt} {i : Nat} (h : i < l.length) : (txtsV l)[i]? = some (txt (l.getD i [])) := by
  simp [txtsV, List.getD_eq_getElem?_getD, h]
def OwnT (w : World) (v : Value) (l : List Txt) : Prop := w.ownsRow 0 34 1 v l.length (txtsV l)
theorem OwnT.ext {A B : World} {v : Value} {l : List Txt} (h : OwnT A v l) (he : Ext A B) : OwnT B v l := rowExt h he
theorem OwnT.succ {w : World} {v : Value} {l : List Txt} {x : Txt} (h : w.ownsRow 0 34 1 v (l.length + 1) (txtsV l ++ [txt x])) : OwnT w v (l ++ [x]) := by
  unfold OwnT txtsV
  rw [List.length_append, List.length_singleton, List.map_append]
  exact h
theorem OwnT.reads {A : World} {v : Value} {l : List Txt} (h : OwnT A v l) : ∃ a cap, v = .slice a l.length cap ∧ CellsT A a l := by
  obtain ⟨a, cap, hv, _, hr⟩ := rowReads h
  refine ⟨a, cap, hv, fun i hi => ?_⟩
  obtain ⟨b, hb, _, h1, _⟩ := hr i _ (txtsV_get hi)
  exact ⟨b, 0, hb, by rw [Nat.zero_add]; exact h1⟩
structure FourO (g : Nat) (W : World) (l : List Txt) (E : Nat) (v : Value) : Prop where
  c0 : W.cell? ⟨g, 0, none⟩ = some v
  c1 : W.cell? ⟨g, 1, none⟩ = some (.int .i64 (E : Nat))
  f0 : W.frozen? ⟨g, 0, none⟩ = false
  f1 : W.frozen? ⟨g, 1, none⟩ = false
  own : OwnT W v l
  blk : ∀ b, v.ownBlock = some b → g < b
def Four (g : Nat) (W : World) (l : List Txt) (E : Nat) : Prop := ∃ v, FourO g W l E v
theorem FourO.ext {g : Nat} {A B : World} {l : List Txt} {E : Nat} {v : Value} (x : FourO g A l E v) (e : Ext A B) : FourO g B l E v := by
  have hz : g < A.heap.size := cell_lt x.c0
  exact ⟨e.cell x.c0, e.cell x.c1, (Below.frozen (p := ⟨g, 0, none⟩) e hz).trans x.f0, (Below.frozen (p := ⟨g, 1, none⟩) e hz).trans x.f1, x.own.ext e, x.blk⟩
theorem Four.ext {g : Nat} {A B : World} {l : List Txt} {E : Nat} (x : Four g A l E) (e : Ext A B) : Four g B l E := by
  obtain ⟨v, h⟩ := x
  exact ⟨v, h.ext e⟩
theorem setCell_block {w : World} {b o c : Nat} {v : Value} (h : c ≠ b) : (w.setCell ⟨b, o, none⟩ v).heap[c]? = w.heap[c]? := by
  simp only [World.setCell, Array.getElem?_modify]
  rw [if_neg (fun e => h e.symm)]
theorem OwnT.set {g o : Nat} {w : World} {v u : Value} {l : List Txt} (h : OwnT w v l) (hb : ∀ b, v.ownBlock = some b → g < b) : OwnT (w.setCell ⟨g, o, none⟩ u) v l :=
  rowSame h fun b h1 => setCell_block (by have := hb b h1; omega)
theorem FourO.app {g : Nat} {w w5 : World} {l : List Txt} {E : Nat} {v v' : Value} {a : Txt} (x : FourO g w l E v) (hown : w5.ownsRow 0 34 1 v' (l.length + 1) (txtsV l ++ [txt a])) (hend : AppEnd w w5 v v') :
    FourO g (w5.setCell ⟨g, 0, none⟩ v') (l ++ [a]) E v' ∧ Below g w (w5.setCell ⟨g, 0, none⟩ v') := by
  have hz : g < w.heap.size := cell_lt x.c0
  have B : Below (g + 1) w w5 := hend.below (by omega) (fun b hb => x.blk b hb)
  have hb : ∀ b, v'.ownBlock = some b → g < b := fun b h => hend.ge (n := g + 1) (by omega) (fun b hb => x.blk b hb) b h
  have c0 := cellB B (p := ⟨g, 0, none⟩) (by show g < g + 1; omega) x.c0
  have c1 := cellB B (p := ⟨g, 1, none⟩) (by show g < g + 1; omega) x.c1
  have f0 := (Below.frozen (p := ⟨g, 0, none⟩) B (by show g < g + 1; omega)).trans x.f0
  have f1 := (Below.frozen (p := ⟨g, 1, none⟩) B (by show g < g + 1; omega)).trans x.f1
  refine ⟨⟨World.cell?_setCell_same _ _ _ c0, by rw [World.cell?_setCell_other _ _ _ _ (fun h => by simp only [Addr.mk.injEq] at h; omega)]; exact c1, by rw [World.frozen?_setCell]; exact f0, by rw [World.frozen?_setCell]; exact f1, (OwnT.succ hown).set hb, hb⟩, ?_⟩
  exact Below.setCell (p := ⟨g, 0, none⟩) (B.mono (by omega)) (Nat.le_refl g) v'
end Go.Proofs.YtbpjbhbbkonjlaaGreatDoor
namespace Go.Proofs.YtbpjbhbbkonjlaaGreatDoor
open Go.RowKit
structure FourV (g : Nat) (W : World) (l : List Txt) (E : Nat) (a : Option Addr) (cap : Nat) : Prop where
  c0 : W.cell? ⟨g, 0, none⟩ = some (.slice a l.length cap)
  c1 : W.cell? ⟨g, 1, none⟩ = some (.int .i64 (E : Nat))
  cs : CellsT W a l
theorem FourV.ext {g : Nat} {A B : World} {l : List Txt} {E : Nat} {a : Option Addr} {cap : Nat} (x : FourV g A l E a cap) (e : Ext A B) : FourV g B l E a cap := ⟨e.cell x.c0, e.cell x.c1, x.cs.ext e⟩
end Go.Proofs.YtbpjbhbbkonjlaaGreatDoor
namespace Go.Proofs.YtbpjbhbbkonjlaaGreatDoor
open Go.RowKit
theorem EncAt.below {b n : Nat} {A B : World} {l h : Txt} (x : EncAt b A l h) (e : Below n A B) (hb : b < n) : EncAt b B l h :=
  ⟨cellB e (p := ⟨b, 0, none⟩) hb x.c0, cellB e (p := ⟨b, 1, none⟩) hb x.c1, (Below.frozen (p := ⟨b, 0, none⟩) e hb).trans x.f0, (Below.frozen (p := ⟨b, 1, none⟩) e hb).trans x.f1⟩
def E2 (r s : Res) : Nat := if (if (0 : Nat) = 0 then r.2 else 0) = 0 then s.2 else if (0 : Nat) = 0 then r.2 else 0
end Go.Proofs.YtbpjbhbbkonjlaaGreatDoor
namespace Go.Proofs.YtbpjbhbbkonjlaaGreatDoor
open Go.Lib (decDigits)
def pairAt (a b : Enc) (n : Nat) : Enc := ([a.1, a.2].getD (n / 2) [], [b.1, b.2].getD (n % 2) [])
def bestS (g : Bool) (a b : Enc) : Nat → Enc × Enc
  | 0 => (([], []), ([], []))
  | n + 1 => if n = 0 then (pairAt a b 0, pairAt a b 0)
    else (if beforeE (pairAt a b n) (bestS g a b n).1 g = true then pairAt a b n else (bestS g a b n).1, if beforeE (bestS g a b n).2 (pairAt a b n) g = true then pairAt a b n else (bestS g a b n).2)
structure PairOk (g : Bool) (s : Bool) (p : Enc) : Prop where
  r : RightP p
  d : g = true → if s then 0 < fracQ p.2 else fracQ p.2 < 0
structure EndsOk (g s : Bool) (a b : Enc) : Prop where
  a1 : fracE a.1 = 0
  a2 : fracE a.2 = 0
  b1 : fracE b.1 = 0
  b2 : fracE b.2 = 0
  d1 : g = true → if s then 0 < fracQ b.1 else fracQ b.1 < 0
  d2 : g = true → if s then 0 < fracQ b.2 else fracQ b.2 < 0
theorem EndsOk.pair {g s : Bool} {a b : Enc} (h : EndsOk g s a b) {i j : Nat} (hi : i < 2) (hj : j < 2) : PairOk g s ([a.1, a.2].getD i [], [b.1, b.2].getD j []) := by
  rcases i with _ | _ | i
  · rcases j with _ | _ | j
    · exact ⟨⟨h.a1, h.b1⟩, h.d1⟩
    · exact ⟨⟨h.a1, h.b2⟩, h.d2⟩
    · omega
  · rcases j with _ | _ | j
    · exact ⟨⟨h.a2, h.b1⟩, h.d1⟩
    · exact ⟨⟨h.a2, h.b2⟩, h.d2⟩
    · omega
  · omega
theorem EndsOk.at {g s : Bool} {a b : Enc} (h : EndsOk g s a b) {n : Nat} (hn : n < 4) : PairOk g s (pairAt a b n) := h.pair (by omega) (by omega)
theorem EndsOk.best {g s : Bool} {a b : Enc} (h : EndsOk g s a b) : ∀ n, n < 4 → PairOk g s (bestS g a b (n + 1)).1 ∧ PairOk g s (bestS g a b (n + 1)).2
  | 0, _ => ⟨h.at (by omega), h.at (by omega)⟩
  | n + 1, hn => by
    obtain ⟨h1, h2⟩ := h.best n (by omega)
    have k := h.at hn
    show PairOk g s (if n + 1 = 0 then _ else _ : Enc × Enc).1 ∧ PairOk g s (if n + 1 = 0 then _ else _ : Enc × Enc).2
    rw [if_neg (by omega)]
    dsimp only
    constructor
    · split
      · exact k
      · exact h1
    · split
      · exact k
      · exact h2
end Go.Proofs.YtbpjbhbbkonjlaaGreatDoor
namespace Go.Proofs.YtbpjbhbbkonjlaaGreatDoor
open Go.RowKit
structure BestI (n0 : Nat) (W : World) (l h m k : Txt) (s : Enc × Enc) : Prop where
  b : EncAt (n0 + 1) W m k
  x : EncAt (n0 + 1 + 1) W [] []
  best : FourAt (n0 + 1 + 1 + 1) W s.1.1 s.1.2 s.2.1 s.2.2
  sl : EncAt (n0 + 1 + 1 + 1 + 1) W l h
theorem BestI.ext {n0 : Nat} {A B : World} {l h m k : Txt} {s : Enc × Enc} (x : BestI n0 A l h m k s) (e : Ext A B) : BestI n0 B l h m k s := ⟨x.b.ext e, x.x.ext e, x.best.ext e, x.sl.ext e⟩
theorem BestI.lo {n0 : Nat} {A : World} {l h m k : Txt} {s : Enc × Enc} (x : BestI n0 A l h m k s) (p q : Txt) : BestI n0 ((A.setCell ⟨n0 + 1 + 1 + 1, 0, none⟩ (txt p)).setCell ⟨n0 + 1 + 1 + 1, 1, none⟩ (txt q)) l h m k ((p, q), s.2) :=
  ⟨(x.b.other (by omega)).other (by omega), (x.x.other (by omega)).other (by omega), (x.best.set0 p).set1 q, (x.sl.other (by omega)).other (by omega)⟩
theorem BestI.hi {n0 : Nat} {A : World} {l h m k : Txt} {s : Enc × Enc} (x : BestI n0 A l h m k s) (p q : Txt) : BestI n0 ((A.setCell ⟨n0 + 1 + 1 + 1, 2, none⟩ (txt p)).setCell ⟨n0 + 1 + 1 + 1, 3, none⟩ (txt q)) l h m k (s.1, (p, q)) :=
  ⟨(x.b.other (by omega)).other (by omega), (x.x.other (by omega)).other (by omega), (x.best.set2 p).set3 q, (x.sl.other (by omega)).other (by omega)⟩
theorem EncAt.two {b c o1 o2 : Nat} {A : World} {l h : Txt} {v u : Value} (x : EncAt b A l h) (hn : b ≠ c) : EncAt b ((A.setCell ⟨c, o1, none⟩ v).setCell ⟨c, o2, none⟩ u) l h := (x.other hn).other hn
end Go.Proofs.YtbpjbhbbkonjlaaGreatDoor
namespace Go.Proofs.YtbpjbhbbkonjlaaGreatDoor
open Go.RowKit
end Go.Proofs.YtbpjbhbbkonjlaaGreatDoor
