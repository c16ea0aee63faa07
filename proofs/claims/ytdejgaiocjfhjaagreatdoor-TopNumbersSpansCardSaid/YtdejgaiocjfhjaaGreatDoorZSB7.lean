/- Steps of the proof: EAdd, EAddR, EBest, EDig, EWrB, EProd, EGrtP, EGrt, EXtr, EMulR, EAbs, EExtP, EExt, EMul, ELAwk, FLMak, EGiv, EOpen, EJoin, EBase. No conditions. -/
import Derived.Test.YtdejgaiocjfhjaaGreatDoorCards
import Derived.Test.YtdejgaiocjfhjaaGreatDoorTie
import Derived.WalkKit
import Derived.ProofKit
import Derived.OpenShut
import Derived.Deep.DeepHandedRow
import Derived.Lib.LaidTab
import Derived.LaidSub
import Derived.Stop.LaidErr
import Derived.MakeChecks
import Derived.Lib.SmallJoins
import Derived.Deep.Slices
import Derived.Test.YtdejgaiocjfhjaaGreatDoorZSB1
import Derived.Test.YtdejgaiocjfhjaaGreatDoorZSB2
import Derived.Test.YtdejgaiocjfhjaaGreatDoorZSB3
import Derived.Test.YtdejgaiocjfhjaaGreatDoorZSB4
import Derived.Test.YtdejgaiocjfhjaaGreatDoorZSB5
import Derived.Test.YtdejgaiocjfhjaaGreatDoorZSB6
namespace Go.Proofs.YtdejgaiocjfhjaaGreatDoor
open Go.RowKit
theorem enters47 : ∀ args w, (callFunc 47 args).run Tryz.prog w = .ok (.enter 47 args) w := enters_of Tryz.func47 (by kernel_rfl) rfl
set_option maxHeartbeats 8000000 in
set_option maxRecDepth 100000 in
theorem eAdd_any (a b : Enc) (w : World) (hG : Glob w) (hl : LenE a) (hm : LenE b) : Calls Tryz.prog 20 #[encV a, encV b] w (EncP (addE a b) w) := by
  have HB := Lib.hid (checked_two a b w hG hl hm)
  have HE := Lib.hid (fun W (h : Ext w W) => eEnds_any 47 a.1 b.1 a.2 b.2 (addS a.1 b.1) (addS a.2 b.2) W enters47
    (fun V g => add_any _ _ V (hG.ext (h.trans g)) hl.1 hm.1) (fun V g => add_any _ _ V (hG.ext (h.trans g)) hl.2 hm.2))
  unfold EncP at HE ⊢
  obtain ⟨C, hC⟩ : ∃ C, C = addE a b := ⟨_, rfl⟩
  rw [← hC]
  have hne0 : (((0 : Nat) : Int) != 0) = false := rfl
  by_cases e0 : bothEE a b = 0
  rotate_left
  · have HR : Hid (C = (([], []), bothEE a b)) := by show _ = _; rw [hC]; unfold addE badEnc; rw [if_pos e0]
    have hne : (((bothEE a b : Nat) : Int) != 0) = true := by rw [bne_iff_ne]; omega
    clear e0 hC hl hm hG HE
    generalize bothEE a b = n at *
    obtain ⟨l, h⟩ := a
    obtain ⟨m, k⟩ := b
    dsimp only [encV] at HB ⊢
    have c0 : ((((w.alloc (.cells #[txt l, txt h] 24)).alloc (.cells #[txt m, txt k] 24)).alloc (.cells #[.string ⟨#[]⟩, .string ⟨#[]⟩] 24)).alloc (.cells #[txt l, txt h, txt m, txt k] 24)).cell? ⟨w.heap.size, 0, none⟩ = some (txt l) := by go_simp
    have c1 : ((((w.alloc (.cells #[txt l, txt h] 24)).alloc (.cells #[txt m, txt k] 24)).alloc (.cells #[.string ⟨#[]⟩, .string ⟨#[]⟩] 24)).alloc (.cells #[txt l, txt h, txt m, txt k] 24)).cell? ⟨w.heap.size, 1, none⟩ = some (txt h) := by go_simp
    have c2 : ((((w.alloc (.cells #[txt l, txt h] 24)).alloc (.cells #[txt m, txt k] 24)).alloc (.cells #[.string ⟨#[]⟩, .string ⟨#[]⟩] 24)).alloc (.cells #[txt l, txt h, txt m, txt k] 24)).cell? ⟨w.heap.size + 1, 0, none⟩ = some (txt m) := by go_simp
    have c3 : ((((w.alloc (.cells #[txt l, txt h] 24)).alloc (.cells #[txt m, txt k] 24)).alloc (.cells #[.string ⟨#[]⟩, .string ⟨#[]⟩] 24)).alloc (.cells #[txt l, txt h, txt m, txt k] 24)).cell? ⟨w.heap.size + 1, 1, none⟩ = some (txt k) := by go_simp
    have X : EncAt (w.heap.size + 1 + 1) ((((w.alloc (.cells #[txt l, txt h] 24)).alloc (.cells #[txt m, txt k] 24)).alloc (.cells #[.string ⟨#[]⟩, .string ⟨#[]⟩] 24)).alloc (.cells #[txt l, txt h, txt m, txt k] 24)) [] [] := ⟨by go_simp, by go_simp, by go_simp, by go_simp⟩
    have hZ : Ext w ((((w.alloc (.cells #[txt l, txt h] 24)).alloc (.cells #[txt m, txt k] 24)).alloc (.cells #[.string ⟨#[]⟩, .string ⟨#[]⟩] 24)).alloc (.cells #[txt l, txt h, txt m, txt k] 24)) := extA
    go_enter Tryz.func20, Tryz.ntmps20
    go_wp2_with (go_at_call 79; (refine (HB.out _ (((w.alloc (.cells #[txt l, txt h] 24)).alloc (.cells #[txt m, txt k] 24)).alloc (.cells #[.string ⟨#[]⟩, .string ⟨#[]⟩] 24)) _ (by simp) rfl extA).mono ?_); rintro e w3 ⟨rfl, hE3⟩; have c0 := hE3.cell c0; have c1 := hE3.cell c1; have c2 := hE3.cell c2; have c3 := hE3.cell c3; have b0 := cell_lt c0; have b1 := cell_lt c2; dsimp only at b0 b1; obtain ⟨d0, d1, g0, g1⟩ := X.ext hE3)
    refine bodyPost_ret (v := .tuple #[.agg #[txt [], txt []], .int .i64 (n : Nat)]) (by rw [results_cell_tmp1 rfl]; go_simp) rfl ?_
    exact ⟨by first | (rw [HR.out]; done) | (rw [HR.out]; rfl), extA⟩
  have HR : Hid (C = endsR (addS a.1 b.1) (addS a.2 b.2)) := by show _ = _; rw [hC]; unfold addE; rw [if_neg (not_not_intro e0)]
  rw [e0] at HB
  clear e0 hl hm hG hC
  generalize endsR (addS a.1 b.1) (addS a.2 b.2) = R at *
  obtain ⟨⟨r1, r2⟩, r3⟩ := R
  obtain ⟨l, h⟩ := a
  obtain ⟨m, k⟩ := b
  dsimp only [encV] at HB HE HR ⊢
  have c0 : ((((w.alloc (.cells #[txt l, txt h] 24)).alloc (.cells #[txt m, txt k] 24)).alloc (.cells #[.string ⟨#[]⟩, .string ⟨#[]⟩] 24)).alloc (.cells #[txt l, txt h, txt m, txt k] 24)).cell? ⟨w.heap.size, 0, none⟩ = some (txt l) := by go_simp
  have c1 : ((((w.alloc (.cells #[txt l, txt h] 24)).alloc (.cells #[txt m, txt k] 24)).alloc (.cells #[.string ⟨#[]⟩, .string ⟨#[]⟩] 24)).alloc (.cells #[txt l, txt h, txt m, txt k] 24)).cell? ⟨w.heap.size, 1, none⟩ = some (txt h) := by go_simp
  have c2 : ((((w.alloc (.cells #[txt l, txt h] 24)).alloc (.cells #[txt m, txt k] 24)).alloc (.cells #[.string ⟨#[]⟩, .string ⟨#[]⟩] 24)).alloc (.cells #[txt l, txt h, txt m, txt k] 24)).cell? ⟨w.heap.size + 1, 0, none⟩ = some (txt m) := by go_simp
  have c3 : ((((w.alloc (.cells #[txt l, txt h] 24)).alloc (.cells #[txt m, txt k] 24)).alloc (.cells #[.string ⟨#[]⟩, .string ⟨#[]⟩] 24)).alloc (.cells #[txt l, txt h, txt m, txt k] 24)).cell? ⟨w.heap.size + 1, 1, none⟩ = some (txt k) := by go_simp
  have X : EncAt (w.heap.size + 1 + 1) ((((w.alloc (.cells #[txt l, txt h] 24)).alloc (.cells #[txt m, txt k] 24)).alloc (.cells #[.string ⟨#[]⟩, .string ⟨#[]⟩] 24)).alloc (.cells #[txt l, txt h, txt m, txt k] 24)) [] [] := ⟨by go_simp, by go_simp, by go_simp, by go_simp⟩
  have hZ : Ext w ((((w.alloc (.cells #[txt l, txt h] 24)).alloc (.cells #[txt m, txt k] 24)).alloc (.cells #[.string ⟨#[]⟩, .string ⟨#[]⟩] 24)).alloc (.cells #[txt l, txt h, txt m, txt k] 24)) := extA
  go_enter Tryz.func20, Tryz.ntmps20
  go_wp2_with (go_at_call 79; (refine (HB.out _ (((w.alloc (.cells #[txt l, txt h] 24)).alloc (.cells #[txt m, txt k] 24)).alloc (.cells #[.string ⟨#[]⟩, .string ⟨#[]⟩] 24)) _ (by simp) rfl extA).mono ?_); rintro e w3 ⟨rfl, hE3⟩; have c0 := hE3.cell c0; have c1 := hE3.cell c1; have c2 := hE3.cell c2; have c3 := hE3.cell c3; have b0 := cell_lt c0; have b1 := cell_lt c2; dsimp only at b0 b1; obtain ⟨d0, d1, g0, g1⟩ := X.ext hE3; have E3 := hZ.trans hE3; have X3 := X.ext hE3)
  go_at_call 71
  refine (HE.out _ E3).mono ?_
  rintro e w4 ⟨rfl, hE4⟩
  obtain ⟨d0, d1, g0, g1⟩ := X3.ext hE4
  go_wp2_with fail
  refine bodyPost_ret (v := .tuple #[.agg #[txt r1, txt r2], .int .i64 (r3 : Nat)]) (by rw [results_cell_tmp1 rfl]; go_simp) rfl ?_
  exact ⟨by first | (rw [HR.out]; done) | (rw [HR.out]; rfl), extA⟩
end Go.Proofs.YtdejgaiocjfhjaaGreatDoor
namespace Go.Proofs.YtdejgaiocjfhjaaGreatDoor
open Go.RowKit
theorem EncAt.below {b n : Nat} {A B : World} {l h : Txt} (x : EncAt b A l h) (e : Below n A B) (hb : b < n) : EncAt b B l h :=
  ⟨cellB e (p := ⟨b, 0, none⟩) hb x.c0, cellB e (p := ⟨b, 1, none⟩) hb x.c1, (Below.frozen (p := ⟨b, 0, none⟩) e hb).trans x.f0, (Below.frozen (p := ⟨b, 1, none⟩) e hb).trans x.f1⟩
def E2 (r s : Res) : Nat := if (if (0 : Nat) = 0 then r.2 else 0) = 0 then s.2 else if (0 : Nat) = 0 then r.2 else 0
end Go.Proofs.YtdejgaiocjfhjaaGreatDoor
namespace Go.Proofs.YtdejgaiocjfhjaaGreatDoor
open Go.Lib (decDigits)
def pairAt (a b : Enc) (n : Nat) : Enc := ([a.1, a.2].getD (n / 2) [], [b.1, b.2].getD (n % 2) [])
def bestS (g : Bool) (a b : Enc) : Nat → Enc × Enc
  | 0 => (([], []), ([], []))
  | n + 1 => if n = 0 then (pairAt a b 0, pairAt a b 0)
    else (if beforeE (pairAt a b n) (bestS g a b n).1 g = true then pairAt a b n else (bestS g a b n).1, if beforeE (bestS g a b n).2 (pairAt a b n) g = true then pairAt a b n else (bestS g a b n).2)
structure PairOk (g : Bool) (s : Bool) (p : Enc) : Prop where
  r : RightP p
  d : g = true → if s then 0 < fracQ p.2 else fracQ p.2 < 0
structure EndsOk (g s : Bool) (a b : Enc) : Prop where
  a1 : fracE a.1 = 0
  a2 : fracE a.2 = 0
  b1 : fracE b.1 = 0
  b2 : fracE b.2 = 0
  d1 : g = true → if s then 0 < fracQ b.1 else fracQ b.1 < 0
  d2 : g = true → if s then 0 < fracQ b.2 else fracQ b.2 < 0
theorem EndsOk.pair {g s : Bool} {a b : Enc} (h : EndsOk g s a b) {i j : Nat} (hi : i < 2) (hj : j < 2) : PairOk g s ([a.1, a.2].getD i [], [b.1, b.2].getD j []) := by
  rcases i with _ | _ | i
  · rcases j with _ | _ | j
    · exact ⟨⟨h.a1, h.b1⟩, h.d1⟩
    · exact ⟨⟨h.a1, h.b2⟩, h.d2⟩
    · omega
  · rcases j with _ | _ | j
    · exact ⟨⟨h.a2, h.b1⟩, h.d1⟩
    · exact ⟨⟨h.a2, h.b2⟩, h.d2⟩
    · omega
  · omega
theorem EndsOk.at {g s : Bool} {a b : Enc} (h : EndsOk g s a b) {n : Nat} (hn : n < 4) : PairOk g s (pairAt a b n) := h.pair (by omega) (by omega)
theorem EndsOk.best {g s : Bool} {a b : Enc} (h : EndsOk g s a b) : ∀ n, n < 4 → PairOk g s (bestS g a b (n + 1)).1 ∧ PairOk g s (bestS g a b (n + 1)).2
  | 0, _ => ⟨h.at (by omega), h.at (by omega)⟩
  | n + 1, hn => by
    obtain ⟨h1, h2⟩ := h.best n (by omega)
    have k := h.at hn
    show PairOk g s (if n + 1 = 0 then _ else _ : Enc × Enc).1 ∧ PairOk g s (if n + 1 = 0 then _ else _ : Enc × Enc).2
    rw [if_neg (by omega)]
    dsimp only
    constructor
    · split
      · exact k
      · exact h1
    · split
      · exact k
      · exact h2
end Go.Proofs.YtdejgaiocjfhjaaGreatDoor
namespace Go.Proofs.YtdejgaiocjfhjaaGreatDoor
open Go.Lib (decDigits)
def digL (s : List UInt8) : List Nat := s.reverse.map fun c => c.toNat - 48
theorem digL_len (s : List UInt8) : (digL s).length = s.length := by simp [digL]
theorem digL_snoc (s : List UInt8) (c : UInt8) : digL (s ++ [c]) = (c.toNat - 48) :: digL s := by simp [digL]
theorem digL_val (s : List UInt8) : valB 10 (digL s) = decV s := by
  induction s using snocRec with
  | nil => rfl
  | snoc s c ih => rw [digL_snoc, decV_snoc]; show (c.toNat - 48) + 10 * valB 10 (digL s) = _; rw [ih, Nat.add_comm]
theorem digL_ok {s : List UInt8} (h : DigitL s) : OkB 10 (digL s) := fun x hx => by
  obtain ⟨c, hc, rfl⟩ := List.mem_map.1 hx
  have := h c (List.mem_reverse.1 hc)
  omega
structure MulK (a b : List Nat) (i k : Nat) (o : List Nat) : Prop where
  len : o.length = a.length + b.length
  bd : ∀ j, o.getD j 0 ≤ 81 * i + 81
  bz : ∀ j, i + k ≤ j → o.getD j 0 ≤ 81 * i
  v : valB 10 o = valB 10 (a.take i) * valB 10 b + 10 ^ i * (a.getD i 0 * valB 10 (b.take k))
theorem MulK.start (a b : List Nat) : MulK a b 0 0 (List.replicate (a.length + b.length) 0) := by
  have hz : ∀ j, (List.replicate (a.length + b.length) 0).getD j 0 = 0 := fun j => by
    rw [List.getD_eq_getElem?_getD, List.getElem?_replicate]; split <;> rfl
  exact ⟨List.length_replicate, fun j => by rw [hz]; omega, fun j _ => by rw [hz]; omega, by rw [valB_zeros]; simp [valB]⟩
theorem MulK.next {a b : List Nat} (ha : OkB 10 a) (hb : OkB 10 b) {i k : Nat} {o : List Nat} (h : MulK a b i k o) (hi : i < a.length) (hk : k < b.length) :
    MulK a b i (k + 1) (o.set (i + k) (o.getD (i + k) 0 + a.getD i 0 * b.getD k 0)) := by
  have h1 := okB_getD ha (by omega) i
  have h2 := okB_getD hb (by omega) k
  have hxy : a.getD i 0 * b.getD k 0 ≤ 9 * 9 := Nat.mul_le_mul (by omega) (by omega)
  have hlen := h.len
  have hz := h.bz (i + k) (Nat.le_refl _)
  refine ⟨by rw [List.length_set]; exact hlen, fun j => ?_, fun j hj => ?_, ?_⟩
  · rw [getD_set_nat _ _ _ _ (by omega)]
    split
    · omega
    · exact h.bd j
  · rw [getD_set_nat _ _ _ _ (by omega), if_neg (by omega)]
    exact h.bz j (by omega)
  · have hs := valB_set 10 o (j := i + k) (by omega) (o.getD (i + k) 0 + a.getD i 0 * b.getD k 0)
    have hv := h.v
    rw [valB_take_succ 10 b k]
    generalize valB 10 (o.set (i + k) (o.getD (i + k) 0 + a.getD i 0 * b.getD k 0)) = vo at *
    generalize valB 10 o = v0 at *
    generalize o.getD (i + k) 0 = oj at *
    generalize a.getD i 0 = x at *
    generalize b.getD k 0 = y at *
    generalize valB 10 (b.take k) = vb at *
    generalize valB 10 (a.take i) * valB 10 b = V at *
    have hq : 10 ^ (i + k) = 10 ^ i * 10 ^ k := Nat.pow_add ..
    have e3 : 10 ^ i * (x * (vb + 10 ^ k * y)) = 10 ^ i * (x * vb) + 10 ^ (i + k) * (x * y) := by
      rw [hq, Nat.mul_add x, Nat.mul_add (10 ^ i), Nat.mul_assoc (10 ^ i) (10 ^ k)]
      congr 2
      rw [Nat.mul_left_comm]
    rw [e3]
    rw [Nat.mul_add] at hs
    omega
theorem MulK.outer {a b : List Nat} {i : Nat} {o : List Nat} (h : MulK a b i b.length o) : MulK a b (i + 1) 0 o := by
  refine ⟨h.len, fun j => by have := h.bd j; omega, fun j _ => by have := h.bd j; omega, ?_⟩
  rw [h.v, List.take_length, valB_take_succ, Nat.add_mul, Nat.mul_assoc]
  simp [valB]
theorem MulK.done {a b : List Nat} {o : List Nat} (h : MulK a b a.length 0 o) : o.length = a.length + b.length ∧ (∀ j, o.getD j 0 ≤ 81 * a.length + 81) ∧ valB 10 o = valB 10 a * valB 10 b := by
  refine ⟨h.len, h.bd, ?_⟩
  rw [h.v, List.take_length]
  simp [valB]
structure CarI (N P M j : Nat) (o : List Nat) : Prop where
  len : o.length = N
  ok : ∀ i, i < j → o.getD i 0 < 10
  bd : o.getD j 0 ≤ 2 * M
  br : ∀ i, j < i → o.getD i 0 ≤ M
  v : valB 10 o = P
theorem CarI.start {o : List Nat} {M : Nat} (h : ∀ j, o.getD j 0 ≤ M) : CarI o.length (valB 10 o) M 0 o :=
  ⟨rfl, fun i hi => by omega, by have := h 0; omega, fun i _ => h i, rfl⟩
theorem CarI.next {N P M j : Nat} {o : List Nat} (h : CarI N P M j o) (hj : j + 1 < N) :
    CarI N P M (j + 1) ((o.set (j + 1) (o.getD (j + 1) 0 + o.getD j 0 / 10)).set j (o.getD j 0 % 10)) := by
  have hlen := h.len
  have h1 := h.bd
  have h2 := h.br (j + 1) (by omega)
  have hl1 : j + 1 < o.length := by omega
  have hl2 : j < (o.set (j + 1) (o.getD (j + 1) 0 + o.getD j 0 / 10)).length := by rw [List.length_set]; omega
  have hg : ∀ i, ((o.set (j + 1) (o.getD (j + 1) 0 + o.getD j 0 / 10)).set j (o.getD j 0 % 10)).getD i 0 =
      if j = i then o.getD j 0 % 10 else if j + 1 = i then o.getD (j + 1) 0 + o.getD j 0 / 10 else o.getD i 0 := fun i => by
    rw [getD_set_nat _ _ _ _ hl2, getD_set_nat _ _ _ _ hl1]
  refine ⟨by rw [List.length_set, List.length_set]; exact hlen, fun i hi => ?_, ?_, fun i hi => ?_, ?_⟩
  · rw [hg]
    by_cases e : j = i
    · rw [if_pos e]; omega
    · rw [if_neg e, if_neg (by omega)]; exact h.ok i (by omega)
  · rw [hg, if_neg (by omega), if_pos rfl]; omega
  · rw [hg, if_neg (by omega), if_neg (by omega)]; exact h.br i (by omega)
  · have s1 := valB_set 10 o hl1 (o.getD (j + 1) 0 + o.getD j 0 / 10)
    have s2 := valB_set 10 _ hl2 (o.getD j 0 % 10)
    rw [getD_set_nat _ _ _ _ hl1, if_neg (by omega)] at s2
    have hv := h.v
    generalize valB 10 ((o.set (j + 1) (o.getD (j + 1) 0 + o.getD j 0 / 10)).set j (o.getD j 0 % 10)) = v2 at *
    generalize valB 10 (o.set (j + 1) (o.getD (j + 1) 0 + o.getD j 0 / 10)) = v1 at *
    generalize o.getD (j + 1) 0 = y at *
    generalize o.getD j 0 = x at *
    have e : 10 ^ j * (x % 10 + 10 * (x / 10)) = 10 ^ j * x := by rw [Nat.mod_add_div]
    rw [Nat.mul_add] at s1 e
    rw [Nat.pow_succ] at s1
    rw [← Nat.mul_assoc] at e
    omega
theorem valB_last {o : List Nat} {n : Nat} (h : o.length = n + 1) : valB 10 o = valB 10 (o.take n) + 10 ^ n * o.getD n 0 := by
  rw [← valB_take_succ, ← h, List.take_length]
theorem CarI.done {N P M : Nat} {o : List Nat} (h : CarI (N + 1) P M N o) (hP : P < 10 ^ (N + 1)) : OkB 10 o := fun x hx => by
  obtain ⟨i, hi, rfl⟩ := List.getElem_of_mem hx
  have e : o.getD i 0 = o[i] := by simp [List.getD_eq_getElem?_getD, hi]
  rw [← e]
  have hlen := h.len
  by_cases k : i < N
  · exact h.ok i k
  · have hiN : i = N := by omega
    subst hiN
    have h2 := valB_last hlen
    rw [h.v] at h2
    rw [Nat.pow_succ] at hP
    have h3 : 10 ^ i * o.getD i 0 < 10 ^ i * 10 := by omega
    exact Nat.lt_of_mul_lt_mul_left h3
def prodV (l : List (List UInt8)) : Nat := l.foldl (fun v s => v * decV s) 1
theorem prodV_take {l : List (List UInt8)} {n : Nat} (h : n < l.length) : prodV (l.take (n + 1)) = prodV (l.take n) * decV (l.getD n []) := by
  have e : l.take (n + 1) = l.take n ++ [l.getD n []] := by
    rw [List.take_add_one, List.getD_eq_getElem?_getD, List.getElem?_eq_getElem h]; rfl
  rw [e]
  unfold prodV
  rw [List.foldl_append]
  rfl
end Go.Proofs.YtdejgaiocjfhjaaGreatDoor
namespace Go.Proofs.YtdejgaiocjfhjaaGreatDoor
open Go.RowKit
end Go.Proofs.YtdejgaiocjfhjaaGreatDoor
namespace Go.Proofs.YtdejgaiocjfhjaaGreatDoor
open Go.RowKit
open Go.Lib (decDigits)
structure ProdA (ls : List Txt) (n : Nat) (a : List Nat) : Prop where
  ok : OkB 10 a
  l1 : 1 ≤ a.length
  l2 : a.length ≤ 1 + 60 * n
  v : valB 10 a = prodV (ls.take n)
theorem ProdA.start (ls : List Txt) : ProdA ls 0 [1] := ⟨(fun x hx => by rw [List.mem_singleton.1 hx]; omega), by simp, by simp, by simp [valB, prodV]⟩
theorem ProdA.next {ls : List Txt} {n : Nat} {a o : List Nat} (h : ProdA ls n a) (hn : n < ls.length) (hs : DigitL (ls.getD n []) ∧ (ls.getD n []).length ≤ 60) {P M : Nat}
    (hP : P = valB 10 a * valB 10 (digL (ls.getD n []))) {N : Nat} (hN : N + 1 = a.length + (ls.getD n []).length) (hc : CarI (N + 1) P M N o) : ProdA ls (n + 1) o := by
  have hlen := hc.len
  have h1 := h.l1
  have h2 := h.l2
  have hlt : P < 10 ^ (N + 1) := by
    rw [hP, hN, Nat.pow_add]
    have k1 := valB_lt h.ok
    have k2 := valB_lt (digL_ok hs.1)
    rw [digL_len] at k2
    exact Nat.mul_lt_mul'' k1 k2
  refine ⟨hc.done hlt, by omega, by omega, ?_⟩
  rw [hc.v, hP, prodV_take hn, h.v, digL_val]
end Go.Proofs.YtdejgaiocjfhjaaGreatDoor
namespace Go.Proofs.YtdejgaiocjfhjaaGreatDoor
open Go.Lib (decDigits)
end Go.Proofs.YtdejgaiocjfhjaaGreatDoor
namespace Go.Proofs.YtdejgaiocjfhjaaGreatDoor
open Go.RowKit
open Go.Lib (decDigits)
attribute [local go_sem] Oper.semAt_some
structure FourAt (b : Nat) (W : World) (p q r s : Txt) : Prop where
  c0 : W.cell? ⟨b, 0, none⟩ = some (txt p)
  c1 : W.cell? ⟨b, 1, none⟩ = some (txt q)
  c2 : W.cell? ⟨b, 2, none⟩ = some (txt r)
  c3 : W.cell? ⟨b, 3, none⟩ = some (txt s)
  f0 : W.frozen? ⟨b, 0, none⟩ = false
  f1 : W.frozen? ⟨b, 1, none⟩ = false
  f2 : W.frozen? ⟨b, 2, none⟩ = false
  f3 : W.frozen? ⟨b, 3, none⟩ = false
theorem FourAt.ext {b : Nat} {A B : World} {p q r s : Txt} (x : FourAt b A p q r s) (e : Ext A B) : FourAt b B p q r s := by
  have hlt : b < A.heap.size := cell_lt x.c0
  exact ⟨e.cell x.c0, e.cell x.c1, e.cell x.c2, e.cell x.c3, by rw [Below.frozen e hlt]; exact x.f0, by rw [Below.frozen e hlt]; exact x.f1, by rw [Below.frozen e hlt]; exact x.f2, by rw [Below.frozen e hlt]; exact x.f3⟩
theorem FourAt.other {b c o : Nat} {A : World} {p q r s : Txt} {v : Value} (x : FourAt b A p q r s) (hn : b ≠ c) : FourAt b (A.setCell ⟨c, o, none⟩ v) p q r s :=
  ⟨by rw [World.cell?_setCell_other _ _ _ _ (fun h => by simp only [Addr.mk.injEq] at h; omega)]; exact x.c0, by rw [World.cell?_setCell_other _ _ _ _ (fun h => by simp only [Addr.mk.injEq] at h; omega)]; exact x.c1, by rw [World.cell?_setCell_other _ _ _ _ (fun h => by simp only [Addr.mk.injEq] at h; omega)]; exact x.c2, by rw [World.cell?_setCell_other _ _ _ _ (fun h => by simp only [Addr.mk.injEq] at h; omega)]; exact x.c3, by rw [World.frozen?_setCell]; exact x.f0, by rw [World.frozen?_setCell]; exact x.f1, by rw [World.frozen?_setCell]; exact x.f2, by rw [World.frozen?_setCell]; exact x.f3⟩
theorem FourAt.set0 {b : Nat} {A : World} {p q r s : Txt} (x : FourAt b A p q r s) (v : Txt) : FourAt b (A.setCell ⟨b, 0, none⟩ (txt v)) v q r s :=
  ⟨World.cell?_setCell_same _ _ _ x.c0, by rw [World.cell?_setCell_other _ _ _ _ (fun h => by simp only [Addr.mk.injEq] at h; omega)]; exact x.c1, by rw [World.cell?_setCell_other _ _ _ _ (fun h => by simp only [Addr.mk.injEq] at h; omega)]; exact x.c2, by rw [World.cell?_setCell_other _ _ _ _ (fun h => by simp only [Addr.mk.injEq] at h; omega)]; exact x.c3, by rw [World.frozen?_setCell]; exact x.f0, by rw [World.frozen?_setCell]; exact x.f1, by rw [World.frozen?_setCell]; exact x.f2, by rw [World.frozen?_setCell]; exact x.f3⟩
theorem FourAt.set1 {b : Nat} {A : World} {p q r s : Txt} (x : FourAt b A p q r s) (v : Txt) : FourAt b (A.setCell ⟨b, 1, none⟩ (txt v)) p v r s :=
  ⟨by rw [World.cell?_setCell_other _ _ _ _ (fun h => by simp only [Addr.mk.injEq] at h; omega)]; exact x.c0, World.cell?_setCell_same _ _ _ x.c1, by rw [World.cell?_setCell_other _ _ _ _ (fun h => by simp only [Addr.mk.injEq] at h; omega)]; exact x.c2, by rw [World.cell?_setCell_other _ _ _ _ (fun h => by simp only [Addr.mk.injEq] at h; omega)]; exact x.c3, by rw [World.frozen?_setCell]; exact x.f0, by rw [World.frozen?_setCell]; exact x.f1, by rw [World.frozen?_setCell]; exact x.f2, by rw [World.frozen?_setCell]; exact x.f3⟩
theorem FourAt.set2 {b : Nat} {A : World} {p q r s : Txt} (x : FourAt b A p q r s) (v : Txt) : FourAt b (A.setCell ⟨b, 2, none⟩ (txt v)) p q v s :=
  ⟨by rw [World.cell?_setCell_other _ _ _ _ (fun h => by simp only [Addr.mk.injEq] at h; omega)]; exact x.c0, by rw [World.cell?_setCell_other _ _ _ _ (fun h => by simp only [Addr.mk.injEq] at h; omega)]; exact x.c1, World.cell?_setCell_same _ _ _ x.c2, by rw [World.cell?_setCell_other _ _ _ _ (fun h => by simp only [Addr.mk.injEq] at h; omega)]; exact x.c3, by rw [World.frozen?_setCell]; exact x.f0, by rw [World.frozen?_setCell]; exact x.f1, by rw [World.frozen?_setCell]; exact x.f2, by rw [World.frozen?_setCell]; exact x.f3⟩
theorem FourAt.set3 {b : Nat} {A : World} {p q r s : Txt} (x : FourAt b A p q r s) (v : Txt) : FourAt b (A.setCell ⟨b, 3, none⟩ (txt v)) p q r v :=
  ⟨by rw [World.cell?_setCell_other _ _ _ _ (fun h => by simp only [Addr.mk.injEq] at h; omega)]; exact x.c0, by rw [World.cell?_setCell_other _ _ _ _ (fun h => by simp only [Addr.mk.injEq] at h; omega)]; exact x.c1, by rw [World.cell?_setCell_other _ _ _ _ (fun h => by simp only [Addr.mk.injEq] at h; omega)]; exact x.c2, World.cell?_setCell_same _ _ _ x.c3, by rw [World.frozen?_setCell]; exact x.f0, by rw [World.frozen?_setCell]; exact x.f1, by rw [World.frozen?_setCell]; exact x.f2, by rw [World.frozen?_setCell]; exact x.f3⟩
end Go.Proofs.YtdejgaiocjfhjaaGreatDoor
namespace Go.Proofs.YtdejgaiocjfhjaaGreatDoor
open Go.RowKit
structure BestI (n0 : Nat) (W : World) (l h m k : Txt) (s : Enc × Enc) : Prop where
  b : EncAt (n0 + 1) W m k
  x : EncAt (n0 + 1 + 1) W [] []
  best : FourAt (n0 + 1 + 1 + 1) W s.1.1 s.1.2 s.2.1 s.2.2
  sl : EncAt (n0 + 1 + 1 + 1 + 1) W l h
theorem BestI.ext {n0 : Nat} {A B : World} {l h m k : Txt} {s : Enc × Enc} (x : BestI n0 A l h m k s) (e : Ext A B) : BestI n0 B l h m k s := ⟨x.b.ext e, x.x.ext e, x.best.ext e, x.sl.ext e⟩
theorem BestI.lo {n0 : Nat} {A : World} {l h m k : Txt} {s : Enc × Enc} (x : BestI n0 A l h m k s) (p q : Txt) : BestI n0 ((A.setCell ⟨n0 + 1 + 1 + 1, 0, none⟩ (txt p)).setCell ⟨n0 + 1 + 1 + 1, 1, none⟩ (txt q)) l h m k ((p, q), s.2) :=
  ⟨(x.b.other (by omega)).other (by omega), (x.x.other (by omega)).other (by omega), (x.best.set0 p).set1 q, (x.sl.other (by omega)).other (by omega)⟩
theorem BestI.hi {n0 : Nat} {A : World} {l h m k : Txt} {s : Enc × Enc} (x : BestI n0 A l h m k s) (p q : Txt) : BestI n0 ((A.setCell ⟨n0 + 1 + 1 + 1, 2, none⟩ (txt p)).setCell ⟨n0 + 1 + 1 + 1, 3, none⟩ (txt q)) l h m k (s.1, (p, q)) :=
  ⟨(x.b.other (by omega)).other (by omega), (x.x.other (by omega)).other (by omega), (x.best.set2 p).set3 q, (x.sl.other (by omega)).other (by omega)⟩
theorem EncAt.two {b c o1 o2 : Nat} {A : World} {l h : Txt} {v u : Value} (x : EncAt b A l h) (hn : b ≠ c) : EncAt b ((A.setCell ⟨c, o1, none⟩ v).setCell ⟨c, o2, none⟩ u) l h := (x.other hn).other hn
theorem encAt_new (W : World) (n : Nat) (hn : n = W.heap.size) (p q : Txt) (t : TypeId) : EncAt n (W.alloc (.cells #[txt p, txt q] t)) p q := by
  subst hn
  exact ⟨by go_simp, by go_simp, by go_simp, by go_simp⟩
end Go.Proofs.YtdejgaiocjfhjaaGreatDoor
namespace Go.Proofs.YtdejgaiocjfhjaaGreatDoor
open Go.RowKit
end Go.Proofs.YtdejgaiocjfhjaaGreatDoor
namespace Go.Proofs.YtdejgaiocjfhjaaGreatDoor
open Go.Lib (decDigits itoa)
end Go.Proofs.YtdejgaiocjfhjaaGreatDoor
namespace Go.Proofs.YtdejgaiocjfhjaaGreatDoor
open Go.Lib (decDigits)
structure ExtR (a b : Enc) (p : Enc × Enc) : Prop where
  lo : fracQ p.1.1 * fracQ p.1.2 = prodLo a b
  hi : fracQ p.2.1 * fracQ p.2.2 = prodHi a b
  l : RightP p.1
  h : RightP p.2
end Go.Proofs.YtdejgaiocjfhjaaGreatDoor
namespace Go.Proofs.YtdejgaiocjfhjaaGreatDoor
open Go.RowKit
theorem oth2 {W : World} {b c o o1 o2 : Nat} {v u1 u2 : Value} (hn : b ≠ c) (h : W.cell? ⟨b, o, none⟩ = some v) : ((W.setCell ⟨c, o1, none⟩ u1).setCell ⟨c, o2, none⟩ u2).cell? ⟨b, o, none⟩ = some v := by
  rw [World.cell?_setCell_other _ _ _ _ (fun h => by simp only [Addr.mk.injEq] at h; omega), World.cell?_setCell_other _ _ _ _ (fun h => by simp only [Addr.mk.injEq] at h; omega)]; exact h
end Go.Proofs.YtdejgaiocjfhjaaGreatDoor
namespace Go.Proofs.YtdejgaiocjfhjaaGreatDoor
open Go.RowKit
end Go.Proofs.YtdejgaiocjfhjaaGreatDoor
namespace Go.Proofs.YtdejgaiocjfhjaaGreatDoor
open Go.RowKit
end Go.Proofs.YtdejgaiocjfhjaaGreatDoor
namespace Go.Proofs.YtdejgaiocjfhjaaGreatDoor
open Go.RowKit
open Go.Lib (decDigits itoa)
def TrueP (w : World) (e : Ending) (w' : World) : Prop := e = .returned (.bool true) ∧ Ext w w'
end Go.Proofs.YtdejgaiocjfhjaaGreatDoor
namespace Go.Proofs.YtdejgaiocjfhjaaGreatDoor
open Go.ChangeShapes Go.WideShapes Go.ChangeAt Go.RowKit
theorem own : ownKnob Tryz.prog.godebug = none := by kernel_rfl
theorem gTab : Tryz.prog.globalNamed "internal/strconv.uint64pow10" = some 1 := by kernel_rfl
theorem gTabT : (Tryz.prog.globals[1]?).map (·.type) = some 236 := by kernel_rfl
theorem cellsTab : Tryz.prog.cellsOf 236 = 20 := by kernel_rfl
theorem cellsU64 : Tryz.prog.cellsOf 161 = 1 := by kernel_rfl
theorem gRng : Tryz.prog.globalNamed "strconv.ErrRange" = some 5 := by kernel_rfl
theorem gRngT : (Tryz.prog.globals[5]?).map (·.type) = some 178 := by kernel_rfl
theorem gSyn : Tryz.prog.globalNamed "strconv.ErrSyntax" = some 4 := by kernel_rfl
theorem gSynT : (Tryz.prog.globals[4]?).map (·.type) = some 178 := by kernel_rfl
theorem starE : "*" ++ "errors.errorString" = "*errors.errorString" := by decide
theorem rowE (u : TypeId) (h : Tryz.prog.typeName? 3 u = some "*errors.errorString") : u = 264 :=
  typeName_ptr_named (nm := "errors.errorString") (by rw [starE]; kernel_rfl) (by kernel_rfl) (by decide) u (by rw [starE]; exact h)
theorem cellsErr : Tryz.prog.cellsOf 266 = 1 := by kernel_rfl
theorem cellsStr : Tryz.prog.cellsOf 9 = 1 := by kernel_rfl
theorem glob_of {W : World} (hs : W.ShapedOpen Tryz.prog) (hL : laidMetH Tryz.prog Rows.enclosureSquaresRow.laid W) : Glob W := by
  have hP : laidMet Tryz.prog Rows.enclosureSquaresRow.laid W := by
    rw [← MakeChecks.laidMetH_plain _ _ _ (by kernel_rfl)]; exact hL
  have hP2 := hP.tail.tail
  have hP4 := hP2.tail.tail
  have hP5 := hP4.tail
  obtain ⟨a0, _, h0, _⟩ := laid_sentinel hP4 gRng gRngT Tryz.underlying178 rowE Tryz.underlying264 Tryz.underlying266 rfl rfl Tryz.underlying9 cellsErr cellsStr
  obtain ⟨a1, _, h1, _⟩ := laid_sentinel hP5 gSyn gSynT Tryz.underlying178 rowE Tryz.underlying264 Tryz.underlying266 rfl rfl Tryz.underlying9 cellsErr cellsStr
  exact ⟨cell_of_shapedOpen_int (zero := #[.int .i64 0]) (t := 3) hs (of_decide_eq_true (by kernel_rfl)) (by kernel_rfl) rfl (by kernel_rfl) (by kernel_rfl) Tryz.underlying3,
    Lib.tabIs_of_head gTab gTabT Tryz.underlying236 Tryz.underlying161 cellsU64 cellsTab hP2, ⟨_, _, h1⟩, ⟨_, _, h0⟩⟩
def flatD : Nat → DataW Unit → List Value
  | _ + 1, .lit (.int k z) => [.int k z]
  | n + 1, .agg ds => ds.flatMap (flatD n)
  | _, _ => []
def putC (cs : List Value) : Obj → Obj
  | .cells _ t frozen => .cells ⟨cs⟩ t frozen
  | o => o
noncomputable def lowB : Nat := (World.holding Tryz.prog default ⟨#[], #[], []⟩).heap.size
def rngS : ByteArray := ⟨#[118, 97, 108, 117, 101, 32, 111, 117, 116, 32, 111, 102, 32, 114, 97, 110, 103, 101]⟩
def synS : ByteArray := ⟨#[105, 110, 118, 97, 108, 105, 100, 32, 115, 121, 110, 116, 97, 120]⟩
noncomputable def laidWorld (os : Os) : World :=
  let w0 := World.holding Tryz.prog os ⟨#[.cells #[.string rngS] 266, .cells #[.string synS] 266], #[], []⟩
  { w0 with heap := (((((((w0.heap.modify 6 (putC (flatD 3 Rows.laid_math_bits_deBruijn32tab))).modify 7 (putC (flatD 3 Rows.laid_math_bits_deBruijn64tab))).modify
      1 (putC (flatD 3 Rows.laid_internal_strconv_uint64pow10))).modify 3 (putC (flatD 3 Rows.laid_unicode_utf8_acceptRanges))).modify
      5 (putC [.iface 264 (.pointer (some ⟨lowB, 0, none⟩))])).modify 4 (putC [.iface 264 (.pointer (some ⟨lowB + 1, 0, none⟩))])).modify
      2 (putC (flatD 3 Rows.laid_unicode_utf8_first))) }
theorem laid_met (os : Os) (args : Array Value) : laidMet Tryz.prog Rows.enclosureSquaresRow.laid ((laidWorld os).forCall (fun _ _ => 0) ⟨#[], args, []⟩).memory :=
  laidMet_of_run' 8 (by kernel_rfl) (by kernel_rfl)
end Go.Proofs.YtdejgaiocjfhjaaGreatDoor
namespace Go.Proofs.YtdejgaiocjfhjaaGreatDoor
open Go.RowKit Go.ChangeShapes Go.WideShapes Go.Joins Go.Deep
theorem laidOut : laidOutB Tryz.prog = true := by kernel_rfl
section
variable {H : Type} {enc : TypeId × Value → H} {w : World} {base : Nat} {spare : Nat → Bool} {held : Bool}
end
end Go.Proofs.YtdejgaiocjfhjaaGreatDoor
namespace Go.Proofs.YtdejgaiocjfhjaaGreatDoor
open Go.RowKit Go.ChangeShapes Go.WideShapes Go.ChangeAt
theorem band {a b : Bool} (h : a = true) (k : b = true) : (a && b) = true := by rw [h, k]; rfl
theorem factLaid : laidOutB Tryz.pinned.checked.prog = true := by kernel_rfl
theorem factMaps : mapsRowed Tryz.pinned.checked.prog = true := by kernel_rfl
theorem factHeard : Tryz.pinned.checked.prog.stopsHeard = true := by kernel_rfl
theorem factEnter : Tryz.pinned.checked.prog.mayEnter = true := by kernel_rfl
theorem factLifts : (Rows.enclosureSquaresRow.lifted == Tryz.pinned.checked.prog.liftsFinal) = true := by kernel_rfl
theorem factMake : (Tryz.pinned.checked.prog.make == some Rows.enclosureSquaresRow.make) = true := by kernel_rfl
theorem factKeys : (Rows.enclosureSquaresRow.plainKeys == Tryz.pinned.checked.prog.plainKeys) = true := by kernel_rfl
end Go.Proofs.YtdejgaiocjfhjaaGreatDoor

