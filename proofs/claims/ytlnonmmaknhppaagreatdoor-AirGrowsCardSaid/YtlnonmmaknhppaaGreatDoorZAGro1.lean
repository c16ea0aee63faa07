/- Steps of the proof: ELaw3, Air2, EOrd, EOrd2, AGiv, AOpen, AJoin, ALGr. No conditions. -/
import Derived.Test.YtlnonmmaknhppaaGreatDoorCards
import Derived.Test.YtlnonmmaknhppaaGreatDoorTie
import Derived.WalkKit
import Derived.ProofKit
import Derived.OpenShut
import Derived.Deep.DeepHandedRow
import Derived.Lib.LaidTab
import Derived.LaidSub
import Derived.Stop.LaidErr
import Derived.MakeChecks
import Derived.Lib.SmallJoins
import Derived.Deep.Slices
import Derived.Test.YtlnonmmaknhppaaGreatDoorZAB1
import Derived.Test.YtlnonmmaknhppaaGreatDoorZAB2
import Derived.Test.YtlnonmmaknhppaaGreatDoorZAB3
import Derived.Test.YtlnonmmaknhppaaGreatDoorZAB4
import Derived.Test.YtlnonmmaknhppaaGreatDoorZAB5
import Derived.Test.YtlnonmmaknhppaaGreatDoorZAB6
import Derived.Test.YtlnonmmaknhppaaGreatDoorZAB7
import Derived.Test.YtlnonmmaknhppaaGreatDoorZAB8
import Derived.Test.YtlnonmmaknhppaaGreatDoorZAB9
import Derived.Test.YtlnonmmaknhppaaGreatDoorZAB10
import Derived.Test.YtlnonmmaknhppaaGreatDoorZAB11
namespace Go.Proofs.YtlnonmmaknhppaaGreatDoor
open Go.Lib (decDigits itoa)
def sureQ (p q r s : Rat) : Int := if q < r then -1 else if s < p then 1 else 0
theorem GoodE.compare {K L : Nat} {a b : Enc} {p q r s : Rat} (h : GoodE K a p q) (k : GoodE L b r s) : compareE a b = (sureQ p q r s, 0) := by
  unfold compareE sureE sureQ
  rw [if_neg (not_not_intro (h.both k))]
  congr 1
  have e1 : ordQ a.2 b.1 < 0 ↔ q < r := by rw [ord_lt, h.hi.val, k.lo.val]
  have e2 : 0 < ordQ a.1 b.2 ↔ s < p := by rw [ord_gt, h.lo.val, k.hi.val]
  simp only [e1, e2]
end Go.Proofs.YtlnonmmaknhppaaGreatDoor
namespace Go.Proofs.YtlnonmmaknhppaaGreatDoor
theorem ends_lt {m n : Int} (h : 1562 * m < 1561 * n) : (22 / 7 : Rat) * (m : Rat) / 4000 < (223 / 71 : Rat) * (n : Rat) / 4000 := by
  have h1 : ((1562 * m : Int) : Rat) < ((1561 * n : Int) : Rat) := Rat.intCast_lt_intCast.2 h
  rw [Rat.intCast_mul, Rat.intCast_mul] at h1
  have e1 : ((1562 : Int) : Rat) = 1562 := rfl
  have e2 : ((1561 : Int) : Rat) = 1561 := rfl
  rw [e1, e2] at h1
  grind
theorem faceN_out (c : Cyl) : faceN c true = c.bore * c.bore := by unfold faceN; rw [if_pos rfl]
theorem wide_mul {b : Int} (hb : 1 ≤ b) {b' : Int} (h : 100 * b' ≥ 101 * b + 1) {p : Int} (hp : 1 ≤ p) : 1562 * (b * b * p) < 1561 * (b' * b' * p) := by
  have h1 : 101 * b * (101 * b) ≤ 100 * b' * (100 * b') := Int.mul_le_mul (by omega) (by omega) (by omega) (by omega)
  have h2 : 0 < b * b := Int.mul_pos (by omega) (by omega)
  have e1 : 101 * b * (101 * b) = 10201 * (b * b) := by grind
  have e2 : 100 * b' * (100 * b') = 10000 * (b' * b') := by grind
  have h3 : 1562 * (b * b) < 1561 * (b' * b') := by omega
  have h4 := Int.mul_lt_mul_of_pos_right h3 (show 0 < p by omega)
  have e3 : 1562 * (b * b) * p = 1562 * (b * b * p) := by grind
  have e4 : 1561 * (b' * b') * p = 1561 * (b' * b' * p) := by grind
  omega
theorem press_mul {n p p' : Int} (hn : 1 ≤ n) (hp : 1 ≤ p) (h : 100 * p' ≥ 101 * p + 1) : 1562 * (n * p) < 1561 * (n * p') := by
  have h1 : 1562 * p < 1561 * p' := by omega
  have h2 := Int.mul_lt_mul_of_pos_left h1 (show 0 < n by omega)
  have e1 : n * (1562 * p) = 1562 * (n * p) := by grind
  have e2 : n * (1561 * p') = 1561 * (n * p') := by grind
  omega
theorem hundredth {b : Int} (hb : 0 ≤ b) : 100 * (b + (b.tdiv 100 + 1)) ≥ 101 * b + 1 := by
  rw [Int.tdiv_eq_ediv_of_nonneg hb]
  omega
theorem cyl_of {c : Cyl} (h : CylOk c) : cylE c = 0 := by
  have h1 : cylB c = false := by
    unfold cylB
    simp only [Bool.or_eq_false_iff, decide_eq_false_iff_not]
    have := h.b1
    have := h.b2
    have := h.r1
    have := h.r2
    have := h.s1
    have := h.s2
    omega
  unfold cylE
  rw [h1]
  rfl
theorem pres_of {c : Cyl} {p : Int} (h : CylOk c) (h1 : 1 ≤ p) (h2 : p ≤ 2000) : presE c p = 0 := by
  have h3 : presB p = false := by
    unfold presB
    simp only [Bool.or_eq_false_iff, decide_eq_false_iff_not]
    omega
  unfold presE
  rw [cyl_of h, h3]
  rfl
theorem force_wide {c d : Cyl} {p q : Int} (hc : CylOk c) (hd : CylOk d) (hp1 : 1 ≤ p) (hp2 : p ≤ 2000) (hq1 : 1 ≤ q) (hq2 : q ≤ 2000) (h : 1562 * (faceN c true * p) < 1561 * (faceN d true * q)) :
    compareE (forceT c true p) (forceT d true q) = (-1, 0) := by
  rw [(force_good hc true hp1 hp2).compare (force_good hd true hq1 hq2)]
  unfold sureQ faceL faceH
  rw [if_pos]
  rw [by2, by2]
  exact ends_lt h
theorem grow_bore {c : Cyl} {p : Int} (hc : CylOk c) (hp1 : 1 ≤ p) (hp2 : p ≤ 2000) (hw : c.bore + (c.bore.tdiv 100 + 1) ≤ 500) :
    compareE (forceT c true p) (forceT ⟨c.bore + (c.bore.tdiv 100 + 1), c.rod, c.stroke⟩ true p) = (-1, 0) ∧ presE ⟨c.bore + (c.bore.tdiv 100 + 1), c.rod, c.stroke⟩ p = 0 := by
  have h1 := hundredth (b := c.bore) (by have := hc.b1; omega)
  have hb := hc.b1
  have hr := hc.r2
  have hd : CylOk ⟨c.bore + (c.bore.tdiv 100 + 1), c.rod, c.stroke⟩ := ⟨by show 1 ≤ _; dsimp only; omega, hw, hc.r1, by show _ < _; dsimp only; omega, hc.s1, hc.s2⟩
  refine ⟨force_wide hc hd hp1 hp2 hp1 hp2 ?_, ?_⟩
  · rw [faceN_out, faceN_out]
    exact wide_mul hb h1 hp1
  · exact pres_of hd hp1 hp2
theorem grow_press {c : Cyl} {p : Int} (hc : CylOk c) (hp1 : 1 ≤ p) (hw : p + p.tdiv 100 + 1 ≤ 2000) :
    compareE (forceT c true p) (forceT c true (p + p.tdiv 100 + 1)) = (-1, 0) := by
  have h1 := hundredth (b := p) (by omega)
  refine force_wide hc hc hp1 (by omega) (by omega) hw (press_mul (faceN_bd hc true).1 hp1 (by omega))
theorem back_order {c : Cyl} {p : Int} (hc : CylOk c) (hp1 : 1 ≤ p) (hp2 : p ≤ 2000) :
    ordQ (forceT c false p).1 (forceT c true p).1 ≤ 0 ∧ (ordQ (forceT c false p).1 (forceT c true p).1 = 0 ↔ c.rod = 0) := by
  have hb := (force_good hc false hp1 hp2).lo.val
  have hf := (force_good hc true hp1 hp2).lo.val
  have hr : 0 ≤ c.rod * c.rod := Int.mul_nonneg hc.r1 hc.r1
  have hn : faceN c false * p ≤ faceN c true * p ∧ (faceN c false * p = faceN c true * p ↔ c.rod = 0) := by
    have e1 : faceN c false = c.bore * c.bore - c.rod * c.rod := by unfold faceN; rw [if_neg (by simp)]
    have e2 := faceN_out c
    rw [e1, e2]
    have e3 : (c.bore * c.bore - c.rod * c.rod) * p = c.bore * c.bore * p - c.rod * c.rod * p := by grind
    have h0 : 0 ≤ c.rod * c.rod * p := Int.mul_nonneg hr (by omega)
    refine ⟨by omega, fun h => ?_, fun h => ?_⟩
    · have h1 : c.rod * c.rod * p = 0 := by omega
      rcases Int.mul_eq_zero.1 h1 with h2 | h2
      · rcases Int.mul_eq_zero.1 h2 with h3 | h3 <;> exact h3
      · omega
    · have h1 : c.rod * c.rod * p = 0 := by rw [h]; simp
      omega
  have key : ∀ m n : Int, (m ≤ n → (223 / 71 : Rat) * (m : Rat) / 4000 ≤ (223 / 71 : Rat) * (n : Rat) / 4000) ∧ ((223 / 71 : Rat) * (m : Rat) / 4000 = (223 / 71 : Rat) * (n : Rat) / 4000 → m = n) := fun m n => by
    refine ⟨fun h => ?_, fun h => ?_⟩
    · have h1 : (m : Rat) ≤ (n : Rat) := by exact_mod_cast h
      grind
    · have h1 : (m : Rat) = (n : Rat) := by grind
      exact_mod_cast h1
  unfold faceL at hb hf
  rw [by2] at hb hf
  refine ⟨?_, ?_⟩
  · rw [ord_le', hb, hf]
    exact (key _ _).1 hn.1
  · have e : ordQ (forceT c false p).1 (forceT c true p).1 = 0 ↔ fracQ (forceT c false p).1 = fracQ (forceT c true p).1 := by
      constructor
      · intro h
        have h1 := ord_le'.1 (Int.le_of_eq h)
        have h2 : ¬ ordQ (forceT c false p).1 (forceT c true p).1 < 0 := by omega
        rw [ord_lt] at h2
        grind
      · intro h
        have h1 : ordQ (forceT c false p).1 (forceT c true p).1 ≤ 0 := ord_le'.2 (by rw [h]; exact Rat.le_refl)
        have h2 : ¬ ordQ (forceT c false p).1 (forceT c true p).1 < 0 := by rw [ord_lt, h]; grind
        omega
    rw [e, hb, hf]
    exact ⟨fun h => hn.2.1 ((key _ _).2 h), fun h => by rw [hn.2.2 h]⟩
end Go.Proofs.YtlnonmmaknhppaaGreatDoor
namespace Go.Proofs.YtlnonmmaknhppaaGreatDoor
open Go.RowKit
set_option maxHeartbeats 2000000 in
theorem eOrder_any (a b : Txt) (w : World) (hG : Glob w) (ha : a.length ≤ 400) (hb : b.length ≤ 400) (h0 : bothE a b = 0) : Calls Tryz.prog 86 #[txt a, txt b] w fun e w' => e = .returned (.int .i64 (ordQ a b)) ∧ Ext w w' := by
  have HC := Lib.hid (compareF_any a b w hG ha hb)
  rw [cmp_good h0] at HC
  unfold IntP at HC
  clear hG h0
  generalize ordQ a b = z at *
  go_enter Tryz.func86, Tryz.ntmps86
  go_wp2_with (go_at_call 22; refine HC.out.mono ?_; rintro e w1 ⟨rfl, hE⟩)
  go_ret
  exact ⟨rfl, hE⟩
end Go.Proofs.YtlnonmmaknhppaaGreatDoor
namespace Go.Proofs.YtlnonmmaknhppaaGreatDoor
open Go.RowKit
set_option maxHeartbeats 4000000 in
set_option maxRecDepth 100000 in
theorem eCompare_any (a b : Enc) (w : World) (hG : Glob w) (hl : LenE a) (hm : LenE b) : Calls Tryz.prog 39 #[encV a, encV b] w (IntP (compareE a b).1 (compareE a b).2 w) := by
  have HB : Hid (∀ W (v : World) (n : Nat), n = v.heap.size → W = v.alloc (.cells #[txt a.1, txt a.2, txt b.1, txt b.2] 35) → Ext w W → Calls Tryz.prog 82 #[.slice (some ⟨n, 0, none⟩) 2 2] W fun e w' => e = .returned (.int .i64 (bothEE a b : Nat)) ∧ Ext W w') := fun W v n hn hW h => by
    rw [hn]
    have k := eChecked_any [a, b] (some ⟨v.heap.size, 0, none⟩) 2 W (hG.ext h) (by rw [hW]; exact pair_enc v a b _) (by simp) (fun x hx => by
      simp only [List.mem_cons, List.mem_nil_iff, or_false] at hx
      rcases hx with rfl | rfl
      · exact hl
      · exact hm)
    rw [firstEE_two] at k
    exact k
  unfold IntP
  by_cases e0 : bothEE a b = 0
  · obtain ⟨ea, eb⟩ := bothEE_two e0
    obtain ⟨f1, f2, _⟩ := enc_right ea
    obtain ⟨f3, f4, _⟩ := enc_right eb
    have HO1 := Lib.hid (fun W (h : Ext w W) => eOrder_any a.2 b.1 W (hG.ext h) hl.2 hm.1 (bothE_zero f2 f3))
    have HO2 := Lib.hid (fun W (h : Ext w W) => eOrder_any a.1 b.2 W (hG.ext h) hl.1 hm.2 (bothE_zero f1 f4))
    have HSU : Hid (compareE a b = ((if ordQ a.2 b.1 < 0 then -1 else if 0 < ordQ a.1 b.2 then 1 else 0), 0)) := by show _ = _; unfold compareE sureE; rw [if_neg (not_not_intro e0)]
    rw [e0] at HB
    clear e0 ea eb f1 f2 f3 f4 hl hm hG
    obtain ⟨l, h⟩ := a
    obtain ⟨m, k⟩ := b
    dsimp only [encV] at HB HO1 HO2 HSU ⊢
    have hne0 : (((0 : Nat) : Int) != 0) = false := rfl
    generalize ordQ h m = z1 at *
    generalize ordQ l k = z2 at *
    obtain ⟨C, hC⟩ : ∃ C, C = compareE (l, h) (m, k) := ⟨_, rfl⟩
    rw [← hC] at HSU ⊢
    clear hC
    by_cases h1 : z1 < 0
    · have HR : Hid (C = (-1, 0)) := by show _ = _; rw [HSU.out, if_pos h1]
      have c0 : (((w.alloc (.cells #[txt l, txt h] 35)).alloc (.cells #[txt m, txt k] 35)).alloc (.cells #[txt l, txt h, txt m, txt k] 35)).cell? ⟨w.heap.size, 0, none⟩ = some (txt l) := by go_simp
      have c1 : (((w.alloc (.cells #[txt l, txt h] 35)).alloc (.cells #[txt m, txt k] 35)).alloc (.cells #[txt l, txt h, txt m, txt k] 35)).cell? ⟨w.heap.size, 1, none⟩ = some (txt h) := by go_simp
      have c2 : (((w.alloc (.cells #[txt l, txt h] 35)).alloc (.cells #[txt m, txt k] 35)).alloc (.cells #[txt l, txt h, txt m, txt k] 35)).cell? ⟨w.heap.size + 1, 0, none⟩ = some (txt m) := by go_simp
      have c3 : (((w.alloc (.cells #[txt l, txt h] 35)).alloc (.cells #[txt m, txt k] 35)).alloc (.cells #[txt l, txt h, txt m, txt k] 35)).cell? ⟨w.heap.size + 1, 1, none⟩ = some (txt k) := by go_simp
      go_enter Tryz.func39, Tryz.ntmps39
      go_wp2_with (go_at_call 82; refine (HB.out _ ((w.alloc (.cells #[txt l, txt h] 35)).alloc (.cells #[txt m, txt k] 35)) _ (by simp) rfl extA).mono ?_; rintro e w3 ⟨rfl, hE3⟩; have c0 := hE3.cell c0; have c1 := hE3.cell c1; have c2 := hE3.cell c2; have c3 := hE3.cell c3)
      go_wp2_with (go_at_call 86; with_reducible refine (HO1.out _ extA).mono ?_; rintro e w1 ⟨rfl, hE1⟩; have c0 := hE1.cell c0; have c1 := hE1.cell c1; have c2 := hE1.cell c2; have c3 := hE1.cell c3)
      go_ret2
      exact ⟨by rw [HR.out]; rfl, extA⟩
    · by_cases h2 : 0 < z2
      · have HR : Hid (C = (1, 0)) := by show _ = _; rw [HSU.out, if_neg h1, if_pos h2]
        have c0 : (((w.alloc (.cells #[txt l, txt h] 35)).alloc (.cells #[txt m, txt k] 35)).alloc (.cells #[txt l, txt h, txt m, txt k] 35)).cell? ⟨w.heap.size, 0, none⟩ = some (txt l) := by go_simp
        have c1 : (((w.alloc (.cells #[txt l, txt h] 35)).alloc (.cells #[txt m, txt k] 35)).alloc (.cells #[txt l, txt h, txt m, txt k] 35)).cell? ⟨w.heap.size, 1, none⟩ = some (txt h) := by go_simp
        have c2 : (((w.alloc (.cells #[txt l, txt h] 35)).alloc (.cells #[txt m, txt k] 35)).alloc (.cells #[txt l, txt h, txt m, txt k] 35)).cell? ⟨w.heap.size + 1, 0, none⟩ = some (txt m) := by go_simp
        have c3 : (((w.alloc (.cells #[txt l, txt h] 35)).alloc (.cells #[txt m, txt k] 35)).alloc (.cells #[txt l, txt h, txt m, txt k] 35)).cell? ⟨w.heap.size + 1, 1, none⟩ = some (txt k) := by go_simp
        go_enter Tryz.func39, Tryz.ntmps39
        go_wp2_with (go_at_call 82; refine (HB.out _ ((w.alloc (.cells #[txt l, txt h] 35)).alloc (.cells #[txt m, txt k] 35)) _ (by simp) rfl extA).mono ?_; rintro e w3 ⟨rfl, hE3⟩; have c0 := hE3.cell c0; have c1 := hE3.cell c1; have c2 := hE3.cell c2; have c3 := hE3.cell c3)
        go_wp2_with (go_at_call 86; with_reducible refine (HO1.out _ extA).mono ?_; rintro e w1 ⟨rfl, hE1⟩; have c0 := hE1.cell c0; have c1 := hE1.cell c1; have c2 := hE1.cell c2; have c3 := hE1.cell c3)
        go_wp2_with (go_at_call 86; with_reducible refine (HO2.out _ extA).mono ?_; rintro e w2 ⟨rfl, hE2⟩; skip)
        go_ret2
        exact ⟨by rw [HR.out]; rfl, extA⟩
      · have HR : Hid (C = (0, 0)) := by show _ = _; rw [HSU.out, if_neg h1, if_neg h2]
        have c0 : (((w.alloc (.cells #[txt l, txt h] 35)).alloc (.cells #[txt m, txt k] 35)).alloc (.cells #[txt l, txt h, txt m, txt k] 35)).cell? ⟨w.heap.size, 0, none⟩ = some (txt l) := by go_simp
        have c1 : (((w.alloc (.cells #[txt l, txt h] 35)).alloc (.cells #[txt m, txt k] 35)).alloc (.cells #[txt l, txt h, txt m, txt k] 35)).cell? ⟨w.heap.size, 1, none⟩ = some (txt h) := by go_simp
        have c2 : (((w.alloc (.cells #[txt l, txt h] 35)).alloc (.cells #[txt m, txt k] 35)).alloc (.cells #[txt l, txt h, txt m, txt k] 35)).cell? ⟨w.heap.size + 1, 0, none⟩ = some (txt m) := by go_simp
        have c3 : (((w.alloc (.cells #[txt l, txt h] 35)).alloc (.cells #[txt m, txt k] 35)).alloc (.cells #[txt l, txt h, txt m, txt k] 35)).cell? ⟨w.heap.size + 1, 1, none⟩ = some (txt k) := by go_simp
        go_enter Tryz.func39, Tryz.ntmps39
        go_wp2_with (go_at_call 82; refine (HB.out _ ((w.alloc (.cells #[txt l, txt h] 35)).alloc (.cells #[txt m, txt k] 35)) _ (by simp) rfl extA).mono ?_; rintro e w3 ⟨rfl, hE3⟩; have c0 := hE3.cell c0; have c1 := hE3.cell c1; have c2 := hE3.cell c2; have c3 := hE3.cell c3)
        go_wp2_with (go_at_call 86; with_reducible refine (HO1.out _ extA).mono ?_; rintro e w1 ⟨rfl, hE1⟩; have c0 := hE1.cell c0; have c1 := hE1.cell c1; have c2 := hE1.cell c2; have c3 := hE1.cell c3)
        go_wp2_with (go_at_call 86; with_reducible refine (HO2.out _ extA).mono ?_; rintro e w2 ⟨rfl, hE2⟩; skip)
        go_ret2
        exact ⟨by rw [HR.out]; rfl, extA⟩
  · have HR : Hid (compareE a b = (0, bothEE a b)) := by show _ = _; unfold compareE; rw [if_pos e0]
    have hne : (((bothEE a b : Nat) : Int) != 0) = true := by rw [bne_iff_ne]; omega
    rw [HR.out]
    clear e0 HR hl hm hG
    generalize bothEE a b = n at *
    obtain ⟨l, h⟩ := a
    obtain ⟨m, k⟩ := b
    dsimp only [encV] at HB ⊢
    go_enter Tryz.func39, Tryz.ntmps39
    go_wp2_with (go_at_call 82; refine (HB.out _ ((w.alloc (.cells #[txt l, txt h] 35)).alloc (.cells #[txt m, txt k] 35)) _ (by simp) rfl extA).mono ?_; rintro e w3 ⟨rfl, hE3⟩; skip)
    go_ret2
    exact ⟨rfl, extA⟩
end Go.Proofs.YtlnonmmaknhppaaGreatDoor
namespace Go.Proofs.YtlnonmmaknhppaaGreatDoor
open Go.ChangeShapes Go.WideShapes Go.ChangeAt Go.RowKit
theorem own : ownKnob Tryz.prog.godebug = none := by kernel_rfl
theorem gTab : Tryz.prog.globalNamed "internal/strconv.uint64pow10" = some 0 := by kernel_rfl
theorem gTabT : (Tryz.prog.globals[0]?).map (·.type) = some 269 := by kernel_rfl
theorem cellsTab : Tryz.prog.cellsOf 269 = 20 := by kernel_rfl
theorem cellsU64 : Tryz.prog.cellsOf 159 = 1 := by kernel_rfl
theorem gRng : Tryz.prog.globalNamed "strconv.ErrRange" = some 5 := by kernel_rfl
theorem gRngT : (Tryz.prog.globals[5]?).map (·.type) = some 229 := by kernel_rfl
theorem gSyn : Tryz.prog.globalNamed "strconv.ErrSyntax" = some 4 := by kernel_rfl
theorem gSynT : (Tryz.prog.globals[4]?).map (·.type) = some 229 := by kernel_rfl
theorem starE : "*" ++ "errors.errorString" = "*errors.errorString" := by decide
theorem rowE (u : TypeId) (h : Tryz.prog.typeName? 3 u = some "*errors.errorString") : u = 300 :=
  typeName_ptr_named (nm := "errors.errorString") (by rw [starE]; kernel_rfl) (by kernel_rfl) (by decide) u (by rw [starE]; exact h)
theorem cellsErr : Tryz.prog.cellsOf 302 = 1 := by kernel_rfl
theorem cellsStr : Tryz.prog.cellsOf 9 = 1 := by kernel_rfl
theorem glob_of {W : World} (hs : W.ShapedOpen Tryz.prog) (hL : laidMetH Tryz.prog Rows.airMeasuresRow.laid W) : Glob W := by
  have hP : laidMet Tryz.prog Rows.airMeasuresRow.laid W := by
    rw [← MakeChecks.laidMetH_plain _ _ _ (by kernel_rfl)]; exact hL
  have hP2 := hP.tail.tail
  have hP4 := hP2.tail.tail
  have hP5 := hP4.tail
  obtain ⟨a0, _, h0, _⟩ := laid_sentinel hP4 gRng gRngT Tryz.underlying229 rowE Tryz.underlying300 Tryz.underlying302 rfl rfl Tryz.underlying9 cellsErr cellsStr
  obtain ⟨a1, _, h1, _⟩ := laid_sentinel hP5 gSyn gSynT Tryz.underlying229 rowE Tryz.underlying300 Tryz.underlying302 rfl rfl Tryz.underlying9 cellsErr cellsStr
  exact ⟨cell_of_shapedOpen_int (zero := #[.int .i64 0]) (t := 3) hs (of_decide_eq_true (by kernel_rfl)) (by kernel_rfl) rfl (by kernel_rfl) (by kernel_rfl) Tryz.underlying3,
    Lib.tabIs_of_head gTab gTabT Tryz.underlying269 Tryz.underlying159 cellsU64 cellsTab hP2, ⟨_, _, h1⟩, ⟨_, _, h0⟩⟩
def flatD : Nat → DataW Unit → List Value
  | _ + 1, .lit (.int k z) => [.int k z]
  | n + 1, .agg ds => ds.flatMap (flatD n)
  | _, _ => []
def putC (cs : List Value) : Obj → Obj
  | .cells _ t frozen => .cells ⟨cs⟩ t frozen
  | o => o
noncomputable def lowB : Nat := (World.holding Tryz.prog default ⟨#[], #[], []⟩).heap.size
def rngS : ByteArray := ⟨#[118, 97, 108, 117, 101, 32, 111, 117, 116, 32, 111, 102, 32, 114, 97, 110, 103, 101]⟩
def synS : ByteArray := ⟨#[105, 110, 118, 97, 108, 105, 100, 32, 115, 121, 110, 116, 97, 120]⟩
noncomputable def laidWorld (os : Os) : World :=
  let w0 := World.holding Tryz.prog os ⟨#[.cells #[.string rngS] 302, .cells #[.string synS] 302], #[], []⟩
  { w0 with heap := (((((((w0.heap.modify 6 (putC (flatD 3 Rows.laid_math_bits_deBruijn32tab))).modify 7 (putC (flatD 3 Rows.laid_math_bits_deBruijn64tab))).modify
      0 (putC (flatD 3 Rows.laid_internal_strconv_uint64pow10))).modify 3 (putC (flatD 3 Rows.laid_unicode_utf8_acceptRanges))).modify
      5 (putC [.iface 300 (.pointer (some ⟨lowB, 0, none⟩))])).modify 4 (putC [.iface 300 (.pointer (some ⟨lowB + 1, 0, none⟩))])).modify
      2 (putC (flatD 3 Rows.laid_unicode_utf8_first))) }
theorem laid_met (os : Os) (args : Array Value) : laidMet Tryz.prog Rows.airMeasuresRow.laid ((laidWorld os).forCall (fun _ _ => 0) ⟨#[], args, []⟩).memory :=
  laidMet_of_run' 8 (by kernel_rfl) (by kernel_rfl)
end Go.Proofs.YtlnonmmaknhppaaGreatDoor
namespace Go.Proofs.YtlnonmmaknhppaaGreatDoor
open Go.RowKit Go.ChangeShapes Go.WideShapes Go.Joins Go.Deep
theorem laidOut : laidOutB Tryz.prog = true := by kernel_rfl
section
variable {H : Type} {enc : TypeId × Value → H} {w : World} {base : Nat} {spare : Nat → Bool} {held : Bool}
theorem i64_bd {n : Int} (h : (Lit.int .i64 n).wf = true) : -9223372036854775808 ≤ n ∧ n ≤ 9223372036854775807 := by
  simp only [Lit.wf, Bool.and_eq_true, decide_eq_true_eq] at h
  exact h
set_option maxRecDepth 100000 in
theorem open_cyl {r : Reach} {b0 : Nat} {v : Value} {d : DataW H} {p : List MemPlace} (hv : Value.okWide Tryz.prog w r b0 46 v) (h : DataW.Trod enc Tryz.prog w base spare held 46 v d p) :
    ∃ c : Cyl, v = cylV c ∧ Cyl64 c := by
  obtain ⟨c0, c1, c2, y0, y1, y2, n, rfl, _, _, h0, h1, h2⟩ := open_agg3 Tryz.underlying46 (by kernel_rfl) (by kernel_rfl) hv h
  obtain ⟨x0, e0, _, k0⟩ := DataW.trod_int Tryz.underlying3 h0
  obtain ⟨x1, e1, _, _⟩ := DataW.trod_int Tryz.underlying3 h1
  obtain ⟨x2, e2, _, _⟩ := DataW.trod_int Tryz.underlying3 h2
  simp at e0 e1 e2
  subst e0; subst e1; subst e2
  exact ⟨⟨x0, x1, x2⟩, rfl, i64_bd k0⟩
end
end Go.Proofs.YtlnonmmaknhppaaGreatDoor
namespace Go.Proofs.YtlnonmmaknhppaaGreatDoor
open Go.RowKit Go.ChangeShapes Go.WideShapes Go.ChangeAt
theorem band {a b : Bool} (h : a = true) (k : b = true) : (a && b) = true := by rw [h, k]; rfl
theorem factLaid : laidOutB Tryz.pinned.checked.prog = true := by kernel_rfl
theorem factMaps : mapsRowed Tryz.pinned.checked.prog = true := by kernel_rfl
theorem factHeard : Tryz.pinned.checked.prog.stopsHeard = true := by kernel_rfl
theorem factEnter : Tryz.pinned.checked.prog.mayEnter = true := by kernel_rfl
theorem factLifts : (Rows.airMeasuresRow.lifted == Tryz.pinned.checked.prog.liftsFinal) = true := by kernel_rfl
theorem factMake : (Tryz.pinned.checked.prog.make == some Rows.airMeasuresRow.make) = true := by kernel_rfl
theorem factKeys : (Rows.airMeasuresRow.plainKeys == Tryz.pinned.checked.prog.plainKeys) = true := by kernel_rfl
end Go.Proofs.YtlnonmmaknhppaaGreatDoor
namespace Go.Proofs.YtlnonmmaknhppaaGreatDoor
open Go.RowKit
theorem grows {c : Cyl} {p : Int} (hc : CylOk c) (hp1 : 1 ≤ p) (hp2 : p ≤ 2000) :
    (forceS c true p = (forceT c true p, 0) ∧ LenE (forceT c true p)) ∧
    (c.bore + (c.bore.tdiv 100 + 1) ≤ 500 → forceS ⟨c.bore + (c.bore.tdiv 100 + 1), c.rod, c.stroke⟩ true p = (forceT ⟨c.bore + (c.bore.tdiv 100 + 1), c.rod, c.stroke⟩ true p, 0) ∧ LenE (forceT ⟨c.bore + (c.bore.tdiv 100 + 1), c.rod, c.stroke⟩ true p) ∧ compareE (forceT c true p) (forceT ⟨c.bore + (c.bore.tdiv 100 + 1), c.rod, c.stroke⟩ true p) = (-1, 0)) ∧
    (p + p.tdiv 100 + 1 ≤ 2000 → forceS c true (p + p.tdiv 100 + 1) = (forceT c true (p + p.tdiv 100 + 1), 0) ∧ LenE (forceT c true (p + p.tdiv 100 + 1)) ∧ compareE (forceT c true p) (forceT c true (p + p.tdiv 100 + 1)) = (-1, 0)) ∧
    forceS c false p = (forceT c false p, 0) ∧ LenE (forceT c false p) ∧ cmpS (forceT c false p).1 (forceT c true p).1 = (ordQ (forceT c false p).1 (forceT c true p).1, 0) := by
  have fs : ∀ (c : Cyl) out p, presE c p = 0 → forceS c out p = (forceT c out p, 0) := fun c out p h => by unfold forceS; rw [if_neg (not_not_intro h)]
  have hh := hundredth (b := p) (by omega)
  refine ⟨⟨fs _ _ _ (pres_of hc hp1 hp2), (force_good hc true hp1 hp2).len⟩, fun hw => ?_, fun hw => ?_, fs _ _ _ (pres_of hc hp1 hp2), (force_good hc false hp1 hp2).len, ?_⟩
  · obtain ⟨h1, h2⟩ := grow_bore hc hp1 hp2 hw
    obtain ⟨h3, _, _⟩ := presOk_of h2
    exact ⟨fs _ _ _ h2, (force_good h3 true hp1 hp2).len, h1⟩
  · exact ⟨fs _ _ _ (pres_of hc (by omega) hw), (force_good hc true (by omega) hw).len, grow_press hc hp1 hw⟩
  · exact cmp_good (bothE_zero (force_good hc false hp1 hp2).lo.ok (force_good hc true hp1 hp2).lo.ok)
set_option maxHeartbeats 16000000 in
set_option maxRecDepth 100000 in
theorem lawGrows_any (c : Cyl) (p : Int) (w : World) (hG : Glob w) (h64 : Cyl64 c) (hp64 : -9223372036854775808 ≤ p ∧ p ≤ 9223372036854775807) : Calls Tryz.prog 9 #[cylV c, .int .i64 p] w fun e w' => e = .returned (.bool true) ∧ Ext w w' := by
  have HG := Lib.hid hG
  have HA := Lib.hid (fun W (g : Ext w W) => awake5_any W (HG.out.ext g))
  have HS := Lib.hid (fun (c : Cyl) W => sent_any c W)
  have Y3 := Lib.hid (fun W => rCheck5_any c W h64)
  have X1 := fun (c : Cyl) out p W (g : Ext w W) => aForce_any c out p W (HG.out.ext g)
  have HC := fun (a b : Enc) W (g : Ext w W) (hl : LenE a) (hm : LenE b) => eCompare_any a b W (HG.out.ext g) hl hm
  have HF := fun (a b : Txt) W (g : Ext w W) (hl : a.length ≤ 400) (hm : b.length ≤ 400) => compareF_any a b W (HG.out.ext g) hl hm
  obtain ⟨n, hn⟩ : ∃ n, n = cylE c := ⟨_, rfl⟩
  rw [← hn] at Y3
  unfold EncP at X1
  unfold IntP at HC HF
  obtain ⟨b, r, s⟩ := c
  dsimp only [encV, cylV] at HS X1 Y3 HC ⊢
  replace X1 := Lib.hid X1
  replace HC := Lib.hid HC
  replace HF := Lib.hid HF
  clear hG h64
  have C : CylAt w.heap.size (w.alloc (.cells #[.int .i64 b, .int .i64 r, .int .i64 s] 46)) b r s := ⟨by go_simp, by go_simp, by go_simp⟩
  have E : Ext w (w.alloc (.cells #[.int .i64 b, .int .i64 r, .int .i64 s] 46)) := extA
  go_enter Tryz.func9, Tryz.ntmps9
  go_wp2_with fail
  generalize (w.alloc (.cells #[.int .i64 b, .int .i64 r, .int .i64 s] 46)) = w0 at C E ⊢
  refine (Y3.out _).mono ?_
  rintro e w1 ⟨rfl, hE⟩
  replace E := E.trans hE
  replace C := C.ext hE
  clear hE
  by_cases hgood : n = 0 ∧ 1 ≤ p ∧ p ≤ 2000
  case neg =>
    obtain ⟨c0, c1, c2⟩ := C
    have zc := cell_lt c0
    dsimp only at zc
    rcases (show n ≠ 0 ∨ (n = 0 ∧ p < 1) ∨ (n = 0 ∧ ¬ p < 1 ∧ 2000 < p) by omega) with h1 | ⟨h0, h1⟩ | ⟨h0, h1, h2⟩
    · have h1' : ¬ ((n : Int) = 0) := by omega
      clear hgood hn
      go_wp2_with (go_at_call 13; refine (HA.out _ E).mono ?_; rintro e w2 ⟨rfl, hE⟩)
      go_ret
      exact ⟨rfl, E.trans hE⟩
    all_goals
      clear hgood hn
      subst h0
      go_wp2_with (go_at_call 13; refine (HA.out _ E).mono ?_; rintro e w2 ⟨rfl, hE⟩)
      go_ret
      exact ⟨rfl, E.trans hE⟩
  case pos =>
    obtain ⟨h0, hp1, hp2⟩ := hgood
    have hok := cylOk_of (hn.symm.trans h0)
    subst h0
    clear hn
    have GR := grows hok hp1 hp2
    have BO := (back_order hok hp1 hp2)
    dsimp only at GR BO
    have b1 : 1 ≤ b := hok.b1
    have b2 : b ≤ 500 := hok.b2
    have q1 : IntKind.i64.wrap (p.tdiv 100) = p.tdiv 100 := IntWalk.i64_in _ (by rw [Int.tdiv_eq_ediv_of_nonneg (by omega)]; omega)
    have q2 : IntKind.i64.wrap (p + p.tdiv 100) = p + p.tdiv 100 := IntWalk.i64_in _ (by rw [Int.tdiv_eq_ediv_of_nonneg (by omega)]; omega)
    have q3 : IntKind.i64.wrap (p + p.tdiv 100 + 1) = p + p.tdiv 100 + 1 := IntWalk.i64_in _ (by rw [Int.tdiv_eq_ediv_of_nonneg (by omega)]; omega)
    have q4 : IntKind.i64.wrap (b.tdiv 100) = b.tdiv 100 := IntWalk.i64_in _ (by rw [Int.tdiv_eq_ediv_of_nonneg (by omega)]; omega)
    have q5 : IntKind.i64.wrap (b.tdiv 100 + 1) = b.tdiv 100 + 1 := IntWalk.i64_in _ (by rw [Int.tdiv_eq_ediv_of_nonneg (by omega)]; omega)
    have q6 : IntKind.i64.wrap (b + (b.tdiv 100 + 1)) = b + (b.tdiv 100 + 1) := IntWalk.i64_in _ (by rw [Int.tdiv_eq_ediv_of_nonneg (by omega)]; omega)
    have hn1 : ¬ p < 1 := by omega
    have hn2 : ¬ 2000 < p := by omega
    have T1 := X1.out ⟨b, r, s⟩ true p
    have T2 := X1.out ⟨b + (b.tdiv 100 + 1), r, s⟩ true p
    have T3 := X1.out ⟨b, r, s⟩ true (p + p.tdiv 100 + 1)
    have T4 := X1.out ⟨b, r, s⟩ false p
    have K2 := HC.out (forceT ⟨b, r, s⟩ true p) (forceT ⟨b + (b.tdiv 100 + 1), r, s⟩ true p)
    have K3 := HC.out (forceT ⟨b, r, s⟩ true p) (forceT ⟨b, r, s⟩ true (p + p.tdiv 100 + 1))
    have K4 := HF.out (forceT ⟨b, r, s⟩ false p).1 (forceT ⟨b, r, s⟩ true p).1
    clear X1 HC HF
    generalize forceS ⟨b, r, s⟩ true p = S1 at T1 GR
    generalize forceS ⟨b + (b.tdiv 100 + 1), r, s⟩ true p = S2 at T2 GR
    generalize forceS ⟨b, r, s⟩ true (p + p.tdiv 100 + 1) = S3 at T3 GR
    generalize forceS ⟨b, r, s⟩ false p = S4 at T4 GR
    generalize forceT ⟨b, r, s⟩ true p = Fo at K2 K3 K4 GR BO
    generalize forceT ⟨b + (b.tdiv 100 + 1), r, s⟩ true p = Go' at K2 GR
    generalize forceT ⟨b, r, s⟩ true (p + p.tdiv 100 + 1) = Po at K3 GR
    generalize forceT ⟨b, r, s⟩ false p = Bo at K4 GR BO
    obtain ⟨u1, v1⟩ := Fo
    obtain ⟨u2, v2⟩ := Go'
    obtain ⟨u3, v3⟩ := Po
    obtain ⟨u4, v4⟩ := Bo
    obtain ⟨⟨gr1, gl1⟩, gr2, gr3, gr4, gl4, gk4⟩ := GR
    dsimp only at K2 K3 K4 gk4 BO
    rw [gk4] at K4
    generalize ordQ u4 u1 = m at K4 BO
    have K4' := fun W g => K4 W g gl4.1 gl1.1
    have K2' := fun W g (h : b + (b.tdiv 100 + 1) ≤ 500) => K2 W g gl1 (gr2 h).2.1
    have K3' := fun W g (h : p + p.tdiv 100 + 1 ≤ 2000) => K3 W g gl1 (gr3 h).2.1
    have S2e := fun (h : b + (b.tdiv 100 + 1) ≤ 500) => (gr2 h).1
    have S3e := fun (h : p + p.tdiv 100 + 1 ≤ 2000) => (gr3 h).1
    have K2e := fun (h : b + (b.tdiv 100 + 1) ≤ 500) => (gr2 h).2.2
    have K3e := fun (h : p + p.tdiv 100 + 1 ≤ 2000) => (gr3 h).2.2
    subst gr1; subst gr4
    clear K2 K3 K4 gl1 gl4 gk4 gr2 gr3 hok hp64
    dsimp only at T1 T4 K4'
    replace T1 := Lib.hid T1
    replace T2 := Lib.hid T2
    replace T3 := Lib.hid T3
    replace T4 := Lib.hid T4
    replace K2' := Lib.hid K2'
    replace K3' := Lib.hid K3'
    replace K4' := Lib.hid K4'
    replace S2e := Lib.hid S2e
    replace S3e := Lib.hid S3e
    replace K2e := Lib.hid K2e
    replace K3e := Lib.hid K3e
    replace BO := Lib.hid BO
    have C' := C
    obtain ⟨c0, c1, c2⟩ := C'
    have zc := cell_lt c0
    dsimp only at zc
    go_wp2_with fail
    clear c0 c1 c2 zc
    refine (HS.out ⟨b, r, s⟩ _).mono ?_
    rintro e w2 ⟨rfl, hE⟩
    replace E := E.trans hE
    replace C := C.ext hE
    clear hE
    have C' := C
    obtain ⟨c0, c1, c2⟩ := C'
    have zc := cell_lt c0
    dsimp only at zc
    go_wp2_with fail
    clear c0 c1 c2 zc
    refine (T1.out _ E).mono ?_
    rintro e w3 ⟨rfl, hE⟩
    replace E := E.trans hE
    replace C := C.ext hE
    clear hE
    by_cases hw : b + (b.tdiv 100 + 1) ≤ 500
    case pos =>
      have C' := C
      obtain ⟨c0, c1, c2⟩ := C'
      have zc := cell_lt c0
      dsimp only at zc
      go_wp2_with fail
      clear c0 c1 c2 zc
      have A : EncAt w3.heap.size ((w3.alloc (.cells #[txt u1, txt v1] 35)).alloc (.cells #[.int .i64 (b + (b.tdiv 100 + 1)), .int .i64 r, .int .i64 s] 46)) u1 v1 := ⟨by go_simp, by go_simp, by go_simp, by go_simp⟩
      have D : CylAt (w3.heap.size + 1) ((w3.alloc (.cells #[txt u1, txt v1] 35)).alloc (.cells #[.int .i64 (b + (b.tdiv 100 + 1)), .int .i64 r, .int .i64 s] 46)) (b + (b.tdiv 100 + 1)) r s := ⟨by go_simp, by go_simp, by go_simp⟩
      have EA : Ext w3 ((w3.alloc (.cells #[txt u1, txt v1] 35)).alloc (.cells #[.int .i64 (b + (b.tdiv 100 + 1)), .int .i64 r, .int .i64 s] 46)) := extA
      replace C := C.ext EA
      replace E := E.trans EA
      clear EA
      obtain ⟨k3, hk3⟩ : ∃ k, k = w3.heap.size := ⟨_, rfl⟩
      rw [← hk3] at A D ⊢
      clear hk3
      generalize ((w3.alloc (.cells #[txt u1, txt v1] 35)).alloc (.cells #[.int .i64 (b + (b.tdiv 100 + 1)), .int .i64 r, .int .i64 s] 46)) = w4 at C A D E ⊢
      refine (HS.out ⟨(b + (b.tdiv 100 + 1)), r, s⟩ _).mono ?_
      rintro e w5 ⟨rfl, hE⟩
      replace E := E.trans hE
      replace C := C.ext hE
      replace A := A.ext hE
      replace D := D.ext hE
      clear hE
      have T2' := T2.out
      rw [S2e.out hw] at T2'
      replace T2' := Lib.hid T2'
      have C' := C
      obtain ⟨c0, c1, c2⟩ := C'
      have zc := cell_lt c0
      dsimp only at zc
      have A' := A
      obtain ⟨A0, A1, A2, A3⟩ := A'
      have zA := cell_lt A0
      dsimp only at zA
      have D' := D
      obtain ⟨D0, D1, D2⟩ := D'
      have zD := cell_lt D0
      dsimp only at zD
      go_wp2_with fail
      clear c0 c1 c2 zc A0 A1 A2 A3 zA D0 D1 D2 zD
      refine (T2'.out _ E).mono ?_
      rintro e w6 ⟨rfl, hE⟩
      replace E := E.trans hE
      replace C := C.ext hE
      replace A := A.ext hE
      replace D := D.ext hE
      clear hE
      have C' := C
      obtain ⟨c0, c1, c2⟩ := C'
      have zc := cell_lt c0
      dsimp only at zc
      have A' := A
      obtain ⟨A0, A1, A2, A3⟩ := A'
      have zA := cell_lt A0
      dsimp only at zA
      have D' := D
      obtain ⟨D0, D1, D2⟩ := D'
      have zD := cell_lt D0
      dsimp only at zD
      go_wp2_with fail
      clear c0 c1 c2 zc A0 A1 A2 A3 zA D0 D1 D2 zD
      have G : EncAt w6.heap.size (w6.alloc (.cells #[txt u2, txt v2] 35)) u2 v2 := ⟨by go_simp, by go_simp, by go_simp, by go_simp⟩
      have EA : Ext w6 (w6.alloc (.cells #[txt u2, txt v2] 35)) := extA
      replace C := C.ext EA
      replace A := A.ext EA
      replace D := D.ext EA
      replace E := E.trans EA
      clear EA
      obtain ⟨k6, hk6⟩ : ∃ k, k = w6.heap.size := ⟨_, rfl⟩
      rw [← hk6] at G ⊢
      clear hk6
      generalize (w6.alloc (.cells #[txt u2, txt v2] 35)) = w7 at C A D G E ⊢
      have K2'' := K2'.out
      rw [K2e.out hw] at K2''
      replace K2'' := Lib.hid K2''
      refine (K2''.out _ E hw).mono ?_
      rintro e w8 ⟨rfl, hE⟩
      replace E := E.trans hE
      replace C := C.ext hE
      replace A := A.ext hE
      replace D := D.ext hE
      replace G := G.ext hE
      clear hE
      clear G
      by_cases hpr : p + p.tdiv 100 + 1 ≤ 2000
      case pos =>
        have C' := C
        obtain ⟨c0, c1, c2⟩ := C'
        have zc := cell_lt c0
        dsimp only at zc
        have A' := A
        obtain ⟨A0, A1, A2, A3⟩ := A'
        have zA := cell_lt A0
        dsimp only at zA
        have D' := D
        obtain ⟨D0, D1, D2⟩ := D'
        have zD := cell_lt D0
        dsimp only at zD
        go_wp2_with fail
        clear c0 c1 c2 zc A0 A1 A2 A3 zA D0 D1 D2 zD
        refine (HS.out ⟨b, r, s⟩ _).mono ?_
        rintro e w9 ⟨rfl, hE⟩
        replace E := E.trans hE
        replace C := C.ext hE
        replace A := A.ext hE
        replace D := D.ext hE
        clear hE
        have T3' := T3.out
        rw [S3e.out hpr] at T3'
        replace T3' := Lib.hid T3'
        have C' := C
        obtain ⟨c0, c1, c2⟩ := C'
        have zc := cell_lt c0
        dsimp only at zc
        have A' := A
        obtain ⟨A0, A1, A2, A3⟩ := A'
        have zA := cell_lt A0
        dsimp only at zA
        have D' := D
        obtain ⟨D0, D1, D2⟩ := D'
        have zD := cell_lt D0
        dsimp only at zD
        go_wp2_with fail
        clear c0 c1 c2 zc A0 A1 A2 A3 zA D0 D1 D2 zD
        refine (T3'.out _ E).mono ?_
        rintro e w10 ⟨rfl, hE⟩
        replace E := E.trans hE
        replace C := C.ext hE
        replace A := A.ext hE
        replace D := D.ext hE
        clear hE
        have C' := C
        obtain ⟨c0, c1, c2⟩ := C'
        have zc := cell_lt c0
        dsimp only at zc
        have A' := A
        obtain ⟨A0, A1, A2, A3⟩ := A'
        have zA := cell_lt A0
        dsimp only at zA
        have D' := D
        obtain ⟨D0, D1, D2⟩ := D'
        have zD := cell_lt D0
        dsimp only at zD
        go_wp2_with fail
        clear c0 c1 c2 zc A0 A1 A2 A3 zA D0 D1 D2 zD
        have P : EncAt w10.heap.size (w10.alloc (.cells #[txt u3, txt v3] 35)) u3 v3 := ⟨by go_simp, by go_simp, by go_simp, by go_simp⟩
        have EA : Ext w10 (w10.alloc (.cells #[txt u3, txt v3] 35)) := extA
        replace C := C.ext EA
        replace A := A.ext EA
        replace D := D.ext EA
        replace E := E.trans EA
        clear EA
        obtain ⟨k10, hk10⟩ : ∃ k, k = w10.heap.size := ⟨_, rfl⟩
        rw [← hk10] at P ⊢
        clear hk10
        generalize (w10.alloc (.cells #[txt u3, txt v3] 35)) = w11 at C A D P E ⊢
        have K3'' := K3'.out
        rw [K3e.out hpr] at K3''
        replace K3'' := Lib.hid K3''
        refine (K3''.out _ E hpr).mono ?_
        rintro e w12 ⟨rfl, hE⟩
        replace E := E.trans hE
        replace C := C.ext hE
        replace A := A.ext hE
        replace D := D.ext hE
        replace P := P.ext hE
        clear hE
        clear P
        have C' := C
        obtain ⟨c0, c1, c2⟩ := C'
        have zc := cell_lt c0
        dsimp only at zc
        have A' := A
        obtain ⟨A0, A1, A2, A3⟩ := A'
        have zA := cell_lt A0
        dsimp only at zA
        have D' := D
        obtain ⟨D0, D1, D2⟩ := D'
        have zD := cell_lt D0
        dsimp only at zD
        go_wp2_with fail
        clear c0 c1 c2 zc A0 A1 A2 A3 zA D0 D1 D2 zD
        refine (HS.out ⟨b, r, s⟩ _).mono ?_
        rintro e w13 ⟨rfl, hE⟩
        replace E := E.trans hE
        replace C := C.ext hE
        replace A := A.ext hE
        replace D := D.ext hE
        clear hE
        have C' := C
        obtain ⟨c0, c1, c2⟩ := C'
        have zc := cell_lt c0
        dsimp only at zc
        have A' := A
        obtain ⟨A0, A1, A2, A3⟩ := A'
        have zA := cell_lt A0
        dsimp only at zA
        have D' := D
        obtain ⟨D0, D1, D2⟩ := D'
        have zD := cell_lt D0
        dsimp only at zD
        go_wp2_with fail
        clear c0 c1 c2 zc A0 A1 A2 A3 zA D0 D1 D2 zD
        refine (T4.out _ E).mono ?_
        rintro e w14 ⟨rfl, hE⟩
        replace E := E.trans hE
        replace C := C.ext hE
        replace A := A.ext hE
        replace D := D.ext hE
        clear hE
        have C' := C
        obtain ⟨c0, c1, c2⟩ := C'
        have zc := cell_lt c0
        dsimp only at zc
        have A' := A
        obtain ⟨A0, A1, A2, A3⟩ := A'
        have zA := cell_lt A0
        dsimp only at zA
        have D' := D
        obtain ⟨D0, D1, D2⟩ := D'
        have zD := cell_lt D0
        dsimp only at zD
        go_wp2_with fail
        clear c0 c1 c2 zc A0 A1 A2 A3 zA D0 D1 D2 zD
        have B : EncAt w14.heap.size (w14.alloc (.cells #[txt u4, txt v4] 35)) u4 v4 := ⟨by go_simp, by go_simp, by go_simp, by go_simp⟩
        have EA : Ext w14 (w14.alloc (.cells #[txt u4, txt v4] 35)) := extA
        replace C := C.ext EA
        replace A := A.ext EA
        replace D := D.ext EA
        replace E := E.trans EA
        clear EA
        obtain ⟨k14, hk14⟩ : ∃ k, k = w14.heap.size := ⟨_, rfl⟩
        rw [← hk14] at B ⊢
        clear hk14
        generalize (w14.alloc (.cells #[txt u4, txt v4] 35)) = w15 at C A D B E ⊢
        refine (K4'.out _ E).mono ?_
        rintro e w16 ⟨rfl, hE⟩
        replace E := E.trans hE
        replace C := C.ext hE
        replace A := A.ext hE
        replace D := D.ext hE
        replace B := B.ext hE
        clear hE
        obtain ⟨bo1, bo2⟩ := BO.out
        clear BO
        obtain ⟨c0, c1, c2⟩ := C
        have zc := cell_lt c0
        dsimp only at zc
        rcases Decidable.em (r = 0) with hr | hr
        · have hm := bo2.2 hr
          clear bo2 bo1
          subst hr
          subst hm
          go_wp2_with (go_at_call 13; refine (HA.out _ E).mono ?_; rintro e wz ⟨rfl, hE⟩)
          go_ret
          exact ⟨rfl, E.trans hE⟩
        · have hm : ¬ m = 0 := fun h => hr (bo2.1 h)
          have hmr : (m == 0) = (r == 0) := by rw [beq_eq_false_iff_ne.2 hm, beq_eq_false_iff_ne.2 hr]
          clear bo2
          go_wp2_with (go_at_call 13; refine (HA.out _ E).mono ?_; rintro e wz ⟨rfl, hE⟩)
          go_ret
          exact ⟨rfl, E.trans hE⟩
      case neg =>
        have hpr' : 2000 < p + p.tdiv 100 + 1 := by omega
        have C' := C
        obtain ⟨c0, c1, c2⟩ := C'
        have zc := cell_lt c0
        dsimp only at zc
        have A' := A
        obtain ⟨A0, A1, A2, A3⟩ := A'
        have zA := cell_lt A0
        dsimp only at zA
        have D' := D
        obtain ⟨D0, D1, D2⟩ := D'
        have zD := cell_lt D0
        dsimp only at zD
        go_wp2_with fail
        clear c0 c1 c2 zc A0 A1 A2 A3 zA D0 D1 D2 zD
        refine (HS.out ⟨b, r, s⟩ _).mono ?_
        rintro e w9 ⟨rfl, hE⟩
        replace E := E.trans hE
        replace C := C.ext hE
        replace A := A.ext hE
        replace D := D.ext hE
        clear hE
        have C' := C
        obtain ⟨c0, c1, c2⟩ := C'
        have zc := cell_lt c0
        dsimp only at zc
        have A' := A
        obtain ⟨A0, A1, A2, A3⟩ := A'
        have zA := cell_lt A0
        dsimp only at zA
        have D' := D
        obtain ⟨D0, D1, D2⟩ := D'
        have zD := cell_lt D0
        dsimp only at zD
        go_wp2_with fail
        clear c0 c1 c2 zc A0 A1 A2 A3 zA D0 D1 D2 zD
        refine (T4.out _ E).mono ?_
        rintro e w10 ⟨rfl, hE⟩
        replace E := E.trans hE
        replace C := C.ext hE
        replace A := A.ext hE
        replace D := D.ext hE
        clear hE
        have C' := C
        obtain ⟨c0, c1, c2⟩ := C'
        have zc := cell_lt c0
        dsimp only at zc
        have A' := A
        obtain ⟨A0, A1, A2, A3⟩ := A'
        have zA := cell_lt A0
        dsimp only at zA
        have D' := D
        obtain ⟨D0, D1, D2⟩ := D'
        have zD := cell_lt D0
        dsimp only at zD
        go_wp2_with fail
        clear c0 c1 c2 zc A0 A1 A2 A3 zA D0 D1 D2 zD
        have B : EncAt w10.heap.size (w10.alloc (.cells #[txt u4, txt v4] 35)) u4 v4 := ⟨by go_simp, by go_simp, by go_simp, by go_simp⟩
        have EA : Ext w10 (w10.alloc (.cells #[txt u4, txt v4] 35)) := extA
        replace C := C.ext EA
        replace A := A.ext EA
        replace D := D.ext EA
        replace E := E.trans EA
        clear EA
        obtain ⟨k10, hk10⟩ : ∃ k, k = w10.heap.size := ⟨_, rfl⟩
        rw [← hk10] at B ⊢
        clear hk10
        generalize (w10.alloc (.cells #[txt u4, txt v4] 35)) = w11 at C A D B E ⊢
        refine (K4'.out _ E).mono ?_
        rintro e w12 ⟨rfl, hE⟩
        replace E := E.trans hE
        replace C := C.ext hE
        replace A := A.ext hE
        replace D := D.ext hE
        replace B := B.ext hE
        clear hE
        obtain ⟨bo1, bo2⟩ := BO.out
        clear BO
        obtain ⟨c0, c1, c2⟩ := C
        have zc := cell_lt c0
        dsimp only at zc
        rcases Decidable.em (r = 0) with hr | hr
        · have hm := bo2.2 hr
          clear bo2 bo1
          subst hr
          subst hm
          go_wp2_with (go_at_call 13; refine (HA.out _ E).mono ?_; rintro e wz ⟨rfl, hE⟩)
          go_ret
          exact ⟨rfl, E.trans hE⟩
        · have hm : ¬ m = 0 := fun h => hr (bo2.1 h)
          have hmr : (m == 0) = (r == 0) := by rw [beq_eq_false_iff_ne.2 hm, beq_eq_false_iff_ne.2 hr]
          clear bo2
          go_wp2_with (go_at_call 13; refine (HA.out _ E).mono ?_; rintro e wz ⟨rfl, hE⟩)
          go_ret
          exact ⟨rfl, E.trans hE⟩
    case neg =>
      have hw' : 500 < b + (b.tdiv 100 + 1) := by omega
      by_cases hpr : p + p.tdiv 100 + 1 ≤ 2000
      case pos =>
        have C' := C
        obtain ⟨c0, c1, c2⟩ := C'
        have zc := cell_lt c0
        dsimp only at zc
        go_wp2_with fail
        clear c0 c1 c2 zc
        have A : EncAt w3.heap.size ((w3.alloc (.cells #[txt u1, txt v1] 35)).alloc (.cells #[.int .i64 (b + (b.tdiv 100 + 1)), .int .i64 r, .int .i64 s] 46)) u1 v1 := ⟨by go_simp, by go_simp, by go_simp, by go_simp⟩
        have D : CylAt (w3.heap.size + 1) ((w3.alloc (.cells #[txt u1, txt v1] 35)).alloc (.cells #[.int .i64 (b + (b.tdiv 100 + 1)), .int .i64 r, .int .i64 s] 46)) (b + (b.tdiv 100 + 1)) r s := ⟨by go_simp, by go_simp, by go_simp⟩
        have EA : Ext w3 ((w3.alloc (.cells #[txt u1, txt v1] 35)).alloc (.cells #[.int .i64 (b + (b.tdiv 100 + 1)), .int .i64 r, .int .i64 s] 46)) := extA
        replace C := C.ext EA
        replace E := E.trans EA
        clear EA
        obtain ⟨k3, hk3⟩ : ∃ k, k = w3.heap.size := ⟨_, rfl⟩
        rw [← hk3] at A D ⊢
        clear hk3
        generalize ((w3.alloc (.cells #[txt u1, txt v1] 35)).alloc (.cells #[.int .i64 (b + (b.tdiv 100 + 1)), .int .i64 r, .int .i64 s] 46)) = w4 at C A D E ⊢
        refine (HS.out ⟨b, r, s⟩ _).mono ?_
        rintro e w5 ⟨rfl, hE⟩
        replace E := E.trans hE
        replace C := C.ext hE
        replace A := A.ext hE
        replace D := D.ext hE
        clear hE
        have T3' := T3.out
        rw [S3e.out hpr] at T3'
        replace T3' := Lib.hid T3'
        have C' := C
        obtain ⟨c0, c1, c2⟩ := C'
        have zc := cell_lt c0
        dsimp only at zc
        have A' := A
        obtain ⟨A0, A1, A2, A3⟩ := A'
        have zA := cell_lt A0
        dsimp only at zA
        have D' := D
        obtain ⟨D0, D1, D2⟩ := D'
        have zD := cell_lt D0
        dsimp only at zD
        go_wp2_with fail
        clear c0 c1 c2 zc A0 A1 A2 A3 zA D0 D1 D2 zD
        refine (T3'.out _ E).mono ?_
        rintro e w6 ⟨rfl, hE⟩
        replace E := E.trans hE
        replace C := C.ext hE
        replace A := A.ext hE
        replace D := D.ext hE
        clear hE
        have C' := C
        obtain ⟨c0, c1, c2⟩ := C'
        have zc := cell_lt c0
        dsimp only at zc
        have A' := A
        obtain ⟨A0, A1, A2, A3⟩ := A'
        have zA := cell_lt A0
        dsimp only at zA
        have D' := D
        obtain ⟨D0, D1, D2⟩ := D'
        have zD := cell_lt D0
        dsimp only at zD
        go_wp2_with fail
        clear c0 c1 c2 zc A0 A1 A2 A3 zA D0 D1 D2 zD
        have P : EncAt w6.heap.size (w6.alloc (.cells #[txt u3, txt v3] 35)) u3 v3 := ⟨by go_simp, by go_simp, by go_simp, by go_simp⟩
        have EA : Ext w6 (w6.alloc (.cells #[txt u3, txt v3] 35)) := extA
        replace C := C.ext EA
        replace A := A.ext EA
        replace D := D.ext EA
        replace E := E.trans EA
        clear EA
        obtain ⟨k6, hk6⟩ : ∃ k, k = w6.heap.size := ⟨_, rfl⟩
        rw [← hk6] at P ⊢
        clear hk6
        generalize (w6.alloc (.cells #[txt u3, txt v3] 35)) = w7 at C A D P E ⊢
        have K3'' := K3'.out
        rw [K3e.out hpr] at K3''
        replace K3'' := Lib.hid K3''
        refine (K3''.out _ E hpr).mono ?_
        rintro e w8 ⟨rfl, hE⟩
        replace E := E.trans hE
        replace C := C.ext hE
        replace A := A.ext hE
        replace D := D.ext hE
        replace P := P.ext hE
        clear hE
        clear P
        have C' := C
        obtain ⟨c0, c1, c2⟩ := C'
        have zc := cell_lt c0
        dsimp only at zc
        have A' := A
        obtain ⟨A0, A1, A2, A3⟩ := A'
        have zA := cell_lt A0
        dsimp only at zA
        have D' := D
        obtain ⟨D0, D1, D2⟩ := D'
        have zD := cell_lt D0
        dsimp only at zD
        go_wp2_with fail
        clear c0 c1 c2 zc A0 A1 A2 A3 zA D0 D1 D2 zD
        refine (HS.out ⟨b, r, s⟩ _).mono ?_
        rintro e w9 ⟨rfl, hE⟩
        replace E := E.trans hE
        replace C := C.ext hE
        replace A := A.ext hE
        replace D := D.ext hE
        clear hE
        have C' := C
        obtain ⟨c0, c1, c2⟩ := C'
        have zc := cell_lt c0
        dsimp only at zc
        have A' := A
        obtain ⟨A0, A1, A2, A3⟩ := A'
        have zA := cell_lt A0
        dsimp only at zA
        have D' := D
        obtain ⟨D0, D1, D2⟩ := D'
        have zD := cell_lt D0
        dsimp only at zD
        go_wp2_with fail
        clear c0 c1 c2 zc A0 A1 A2 A3 zA D0 D1 D2 zD
        refine (T4.out _ E).mono ?_
        rintro e w10 ⟨rfl, hE⟩
        replace E := E.trans hE
        replace C := C.ext hE
        replace A := A.ext hE
        replace D := D.ext hE
        clear hE
        have C' := C
        obtain ⟨c0, c1, c2⟩ := C'
        have zc := cell_lt c0
        dsimp only at zc
        have A' := A
        obtain ⟨A0, A1, A2, A3⟩ := A'
        have zA := cell_lt A0
        dsimp only at zA
        have D' := D
        obtain ⟨D0, D1, D2⟩ := D'
        have zD := cell_lt D0
        dsimp only at zD
        go_wp2_with fail
        clear c0 c1 c2 zc A0 A1 A2 A3 zA D0 D1 D2 zD
        have B : EncAt w10.heap.size (w10.alloc (.cells #[txt u4, txt v4] 35)) u4 v4 := ⟨by go_simp, by go_simp, by go_simp, by go_simp⟩
        have EA : Ext w10 (w10.alloc (.cells #[txt u4, txt v4] 35)) := extA
        replace C := C.ext EA
        replace A := A.ext EA
        replace D := D.ext EA
        replace E := E.trans EA
        clear EA
        obtain ⟨k10, hk10⟩ : ∃ k, k = w10.heap.size := ⟨_, rfl⟩
        rw [← hk10] at B ⊢
        clear hk10
        generalize (w10.alloc (.cells #[txt u4, txt v4] 35)) = w11 at C A D B E ⊢
        refine (K4'.out _ E).mono ?_
        rintro e w12 ⟨rfl, hE⟩
        replace E := E.trans hE
        replace C := C.ext hE
        replace A := A.ext hE
        replace D := D.ext hE
        replace B := B.ext hE
        clear hE
        obtain ⟨bo1, bo2⟩ := BO.out
        clear BO
        obtain ⟨c0, c1, c2⟩ := C
        have zc := cell_lt c0
        dsimp only at zc
        rcases Decidable.em (r = 0) with hr | hr
        · have hm := bo2.2 hr
          clear bo2 bo1
          subst hr
          subst hm
          go_wp2_with (go_at_call 13; refine (HA.out _ E).mono ?_; rintro e wz ⟨rfl, hE⟩)
          go_ret
          exact ⟨rfl, E.trans hE⟩
        · have hm : ¬ m = 0 := fun h => hr (bo2.1 h)
          have hmr : (m == 0) = (r == 0) := by rw [beq_eq_false_iff_ne.2 hm, beq_eq_false_iff_ne.2 hr]
          clear bo2
          go_wp2_with (go_at_call 13; refine (HA.out _ E).mono ?_; rintro e wz ⟨rfl, hE⟩)
          go_ret
          exact ⟨rfl, E.trans hE⟩
      case neg =>
        have hpr' : 2000 < p + p.tdiv 100 + 1 := by omega
        have C' := C
        obtain ⟨c0, c1, c2⟩ := C'
        have zc := cell_lt c0
        dsimp only at zc
        go_wp2_with fail
        clear c0 c1 c2 zc
        have A : EncAt w3.heap.size ((w3.alloc (.cells #[txt u1, txt v1] 35)).alloc (.cells #[.int .i64 (b + (b.tdiv 100 + 1)), .int .i64 r, .int .i64 s] 46)) u1 v1 := ⟨by go_simp, by go_simp, by go_simp, by go_simp⟩
        have D : CylAt (w3.heap.size + 1) ((w3.alloc (.cells #[txt u1, txt v1] 35)).alloc (.cells #[.int .i64 (b + (b.tdiv 100 + 1)), .int .i64 r, .int .i64 s] 46)) (b + (b.tdiv 100 + 1)) r s := ⟨by go_simp, by go_simp, by go_simp⟩
        have EA : Ext w3 ((w3.alloc (.cells #[txt u1, txt v1] 35)).alloc (.cells #[.int .i64 (b + (b.tdiv 100 + 1)), .int .i64 r, .int .i64 s] 46)) := extA
        replace C := C.ext EA
        replace E := E.trans EA
        clear EA
        obtain ⟨k3, hk3⟩ : ∃ k, k = w3.heap.size := ⟨_, rfl⟩
        rw [← hk3] at A D ⊢
        clear hk3
        generalize ((w3.alloc (.cells #[txt u1, txt v1] 35)).alloc (.cells #[.int .i64 (b + (b.tdiv 100 + 1)), .int .i64 r, .int .i64 s] 46)) = w4 at C A D E ⊢
        refine (HS.out ⟨b, r, s⟩ _).mono ?_
        rintro e w5 ⟨rfl, hE⟩
        replace E := E.trans hE
        replace C := C.ext hE
        replace A := A.ext hE
        replace D := D.ext hE
        clear hE
        have C' := C
        obtain ⟨c0, c1, c2⟩ := C'
        have zc := cell_lt c0
        dsimp only at zc
        have A' := A
        obtain ⟨A0, A1, A2, A3⟩ := A'
        have zA := cell_lt A0
        dsimp only at zA
        have D' := D
        obtain ⟨D0, D1, D2⟩ := D'
        have zD := cell_lt D0
        dsimp only at zD
        go_wp2_with fail
        clear c0 c1 c2 zc A0 A1 A2 A3 zA D0 D1 D2 zD
        refine (T4.out _ E).mono ?_
        rintro e w6 ⟨rfl, hE⟩
        replace E := E.trans hE
        replace C := C.ext hE
        replace A := A.ext hE
        replace D := D.ext hE
        clear hE
        have C' := C
        obtain ⟨c0, c1, c2⟩ := C'
        have zc := cell_lt c0
        dsimp only at zc
        have A' := A
        obtain ⟨A0, A1, A2, A3⟩ := A'
        have zA := cell_lt A0
        dsimp only at zA
        have D' := D
        obtain ⟨D0, D1, D2⟩ := D'
        have zD := cell_lt D0
        dsimp only at zD
        go_wp2_with fail
        clear c0 c1 c2 zc A0 A1 A2 A3 zA D0 D1 D2 zD
        have B : EncAt w6.heap.size (w6.alloc (.cells #[txt u4, txt v4] 35)) u4 v4 := ⟨by go_simp, by go_simp, by go_simp, by go_simp⟩
        have EA : Ext w6 (w6.alloc (.cells #[txt u4, txt v4] 35)) := extA
        replace C := C.ext EA
        replace A := A.ext EA
        replace D := D.ext EA
        replace E := E.trans EA
        clear EA
        obtain ⟨k6, hk6⟩ : ∃ k, k = w6.heap.size := ⟨_, rfl⟩
        rw [← hk6] at B ⊢
        clear hk6
        generalize (w6.alloc (.cells #[txt u4, txt v4] 35)) = w7 at C A D B E ⊢
        refine (K4'.out _ E).mono ?_
        rintro e w8 ⟨rfl, hE⟩
        replace E := E.trans hE
        replace C := C.ext hE
        replace A := A.ext hE
        replace D := D.ext hE
        replace B := B.ext hE
        clear hE
        obtain ⟨bo1, bo2⟩ := BO.out
        clear BO
        obtain ⟨c0, c1, c2⟩ := C
        have zc := cell_lt c0
        dsimp only at zc
        rcases Decidable.em (r = 0) with hr | hr
        · have hm := bo2.2 hr
          clear bo2 bo1
          subst hr
          subst hm
          go_wp2_with (go_at_call 13; refine (HA.out _ E).mono ?_; rintro e wz ⟨rfl, hE⟩)
          go_ret
          exact ⟨rfl, E.trans hE⟩
        · have hm : ¬ m = 0 := fun h => hr (bo2.1 h)
          have hmr : (m == 0) = (r == 0) := by rw [beq_eq_false_iff_ne.2 hm, beq_eq_false_iff_ne.2 hr]
          clear bo2
          go_wp2_with (go_at_call 13; refine (HA.out _ E).mono ?_; rintro e wz ⟨rfl, hE⟩)
          go_ret
          exact ⟨rfl, E.trans hE⟩
end Go.Proofs.YtlnonmmaknhppaaGreatDoor
