/- Steps of the proof: Air3, Air6, FOfR, FAwk, FRefS, AGiv, AOpen, AJoin, ARat, AShr, ARtR, ALKp, ACyl, AOpnB. No conditions. -/
import Derived.Test.YtlnonmmaknhppaaGreatDoorCards
import Derived.Test.YtlnonmmaknhppaaGreatDoorTie
import Derived.WalkKit
import Derived.ProofKit
import Derived.OpenShut
import Derived.Deep.DeepHandedRow
import Derived.Lib.LaidTab
import Derived.LaidSub
import Derived.Stop.LaidErr
import Derived.MakeChecks
import Derived.Lib.SmallJoins
import Derived.Deep.Slices
import Derived.Deep.Strs
import Derived.Test.YtlnonmmaknhppaaGreatDoorZAB1
import Derived.Test.YtlnonmmaknhppaaGreatDoorZAB2
import Derived.Test.YtlnonmmaknhppaaGreatDoorZAB3
import Derived.Test.YtlnonmmaknhppaaGreatDoorZAB4
import Derived.Test.YtlnonmmaknhppaaGreatDoorZAB5
import Derived.Test.YtlnonmmaknhppaaGreatDoorZAB6
import Derived.Test.YtlnonmmaknhppaaGreatDoorZAB7
import Derived.Test.YtlnonmmaknhppaaGreatDoorZAB8
import Derived.Test.YtlnonmmaknhppaaGreatDoorZAB9
import Derived.Test.YtlnonmmaknhppaaGreatDoorZAB10
import Derived.Test.YtlnonmmaknhppaaGreatDoorZAB11
namespace Go.Proofs.YtlnonmmaknhppaaGreatDoor
def rateS (used : Enc) (t : Int) (m : Int) : EncR := if encE used ≠ 0 then badEnc (encE used) else if t < 1 ∨ m < t then badEnc 2 else mulE used (fracT (((60000 : Int) : Rat) / (t : Rat)), fracT (((60000 : Int) : Rat) / (t : Rat)))
end Go.Proofs.YtlnonmmaknhppaaGreatDoor
namespace Go.Proofs.YtlnonmmaknhppaaGreatDoor
open Go.Lib (decDigits itoa)
theorem times_nil (a : Enc) : timesE a [] = (a, 0) := rfl
theorem rate_times {used : Enc} {t m : Int} (h0 : encE used = 0) (h1 : 1 ≤ t) (h2 : t ≤ m) (h3 : m < 10 ^ 20) : rateS used t m = timesE used [(60000, t)] := by
  obtain ⟨g1, g2⟩ := quo_good (n := 60000) (d := t) (K := 20) (by omega) (by decide) (by omega) (by omega)
  have hq : quoS 60000 t = ((fracT (((60000 : Int) : Rat) / (t : Rat)), fracT (((60000 : Int) : Rat) / (t : Rat))), 0) := by
    unfold quoS
    rw [g1, if_neg (by simp), g2.point.1]
  unfold rateS timesE
  rw [if_neg (not_not_intro h0), if_neg (by omega), hq, if_neg (by simp)]
  split
  · rename_i g
    have e : ∀ r : EncR, r.2 ≠ 0 → (∃ a b, r = endsR a b) → r = badEnc r.2 := fun r hr ⟨a, b, e⟩ => by
      subst e
      unfold endsR at hr ⊢
      split
      · rfl
      · split
        · rfl
        · rename_i g1 g2; rw [if_neg g1, if_neg g2] at hr; exact absurd rfl hr
    refine e _ g ?_
    unfold mulE
    rw [if_neg]
    · exact ⟨_, _, rfl⟩
    · refine not_not_intro ?_
      unfold bothEE
      rw [if_pos h0]
      exact g2.point.2.ok
  · rename_i g
    rw [times_nil]
    have : (mulE used (fracT (((60000 : Int) : Rat) / (t : Rat)), fracT (((60000 : Int) : Rat) / (t : Rat)))).2 = 0 := by
      by_cases h9 : (mulE used (fracT (((60000 : Int) : Rat) / (t : Rat)), fracT (((60000 : Int) : Rat) / (t : Rat)))).2 = 0
      · exact h9
      · exact absurd h9 g
    rw [← this]
end Go.Proofs.YtlnonmmaknhppaaGreatDoor
namespace Go.Proofs.YtlnonmmaknhppaaGreatDoor
open Go.RowKit
open Go.Lib (decDigits itoa)
set_option maxHeartbeats 4000000 in
theorem wholeR_any (n : Int) (w : World) (h1 : -9223372036854775808 ≤ n) (h2 : n ≤ 9223372036854775807) :
    Calls Tryz.prog 62 #[.int .i64 n] w fun e w' => e = .returned (txt (itoa n)) ∧ Ext w w' := by
  have HT := Lib.hid (fun W => textI_any n W h1 h2)
  go_enter Tryz.func62, Tryz.ntmps62
  go_wp2_with ((go_at_call 107; (with_reducible refine (HT.out _).mono ?_); rintro e w1 ⟨rfl, hE⟩))
  go_ret
  exact ⟨rfl, hE⟩
end Go.Proofs.YtlnonmmaknhppaaGreatDoor
namespace Go.Proofs.YtlnonmmaknhppaaGreatDoor
open Go.RowKit
open Go.Lib (decDigits itoa)
set_option maxHeartbeats 2000000 in
theorem fewR_any (s : Txt) (w : World) : Calls Tryz.prog 12 #[txt s] w fun e w' => e = .returned (.bool (decide (s.length ≤ 180))) ∧ w' = w := by
  have HB : Hid (decide ((s.length : Int) ≤ 180) = decide (s.length ≤ 180)) := by
    show _ = _
    exact decide_eq_decide.2 (by omega)
  go_enter Tryz.func12, Tryz.ntmps12
  go_wp2
  go_ret
  exact ⟨ret_bool HB.out, rfl⟩
end Go.Proofs.YtlnonmmaknhppaaGreatDoor
namespace Go.Proofs.YtlnonmmaknhppaaGreatDoor
open Go.RowKit
open Go.Lib (decDigits itoa)
theorem head_of {s : Txt} (hne : s ≠ []) : ∃ c, (∀ k, (⟨s.toArray⟩ : ByteArray)[0]'k = c) ∧ ((c.toNat : Int) == 45) = negS s ∧ 0 < s.length := by
  obtain ⟨c, m, hcm⟩ := List.exists_cons_of_ne_nil hne
  exact ⟨c, fun _ => by subst hcm; rfl, head_neg hcm, by rw [hcm]; simp⟩
theorem neg_top {a : Txt} (h : fracE a = 0) : a ≠ [] ∧ negS a = negS (topS a) := by
  obtain ⟨h1, _⟩ := frac_parts h
  have hne : topS a ≠ [] := fun e => h1.1.2.1 (by rw [e]; rfl)
  by_cases hs : 47 ∈ a
  · have e := split_some hs
    generalize topS a = t at *
    obtain ⟨c, m, rfl⟩ := List.exists_cons_of_ne_nil hne
    rw [e]
    exact ⟨by simp, rfl⟩
  · obtain ⟨e, _⟩ := split_none hs
    rw [e] at hne ⊢
    exact ⟨hne, rfl⟩
theorem signum_eq {a : Txt} (h : fracE a = 0) : (fracQ a).num.sign = if negS a then -1 else if a = [48] then 0 else 1 := by
  obtain ⟨h1, _⟩ := frac_parts h
  obtain ⟨_, h2⟩ := neg_top h
  have h3 := (frac_num h).1
  have h4 := neg_int h1
  rw [← h2] at h4
  by_cases hn : negS a = true
  · rw [if_pos hn]
    rw [hn, decide_eq_true_eq] at h4
    rw [h3]
    exact Int.sign_eq_neg_one_of_neg h4
  · rw [if_neg hn]
    have h5 : negS a = false := by simpa using hn
    rw [h5, decide_eq_false_iff_not] at h4
    by_cases h0 : a = [48]
    · rw [if_pos h0, ((Good.any h).zero).1 h0]; rfl
    · rw [if_neg h0]
      refine Int.sign_eq_one_of_pos ?_
      have h6 : (fracQ a).num ≠ 0 := fun e => h0 ((Good.any h).zero.2 (Rat.num_eq_zero.1 e))
      omega
set_option maxHeartbeats 2000000 in
theorem rSignum_any (a : Txt) (w : World) (hf : fracE a = 0) : Calls Tryz.prog 18 #[txt a] w fun e w' => e = .returned (.int .i64 (fracQ a).num.sign) ∧ w' = w := by
  have HS := Lib.hid (signum_eq hf)
  obtain ⟨c, hget, hc, hpos⟩ := head_of (neg_top hf).1
  have hi : (0 : Int) < (a.length : Int) := by omega
  rw [HS.out]
  clear HS hf
  by_cases hn : negS a = true
  · rw [if_pos hn]
    rw [hn] at hc
    clear hn
    go_enter Tryz.func18, Tryz.ntmps18
    go_wp2
    go_ret
    exact ⟨rfl, rfl⟩
  · rw [if_neg hn]
    have h5 : negS a = false := by simpa using hn
    rw [h5] at hc
    clear hn h5
    by_cases h0 : a = [48]
    · rw [if_pos h0]
      have hz : (a == [48]) = true := by rw [h0]; rfl
      clear h0
      go_enter Tryz.func18, Tryz.ntmps18
      go_wp2
      go_ret
      exact ⟨rfl, rfl⟩
    · rw [if_neg h0]
      have hz : (a == [48]) = false := by rw [beq_eq_false_iff_ne]; exact h0
      clear h0
      go_enter Tryz.func18, Tryz.ntmps18
      go_wp2
      go_ret
      exact ⟨rfl, rfl⟩
end Go.Proofs.YtlnonmmaknhppaaGreatDoor
namespace Go.Proofs.YtlnonmmaknhppaaGreatDoor
open Go.ChangeShapes Go.WideShapes Go.ChangeAt Go.RowKit
theorem own : ownKnob Tryz.prog.godebug = none := by kernel_rfl
theorem gTab : Tryz.prog.globalNamed "internal/strconv.uint64pow10" = some 0 := by kernel_rfl
theorem gTabT : (Tryz.prog.globals[0]?).map (·.type) = some 269 := by kernel_rfl
theorem cellsTab : Tryz.prog.cellsOf 269 = 20 := by kernel_rfl
theorem cellsU64 : Tryz.prog.cellsOf 159 = 1 := by kernel_rfl
theorem gRng : Tryz.prog.globalNamed "strconv.ErrRange" = some 5 := by kernel_rfl
theorem gRngT : (Tryz.prog.globals[5]?).map (·.type) = some 229 := by kernel_rfl
theorem gSyn : Tryz.prog.globalNamed "strconv.ErrSyntax" = some 4 := by kernel_rfl
theorem gSynT : (Tryz.prog.globals[4]?).map (·.type) = some 229 := by kernel_rfl
theorem starE : "*" ++ "errors.errorString" = "*errors.errorString" := by decide
theorem rowE (u : TypeId) (h : Tryz.prog.typeName? 3 u = some "*errors.errorString") : u = 300 :=
  typeName_ptr_named (nm := "errors.errorString") (by rw [starE]; kernel_rfl) (by kernel_rfl) (by decide) u (by rw [starE]; exact h)
theorem cellsErr : Tryz.prog.cellsOf 302 = 1 := by kernel_rfl
theorem cellsStr : Tryz.prog.cellsOf 9 = 1 := by kernel_rfl
theorem glob_of {W : World} (hs : W.ShapedOpen Tryz.prog) (hL : laidMetH Tryz.prog Rows.airMeasuresRow.laid W) : Glob W := by
  have hP : laidMet Tryz.prog Rows.airMeasuresRow.laid W := by
    rw [← MakeChecks.laidMetH_plain _ _ _ (by kernel_rfl)]; exact hL
  have hP2 := hP.tail.tail
  have hP4 := hP2.tail.tail
  have hP5 := hP4.tail
  obtain ⟨a0, _, h0, _⟩ := laid_sentinel hP4 gRng gRngT Tryz.underlying229 rowE Tryz.underlying300 Tryz.underlying302 rfl rfl Tryz.underlying9 cellsErr cellsStr
  obtain ⟨a1, _, h1, _⟩ := laid_sentinel hP5 gSyn gSynT Tryz.underlying229 rowE Tryz.underlying300 Tryz.underlying302 rfl rfl Tryz.underlying9 cellsErr cellsStr
  exact ⟨cell_of_shapedOpen_int (zero := #[.int .i64 0]) (t := 3) hs (of_decide_eq_true (by kernel_rfl)) (by kernel_rfl) rfl (by kernel_rfl) (by kernel_rfl) Tryz.underlying3,
    Lib.tabIs_of_head gTab gTabT Tryz.underlying269 Tryz.underlying159 cellsU64 cellsTab hP2, ⟨_, _, h1⟩, ⟨_, _, h0⟩⟩
def flatD : Nat → DataW Unit → List Value
  | _ + 1, .lit (.int k z) => [.int k z]
  | n + 1, .agg ds => ds.flatMap (flatD n)
  | _, _ => []
def putC (cs : List Value) : Obj → Obj
  | .cells _ t frozen => .cells ⟨cs⟩ t frozen
  | o => o
noncomputable def lowB : Nat := (World.holding Tryz.prog default ⟨#[], #[], []⟩).heap.size
def rngS : ByteArray := ⟨#[118, 97, 108, 117, 101, 32, 111, 117, 116, 32, 111, 102, 32, 114, 97, 110, 103, 101]⟩
def synS : ByteArray := ⟨#[105, 110, 118, 97, 108, 105, 100, 32, 115, 121, 110, 116, 97, 120]⟩
noncomputable def laidWorld (os : Os) : World :=
  let w0 := World.holding Tryz.prog os ⟨#[.cells #[.string rngS] 302, .cells #[.string synS] 302], #[], []⟩
  { w0 with heap := (((((((w0.heap.modify 6 (putC (flatD 3 Rows.laid_math_bits_deBruijn32tab))).modify 7 (putC (flatD 3 Rows.laid_math_bits_deBruijn64tab))).modify
      0 (putC (flatD 3 Rows.laid_internal_strconv_uint64pow10))).modify 3 (putC (flatD 3 Rows.laid_unicode_utf8_acceptRanges))).modify
      5 (putC [.iface 300 (.pointer (some ⟨lowB, 0, none⟩))])).modify 4 (putC [.iface 300 (.pointer (some ⟨lowB + 1, 0, none⟩))])).modify
      2 (putC (flatD 3 Rows.laid_unicode_utf8_first))) }
theorem laid_met (os : Os) (args : Array Value) : laidMet Tryz.prog Rows.airMeasuresRow.laid ((laidWorld os).forCall (fun _ _ => 0) ⟨#[], args, []⟩).memory :=
  laidMet_of_run' 8 (by kernel_rfl) (by kernel_rfl)
end Go.Proofs.YtlnonmmaknhppaaGreatDoor
namespace Go.Proofs.YtlnonmmaknhppaaGreatDoor
open Go.RowKit Go.ChangeShapes Go.WideShapes Go.Joins Go.Deep
theorem laidOut : laidOutB Tryz.prog = true := by kernel_rfl
section
variable {H : Type} {enc : TypeId × Value → H} {w : World} {base : Nat} {spare : Nat → Bool} {held : Bool}
set_option maxRecDepth 100000 in
theorem open_enc {r : Reach} {b0 : Nat} {v : Value} {d : DataW H} {p : List MemPlace} (hv : Value.okWide Tryz.prog w r b0 35 v) (h : DataW.Trod enc Tryz.prog w base spare held 35 v d p) :
    ∃ a : Enc, v = encV a := by
  obtain ⟨c0, c1, y0, y1, n, rfl, _, _, h0, h1⟩ := open_agg2 Tryz.underlying35 (by kernel_rfl) (by kernel_rfl) hv h
  obtain ⟨⟨s0⟩, e0, _, _⟩ := DataW.trod_string Tryz.underlying23 h0
  obtain ⟨⟨s1⟩, e1, _, _⟩ := DataW.trod_string Tryz.underlying23 h1
  simp at e0 e1
  subst e0; subst e1
  exact ⟨(s0.toList, s1.toList), rfl⟩
end
end Go.Proofs.YtlnonmmaknhppaaGreatDoor
namespace Go.Proofs.YtlnonmmaknhppaaGreatDoor
open Go.RowKit Go.ChangeShapes Go.WideShapes Go.ChangeAt
theorem band {a b : Bool} (h : a = true) (k : b = true) : (a && b) = true := by rw [h, k]; rfl
theorem factLaid : laidOutB Tryz.pinned.checked.prog = true := by kernel_rfl
theorem factMaps : mapsRowed Tryz.pinned.checked.prog = true := by kernel_rfl
theorem factHeard : Tryz.pinned.checked.prog.stopsHeard = true := by kernel_rfl
theorem factEnter : Tryz.pinned.checked.prog.mayEnter = true := by kernel_rfl
theorem factLifts : (Rows.airMeasuresRow.lifted == Tryz.pinned.checked.prog.liftsFinal) = true := by kernel_rfl
theorem factMake : (Tryz.pinned.checked.prog.make == some Rows.airMeasuresRow.make) = true := by kernel_rfl
theorem factKeys : (Rows.airMeasuresRow.plainKeys == Tryz.pinned.checked.prog.plainKeys) = true := by kernel_rfl
end Go.Proofs.YtlnonmmaknhppaaGreatDoor
namespace Go.Proofs.YtlnonmmaknhppaaGreatDoor
open Go.RowKit
set_option maxHeartbeats 8000000 in
set_option maxRecDepth 100000 in
theorem aRate_any (used : Enc) (t : Int) (w : World) (hG : Glob w) (hl : LenE used) : Calls Tryz.prog 35 #[encV used, .int .i64 t] w (EncP (rateS used t 1000000) w) := by
  have HK := Lib.hid (fun W (g : Ext w W) => eCheck_any used W (hG.ext g) hl)
  have HG := Lib.hid hG
  have HL := Lib.hid hl
  obtain ⟨R, hR⟩ : ∃ R, R = rateS used t 1000000 := ⟨_, rfl⟩
  rw [← hR]
  obtain ⟨n, hn⟩ : ∃ n, n = encE used := ⟨_, rfl⟩
  rw [← hn] at HK
  unfold EncP
  have HT := Lib.hid (fun W qa qc (hg : Glob W) hc h1 h2 => aTimes_any used [(60000, t)] qa qc W hg HL.out hc (fun x hx => by simp at hx; subst hx; exact qok_small (by decide) (by decide) h1 h2) (by simp))
  clear hG hl
  obtain ⟨l, h⟩ := used
  dsimp only [encV] at HK ⊢
  have A : EncAt w.heap.size ((w.alloc (.cells #[txt l, txt h] 35)).alloc (.cells #[.string ⟨#[]⟩, .string ⟨#[]⟩] 35)) l h := ⟨by go_simp, by go_simp, by go_simp, by go_simp⟩
  have X : EncAt (w.heap.size + 1) ((w.alloc (.cells #[txt l, txt h] 35)).alloc (.cells #[.string ⟨#[]⟩, .string ⟨#[]⟩] 35)) [] [] := ⟨by go_simp, by go_simp, by go_simp, by go_simp⟩
  have E : Ext w ((w.alloc (.cells #[txt l, txt h] 35)).alloc (.cells #[.string ⟨#[]⟩, .string ⟨#[]⟩] 35)) := extA
  go_enter Tryz.func35, Tryz.ntmps35
  go_wp2_with fail
  generalize ((w.alloc (.cells #[txt l, txt h] 35)).alloc (.cells #[.string ⟨#[]⟩, .string ⟨#[]⟩] 35)) = w0 at A X E ⊢
  refine (HK.out _ E).mono ?_
  rintro e w1 ⟨rfl, hE⟩
  replace A := A.ext hE
  replace X := X.ext hE
  replace E := E.trans hE
  clear hE HK
  by_cases h0 : n = 0
  rotate_left
  · have hR' : R = badEnc n := by rw [hR]; unfold rateS; rw [← hn, if_pos h0]
    have HR := Lib.hid hR'
    have hne : (((n : Nat) : Int) != 0) = true := by rw [bne_iff_ne]; omega
    clear hR hR' h0 hn
    obtain ⟨d0, d1, g0, g1⟩ := X
    have zd := cell_lt d0
    dsimp only at zd
    go_wp2
    refine bodyPost_ret (v := .tuple #[.agg #[txt [], txt []], .int .i64 (n : Nat)]) (by rw [results_cell_tmp1 rfl]; go_simp) rfl ?_
    exact ⟨by rw [HR.out]; rfl, extA⟩
  subst h0
  have HN := Lib.hid hn.symm
  clear hn
  by_cases ht : t < 1 ∨ 1000000 < t
  · have hR' : R = badEnc 2 := by rw [hR]; unfold rateS; rw [if_neg (not_not_intro HN.out), if_pos ht]
    have HR := Lib.hid hR'
    clear hR hR'
    obtain ⟨d0, d1, g0, g1⟩ := X
    have zd := cell_lt d0
    dsimp only at zd
    rcases (show t < 1 ∨ (¬ t < 1 ∧ 1000000 < t) by omega) with h1 | ⟨h1, h2⟩
    all_goals
      clear ht
      go_wp2
      refine bodyPost_ret (v := .tuple #[.agg #[txt [], txt []], .int .i64 2]) (by rw [results_cell_tmp1 rfl]; go_simp) rfl ?_
      exact ⟨by rw [HR.out]; rfl, extA⟩
  have h1 : ¬ t < 1 := by omega
  have h2 : ¬ 1000000 < t := by omega
  have hR' : R = timesE (l, h) [(60000, t)] := by rw [hR, rate_times HN.out (by omega) (by omega) (by decide)]
  have T := fun W qa qc hg hc => HT.out W qa qc hg hc (by omega) (by omega)
  unfold EncP at T
  rw [← hR'] at T
  dsimp only [encV] at T
  replace T := Lib.hid T
  clear hR hR' ht HT
  obtain ⟨⟨t1, t2⟩, r⟩ := R
  dsimp only at T ⊢
  have A' := A
  obtain ⟨a0, a1, a2, a3⟩ := A'
  have za := cell_lt a0
  have zd := cell_lt X.c0
  dsimp only at za zd
  go_wp2_with fail
  have E1 : Ext w1 (w1.alloc (.cells #[.int .i64 60000, .int .i64 t] 90)) := extA
  refine (T.out _ _ 1 (HG.out.ext (E.trans E1)) (cellsQt_one w1 (60000, t) _)).mono ?_
  rintro e w2 ⟨rfl, hE⟩
  obtain ⟨d0, d1, g0, g1⟩ := X.ext (E1.trans hE)
  replace E := E.trans (E1.trans hE)
  clear E1
  clear hE X A a0 a1 a2 a3 za zd
  go_wp2
  refine bodyPost_ret (v := .tuple #[.agg #[txt t1, txt t2], .int .i64 (r : Nat)]) (by rw [results_cell_tmp1 rfl]; go_simp) rfl ?_
  exact ⟨rfl, extA⟩
end Go.Proofs.YtlnonmmaknhppaaGreatDoor
namespace Go.Proofs.YtlnonmmaknhppaaGreatDoor
open Go.RowKit
def fewE (a : Enc) : Bool := decide (a.1.length ≤ 180) && decide (a.2.length ≤ 180)
theorem fewE_len {a : Enc} (h : fewE a = true) : LenE a := by
  unfold fewE at h
  simp only [Bool.and_eq_true, decide_eq_true_eq] at h
  exact ⟨by omega, by omega⟩
set_option maxHeartbeats 4000000 in
theorem few2_any (a : Enc) (w : World) : Calls Tryz.prog 34 #[encV a] w fun e w' => e = .returned (.bool (fewE a)) ∧ Ext w w' := by
  obtain ⟨l, h⟩ := a
  have H1 := Lib.hid (fun W => fewR_any l W)
  have H2 := Lib.hid (fun W => fewR_any h W)
  unfold fewE
  dsimp only [encV] at *
  generalize decide (l.length ≤ 180) = b1 at *
  generalize decide (h.length ≤ 180) = b2 at *
  have E : Ext w (w.alloc (.cells #[txt l, txt h] 35)) := extA
  cases b1
  · go_enter Tryz.func34, Tryz.ntmps34
    go_wp2_with (go_at_call 12; refine (H1.out _).mono ?_; rintro e w' ⟨rfl, rfl⟩)
    go_ret
    exact ⟨rfl, E⟩
  · cases b2
    all_goals
      go_enter Tryz.func34, Tryz.ntmps34
      go_wp2_with fail
      refine (H1.out _).mono ?_
      clear H1
      rintro e w' ⟨rfl, hw⟩; obtain rfl := hw.symm; clear hw
      go_wp2_with fail
      refine (H2.out _).mono ?_
      rintro e w' ⟨rfl, hw⟩; obtain rfl := hw.symm; clear hw
      go_wp2_with fail
      go_ret
      exact ⟨rfl, E⟩
end Go.Proofs.YtlnonmmaknhppaaGreatDoor
namespace Go.Proofs.YtlnonmmaknhppaaGreatDoor
open Go.RowKit
open Go.Lib (decDigits itoa)
theorem inB_false {n l h : Int} (g : n < l ∨ h < n) : inB n l h = false := by
  unfold inB
  rw [Bool.and_eq_false_iff, decide_eq_false_iff_not, decide_eq_false_iff_not]
  omega
theorem inB_true {n l h : Int} (g1 : l ≤ n) (g2 : n ≤ h) : inB n l h = true := by
  unfold inB
  rw [Bool.and_eq_true, decide_eq_true_eq, decide_eq_true_eq]
  exact ⟨g1, g2⟩
theorem inB_iff {n l h : Int} : inB n l h = true ↔ l ≤ n ∧ n ≤ h := by
  unfold inB
  rw [Bool.and_eq_true, decide_eq_true_eq, decide_eq_true_eq]
set_option maxHeartbeats 8000000 in
set_option maxRecDepth 100000 in
theorem rRate_any (used : Enc) (t : Int) (w : World) (hl : LenE used) : Calls Tryz.prog 36 #[encV used, .int .i64 t] w (EncP (rateS used t 1000000) w) := by
  have HK := Lib.hid (fun W => rCheck2_any used W hl)
  have HI := Lib.hid (fun W => in5_any t 1 1000000 W)
  have HP := fun W (h1 : 1 ≤ t) (h2 : t ≤ 1000000) => rPoint5_any 60000 t W (qok_small (by decide) (by decide) (by omega) (by omega))
  have HM := fun W (h1 : 1 ≤ t) (h2 : t ≤ 1000000) => rMul2_any used (quoT (60000, t), quoT (60000, t)) W hl ⟨(qok_small (n := 60000) (d := t) (by decide) (by decide) (by omega) (by omega)).is.2.1, (qok_small (n := 60000) (d := t) (by decide) (by decide) (by omega) (by omega)).is.2.1⟩
  have hR : rateS used t 1000000 = if encE used ≠ 0 then badEnc (encE used) else if inB t 1 1000000 = false then badEnc 2 else mulE used (quoT (60000, t), quoT (60000, t)) := by
    unfold rateS
    split
    · rfl
    · by_cases h : t < 1 ∨ 1000000 < t
      · rw [if_pos h, if_pos (inB_false h)]
      · rw [if_neg h, inB_true (by omega) (by omega)]; rfl
  have hib : inB t 1 1000000 = true → 1 ≤ t ∧ t ≤ 1000000 := inB_iff.1
  obtain ⟨R, hRR⟩ : ∃ R, R = rateS used t 1000000 := ⟨_, rfl⟩
  rw [← hRR]
  rw [hR] at hRR
  generalize encE used = n at HK hRR
  generalize quoT (60000, t) = q at HP HM hRR
  generalize inB t 1 1000000 = b at HI hib hRR
  generalize mulE used (q, q) = M at HM hRR
  obtain ⟨l, h⟩ := used
  obtain ⟨⟨m1, m2⟩, mn⟩ := M
  unfold EncP at HM ⊢
  dsimp only [encV] at HK HP HM ⊢
  replace HP := Lib.hid HP
  replace HM := Lib.hid HM
  clear hR hl
  have A : EncAt w.heap.size ((w.alloc (.cells #[txt l, txt h] 35)).alloc (.cells #[.string ⟨#[]⟩, .string ⟨#[]⟩] 35)) l h := ⟨by go_simp, by go_simp, by go_simp, by go_simp⟩
  have X : EncAt (w.heap.size + 1) ((w.alloc (.cells #[txt l, txt h] 35)).alloc (.cells #[.string ⟨#[]⟩, .string ⟨#[]⟩] 35)) [] [] := ⟨by go_simp, by go_simp, by go_simp, by go_simp⟩
  have E : Ext w ((w.alloc (.cells #[txt l, txt h] 35)).alloc (.cells #[.string ⟨#[]⟩, .string ⟨#[]⟩] 35)) := extA
  go_enter Tryz.func36, Tryz.ntmps36
  go_wp2_with fail
  generalize ((w.alloc (.cells #[txt l, txt h] 35)).alloc (.cells #[.string ⟨#[]⟩, .string ⟨#[]⟩] 35)) = w0 at A X E ⊢
  refine (HK.out _).mono ?_
  rintro e w1 ⟨rfl, hE⟩
  replace A := A.ext hE
  replace X := X.ext hE
  replace E := E.trans hE
  clear hE HK
  by_cases h0 : n = 0
  rotate_left
  · have hne : ¬ ((n : Int) = 0) := by omega
    rw [if_pos h0] at hRR
    have HRR := Lib.hid hRR
    clear h0 hRR
    obtain ⟨d0, d1, g0, g1⟩ := X
    have zd := cell_lt d0
    dsimp only at zd
    go_wp2
    refine bodyPost_ret (v := .tuple #[.agg #[txt [], txt []], .int .i64 (n : Nat)]) (by rw [results_cell_tmp1 rfl]; go_simp) rfl ?_
    exact ⟨by rw [HRR.out]; rfl, extA⟩
  subst h0
  rw [if_neg (not_not_intro rfl)] at hRR
  have A' := A
  obtain ⟨a0, a1, a2, a3⟩ := A'
  have za := cell_lt a0
  have zd := cell_lt X.c0
  dsimp only at za zd
  go_wp2_with fail
  refine (HI.out _).mono ?_
  rintro e w2 ⟨rfl, rfl⟩
  cases b
  · rw [if_pos rfl] at hRR
    have HRR := Lib.hid hRR
    clear hRR
    obtain ⟨d0, d1, g0, g1⟩ := X
    go_wp2
    refine bodyPost_ret (v := .tuple #[.agg #[txt [], txt []], .int .i64 2]) (by rw [results_cell_tmp1 rfl]; go_simp) rfl ?_
    exact ⟨by rw [HRR.out]; rfl, extA⟩
  rw [if_neg (by simp)] at hRR
  have HRR := Lib.hid hRR
  clear hRR
  obtain ⟨t1, t2⟩ := hib rfl
  have hS : Ext w2 w2.drew := extA
  clear za zd
  go_wp2_with fail
  refine wp_region_heldE 6 (Ext w2) (by kernel_rfl) ?_
  generalize w2.drew = v0 at hS ⊢
  (refine wpAnyE_take (oi := ?_) (v := ?_) (i := 0) ?_ (by kernel_rfl) ?_ ?_ (by assumption) ?_; rotate_left 2; (focus ((simp only [List.getElem?_toArray, List.getElem?_cons_zero]; exact rfl))); (focus (exact fun _ _ _ h => h)); (focus (refine Or.inl ⟨by rfl, ?_⟩; intro w hSw; have ha0 := hSw.cell a0; have za0 := cell_lt ha0; dsimp only at za0; have ha1 := hSw.cell a1; have za1 := cell_lt ha1; dsimp only at za1; (first | (go_simp; done) | (go_simp; with_reducible rfl)))); (try simp only [Act.put, List.setIfInBounds_toArray, List.set_cons_zero, List.set_cons_succ]))
  (refine ePu 1 ?_)
  (refine wpAnyE_one (i := 2) (o := ?_) ?_ (by kernel_rfl) (fun K hK => ?_); rotate_left; (focus ((simp only [List.getElem?_toArray, List.getElem?_cons_succ, List.getElem?_cons_zero]; exact rfl))); go_simp; refine (HP.out _ t1 t2).mono ?_; rintro e v9 ⟨rfl, hE⟩; go_wp2_with fail; refine hK.out _ _ (hS.trans hE) (fun hHeld => ?_); clear hK K hHeld; (try simp only [Act.put, List.setIfInBounds_toArray, List.set_cons_zero, List.set_cons_succ]); replace hS := hS.trans hE; clear hE)
  (refine wpAnyE_one (i := 3) (o := ?_) ?_ (by kernel_rfl) (fun K hK => ?_); rotate_left; (focus ((simp only [List.getElem?_toArray, List.getElem?_cons_succ, List.getElem?_cons_zero]; exact rfl))); go_simp; refine (HM.out _ t1 t2).mono ?_; rintro e v9 ⟨rfl, hE⟩; go_wp2_with fail; refine hK.out _ _ (hS.trans hE) (fun hHeld => ?_); clear hK K hHeld; (try simp only [Act.put, List.setIfInBounds_toArray, List.set_cons_zero, List.set_cons_succ]); replace hS := hS.trans hE; clear hE)
  ((refine ePu 4 ?_); (refine ePu 5 ?_))
  obtain ⟨d0, d1, g0, g1⟩ := X.ext hS
  have zd := cell_lt d0
  dsimp only at zd
  replace E := E.trans hS
  (refine wpAnyE_free (i := 6) (o := ?_) ?_ (by kernel_rfl) (by kernel_rfl) (fun K hK => ?_); rotate_left; (focus ((simp only [List.getElem?_toArray, List.getElem?_cons_succ, List.getElem?_cons_zero]; exact rfl))); go_simp; refine hK.out _ _ ?_; clear hK K; (try simp only [Act.put, List.setIfInBounds_toArray, List.set_cons_zero, List.set_cons_succ]))
  (refine ePu 7 ?_)
  refine wpAnyE_done (by kernel_rfl) ?_ _
  go_wp2
  refine bodyPost_ret (v := .tuple #[.agg #[txt m1, txt m2], .int .i64 (mn : Nat)]) (by rw [results_cell_tmp1 rfl]; go_simp) rfl ?_
  exact ⟨by rw [HRR.out], extA⟩
theorem ordp_gives {x : Txt} {v : Nat} {d : Int} (hv : v ≤ 1048577) (hd : 0 ≤ d) (hd2 : d ≤ 2000) : 0 ≤ (fracQ (itoa ((v : Int) * d)) * fracQ [49] - fracQ x * fracQ (itoa 101)).num.sign ↔ givesB (fracQ x) d v = true := by
  have h0 : 0 ≤ (v : Int) * d := Int.mul_nonneg (by omega) hd
  have h1 : (v : Int) * d ≤ 1048577 * 2000 := Int.mul_le_mul (by omega) hd2 hd (by omega)
  rw [(int_good (n := (v : Int) * d) (K := 20) (by omega) (by omega) (by omega)).val, (int_good (n := 101) (K := 20) (by omega) (by omega) (by decide)).val, one1_good.val]
  have h4 : ((101 : Int) : Rat) = 101 := rfl
  have hs := sign_neg ((((v : Int) * d : Int) : Rat) * 1 - fracQ x * ((101 : Int) : Rat))
  unfold givesB
  rw [decide_eq_true_eq]
  rw [h4] at hs ⊢
  generalize (((v : Int) * d : Int) : Rat) = a at hs ⊢
  generalize fracQ x = y at hs ⊢
  constructor
  · intro h
    have h5 : ¬ (a * 1 - y * 101 < 0) := fun g => by have := hs.2 g; omega
    grind
  · intro h
    have h5 : ¬ (a * 1 - y * 101 < 0) := by grind
    have h6 : ¬ ((a * 1 - y * 101).num.sign < 0) := fun g => h5 (hs.1 g)
    omega
theorem presB_in (p : Int) : presB p = !inB p 1 2000 := by
  unfold presB inB
  rw [Bool.eq_iff_iff]
  simp only [Bool.or_eq_true, Bool.not_eq_true', Bool.and_eq_false_iff, decide_eq_true_eq, decide_eq_false_iff_not]
  omega
set_option maxHeartbeats 16000000 in
set_option maxRecDepth 100000 in
theorem rReceiver_any (used : Enc) (high low : Int) (w : World) (hl : LenE used) : Calls Tryz.prog 37 #[encV used, .int .i64 high, .int .i64 low] w (IntP (recS used high low) (recE used high low) w) := by
  have HCK := Lib.hid (fun W => rCheck2_any used W hl)
  have HSG := Lib.hid (fun W (hf : fracE used.1 = 0) => rSignum_any used.1 W hf)
  have HPH := Lib.hid (fun W => in5_any high 1 2000 W)
  have HPL := Lib.hid (fun W => in5_any low 1 2000 W)
  obtain ⟨R, hR⟩ : ∃ R, R = recE used high low := ⟨_, rfl⟩
  obtain ⟨Z, hZ⟩ : ∃ Z, Z = recS used high low := ⟨_, rfl⟩
  unfold IntP
  rw [← hR, ← hZ]
  unfold recS at hZ
  rw [← hR] at hZ
  unfold recE at hR
  rw [presB_in, presB_in] at hR
  have HZ := Lib.hid hZ
  obtain ⟨t, u⟩ := used
  dsimp only at HSG
  dsimp only [encV] at HCK ⊢
  obtain ⟨n, hn⟩ : ∃ n, n = encE (t, u) := ⟨_, rfl⟩
  rw [← hn] at HCK hR
  have hbh : inB high 1 2000 = true → 1 ≤ high ∧ high ≤ 2000 := inB_iff.1
  have hbl : inB low 1 2000 = true → 1 ≤ low ∧ low ≤ 2000 := inB_iff.1
  generalize inB high 1 2000 = bh at HPH hR hbh
  generalize inB low 1 2000 = bl at HPL hR hbl
  have A : EncAt w.heap.size (w.alloc (.cells #[txt t, txt u] 35)) t u := ⟨by go_simp, by go_simp, by go_simp, by go_simp⟩
  have E : Ext w (w.alloc (.cells #[txt t, txt u] 35)) := extA
  clear hZ hl
  go_enter Tryz.func37, Tryz.ntmps37
  go_wp2_with fail
  generalize (w.alloc (.cells #[txt t, txt u] 35)) = w0 at A E ⊢
  refine (HCK.out _).mono ?_
  rintro e w1 ⟨rfl, hE⟩
  replace A := A.ext hE
  replace E := E.trans hE
  clear hE HCK
  by_cases h0 : n = 0
  rotate_left
  · rw [if_pos h0] at hR
    have HR := Lib.hid (And.intro hR (HZ.out.trans (if_neg (by omega))))
    have hne : ¬ ((n : Int) = 0) := by omega
    clear hR h0 hn HZ hbh hbl
    go_wp2
    go_ret2
    exact ⟨by rw [HR.out.1, HR.out.2]; rfl, E⟩
  subst h0
  have hr := enc_right hn.symm
  dsimp only at hr
  have hr1 := Lib.hid hr.1
  have hru := Lib.hid hr.2.1
  clear hn hr
  rw [if_neg (not_not_intro rfl)] at hR
  have hsn := sign_neg (fracQ t)
  have SG := HSG.out
  obtain ⟨sg, hsg⟩ : ∃ s, s = (fracQ t).num.sign := ⟨_, rfl⟩
  rw [← hsg] at SG hsn
  clear hsg HSG
  have a0 := A.c0
  have z0 := cell_lt a0
  dsimp only at z0
  go_wp2_with fail
  refine (SG _ hr1.out).mono ?_
  rintro e w2 ⟨rfl, rfl⟩
  clear SG
  by_cases hs : sg < 0
  · rw [if_pos (hsn.1 hs)] at hR
    have HR := Lib.hid (And.intro hR (HZ.out.trans (if_neg (by omega))))
    clear hR hsn HZ hbh hbl
    go_wp2
    go_ret2
    exact ⟨by rw [HR.out.1, HR.out.2]; rfl, E⟩
  rw [if_neg (fun h => hs (hsn.2 h))] at hR
  clear hsn
  cases bh
  · rw [if_pos (show (!false) = true from rfl)] at hR
    have HR := Lib.hid (And.intro hR (HZ.out.trans (if_neg (by omega))))
    clear hR HZ hbh hbl
    go_wp2_with fail
    refine (HPH.out _).mono ?_
    rintro e w3 ⟨rfl, rfl⟩
    go_wp2
    go_ret2
    exact ⟨by rw [HR.out.1, HR.out.2]; rfl, E⟩
  rw [if_neg (by simp)] at hR
  have hb1 := hbh rfl
  clear hbh
  cases bl
  · rw [if_pos (show (!false) = true from rfl)] at hR
    have HR := Lib.hid (And.intro hR (HZ.out.trans (if_neg (by omega))))
    clear hR HZ hbl
    go_wp2_with fail
    refine (HPH.out _).mono ?_
    rintro e w3 ⟨rfl, rfl⟩
    go_wp2_with fail
    refine (HPL.out _).mono ?_
    rintro e w4 ⟨rfl, rfl⟩
    go_wp2
    go_ret2
    exact ⟨by rw [HR.out.1, HR.out.2]; rfl, E⟩
  rw [if_neg (by simp)] at hR
  have hb2 := hbl rfl
  clear hbl
  go_wp2_with fail
  refine (HPH.out _).mono ?_
  rintro e w3 ⟨rfl, rfl⟩
  go_wp2_with fail
  refine (HPL.out _).mono ?_
  rintro e w4 ⟨rfl, rfl⟩
  clear HPH HPL
  by_cases hlh : high ≤ low
  · rw [if_pos hlh] at hR
    have HR := Lib.hid (And.intro hR (HZ.out.trans (if_neg (by omega))))
    clear hR HZ
    go_wp2
    go_ret2
    exact ⟨by rw [HR.out.1, HR.out.2]; rfl, E⟩
  rw [if_neg hlh] at hR
  have hle := (rec_is (x := fracQ u) (d := high - low) (by omega)).1
  have hrn : recN (fracQ u) (high - low) = halve (givesB (fracQ u) (high - low)) 0 1048577 := rfl
  have hzz := HZ.out
  generalize recN (fracQ u) (high - low) = N at hR hle hzz hrn
  have HN := Lib.hid hrn
  have HM := Lib.hid (And.intro hR hzz)
  have u1 : IntKind.i64.wrap (high - low) = high - low := IntWalk.i64_in _ (by omega)
  have HW := Lib.hid (fun (m : Nat) (hm : m ≤ 1048577) W => wholeR_any ((m : Int) * (high - low)) W (by have h1 : 0 ≤ (m : Int) * (high - low) := Int.mul_nonneg (by omega) (by omega)
                                                                                                        omega) (by have h1 : (m : Int) * (high - low) ≤ 1048577 * 2000 := Int.mul_le_mul (by omega) (by omega) (by omega) (by omega)
                                                                                                                   omega))
  have HW1 := Lib.hid (fun W => wholeR_any 101 W (by omega) (by omega))
  have HO := Lib.hid (fun (m : Nat) (hm : m ≤ 1048577) W => rOrdP_any (itoa ((m : Int) * (high - low))) [49] u (itoa 101) W
    ((int_good (n := (m : Int) * (high - low)) (K := 20) (by omega) (by omega) (by have h1 : 0 ≤ (m : Int) * (high - low) := Int.mul_nonneg (by omega) (by omega)
                                                                                   have h2 : (m : Int) * (high - low) ≤ 1048577 * 2000 := Int.mul_le_mul (by omega) (by omega) (by omega) (by omega)
                                                                                   omega)).ok) one1_good.ok hru.out (int_good (n := 101) (K := 20) (by omega) (by omega) (by decide)).ok)
  have HG := Lib.hid (fun (m : Nat) (hm : m ≤ 1048577) => ordp_gives (x := u) (v := m) (d := high - low) hm (by omega) (by omega))
  have HB := Lib.hid (fun (m : Nat) (hm : m ≤ 1048577) => (⟨Int.mul_nonneg (by omega) (by omega), Int.mul_le_mul (by omega) (by omega) (by omega) (by omega)⟩ : 0 ≤ (m : Int) * (high - low) ∧ (m : Int) * (high - low) ≤ 1048577 * 2000))
  have A1 := A.c1
  clear hR HZ hrn hzz a0 z0 A
  go_wp2
  go_loopw [9, 10] (fun x y wr => ∃ i j : Nat, i ≤ j ∧ j ≤ 1048577 ∧ x = .int .i64 i ∧ y = .int .i64 j ∧ Hid (N = halve (givesB (fracQ u) (high - low)) i j) ∧ Ext w4 wr) (fun x y _ => (intOf y).toNat - (intOf x).toNat)
  case atStart => exact ⟨0, 1048577, by omega, by omega, rfl, rfl, HN.out, Ext.refl _⟩
  case round =>
    obtain ⟨i, j, hij, hjn, rfl, rfl, hz, he⟩ := hrel
    by_cases hlt : i < j
    · obtain ⟨m, hm⟩ : ∃ m, m = (i + j) / 2 := ⟨_, rfl⟩
      have u2 : ((i : Int) + (j : Int)).tdiv 2 = (m : Int) := by rw [Int.tdiv_eq_ediv_of_nonneg (by omega)]; omega
      have hmj : m < j := by omega
      have him : i ≤ m := by omega
      have hmn : m ≤ 1048577 := by omega
      have hb := HB.out m hmn
      have u3 : IntKind.i64.wrap ((m : Int) * (high - low)) = (m : Int) * (high - low) := IntWalk.i64_in _ (by omega)
      have u4 : IntKind.i64.wrap ((i : Int) + (j : Int)) = (i : Int) + (j : Int) := IntWalk.i64_in _ (by omega)
      have HWm := Lib.hid (HW.out m hmn)
      have HOm := HO.out m hmn
      have hgm := HG.out m hmn
      generalize (fracQ (itoa ((m : Int) * (high - low))) * fracQ [49] - fracQ u * fracQ (itoa 101)).num.sign = z at HOm hgm
      have HOM := Lib.hid HOm
      obtain ⟨q, hq⟩ : ∃ q, givesB (fracQ u) (high - low) m = q := ⟨_, rfl⟩
      rw [hq] at hgm
      have hq2 := hq
      rw [hm] at hq2
      have HZq : Hid (N = if q = true then halve (givesB (fracQ u) (high - low)) i m else halve (givesB (fracQ u) (high - low)) (m + 1) j) := by
        show _ = _
        rw [hz.out, hm]
        cases q
        · rw [halve_no hlt hq2]; rfl
        · rw [halve_yes hlt hq2]; rfl
      have A2 := he.cell A1
      have hS : Ext wr wr.drew := extA
      clear hq hq2 hm hz hb HOm HN HM HG HB
      cases q
      all_goals
        first | (have hz0 : 0 ≤ z := hgm.2 rfl) | (have hz0 : ¬ (0 ≤ z) := fun h => by have := hgm.1 h; cases this)
        first | (have h1 : Hid (N = halve (givesB (fracQ u) (high - low)) (m + 1) j) := HZq.out) | (have h1 : Hid (N = halve (givesB (fracQ u) (high - low)) i m) := HZq.out)
        clear HZq hgm
        go_wp2_with fail
        refine wp_region_heldE 99 (Ext wr) (by kernel_rfl) ?_
        generalize wr.drew = v0 at hS ⊢
        ((refine ePu 0 ?_); (refine ePu 1 ?_); (refine ePu 2 ?_); (refine ePu 3 ?_); (refine ePu 4 ?_); (refine ePu 6 ?_))
        (refine wpAnyE_take (oi := ?_) (v := ?_) (i := 7) ?_ (by kernel_rfl) ?_ ?_ (by assumption) ?_; rotate_left 2; (focus ((simp only [List.getElem?_toArray, List.getElem?_cons_succ, List.getElem?_cons_zero]; exact rfl))); (focus (exact fun _ _ _ h => h)); (focus (refine Or.inl ⟨by rfl, ?_⟩; intro w hSw; have hA2 := hSw.cell A2; have zA2 := cell_lt hA2; dsimp only at zA2; (first | (go_simp; done) | (go_simp; with_reducible rfl)))); (try simp only [Act.put, List.setIfInBounds_toArray, List.set_cons_zero, List.set_cons_succ]))
        (refine wpAnyE_one (i := 5) (o := ?_) ?_ (by kernel_rfl) (fun K hK => ?_); rotate_left; (focus ((simp only [List.getElem?_toArray, List.getElem?_cons_succ, List.getElem?_cons_zero]; exact rfl))); go_simp; refine (HWm.out _).mono ?_; rintro e v9 ⟨rfl, hE⟩; go_wp2_with fail; refine hK.out _ _ (hS.trans hE) (fun hHeld => ?_); clear hK K hHeld; (try simp only [Act.put, List.setIfInBounds_toArray, List.set_cons_zero, List.set_cons_succ]); replace hS := hS.trans hE; clear hE)
        (refine wpAnyE_one (i := 8) (o := ?_) ?_ (by kernel_rfl) (fun K hK => ?_); rotate_left; (focus ((simp only [List.getElem?_toArray, List.getElem?_cons_succ, List.getElem?_cons_zero]; exact rfl))); go_simp; refine (HW1.out _).mono ?_; rintro e v9 ⟨rfl, hE⟩; go_wp2_with fail; refine hK.out _ _ (hS.trans hE) (fun hHeld => ?_); clear hK K hHeld; (try simp only [Act.put, List.setIfInBounds_toArray, List.set_cons_zero, List.set_cons_succ]); replace hS := hS.trans hE; clear hE)
        (refine wpAnyE_one (i := 9) (o := ?_) ?_ (by kernel_rfl) (fun K hK => ?_); rotate_left; (focus ((simp only [List.getElem?_toArray, List.getElem?_cons_succ, List.getElem?_cons_zero]; exact rfl))); go_simp; refine (HOM.out _).mono ?_; rintro e v9 ⟨rfl, hE⟩; go_wp2_with fail; refine hK.out _ _ (hS.trans hE) (fun hHeld => ?_); clear hK K hHeld; (try simp only [Act.put, List.setIfInBounds_toArray, List.set_cons_zero, List.set_cons_succ]); replace hS := hS.trans hE; clear hE)
        (refine ePu 10 ?_)
        refine wpAnyE_done (by kernel_rfl) ?_ _
        have E5 := he.trans hS
        go_wp2
        first | exact ⟨⟨i, m, him, by omega, rfl, rfl, h1.out, E5⟩, by simp [intOf]; omega⟩ | exact ⟨⟨m + 1, j, by omega, hjn, by go_num, rfl, h1.out, E5⟩, by simp [intOf]; omega⟩
    · have hke : i = j := by omega
      subst hke
      have h1 := hz.out
      rw [halve_end (by omega)] at h1
      obtain ⟨k1, k2⟩ := HM.out
      have EE := E.trans he
      subst h1
      clear hz HM HN
      by_cases hN : 1048576 < N
      · rw [if_pos hN] at k1
        have HR := Lib.hid (And.intro k1 (k2.trans (if_neg (by omega))))
        clear k1 k2
        go_wp2
        go_ret2
        exact ⟨by rw [HR.out.1, HR.out.2]; rfl, EE⟩
      · rw [if_neg hN] at k1
        have HR := Lib.hid (And.intro k1 (k2.trans (if_pos k1)))
        clear k1 k2
        go_wp2
        go_ret2
        exact ⟨by rw [HR.out.1, HR.out.2]; rfl, EE⟩
end Go.Proofs.YtlnonmmaknhppaaGreatDoor
namespace Go.Proofs.YtlnonmmaknhppaaGreatDoor
open Go.RowKit
set_option maxHeartbeats 16000000 in
set_option maxRecDepth 100000 in
theorem lawKeeps_any (used : Enc) (x : Int × Int × Int) (w : World) (hG : Glob w) : Calls Tryz.prog 7 #[encV used, .agg #[.int .i64 x.1, .int .i64 x.2.1, .int .i64 x.2.2]] w fun e w' => e = .returned (.bool true) ∧ Ext w w' := by
  have HG := Lib.hid hG
  obtain ⟨x, y, z⟩ := x
  dsimp only
  have HA := Lib.hid (fun W (g : Ext w W) => awake5_any W (HG.out.ext g))
  have HF := Lib.hid (fun W => few2_any used W)
  have X1 := fun W (g : Ext w W) (hl : LenE used) => aRate_any used x W (HG.out.ext g) hl
  have Y1 := fun W (hl : LenE used) => rRate_any used x W hl
  have X2 := fun W (g : Ext w W) (hl : LenE used) => aReceiver_any used y z W (HG.out.ext g) hl
  have Y2 := fun W (hl : LenE used) => rReceiver_any used y z W hl
  unfold EncP at X1 Y1
  unfold IntP at X2 Y2
  have HL := Lib.hid (fun (h : fewE used = true) => fewE_len h)
  generalize rateS used x 1000000 = R1 at X1 Y1
  generalize recS used y z = R2 at X2 Y2
  generalize recE used y z = n2 at X2 Y2
  obtain ⟨⟨p1, q1⟩, r1⟩ := R1
  have hen : encV used = .agg #[txt used.1, txt used.2] := rfl
  rw [hen] at HF ⊢
  simp only [hen] at X1 Y1 X2 Y2
  dsimp only [encV] at X1 Y1
  replace X1 := Lib.hid X1
  replace X2 := Lib.hid X2
  replace Y1 := Lib.hid Y1
  replace Y2 := Lib.hid Y2
  generalize fewE used = fw at HF HL
  clear hG hen
  have U : EncAt w.heap.size ((w.alloc (.cells #[txt used.1, txt used.2] 35)).alloc (.cells #[.int .i64 x, .int .i64 y, .int .i64 z] 59)) used.1 used.2 := ⟨by go_simp, by go_simp, by go_simp, by go_simp⟩
  have C : CylAt (w.heap.size + 1) ((w.alloc (.cells #[txt used.1, txt used.2] 35)).alloc (.cells #[.int .i64 x, .int .i64 y, .int .i64 z] 59)) x y z := ⟨by go_simp, by go_simp, by go_simp⟩
  have E : Ext w ((w.alloc (.cells #[txt used.1, txt used.2] 35)).alloc (.cells #[.int .i64 x, .int .i64 y, .int .i64 z] 59)) := extA
  go_enter Tryz.func7, Tryz.ntmps7
  go_wp2_with fail
  generalize ((w.alloc (.cells #[txt used.1, txt used.2] 35)).alloc (.cells #[.int .i64 x, .int .i64 y, .int .i64 z] 59)) = w0 at U C E ⊢
  refine (HF.out _).mono ?_
  rintro e w1 ⟨rfl, hE⟩
  replace E := E.trans hE
  replace C := C.ext hE
  replace U := U.ext hE
  clear hE
  cases fw
  · obtain ⟨u0, u1, u2, u3⟩ := U
    have zu := cell_lt u0
    dsimp only at zu
    go_wp2_with (go_at_call 13; refine (HA.out _ E).mono ?_; rintro e wz ⟨rfl, hE⟩)
    go_ret
    exact ⟨rfl, E.trans hE⟩
  have HLn := Lib.hid (HL.out rfl)
  clear HL HF
  have C' := C
  obtain ⟨c0, c1, c2⟩ := C'
  have U' := U
  obtain ⟨u0, u1, u2, u3⟩ := U'
  have zc := cell_lt c0
  have zu := cell_lt u0
  dsimp only at zc zu
  go_wp2_with fail
  clear c0 c1 c2 zc u0 u1 u2 u3 zu
  refine (X1.out _ E HLn.out).mono ?_
  rintro e w2 ⟨rfl, hE⟩
  replace E := E.trans hE
  replace C := C.ext hE
  replace U := U.ext hE
  clear hE
  have C' := C
  obtain ⟨c0, c1, c2⟩ := C'
  have U' := U
  obtain ⟨u0, u1, u2, u3⟩ := U'
  have zc := cell_lt c0
  have zu := cell_lt u0
  dsimp only at zc zu
  go_wp2_with fail
  clear c0 c1 c2 zc u0 u1 u2 u3 zu
  have A : EncAt w2.heap.size (w2.alloc (.cells #[txt p1, txt q1] 35)) p1 q1 := ⟨by go_simp, by go_simp, by go_simp, by go_simp⟩
  have EA : Ext w2 (w2.alloc (.cells #[txt p1, txt q1] 35)) := extA
  replace C := C.ext EA
  replace U := U.ext EA
  replace E := E.trans EA
  clear EA
  obtain ⟨kA, hkA⟩ : ∃ k, k = w2.heap.size := ⟨_, rfl⟩
  rw [← hkA] at A ⊢
  clear hkA
  generalize (w2.alloc (.cells #[txt p1, txt q1] 35)) = w3 at C U A E ⊢
  refine (Y1.out _ HLn.out).mono ?_
  rintro e w4 ⟨rfl, hE⟩
  replace E := E.trans hE
  replace C := C.ext hE
  replace U := U.ext hE
  replace A := A.ext hE
  clear hE
  have C' := C
  obtain ⟨c0, c1, c2⟩ := C'
  have U' := U
  obtain ⟨u0, u1, u2, u3⟩ := U'
  have zc := cell_lt c0
  have zu := cell_lt u0
  dsimp only at zc zu
  go_wp2_with fail
  clear c0 c1 c2 zc u0 u1 u2 u3 zu
  have B : EncAt w4.heap.size (w4.alloc (.cells #[txt p1, txt q1] 35)) p1 q1 := ⟨by go_simp, by go_simp, by go_simp, by go_simp⟩
  have EA : Ext w4 (w4.alloc (.cells #[txt p1, txt q1] 35)) := extA
  replace C := C.ext EA
  replace U := U.ext EA
  replace A := A.ext EA
  replace E := E.trans EA
  clear EA
  obtain ⟨kB, hkB⟩ : ∃ k, k = w4.heap.size := ⟨_, rfl⟩
  rw [← hkB] at B ⊢
  clear hkB
  generalize (w4.alloc (.cells #[txt p1, txt q1] 35)) = w5 at C U A B E ⊢
  refine (X2.out _ E HLn.out).mono ?_
  rintro e w6 ⟨rfl, hE⟩
  replace E := E.trans hE
  replace C := C.ext hE
  replace U := U.ext hE
  replace A := A.ext hE
  replace B := B.ext hE
  clear hE
  have C' := C
  obtain ⟨c0, c1, c2⟩ := C'
  have U' := U
  obtain ⟨u0, u1, u2, u3⟩ := U'
  have zc := cell_lt c0
  have zu := cell_lt u0
  dsimp only at zc zu
  go_wp2_with fail
  clear c0 c1 c2 zc u0 u1 u2 u3 zu
  refine (Y2.out _ HLn.out).mono ?_
  rintro e w7 ⟨rfl, hE⟩
  replace E := E.trans hE
  replace C := C.ext hE
  replace U := U.ext hE
  replace A := A.ext hE
  replace B := B.ext hE
  clear hE
  obtain ⟨A0, A1, A2, A3⟩ := A
  have zA := cell_lt A0
  dsimp only at zA
  obtain ⟨B0, B1, B2, B3⟩ := B
  have zB := cell_lt B0
  dsimp only at zB
  go_wp2_with fail
  refine (HA.out _ E).mono ?_
  rintro e wz ⟨rfl, hE⟩
  have A0 := hE.cell A0
  have A1 := hE.cell A1
  have B0 := hE.cell B0
  have B1 := hE.cell B1
  have zA := cell_lt A0
  dsimp only at zA
  have zB := cell_lt B0
  dsimp only at zB
  go_wp2
  go_ret
  exact ⟨rfl, E.trans hE⟩
end Go.Proofs.YtlnonmmaknhppaaGreatDoor
namespace Go.Proofs.YtlnonmmaknhppaaGreatDoor
open Go.RowKit
def cyl0 : Cyl := ⟨0, 0, 0⟩
def CellsC (w : World) (a : Option Addr) (l : List Cyl) : Prop :=
  ∀ i, i < l.length → ∃ b off, a = some ⟨b, off, none⟩ ∧ w.cell? ⟨b, off + i * 3, none⟩ = some (.int .i64 (l.getD i cyl0).bore) ∧ w.cell? ⟨b, off + i * 3 + 1, none⟩ = some (.int .i64 (l.getD i cyl0).rod) ∧ w.cell? ⟨b, off + i * 3 + 2, none⟩ = some (.int .i64 (l.getD i cyl0).stroke)
theorem CellsC.ext {w w' : World} {a : Option Addr} {l : List Cyl} (h : CellsC w a l) (he : Ext w w') : CellsC w' a l := fun i hi => by
  obtain ⟨b, off, h1, h2, h3, h4⟩ := h i hi
  exact ⟨b, off, h1, he.cell h2, he.cell h3, he.cell h4⟩
def flatC : List Cyl → List Value
  | [] => []
  | c :: l => .int .i64 c.bore :: .int .i64 c.rod :: .int .i64 c.stroke :: flatC l
theorem flatC_get (l : List Cyl) : ∀ i, i < l.length → (flatC l)[i * 3]? = some (.int .i64 (l.getD i cyl0).bore) ∧ (flatC l)[i * 3 + 1]? = some (.int .i64 (l.getD i cyl0).rod) ∧ (flatC l)[i * 3 + 2]? = some (.int .i64 (l.getD i cyl0).stroke) := by
  induction l with
  | nil => intro i h; simp at h
  | cons c l ih =>
    intro i h
    cases i with
    | zero => exact ⟨rfl, rfl, rfl⟩
    | succ i =>
      have := ih i (by simpa using h)
      rw [show (i + 1) * 3 = i * 3 + 1 + 1 + 1 by omega]
      simpa [flatC] using this
def OwnsC (w : World) (v : Value) (l : List Cyl) : Prop := w.ownsRow 0 49 3 v l.length (flatC l)
theorem OwnsC.nil (w : World) : OwnsC w (.slice none 0 0) [] := World.ownsRow_nil w 0 _ _
theorem OwnsC.ext {A B : World} {v : Value} {l : List Cyl} (h : OwnsC A v l) (k : Ext A B) : OwnsC B v l := rowExt h k
theorem OwnsC.reads {A : World} {v : Value} {l : List Cyl} (h : OwnsC A v l) : ∃ a cap, v = .slice a l.length cap ∧ CellsC A a l ∧ l.length ≤ maxLen := by
  obtain ⟨a, cap, hv, hm, hr⟩ := rowReads h
  refine ⟨a, cap, hv, fun i hi => ?_, hm⟩
  obtain ⟨b, hb, _, h1, _⟩ := hr _ _ (flatC_get l i hi).1
  obtain ⟨b2, hb2, _, h2, _⟩ := hr _ _ (flatC_get l i hi).2.1
  obtain ⟨b3, hb3, _, h3, _⟩ := hr _ _ (flatC_get l i hi).2.2
  rw [hb] at hb2 hb3
  cases hb2
  cases hb3
  exact ⟨b, 0, hb, by rw [Nat.zero_add]; exact h1, by rw [Nat.zero_add]; exact h2, by rw [Nat.zero_add]; exact h3⟩
end Go.Proofs.YtlnonmmaknhppaaGreatDoor
namespace Go.Proofs.YtlnonmmaknhppaaGreatDoor
open Go.RowKit Go.ChangeShapes Go.WideShapes Go.Joins Go.Deep
theorem cellsOfInt : Tryz.prog.cellsOf 3 = 1 := by kernel_rfl
theorem list3 {α : Type} {l : List α} (h : l.length = 3) : ∃ a b c, l = [a, b, c] := by
  match l, h with
  | [a, b, c], _ => exact ⟨a, b, c, rfl⟩
section
variable {H : Type} {enc : TypeId × Value → H} {w : World} {base : Nat} {spare : Nat → Bool} {held : Bool}
set_option maxRecDepth 100000 in
theorem open_ints3 {r : Reach} {b0 : Nat} {v : Value} {d : DataW H} {p : List MemPlace} (hv : Value.okWide Tryz.prog w r b0 59 v) (h : DataW.Trod enc Tryz.prog w base spare held 59 v d p) :
    ∃ x : Int × Int × Int, v = .agg #[.int .i64 x.1, .int .i64 x.2.1, .int .i64 x.2.2] := by
  simp only [Value.okWide, Tryz.underlying59] at hv
  obtain ⟨cs, rfl, _, _⟩ := hv
  obtain ⟨fuel, hf⟩ := h
  obtain ⟨xs, m, _, _, hl, hxs, hx⟩ := DataW.trod_array Tryz.underlying59 hf
  have hl2 : cs.toList.length = 3 := hl.trans (by kernel_rfl)
  obtain ⟨a, b, c, hcs⟩ := list3 hl2
  have hc : (Value.agg cs).cells.toList = [a, b, c] := hcs
  rw [hc, cellsOfInt] at hx
  have get : ∀ i, i < 3 → ∃ y, xs[i]? = some y := fun i hi => ⟨xs[i], List.getElem?_eq_getElem (by omega)⟩
  obtain ⟨y0, g0⟩ := get 0 (by omega)
  have k0 := hx 0 (by omega)
  rw [g0] at k0
  obtain ⟨x0, e0, _, w0⟩ := DataW.trod_int Tryz.underlying3 k0
  simp at e0
  subst e0
  obtain ⟨y1, g1⟩ := get 1 (by omega)
  have k1 := hx 1 (by omega)
  rw [g1] at k1
  obtain ⟨x1, e1, _, w1⟩ := DataW.trod_int Tryz.underlying3 k1
  simp at e1
  subst e1
  obtain ⟨y2, g2⟩ := get 2 (by omega)
  have k2 := hx 2 (by omega)
  rw [g2] at k2
  obtain ⟨x2, e2, _, w2⟩ := DataW.trod_int Tryz.underlying3 k2
  simp at e2
  subst e2
  refine ⟨(x0, x1, x2), ?_⟩
  congr 1
  apply Array.ext'
  exact hcs
end
end Go.Proofs.YtlnonmmaknhppaaGreatDoor
