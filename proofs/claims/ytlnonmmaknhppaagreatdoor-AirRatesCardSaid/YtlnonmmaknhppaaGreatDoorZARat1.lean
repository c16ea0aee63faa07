/- Steps of the proof: Air3, Air6, FRefS, AGiv, AOpen, AJoin, AShr, ARat, ALRt. No conditions. -/
import Derived.Test.YtlnonmmaknhppaaGreatDoorCards
import Derived.Test.YtlnonmmaknhppaaGreatDoorTie
import Derived.WalkKit
import Derived.ProofKit
import Derived.OpenShut
import Derived.Deep.DeepHandedRow
import Derived.Lib.LaidTab
import Derived.LaidSub
import Derived.Stop.LaidErr
import Derived.MakeChecks
import Derived.Lib.SmallJoins
import Derived.Deep.Slices
import Derived.Test.YtlnonmmaknhppaaGreatDoorZAB1
import Derived.Test.YtlnonmmaknhppaaGreatDoorZAB2
import Derived.Test.YtlnonmmaknhppaaGreatDoorZAB3
import Derived.Test.YtlnonmmaknhppaaGreatDoorZAB4
import Derived.Test.YtlnonmmaknhppaaGreatDoorZAB5
import Derived.Test.YtlnonmmaknhppaaGreatDoorZAB6
import Derived.Test.YtlnonmmaknhppaaGreatDoorZAB7
import Derived.Test.YtlnonmmaknhppaaGreatDoorZAB8
import Derived.Test.YtlnonmmaknhppaaGreatDoorZAB9
import Derived.Test.YtlnonmmaknhppaaGreatDoorZAB10
import Derived.Test.YtlnonmmaknhppaaGreatDoorZAB11
namespace Go.Proofs.YtlnonmmaknhppaaGreatDoor
def rateS (used : Enc) (t : Int) (m : Int) : EncR := if encE used ≠ 0 then badEnc (encE used) else if t < 1 ∨ m < t then badEnc 2 else mulE used (fracT (((60000 : Int) : Rat) / (t : Rat)), fracT (((60000 : Int) : Rat) / (t : Rat)))
theorem two_good : Good 1 [50] 2 := ⟨by decide, by decide +kernel, by unfold FitB; decide +kernel⟩
theorem rate_twice {used : Enc} {t m : Int} (h : ShortR used) (h1 : 1 ≤ t) (h2 : 2 * t ≤ m) (h3 : m < 10 ^ 20) :
    (rateS used t m).2 = 0 ∧ (rateS used (2 * t) m).2 = 0 ∧ mulE (rateS used (2 * t) m).1 ([50], [50]) = rateS used t m ∧ LenE (rateS used (2 * t) m).1 := by
  have hg := h.good
  obtain q1 := hg.quo (n := 60000) (d := t) (L := 20) (by omega) (by omega) (by omega) (by omega) (by omega)
  obtain q2 := hg.quo (n := 60000) (d := 2 * t) (L := 20) (by omega) (by omega) (by omega) (by omega) (by omega)
  have e1 : rateS used t m = (encT (fracQ used.1 * (((60000 : Int) : Rat) / (t : Rat))) (fracQ used.2 * (((60000 : Int) : Rat) / (t : Rat))), 0) := by
    unfold rateS
    rw [if_neg (not_not_intro hg.ok), if_neg (by omega), q1.mul]
  have e2 : rateS used (2 * t) m = (encT (fracQ used.1 * (((60000 : Int) : Rat) / ((2 * t : Int) : Rat))) (fracQ used.2 * (((60000 : Int) : Rat) / ((2 * t : Int) : Rat))), 0) := by
    unfold rateS
    rw [if_neg (not_not_intro hg.ok), if_neg (by omega), q2.mul]
  have ht : (t : Rat) ≠ 0 := by
    intro e
    have : t = 0 := by exact_mod_cast e
    omega
  have key : ∀ x : Rat, x * (((60000 : Int) : Rat) / ((2 * t : Int) : Rat)) * 2 = x * (((60000 : Int) : Rat) / (t : Rat)) := fun x => by
    have h5 : ((2 : Int) : Rat) = 2 := rfl
    rw [Rat.intCast_mul, h5]
    grind
  obtain ⟨m1, _⟩ := q2.good.times two_good (by decide) (by omega)
  rw [key, key] at m1
  rw [e1, e2]
  exact ⟨rfl, rfl, m1, q2.good.len⟩
end Go.Proofs.YtlnonmmaknhppaaGreatDoor
namespace Go.Proofs.YtlnonmmaknhppaaGreatDoor
open Go.Lib (decDigits itoa)
theorem times_nil (a : Enc) : timesE a [] = (a, 0) := rfl
theorem rate_times {used : Enc} {t m : Int} (h0 : encE used = 0) (h1 : 1 ≤ t) (h2 : t ≤ m) (h3 : m < 10 ^ 20) : rateS used t m = timesE used [(60000, t)] := by
  obtain ⟨g1, g2⟩ := quo_good (n := 60000) (d := t) (K := 20) (by omega) (by decide) (by omega) (by omega)
  have hq : quoS 60000 t = ((fracT (((60000 : Int) : Rat) / (t : Rat)), fracT (((60000 : Int) : Rat) / (t : Rat))), 0) := by
    unfold quoS
    rw [g1, if_neg (by simp), g2.point.1]
  unfold rateS timesE
  rw [if_neg (not_not_intro h0), if_neg (by omega), hq, if_neg (by simp)]
  split
  · rename_i g
    have e : ∀ r : EncR, r.2 ≠ 0 → (∃ a b, r = endsR a b) → r = badEnc r.2 := fun r hr ⟨a, b, e⟩ => by
      subst e
      unfold endsR at hr ⊢
      split
      · rfl
      · split
        · rfl
        · rename_i g1 g2; rw [if_neg g1, if_neg g2] at hr; exact absurd rfl hr
    refine e _ g ?_
    unfold mulE
    rw [if_neg]
    · exact ⟨_, _, rfl⟩
    · refine not_not_intro ?_
      unfold bothEE
      rw [if_pos h0]
      exact g2.point.2.ok
  · rename_i g
    rw [times_nil]
    have : (mulE used (fracT (((60000 : Int) : Rat) / (t : Rat)), fracT (((60000 : Int) : Rat) / (t : Rat)))).2 = 0 := by
      by_cases h9 : (mulE used (fracT (((60000 : Int) : Rat) / (t : Rat)), fracT (((60000 : Int) : Rat) / (t : Rat)))).2 = 0
      · exact h9
      · exact absurd h9 g
    rw [← this]
end Go.Proofs.YtlnonmmaknhppaaGreatDoor
namespace Go.Proofs.YtlnonmmaknhppaaGreatDoor
open Go.RowKit
open Go.Lib (decDigits itoa)
set_option maxHeartbeats 2000000 in
theorem rShort_any (s : Txt) (w : World) : Calls Tryz.prog 63 #[txt s] w fun e w' => e = .returned (.bool (decide (s.length ≤ 10))) ∧ w' = w := by
  have HB : Hid (decide ((s.length : Int) ≤ 10) = decide (s.length ≤ 10)) := by
    show _ = _
    exact decide_eq_decide.2 (by omega)
  go_enter Tryz.func63, Tryz.ntmps63
  go_wp2
  go_ret
  exact ⟨ret_bool HB.out, rfl⟩
end Go.Proofs.YtlnonmmaknhppaaGreatDoor
namespace Go.Proofs.YtlnonmmaknhppaaGreatDoor
open Go.ChangeShapes Go.WideShapes Go.ChangeAt Go.RowKit
theorem own : ownKnob Tryz.prog.godebug = none := by kernel_rfl
theorem gTab : Tryz.prog.globalNamed "internal/strconv.uint64pow10" = some 0 := by kernel_rfl
theorem gTabT : (Tryz.prog.globals[0]?).map (·.type) = some 269 := by kernel_rfl
theorem cellsTab : Tryz.prog.cellsOf 269 = 20 := by kernel_rfl
theorem cellsU64 : Tryz.prog.cellsOf 159 = 1 := by kernel_rfl
theorem gRng : Tryz.prog.globalNamed "strconv.ErrRange" = some 5 := by kernel_rfl
theorem gRngT : (Tryz.prog.globals[5]?).map (·.type) = some 229 := by kernel_rfl
theorem gSyn : Tryz.prog.globalNamed "strconv.ErrSyntax" = some 4 := by kernel_rfl
theorem gSynT : (Tryz.prog.globals[4]?).map (·.type) = some 229 := by kernel_rfl
theorem starE : "*" ++ "errors.errorString" = "*errors.errorString" := by decide
theorem rowE (u : TypeId) (h : Tryz.prog.typeName? 3 u = some "*errors.errorString") : u = 300 :=
  typeName_ptr_named (nm := "errors.errorString") (by rw [starE]; kernel_rfl) (by kernel_rfl) (by decide) u (by rw [starE]; exact h)
theorem cellsErr : Tryz.prog.cellsOf 302 = 1 := by kernel_rfl
theorem cellsStr : Tryz.prog.cellsOf 9 = 1 := by kernel_rfl
theorem glob_of {W : World} (hs : W.ShapedOpen Tryz.prog) (hL : laidMetH Tryz.prog Rows.airMeasuresRow.laid W) : Glob W := by
  have hP : laidMet Tryz.prog Rows.airMeasuresRow.laid W := by
    rw [← MakeChecks.laidMetH_plain _ _ _ (by kernel_rfl)]; exact hL
  have hP2 := hP.tail.tail
  have hP4 := hP2.tail.tail
  have hP5 := hP4.tail
  obtain ⟨a0, _, h0, _⟩ := laid_sentinel hP4 gRng gRngT Tryz.underlying229 rowE Tryz.underlying300 Tryz.underlying302 rfl rfl Tryz.underlying9 cellsErr cellsStr
  obtain ⟨a1, _, h1, _⟩ := laid_sentinel hP5 gSyn gSynT Tryz.underlying229 rowE Tryz.underlying300 Tryz.underlying302 rfl rfl Tryz.underlying9 cellsErr cellsStr
  exact ⟨cell_of_shapedOpen_int (zero := #[.int .i64 0]) (t := 3) hs (of_decide_eq_true (by kernel_rfl)) (by kernel_rfl) rfl (by kernel_rfl) (by kernel_rfl) Tryz.underlying3,
    Lib.tabIs_of_head gTab gTabT Tryz.underlying269 Tryz.underlying159 cellsU64 cellsTab hP2, ⟨_, _, h1⟩, ⟨_, _, h0⟩⟩
def flatD : Nat → DataW Unit → List Value
  | _ + 1, .lit (.int k z) => [.int k z]
  | n + 1, .agg ds => ds.flatMap (flatD n)
  | _, _ => []
def putC (cs : List Value) : Obj → Obj
  | .cells _ t frozen => .cells ⟨cs⟩ t frozen
  | o => o
noncomputable def lowB : Nat := (World.holding Tryz.prog default ⟨#[], #[], []⟩).heap.size
def rngS : ByteArray := ⟨#[118, 97, 108, 117, 101, 32, 111, 117, 116, 32, 111, 102, 32, 114, 97, 110, 103, 101]⟩
def synS : ByteArray := ⟨#[105, 110, 118, 97, 108, 105, 100, 32, 115, 121, 110, 116, 97, 120]⟩
noncomputable def laidWorld (os : Os) : World :=
  let w0 := World.holding Tryz.prog os ⟨#[.cells #[.string rngS] 302, .cells #[.string synS] 302], #[], []⟩
  { w0 with heap := (((((((w0.heap.modify 6 (putC (flatD 3 Rows.laid_math_bits_deBruijn32tab))).modify 7 (putC (flatD 3 Rows.laid_math_bits_deBruijn64tab))).modify
      0 (putC (flatD 3 Rows.laid_internal_strconv_uint64pow10))).modify 3 (putC (flatD 3 Rows.laid_unicode_utf8_acceptRanges))).modify
      5 (putC [.iface 300 (.pointer (some ⟨lowB, 0, none⟩))])).modify 4 (putC [.iface 300 (.pointer (some ⟨lowB + 1, 0, none⟩))])).modify
      2 (putC (flatD 3 Rows.laid_unicode_utf8_first))) }
theorem laid_met (os : Os) (args : Array Value) : laidMet Tryz.prog Rows.airMeasuresRow.laid ((laidWorld os).forCall (fun _ _ => 0) ⟨#[], args, []⟩).memory :=
  laidMet_of_run' 8 (by kernel_rfl) (by kernel_rfl)
end Go.Proofs.YtlnonmmaknhppaaGreatDoor
namespace Go.Proofs.YtlnonmmaknhppaaGreatDoor
open Go.RowKit Go.ChangeShapes Go.WideShapes Go.Joins Go.Deep
theorem laidOut : laidOutB Tryz.prog = true := by kernel_rfl
section
variable {H : Type} {enc : TypeId × Value → H} {w : World} {base : Nat} {spare : Nat → Bool} {held : Bool}
set_option maxRecDepth 100000 in
theorem open_enc {r : Reach} {b0 : Nat} {v : Value} {d : DataW H} {p : List MemPlace} (hv : Value.okWide Tryz.prog w r b0 35 v) (h : DataW.Trod enc Tryz.prog w base spare held 35 v d p) :
    ∃ a : Enc, v = encV a := by
  obtain ⟨c0, c1, y0, y1, n, rfl, _, _, h0, h1⟩ := open_agg2 Tryz.underlying35 (by kernel_rfl) (by kernel_rfl) hv h
  obtain ⟨⟨s0⟩, e0, _, _⟩ := DataW.trod_string Tryz.underlying23 h0
  obtain ⟨⟨s1⟩, e1, _, _⟩ := DataW.trod_string Tryz.underlying23 h1
  simp at e0 e1
  subst e0; subst e1
  exact ⟨(s0.toList, s1.toList), rfl⟩
theorem i64_bd {n : Int} (h : (Lit.int .i64 n).wf = true) : -9223372036854775808 ≤ n ∧ n ≤ 9223372036854775807 := by
  simp only [Lit.wf, Bool.and_eq_true, decide_eq_true_eq] at h
  exact h
end
end Go.Proofs.YtlnonmmaknhppaaGreatDoor
namespace Go.Proofs.YtlnonmmaknhppaaGreatDoor
open Go.RowKit Go.ChangeShapes Go.WideShapes Go.ChangeAt
theorem band {a b : Bool} (h : a = true) (k : b = true) : (a && b) = true := by rw [h, k]; rfl
theorem factLaid : laidOutB Tryz.pinned.checked.prog = true := by kernel_rfl
theorem factMaps : mapsRowed Tryz.pinned.checked.prog = true := by kernel_rfl
theorem factHeard : Tryz.pinned.checked.prog.stopsHeard = true := by kernel_rfl
theorem factEnter : Tryz.pinned.checked.prog.mayEnter = true := by kernel_rfl
theorem factLifts : (Rows.airMeasuresRow.lifted == Tryz.pinned.checked.prog.liftsFinal) = true := by kernel_rfl
theorem factMake : (Tryz.pinned.checked.prog.make == some Rows.airMeasuresRow.make) = true := by kernel_rfl
theorem factKeys : (Rows.airMeasuresRow.plainKeys == Tryz.pinned.checked.prog.plainKeys) = true := by kernel_rfl
end Go.Proofs.YtlnonmmaknhppaaGreatDoor
namespace Go.Proofs.YtlnonmmaknhppaaGreatDoor
open Go.RowKit
def shortE (a : Enc) : Bool := decide (a.1.length ≤ 10) && decide (a.2.length ≤ 10)
set_option maxHeartbeats 4000000 in
theorem short2_any (a : Enc) (w : World) : Calls Tryz.prog 16 #[encV a] w fun e w' => e = .returned (.bool (shortE a)) ∧ Ext w w' := by
  obtain ⟨l, h⟩ := a
  have H1 := Lib.hid (fun W => rShort_any l W)
  have H2 := Lib.hid (fun W => rShort_any h W)
  unfold shortE
  dsimp only [encV] at *
  generalize decide (l.length ≤ 10) = b1 at *
  generalize decide (h.length ≤ 10) = b2 at *
  have E : Ext w (w.alloc (.cells #[txt l, txt h] 35)) := extA
  cases b1
  · go_enter Tryz.func16, Tryz.ntmps16
    go_wp2_with (go_at_call 63; refine (H1.out _).mono ?_; rintro e w' ⟨rfl, rfl⟩)
    go_ret
    exact ⟨rfl, E⟩
  · cases b2
    all_goals
      go_enter Tryz.func16, Tryz.ntmps16
      go_wp2_with fail
      refine (H1.out _).mono ?_
      clear H1
      rintro e w' ⟨rfl, hw⟩; obtain rfl := hw.symm; clear hw
      go_wp2_with fail
      refine (H2.out _).mono ?_
      rintro e w' ⟨rfl, hw⟩; obtain rfl := hw.symm; clear hw
      go_wp2_with fail
      go_ret
      exact ⟨rfl, E⟩
theorem short_lenE {a : Enc} (h : shortE a = true) : LenE a := by
  unfold shortE at h
  simp only [Bool.and_eq_true, decide_eq_true_eq] at h
  exact ⟨by omega, by omega⟩
end Go.Proofs.YtlnonmmaknhppaaGreatDoor
namespace Go.Proofs.YtlnonmmaknhppaaGreatDoor
open Go.RowKit
set_option maxHeartbeats 8000000 in
set_option maxRecDepth 100000 in
theorem aRate_any (used : Enc) (t : Int) (w : World) (hG : Glob w) (hl : LenE used) : Calls Tryz.prog 35 #[encV used, .int .i64 t] w (EncP (rateS used t 1000000) w) := by
  have HK := Lib.hid (fun W (g : Ext w W) => eCheck_any used W (hG.ext g) hl)
  have HG := Lib.hid hG
  have HL := Lib.hid hl
  obtain ⟨R, hR⟩ : ∃ R, R = rateS used t 1000000 := ⟨_, rfl⟩
  rw [← hR]
  obtain ⟨n, hn⟩ : ∃ n, n = encE used := ⟨_, rfl⟩
  rw [← hn] at HK
  unfold EncP
  have HT := Lib.hid (fun W qa qc (hg : Glob W) hc h1 h2 => aTimes_any used [(60000, t)] qa qc W hg HL.out hc (fun x hx => by simp at hx; subst hx; exact qok_small (by decide) (by decide) h1 h2) (by simp))
  clear hG hl
  obtain ⟨l, h⟩ := used
  dsimp only [encV] at HK ⊢
  have A : EncAt w.heap.size ((w.alloc (.cells #[txt l, txt h] 35)).alloc (.cells #[.string ⟨#[]⟩, .string ⟨#[]⟩] 35)) l h := ⟨by go_simp, by go_simp, by go_simp, by go_simp⟩
  have X : EncAt (w.heap.size + 1) ((w.alloc (.cells #[txt l, txt h] 35)).alloc (.cells #[.string ⟨#[]⟩, .string ⟨#[]⟩] 35)) [] [] := ⟨by go_simp, by go_simp, by go_simp, by go_simp⟩
  have E : Ext w ((w.alloc (.cells #[txt l, txt h] 35)).alloc (.cells #[.string ⟨#[]⟩, .string ⟨#[]⟩] 35)) := extA
  go_enter Tryz.func35, Tryz.ntmps35
  go_wp2_with fail
  generalize ((w.alloc (.cells #[txt l, txt h] 35)).alloc (.cells #[.string ⟨#[]⟩, .string ⟨#[]⟩] 35)) = w0 at A X E ⊢
  refine (HK.out _ E).mono ?_
  rintro e w1 ⟨rfl, hE⟩
  replace A := A.ext hE
  replace X := X.ext hE
  replace E := E.trans hE
  clear hE HK
  by_cases h0 : n = 0
  rotate_left
  · have hR' : R = badEnc n := by rw [hR]; unfold rateS; rw [← hn, if_pos h0]
    have HR := Lib.hid hR'
    have hne : (((n : Nat) : Int) != 0) = true := by rw [bne_iff_ne]; omega
    clear hR hR' h0 hn
    obtain ⟨d0, d1, g0, g1⟩ := X
    have zd := cell_lt d0
    dsimp only at zd
    go_wp2
    refine bodyPost_ret (v := .tuple #[.agg #[txt [], txt []], .int .i64 (n : Nat)]) (by rw [results_cell_tmp1 rfl]; go_simp) rfl ?_
    exact ⟨by rw [HR.out]; rfl, extA⟩
  subst h0
  have HN := Lib.hid hn.symm
  clear hn
  by_cases ht : t < 1 ∨ 1000000 < t
  · have hR' : R = badEnc 2 := by rw [hR]; unfold rateS; rw [if_neg (not_not_intro HN.out), if_pos ht]
    have HR := Lib.hid hR'
    clear hR hR'
    obtain ⟨d0, d1, g0, g1⟩ := X
    have zd := cell_lt d0
    dsimp only at zd
    rcases (show t < 1 ∨ (¬ t < 1 ∧ 1000000 < t) by omega) with h1 | ⟨h1, h2⟩
    all_goals
      clear ht
      go_wp2
      refine bodyPost_ret (v := .tuple #[.agg #[txt [], txt []], .int .i64 2]) (by rw [results_cell_tmp1 rfl]; go_simp) rfl ?_
      exact ⟨by rw [HR.out]; rfl, extA⟩
  have h1 : ¬ t < 1 := by omega
  have h2 : ¬ 1000000 < t := by omega
  have hR' : R = timesE (l, h) [(60000, t)] := by rw [hR, rate_times HN.out (by omega) (by omega) (by decide)]
  have T := fun W qa qc hg hc => HT.out W qa qc hg hc (by omega) (by omega)
  unfold EncP at T
  rw [← hR'] at T
  dsimp only [encV] at T
  replace T := Lib.hid T
  clear hR hR' ht HT
  obtain ⟨⟨t1, t2⟩, r⟩ := R
  dsimp only at T ⊢
  have A' := A
  obtain ⟨a0, a1, a2, a3⟩ := A'
  have za := cell_lt a0
  have zd := cell_lt X.c0
  dsimp only at za zd
  go_wp2_with fail
  have E1 : Ext w1 (w1.alloc (.cells #[.int .i64 60000, .int .i64 t] 90)) := extA
  refine (T.out _ _ 1 (HG.out.ext (E.trans E1)) (cellsQt_one w1 (60000, t) _)).mono ?_
  rintro e w2 ⟨rfl, hE⟩
  obtain ⟨d0, d1, g0, g1⟩ := X.ext (E1.trans hE)
  replace E := E.trans (E1.trans hE)
  clear E1
  clear hE X A a0 a1 a2 a3 za zd
  go_wp2
  refine bodyPost_ret (v := .tuple #[.agg #[txt t1, txt t2], .int .i64 (r : Nat)]) (by rw [results_cell_tmp1 rfl]; go_simp) rfl ?_
  exact ⟨rfl, extA⟩
end Go.Proofs.YtlnonmmaknhppaaGreatDoor
namespace Go.Proofs.YtlnonmmaknhppaaGreatDoor
open Go.RowKit
open Go.Lib (decDigits itoa)
set_option maxHeartbeats 16000000 in
set_option maxRecDepth 100000 in
theorem lawRates_any (used : Enc) (t : Int) (w : World) (hG : Glob w) (h64 : -9223372036854775808 ≤ t ∧ t ≤ 9223372036854775807) : Calls Tryz.prog 8 #[encV used, .int .i64 t] w fun e w' => e = .returned (.bool true) ∧ Ext w w' := by
  have HG := Lib.hid hG
  have HA := Lib.hid (fun W (g : Ext w W) => awake5_any W (HG.out.ext g))
  have HSH := Lib.hid (fun W => short2_any used W)
  have HCK := Lib.hid (fun W (hl : LenE used) => rCheck2_any used W hl)
  have HR := fun t W (g : Ext w W) (hl : LenE used) => aRate_any used t W (HG.out.ext g) hl
  have HM := fun (b : Enc) W (g : Ext w W) (hl : LenE b) => eMul_any b ([50], [50]) W (HG.out.ext g) hl ⟨by decide, by decide⟩
  have HL := Lib.hid (fun (h : shortE used = true) => short_lenE h)
  have HS := Lib.hid (fun (h : shortE used = true) (h0 : encE used = 0) => (⟨h0, by unfold shortE at h; simp only [Bool.and_eq_true, decide_eq_true_eq] at h; exact h⟩ : ShortR used))
  unfold EncP at HR HM
  obtain ⟨n, hn⟩ : ∃ n, n = encE used := ⟨_, rfl⟩
  have HN := Lib.hid hn
  rw [← hn] at HCK
  clear hn
  have hen : encV used = .agg #[txt used.1, txt used.2] := rfl
  rw [hen] at HSH HCK ⊢
  simp only [hen] at HR
  replace HR := Lib.hid HR
  replace HM := Lib.hid HM
  clear hen
  obtain ⟨sh, hsh⟩ : ∃ s, s = shortE used := ⟨_, rfl⟩
  rw [← hsh] at HSH
  have A : EncAt w.heap.size (w.alloc (.cells #[txt used.1, txt used.2] 35)) used.1 used.2 := ⟨by go_simp, by go_simp, by go_simp, by go_simp⟩
  have E : Ext w (w.alloc (.cells #[txt used.1, txt used.2] 35)) := extA
  clear hG
  go_enter Tryz.func8, Tryz.ntmps8
  go_wp2_with fail
  generalize (w.alloc (.cells #[txt used.1, txt used.2] 35)) = w0 at A E ⊢
  refine (HSH.out _).mono ?_
  rintro e w1 ⟨rfl, hE⟩
  replace A := A.ext hE
  replace E := E.trans hE
  clear hE
  cases sh
  · clear hsh
    have A' := A
    obtain ⟨a0, a1, a2, a3⟩ := A'
    have za := cell_lt a0
    dsimp only at za
    go_wp2_with (go_at_call 13; refine (HA.out _ E).mono ?_; rintro e wz ⟨rfl, hE⟩)
    go_ret
    exact ⟨rfl, E.trans hE⟩
  have HSn := Lib.hid (fun h0 => HS.out hsh.symm h0)
  have HLn := Lib.hid (HL.out hsh.symm)
  clear hsh
  have A' := A
  obtain ⟨a0, a1, a2, a3⟩ := A'
  have za := cell_lt a0
  dsimp only at za
  go_wp2_with fail
  clear a0 a1 a2 a3 za
  refine (HCK.out _ HLn.out).mono ?_
  rintro e w2 ⟨rfl, hE⟩
  replace A := A.ext hE
  replace E := E.trans hE
  clear hE
  by_cases h0 : n = 0
  rotate_left
  · have h0' : ¬ ((n : Int) = 0) := by omega
    clear h0
    go_wp2_with (go_at_call 13; refine (HA.out _ E).mono ?_; rintro e wz ⟨rfl, hE⟩)
    go_ret
    exact ⟨rfl, E.trans hE⟩
  subst h0
  by_cases h1 : t < 1
  · go_wp2_with (go_at_call 13; refine (HA.out _ E).mono ?_; rintro e wz ⟨rfl, hE⟩)
    go_ret
    exact ⟨rfl, E.trans hE⟩
  by_cases h2 : 500000 < t
  · go_wp2_with (go_at_call 13; refine (HA.out _ E).mono ?_; rintro e wz ⟨rfl, hE⟩)
    go_ret
    exact ⟨rfl, E.trans hE⟩
  obtain ⟨r1, r2, r3, r4⟩ := rate_twice (t := t) (m := 1000000) (HSn.out HN.out.symm) (by omega) (by omega) (by decide)
  have u1 : IntKind.i64.wrap (2 * t) = 2 * t := IntWalk.i64_in _ (by omega)
  have u0 : IntKind.i64.wrap 0 = 0 := IntWalk.i64_in _ (by omega)
  have R1 := HR.out t
  have R2 := HR.out (2 * t)
  clear HR HS HL HSn HN HSH HCK
  generalize rateS used t 1000000 = X1 at R1 r1 r3
  generalize rateS used (2 * t) 1000000 = X2 at R2 r2 r3 r4
  obtain ⟨⟨x1, x2⟩, xn⟩ := X1
  obtain ⟨⟨y1, y2⟩, yn⟩ := X2
  dsimp only at r1 r2 r3 r4
  subst r1 r2
  have M := HM.out (y1, y2)
  rw [r3] at M
  have M' := fun W g => M W g r4
  dsimp only [encV] at R1 R2 M'
  clear r3 r4 M HM
  replace R1 := Lib.hid R1
  replace R2 := Lib.hid R2
  replace M := Lib.hid M'
  clear M'
  have A' := A
  obtain ⟨a0, a1, a2, a3⟩ := A'
  have za := cell_lt a0
  dsimp only at za
  go_wp2_with fail
  clear a0 a1 a2 a3 za
  refine (R1.out _ E HLn.out).mono ?_
  rintro e w3 ⟨rfl, hE⟩
  replace A := A.ext hE
  replace E := E.trans hE
  clear hE
  have A' := A
  obtain ⟨a0, a1, a2, a3⟩ := A'
  have za := cell_lt a0
  dsimp only at za
  go_wp2_with fail
  clear a0 a1 a2 a3 za
  have B : EncAt w3.heap.size (w3.alloc (.cells #[txt x1, txt x2] 35)) x1 x2 := ⟨by go_simp, by go_simp, by go_simp, by go_simp⟩
  have EA : Ext w3 (w3.alloc (.cells #[txt x1, txt x2] 35)) := extA
  replace A := A.ext EA
  replace E := E.trans EA
  clear EA
  obtain ⟨kB, hkB⟩ : ∃ k, k = w3.heap.size := ⟨_, rfl⟩
  rw [← hkB] at B ⊢
  clear hkB
  generalize (w3.alloc (.cells #[txt x1, txt x2] 35)) = w4 at A B E ⊢
  refine (R2.out _ E HLn.out).mono ?_
  rintro e w5 ⟨rfl, hE⟩
  replace A := A.ext hE
  replace B := B.ext hE
  replace E := E.trans hE
  clear hE R1 R2
  have D : EncAt w5.heap.size (w5.alloc (.cells #[txt y1, txt y2] 35)) y1 y2 := ⟨by go_simp, by go_simp, by go_simp, by go_simp⟩
  have EA : Ext w5 (w5.alloc (.cells #[txt y1, txt y2] 35)) := extA
  go_wp2_with fail
  replace B := B.ext EA
  replace E := E.trans EA
  clear EA A
  obtain ⟨kD, hkD⟩ : ∃ k, k = w5.heap.size := ⟨_, rfl⟩
  rw [← hkD] at D ⊢
  clear hkD
  generalize (w5.alloc (.cells #[txt y1, txt y2] 35)) = w6 at B D E ⊢
  clear D
  refine (M.out _ E).mono ?_
  rintro e w7 ⟨rfl, hE⟩
  obtain ⟨b0, b1, b2, b3⟩ := B.ext hE
  have zb := cell_lt b0
  dsimp only at zb
  replace E := E.trans hE
  clear hE M B
  go_wp2_with fail
  have EA : Ext w7 (w7.alloc (.cells #[txt x1, txt x2] 35)) := extA
  refine (HA.out _ (E.trans EA)).mono ?_
  rintro e wz ⟨rfl, hE⟩
  go_wp2
  go_ret
  exact ⟨rfl, (E.trans EA).trans hE⟩
end Go.Proofs.YtlnonmmaknhppaaGreatDoor
