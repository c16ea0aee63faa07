/- Steps of the proof: Air3, Air7, FRefS, AGiv, AOpen, AJoin, AShr, ALSt. No conditions. -/
import Derived.Test.YtlnonmmaknhppaaGreatDoorCards
import Derived.Test.YtlnonmmaknhppaaGreatDoorTie
import Derived.WalkKit
import Derived.ProofKit
import Derived.OpenShut
import Derived.Deep.DeepHandedRow
import Derived.Lib.LaidTab
import Derived.LaidSub
import Derived.Stop.LaidErr
import Derived.MakeChecks
import Derived.Lib.SmallJoins
import Derived.Deep.Slices
import Derived.Test.YtlnonmmaknhppaaGreatDoorZAB1
import Derived.Test.YtlnonmmaknhppaaGreatDoorZAB2
import Derived.Test.YtlnonmmaknhppaaGreatDoorZAB3
import Derived.Test.YtlnonmmaknhppaaGreatDoorZAB4
import Derived.Test.YtlnonmmaknhppaaGreatDoorZAB5
import Derived.Test.YtlnonmmaknhppaaGreatDoorZAB6
import Derived.Test.YtlnonmmaknhppaaGreatDoorZAB7
import Derived.Test.YtlnonmmaknhppaaGreatDoorZAB8
import Derived.Test.YtlnonmmaknhppaaGreatDoorZAB9
import Derived.Test.YtlnonmmaknhppaaGreatDoorZAB10
import Derived.Test.YtlnonmmaknhppaaGreatDoorZAB11
namespace Go.Proofs.YtlnonmmaknhppaaGreatDoor
theorem halve_le {f g : Nat → Bool} (hf : ∀ a b, a ≤ b → f a = true → f b = true) (hg : ∀ a b, a ≤ b → g a = true → g b = true) (h : ∀ k, f k = true → g k = true) (n : Nat) : halve g 0 n ≤ halve f 0 n := by
  obtain ⟨_, a2, _, a4⟩ := halve_is hf n 0 n (by omega) (by omega)
  obtain ⟨_, b2, b3, _⟩ := halve_is hg n 0 n (by omega) (by omega)
  by_cases hl : halve f 0 n < n
  · have h1 := h _ (a4 hl)
    by_cases h2 : halve f 0 n < halve g 0 n
    · have := b3 _ (Nat.zero_le _) h2
      rw [h1] at this; cases this
    · omega
  · omega
theorem gives_more {x : Rat} {d : Int} : ∀ v, givesB x d v = true → givesB x (d + 1) v = true := by
  intro v h
  unfold givesB at h ⊢
  rw [decide_eq_true_eq] at h ⊢
  have h1 : (v : Int) * d ≤ (v : Int) * (d + 1) := by
    have : (v : Int) * (d + 1) = (v : Int) * d + v := by grind
    omega
  have h2 : ((((v : Int) * d : Int)) : Rat) ≤ (((v : Int) * (d + 1) : Int) : Rat) := Rat.intCast_le_intCast.2 h1
  have h4 : ((101 : Int) : Rat) = 101 := rfl
  rw [h4] at h ⊢
  grind
theorem rec_more {x : Rat} {d : Int} (hd : 0 ≤ d) : recN x (d + 1) ≤ recN x d := halve_le (gives_mono hd) (gives_mono (by omega)) gives_more _
end Go.Proofs.YtlnonmmaknhppaaGreatDoor
namespace Go.Proofs.YtlnonmmaknhppaaGreatDoor
open Go.Lib (decDigits itoa)
theorem store_law {used : Enc} {high low : Int} (he : recE used high low = 0) : 0 ≤ high - low ∧ recN (fracQ used.2) (high - low) ≤ 1048576 ∧ givesB (fracQ used.2) (high - low) (recN (fracQ used.2) (high - low)) = true ∧
    (∀ k, k < recN (fracQ used.2) (high - low) → givesB (fracQ used.2) (high - low) k = false) := by
  unfold recE at he
  repeat' split at he
  all_goals first | (rename_i g; exact absurd he g) | cases he | skip
  rename_i g1 g2 g3 g4 g5 g6
  have hd : 0 ≤ high - low := by omega
  obtain ⟨h1, h2, h3⟩ := rec_is (x := fracQ used.2) hd
  exact ⟨hd, by omega, h3 (by omega), h2⟩
theorem store_more {used : Enc} {high low : Int} (h : 2 ≤ low) (he : recE used high low = 0) : recE used high (low - 1) = 0 ∧ recN (fracQ used.2) (high - (low - 1)) ≤ recN (fracQ used.2) (high - low) := by
  obtain ⟨hd, h1, _, _⟩ := store_law he
  have hm := rec_more (x := fracQ used.2) hd
  rw [show high - low + 1 = high - (low - 1) by omega] at hm
  refine ⟨?_, hm⟩
  unfold recE at he ⊢
  repeat' split at he
  all_goals first | (rename_i g; exact absurd he g) | cases he | skip
  rename_i g1 g2 g3 g4 g5 g6
  have g7 : presB (low - 1) = false := by
    unfold presB at g4 ⊢
    simp only [Bool.or_eq_true, decide_eq_true_eq, not_or] at g4
    simp only [Bool.or_eq_false_iff, decide_eq_false_iff_not]
    omega
  rw [if_neg g1, if_neg g2, if_neg g3, g7, if_neg (by simp), if_neg (by omega), if_neg (by omega)]
end Go.Proofs.YtlnonmmaknhppaaGreatDoor
namespace Go.Proofs.YtlnonmmaknhppaaGreatDoor
open Go.RowKit
open Go.Lib (decDigits itoa)
theorem head_of {s : Txt} (hne : s ≠ []) : ∃ c, (∀ k, (⟨s.toArray⟩ : ByteArray)[0]'k = c) ∧ ((c.toNat : Int) == 45) = negS s ∧ 0 < s.length := by
  obtain ⟨c, m, hcm⟩ := List.exists_cons_of_ne_nil hne
  exact ⟨c, fun _ => by subst hcm; rfl, head_neg hcm, by rw [hcm]; simp⟩
theorem neg_top {a : Txt} (h : fracE a = 0) : a ≠ [] ∧ negS a = negS (topS a) := by
  obtain ⟨h1, _⟩ := frac_parts h
  have hne : topS a ≠ [] := fun e => h1.1.2.1 (by rw [e]; rfl)
  by_cases hs : 47 ∈ a
  · have e := split_some hs
    generalize topS a = t at *
    obtain ⟨c, m, rfl⟩ := List.exists_cons_of_ne_nil hne
    rw [e]
    exact ⟨by simp, rfl⟩
  · obtain ⟨e, _⟩ := split_none hs
    rw [e] at hne ⊢
    exact ⟨hne, rfl⟩
theorem signum_eq {a : Txt} (h : fracE a = 0) : (fracQ a).num.sign = if negS a then -1 else if a = [48] then 0 else 1 := by
  obtain ⟨h1, _⟩ := frac_parts h
  obtain ⟨_, h2⟩ := neg_top h
  have h3 := (frac_num h).1
  have h4 := neg_int h1
  rw [← h2] at h4
  by_cases hn : negS a = true
  · rw [if_pos hn]
    rw [hn, decide_eq_true_eq] at h4
    rw [h3]
    exact Int.sign_eq_neg_one_of_neg h4
  · rw [if_neg hn]
    have h5 : negS a = false := by simpa using hn
    rw [h5, decide_eq_false_iff_not] at h4
    by_cases h0 : a = [48]
    · rw [if_pos h0, ((Good.any h).zero).1 h0]; rfl
    · rw [if_neg h0]
      refine Int.sign_eq_one_of_pos ?_
      have h6 : (fracQ a).num ≠ 0 := fun e => h0 ((Good.any h).zero.2 (Rat.num_eq_zero.1 e))
      omega
set_option maxHeartbeats 2000000 in
theorem rShort_any (s : Txt) (w : World) : Calls Tryz.prog 63 #[txt s] w fun e w' => e = .returned (.bool (decide (s.length ≤ 10))) ∧ w' = w := by
  have HB : Hid (decide ((s.length : Int) ≤ 10) = decide (s.length ≤ 10)) := by
    show _ = _
    exact decide_eq_decide.2 (by omega)
  go_enter Tryz.func63, Tryz.ntmps63
  go_wp2
  go_ret
  exact ⟨ret_bool HB.out, rfl⟩
set_option maxHeartbeats 2000000 in
theorem rSignum_any (a : Txt) (w : World) (hf : fracE a = 0) : Calls Tryz.prog 18 #[txt a] w fun e w' => e = .returned (.int .i64 (fracQ a).num.sign) ∧ w' = w := by
  have HS := Lib.hid (signum_eq hf)
  obtain ⟨c, hget, hc, hpos⟩ := head_of (neg_top hf).1
  have hi : (0 : Int) < (a.length : Int) := by omega
  rw [HS.out]
  clear HS hf
  by_cases hn : negS a = true
  · rw [if_pos hn]
    rw [hn] at hc
    clear hn
    go_enter Tryz.func18, Tryz.ntmps18
    go_wp2
    go_ret
    exact ⟨rfl, rfl⟩
  · rw [if_neg hn]
    have h5 : negS a = false := by simpa using hn
    rw [h5] at hc
    clear hn h5
    by_cases h0 : a = [48]
    · rw [if_pos h0]
      have hz : (a == [48]) = true := by rw [h0]; rfl
      clear h0
      go_enter Tryz.func18, Tryz.ntmps18
      go_wp2
      go_ret
      exact ⟨rfl, rfl⟩
    · rw [if_neg h0]
      have hz : (a == [48]) = false := by rw [beq_eq_false_iff_ne]; exact h0
      clear h0
      go_enter Tryz.func18, Tryz.ntmps18
      go_wp2
      go_ret
      exact ⟨rfl, rfl⟩
end Go.Proofs.YtlnonmmaknhppaaGreatDoor
namespace Go.Proofs.YtlnonmmaknhppaaGreatDoor
open Go.ChangeShapes Go.WideShapes Go.ChangeAt Go.RowKit
theorem own : ownKnob Tryz.prog.godebug = none := by kernel_rfl
theorem gTab : Tryz.prog.globalNamed "internal/strconv.uint64pow10" = some 0 := by kernel_rfl
theorem gTabT : (Tryz.prog.globals[0]?).map (·.type) = some 269 := by kernel_rfl
theorem cellsTab : Tryz.prog.cellsOf 269 = 20 := by kernel_rfl
theorem cellsU64 : Tryz.prog.cellsOf 159 = 1 := by kernel_rfl
theorem gRng : Tryz.prog.globalNamed "strconv.ErrRange" = some 5 := by kernel_rfl
theorem gRngT : (Tryz.prog.globals[5]?).map (·.type) = some 229 := by kernel_rfl
theorem gSyn : Tryz.prog.globalNamed "strconv.ErrSyntax" = some 4 := by kernel_rfl
theorem gSynT : (Tryz.prog.globals[4]?).map (·.type) = some 229 := by kernel_rfl
theorem starE : "*" ++ "errors.errorString" = "*errors.errorString" := by decide
theorem rowE (u : TypeId) (h : Tryz.prog.typeName? 3 u = some "*errors.errorString") : u = 300 :=
  typeName_ptr_named (nm := "errors.errorString") (by rw [starE]; kernel_rfl) (by kernel_rfl) (by decide) u (by rw [starE]; exact h)
theorem cellsErr : Tryz.prog.cellsOf 302 = 1 := by kernel_rfl
theorem cellsStr : Tryz.prog.cellsOf 9 = 1 := by kernel_rfl
theorem glob_of {W : World} (hs : W.ShapedOpen Tryz.prog) (hL : laidMetH Tryz.prog Rows.airMeasuresRow.laid W) : Glob W := by
  have hP : laidMet Tryz.prog Rows.airMeasuresRow.laid W := by
    rw [← MakeChecks.laidMetH_plain _ _ _ (by kernel_rfl)]; exact hL
  have hP2 := hP.tail.tail
  have hP4 := hP2.tail.tail
  have hP5 := hP4.tail
  obtain ⟨a0, _, h0, _⟩ := laid_sentinel hP4 gRng gRngT Tryz.underlying229 rowE Tryz.underlying300 Tryz.underlying302 rfl rfl Tryz.underlying9 cellsErr cellsStr
  obtain ⟨a1, _, h1, _⟩ := laid_sentinel hP5 gSyn gSynT Tryz.underlying229 rowE Tryz.underlying300 Tryz.underlying302 rfl rfl Tryz.underlying9 cellsErr cellsStr
  exact ⟨cell_of_shapedOpen_int (zero := #[.int .i64 0]) (t := 3) hs (of_decide_eq_true (by kernel_rfl)) (by kernel_rfl) rfl (by kernel_rfl) (by kernel_rfl) Tryz.underlying3,
    Lib.tabIs_of_head gTab gTabT Tryz.underlying269 Tryz.underlying159 cellsU64 cellsTab hP2, ⟨_, _, h1⟩, ⟨_, _, h0⟩⟩
def flatD : Nat → DataW Unit → List Value
  | _ + 1, .lit (.int k z) => [.int k z]
  | n + 1, .agg ds => ds.flatMap (flatD n)
  | _, _ => []
def putC (cs : List Value) : Obj → Obj
  | .cells _ t frozen => .cells ⟨cs⟩ t frozen
  | o => o
noncomputable def lowB : Nat := (World.holding Tryz.prog default ⟨#[], #[], []⟩).heap.size
def rngS : ByteArray := ⟨#[118, 97, 108, 117, 101, 32, 111, 117, 116, 32, 111, 102, 32, 114, 97, 110, 103, 101]⟩
def synS : ByteArray := ⟨#[105, 110, 118, 97, 108, 105, 100, 32, 115, 121, 110, 116, 97, 120]⟩
noncomputable def laidWorld (os : Os) : World :=
  let w0 := World.holding Tryz.prog os ⟨#[.cells #[.string rngS] 302, .cells #[.string synS] 302], #[], []⟩
  { w0 with heap := (((((((w0.heap.modify 6 (putC (flatD 3 Rows.laid_math_bits_deBruijn32tab))).modify 7 (putC (flatD 3 Rows.laid_math_bits_deBruijn64tab))).modify
      0 (putC (flatD 3 Rows.laid_internal_strconv_uint64pow10))).modify 3 (putC (flatD 3 Rows.laid_unicode_utf8_acceptRanges))).modify
      5 (putC [.iface 300 (.pointer (some ⟨lowB, 0, none⟩))])).modify 4 (putC [.iface 300 (.pointer (some ⟨lowB + 1, 0, none⟩))])).modify
      2 (putC (flatD 3 Rows.laid_unicode_utf8_first))) }
theorem laid_met (os : Os) (args : Array Value) : laidMet Tryz.prog Rows.airMeasuresRow.laid ((laidWorld os).forCall (fun _ _ => 0) ⟨#[], args, []⟩).memory :=
  laidMet_of_run' 8 (by kernel_rfl) (by kernel_rfl)
end Go.Proofs.YtlnonmmaknhppaaGreatDoor
namespace Go.Proofs.YtlnonmmaknhppaaGreatDoor
open Go.RowKit Go.ChangeShapes Go.WideShapes Go.Joins Go.Deep
theorem laidOut : laidOutB Tryz.prog = true := by kernel_rfl
section
variable {H : Type} {enc : TypeId × Value → H} {w : World} {base : Nat} {spare : Nat → Bool} {held : Bool}
set_option maxRecDepth 100000 in
theorem open_enc {r : Reach} {b0 : Nat} {v : Value} {d : DataW H} {p : List MemPlace} (hv : Value.okWide Tryz.prog w r b0 35 v) (h : DataW.Trod enc Tryz.prog w base spare held 35 v d p) :
    ∃ a : Enc, v = encV a := by
  obtain ⟨c0, c1, y0, y1, n, rfl, _, _, h0, h1⟩ := open_agg2 Tryz.underlying35 (by kernel_rfl) (by kernel_rfl) hv h
  obtain ⟨⟨s0⟩, e0, _, _⟩ := DataW.trod_string Tryz.underlying23 h0
  obtain ⟨⟨s1⟩, e1, _, _⟩ := DataW.trod_string Tryz.underlying23 h1
  simp at e0 e1
  subst e0; subst e1
  exact ⟨(s0.toList, s1.toList), rfl⟩
theorem i64_bd {n : Int} (h : (Lit.int .i64 n).wf = true) : -9223372036854775808 ≤ n ∧ n ≤ 9223372036854775807 := by
  simp only [Lit.wf, Bool.and_eq_true, decide_eq_true_eq] at h
  exact h
end
end Go.Proofs.YtlnonmmaknhppaaGreatDoor
namespace Go.Proofs.YtlnonmmaknhppaaGreatDoor
open Go.RowKit Go.ChangeShapes Go.WideShapes Go.ChangeAt
theorem band {a b : Bool} (h : a = true) (k : b = true) : (a && b) = true := by rw [h, k]; rfl
theorem factLaid : laidOutB Tryz.pinned.checked.prog = true := by kernel_rfl
theorem factMaps : mapsRowed Tryz.pinned.checked.prog = true := by kernel_rfl
theorem factHeard : Tryz.pinned.checked.prog.stopsHeard = true := by kernel_rfl
theorem factEnter : Tryz.pinned.checked.prog.mayEnter = true := by kernel_rfl
theorem factLifts : (Rows.airMeasuresRow.lifted == Tryz.pinned.checked.prog.liftsFinal) = true := by kernel_rfl
theorem factMake : (Tryz.pinned.checked.prog.make == some Rows.airMeasuresRow.make) = true := by kernel_rfl
theorem factKeys : (Rows.airMeasuresRow.plainKeys == Tryz.pinned.checked.prog.plainKeys) = true := by kernel_rfl
end Go.Proofs.YtlnonmmaknhppaaGreatDoor
namespace Go.Proofs.YtlnonmmaknhppaaGreatDoor
open Go.RowKit
def shortE (a : Enc) : Bool := decide (a.1.length ≤ 10) && decide (a.2.length ≤ 10)
set_option maxHeartbeats 4000000 in
theorem short2_any (a : Enc) (w : World) : Calls Tryz.prog 16 #[encV a] w fun e w' => e = .returned (.bool (shortE a)) ∧ Ext w w' := by
  obtain ⟨l, h⟩ := a
  have H1 := Lib.hid (fun W => rShort_any l W)
  have H2 := Lib.hid (fun W => rShort_any h W)
  unfold shortE
  dsimp only [encV] at *
  generalize decide (l.length ≤ 10) = b1 at *
  generalize decide (h.length ≤ 10) = b2 at *
  have E : Ext w (w.alloc (.cells #[txt l, txt h] 35)) := extA
  cases b1
  · go_enter Tryz.func16, Tryz.ntmps16
    go_wp2_with (go_at_call 63; refine (H1.out _).mono ?_; rintro e w' ⟨rfl, rfl⟩)
    go_ret
    exact ⟨rfl, E⟩
  · cases b2
    all_goals
      go_enter Tryz.func16, Tryz.ntmps16
      go_wp2_with fail
      refine (H1.out _).mono ?_
      clear H1
      rintro e w' ⟨rfl, hw⟩; obtain rfl := hw.symm; clear hw
      go_wp2_with fail
      refine (H2.out _).mono ?_
      rintro e w' ⟨rfl, hw⟩; obtain rfl := hw.symm; clear hw
      go_wp2_with fail
      go_ret
      exact ⟨rfl, E⟩
theorem short_lenE {a : Enc} (h : shortE a = true) : LenE a := by
  unfold shortE at h
  simp only [Bool.and_eq_true, decide_eq_true_eq] at h
  exact ⟨by omega, by omega⟩
end Go.Proofs.YtlnonmmaknhppaaGreatDoor
namespace Go.Proofs.YtlnonmmaknhppaaGreatDoor
open Go.RowKit
open Go.Lib (decDigits itoa)
set_option maxHeartbeats 4000000 in
set_option maxRecDepth 100000 in
theorem gives1_any (h : Txt) (high low : Int) (v p1 p2 p3 : Nat) (w : World) (hG : Glob w) (hh : fracE h = 0) (hv : v ≤ 1048577) (h1 : 1 ≤ low) (h2 : low < high) (h3 : high ≤ 2000)
    (c1 : w.cell? ⟨p1, 0, none⟩ = some (.int .i64 high)) (c2 : w.cell? ⟨p2, 0, none⟩ = some (.int .i64 low)) (c3 : w.cell? ⟨p3, 1, none⟩ = some (txt h)) :
    Calls Tryz.prog 20 #[.int .i64 v, .pointer (some ⟨p1, 0, none⟩), .pointer (some ⟨p2, 0, none⟩), .pointer (some ⟨p3, 0, none⟩)] w (IntP (ordQ (fracT ((((v : Int) * (high - low) : Int) : Rat) / ((101 : Int) : Rat))) h) 0 w) := by
  obtain ⟨g1, g2, g3⟩ := gives_ord (v := v) (d := high - low) hv (by omega) (by omega)
  have hb0 : 0 ≤ (v : Int) * (high - low) := Int.mul_nonneg (by omega) (by omega)
  have hb1 : (v : Int) * (high - low) ≤ 1048577 * 2000 := Int.mul_le_mul (by omega) (by omega) (by omega) (by omega)
  have HO := Lib.hid (fun W (g : Ext w W) => of_any ((v : Int) * (high - low)) 101 W (hG.ext g) (by omega) (by omega) (by omega) (by omega))
  rw [g1] at HO
  have HC := Lib.hid (fun W (g : Ext w W) => compareF_any (fracT ((((v : Int) * (high - low) : Int) : Rat) / ((101 : Int) : Rat))) h W (hG.ext g) g2.len (len_right hh))
  have hc : bothE (fracT ((((v : Int) * (high - low) : Int) : Rat) / ((101 : Int) : Rat))) h = 0 := bothE_zero g2.ok hh
  rw [cmp_good hc] at HC
  unfold ResP at HO
  unfold IntP at HC ⊢
  generalize fracT ((((v : Int) * (high - low) : Int) : Rat) / ((101 : Int) : Rat)) = t at HO HC ⊢
  generalize ordQ t h = q at HC ⊢
  have u1 : IntKind.i64.wrap (high - low) = high - low := IntWalk.i64_in _ (by omega)
  have u2 : IntKind.i64.wrap ((v : Int) * (high - low)) = (v : Int) * (high - low) := IntWalk.i64_in _ (by omega)
  have z1 := cell_lt c1
  have z2 := cell_lt c2
  have z3 := cell_lt c3
  dsimp only at z1 z2 z3
  clear g1 g2 g3 hb0 hb1 hc hG
  go_enter Tryz.func20, Tryz.ntmps20
  go_wp2_with fail
  refine (HO.out _ (Ext.refl _)).mono ?_
  rintro e w1 ⟨rfl, hE1⟩
  have c3 := hE1.cell c3
  have z3 := cell_lt c3
  dsimp only at z3
  go_wp2_with fail
  refine (HC.out _ hE1).mono ?_
  rintro e w2 ⟨rfl, hE2⟩
  have E := hE1.trans hE2
  go_wp2
  go_ret2
  exact ⟨rfl, E⟩
set_option maxHeartbeats 16000000 in
set_option maxRecDepth 100000 in
theorem lawStores_any (used : Enc) (high low : Int) (w : World) (hG : Glob w) (hh : -9223372036854775808 ≤ high ∧ high ≤ 9223372036854775807) (hl : -9223372036854775808 ≤ low ∧ low ≤ 9223372036854775807) : Calls Tryz.prog 4 #[encV used, .int .i64 high, .int .i64 low] w fun e w' => e = .returned (.bool true) ∧ Ext w w' := by
  have HG := Lib.hid hG
  have HA := Lib.hid (fun W (g : Ext w W) => awake5_any W (HG.out.ext g))
  have HSH := Lib.hid (fun W => short2_any used W)
  have HCK := Lib.hid (fun W (hl : LenE used) => rCheck2_any used W hl)
  have HSG := Lib.hid (fun W (hf : fracE used.1 = 0) => rSignum_any used.1 W hf)
  have HR := fun low W (g : Ext w W) (hl : LenE used) => aReceiver_any used high low W (HG.out.ext g) hl
  have GV := fun v p1 p2 p3 W (g : Ext w W) h1 h2 h3 h4 h5 c1 c2 c3 => gives1_any used.2 high low v p1 p2 p3 W (HG.out.ext g) h1 h2 h3 h4 h5 c1 c2 c3
  unfold IntP at HR GV
  have SL := Lib.hid (fun h => store_law (used := used) (high := high) (low := low) h)
  have SM := Lib.hid (fun h g => store_more (used := used) (high := high) (low := low) h g)
  have ER := Lib.hid (fun (h : encE used = 0) => enc_right h)
  have HL := Lib.hid (fun (h : shortE used = true) => short_lenE h)
  obtain ⟨n, hn⟩ : ∃ n, n = encE used := ⟨_, rfl⟩
  have HN := Lib.hid hn
  rw [← hn] at HCK
  clear hn
  have hen : encV used = .agg #[txt used.1, txt used.2] := rfl
  rw [hen] at HSH HCK ⊢
  simp only [hen] at HR
  replace HR := Lib.hid HR
  replace GV := Lib.hid GV
  clear hen
  obtain ⟨sh, hsh⟩ : ∃ s, s = shortE used := ⟨_, rfl⟩
  rw [← hsh] at HSH
  have A : EncAt w.heap.size (((w.alloc (.cells #[txt used.1, txt used.2] 35)).alloc (.cells #[.int .i64 high] 3)).alloc (.cells #[.int .i64 low] 3)) used.1 used.2 := ⟨by go_simp, by go_simp, by go_simp, by go_simp⟩
  have c1 : ((((w.alloc (.cells #[txt used.1, txt used.2] 35)).alloc (.cells #[.int .i64 high] 3)).alloc (.cells #[.int .i64 low] 3))).cell? ⟨w.heap.size + 1, 0, none⟩ = some (.int .i64 high) := by go_simp
  have c2 : ((((w.alloc (.cells #[txt used.1, txt used.2] 35)).alloc (.cells #[.int .i64 high] 3)).alloc (.cells #[.int .i64 low] 3))).cell? ⟨w.heap.size + 1 + 1, 0, none⟩ = some (.int .i64 low) := by go_simp
  have E : Ext w (((w.alloc (.cells #[txt used.1, txt used.2] 35)).alloc (.cells #[.int .i64 high] 3)).alloc (.cells #[.int .i64 low] 3)) := extA
  clear hG
  go_enter Tryz.func4, Tryz.ntmps4
  go_wp2_with fail
  generalize (((w.alloc (.cells #[txt used.1, txt used.2] 35)).alloc (.cells #[.int .i64 high] 3)).alloc (.cells #[.int .i64 low] 3)) = w0 at A c1 c2 E ⊢
  refine (HSH.out _).mono ?_
  rintro e w1 ⟨rfl, hE⟩
  replace A := A.ext hE
  replace E := E.trans hE
  have c1 := (hE).cell c1
  have c2 := (hE).cell c2
  clear hE
  cases sh
  · clear hsh
    have A' := A
    obtain ⟨a0, a1, a2, a3⟩ := A'
    have za := cell_lt a0
    have z1 := cell_lt c1
    have z2 := cell_lt c2
    dsimp only at za z1 z2
    go_wp2_with (go_at_call 13; refine (HA.out _ E).mono ?_; rintro e wz ⟨rfl, hE⟩)
    go_ret
    exact ⟨rfl, E.trans hE⟩
  have hlen := HL.out hsh.symm
  have HLn := Lib.hid hlen
  clear hsh hlen
  have A' := A
  obtain ⟨a0, a1, a2, a3⟩ := A'
  have za := cell_lt a0
  have z1 := cell_lt c1
  have z2 := cell_lt c2
  dsimp only at za z1 z2
  go_wp2_with fail
  clear a0 a1 a2 a3 za z1 z2
  refine (HCK.out _ HLn.out).mono ?_
  rintro e w2 ⟨rfl, hE⟩
  replace A := A.ext hE
  replace E := E.trans hE
  have c1 := (hE).cell c1
  have c2 := (hE).cell c2
  clear hE
  by_cases h0 : n = 0
  rotate_left
  · have h0' : ¬ ((n : Int) = 0) := by omega
    clear h0
    have A' := A
    obtain ⟨a0, a1, a2, a3⟩ := A'
    have za := cell_lt a0
    have z1 := cell_lt c1
    have z2 := cell_lt c2
    dsimp only at za z1 z2
    go_wp2_with (go_at_call 13; refine (HA.out _ E).mono ?_; rintro e wz ⟨rfl, hE⟩)
    go_ret
    exact ⟨rfl, E.trans hE⟩
  subst h0
  have hr := ER.out HN.out.symm
  have hf1 := hr.1
  have hf2 := Lib.hid hr.2.1
  clear hr
  have HE := Lib.hid HN.out.symm
  clear HN
  have SG := HSG.out
  have hsn := sign_neg (fracQ used.1)
  obtain ⟨sg, hsg⟩ : ∃ s, s = (fracQ used.1).num.sign := ⟨_, rfl⟩
  rw [← hsg] at SG hsn
  clear hsg
  have HF1 := Lib.hid hf1
  clear hf1
  have A' := A
  obtain ⟨a0, a1, a2, a3⟩ := A'
  have za := cell_lt a0
  have z1 := cell_lt c1
  have z2 := cell_lt c2
  dsimp only at za z1 z2
  go_wp2_with fail
  clear a0 a1 a2 a3 za z1 z2
  refine (SG _ HF1.out).mono ?_
  rintro e w3 ⟨rfl, hE3⟩
  subst hE3
  clear SG HSG
  by_cases h1 : sg < 0
  · clear hsn
    have A' := A
    obtain ⟨a0, a1, a2, a3⟩ := A'
    have za := cell_lt a0
    have z1 := cell_lt c1
    have z2 := cell_lt c2
    dsimp only at za z1 z2
    go_wp2_with (go_at_call 13; refine (HA.out _ E).mono ?_; rintro e wz ⟨rfl, hE⟩)
    go_ret
    exact ⟨rfl, E.trans hE⟩
  have hnn : Hid (¬ fracQ used.1 < 0) := fun h => h1 (hsn.2 h)
  clear hsn
  by_cases h2 : 2000 < high
  · have A' := A
    obtain ⟨a0, a1, a2, a3⟩ := A'
    have za := cell_lt a0
    have z1 := cell_lt c1
    have z2 := cell_lt c2
    dsimp only at za z1 z2
    go_wp2_with (go_at_call 13; refine (HA.out _ E).mono ?_; rintro e wz ⟨rfl, hE⟩)
    go_ret
    exact ⟨rfl, E.trans hE⟩
  by_cases h3 : low < 1
  · have A' := A
    obtain ⟨a0, a1, a2, a3⟩ := A'
    have za := cell_lt a0
    have z1 := cell_lt c1
    have z2 := cell_lt c2
    dsimp only at za z1 z2
    go_wp2_with (go_at_call 13; refine (HA.out _ E).mono ?_; rintro e wz ⟨rfl, hE⟩)
    go_ret
    exact ⟨rfl, E.trans hE⟩
  by_cases h4 : high ≤ low
  · have A' := A
    obtain ⟨a0, a1, a2, a3⟩ := A'
    have za := cell_lt a0
    have z1 := cell_lt c1
    have z2 := cell_lt c2
    dsimp only at za z1 z2
    go_wp2_with (go_at_call 13; refine (HA.out _ E).mono ?_; rintro e wz ⟨rfl, hE⟩)
    go_ret
    exact ⟨rfl, E.trans hE⟩
  have hE01 : recE used high low = 0 ∨ recE used high low = 11 := by
    unfold recE
    rw [if_neg (not_not_intro HE.out), if_neg hnn.out, if_neg (by unfold presB; simp; omega), if_neg (by unfold presB; simp; omega), if_neg (by omega)]
    split
    · exact Or.inr rfl
    · exact Or.inl rfl
  have R0 := HR.out low
  rcases hE01 with hz | hz
  rotate_left
  · rw [hz] at R0
    generalize recS used high low = rs at R0
    replace R0 := Lib.hid R0
    clear hz
    have A' := A
    obtain ⟨a0, a1, a2, a3⟩ := A'
    have za := cell_lt a0
    have z1 := cell_lt c1
    have z2 := cell_lt c2
    dsimp only at za z1 z2
    go_wp2_with fail
    clear a0 a1 a2 a3 za z1 z2
    refine (R0.out _ E HLn.out).mono ?_
    rintro e w4 ⟨rfl, hE⟩
    replace A := A.ext hE
    replace E := E.trans hE
    have c1 := (hE).cell c1
    have c2 := (hE).cell c2
    clear hE
    have A' := A
    obtain ⟨a0, a1, a2, a3⟩ := A'
    have za := cell_lt a0
    have z1 := cell_lt c1
    have z2 := cell_lt c2
    dsimp only at za z1 z2
    go_wp2_with (go_at_call 13; refine (HA.out _ E).mono ?_; rintro e wz ⟨rfl, hE⟩)
    go_ret
    exact ⟨rfl, E.trans hE⟩
  obtain ⟨_, hN, hg, hlt⟩ := SL.out hz
  have SM' := fun h => SM.out h hz
  have hrs : recS used high low = (recN (fracQ used.2) (high - low) : Int) := by unfold recS; rw [if_pos hz]
  rw [hz, hrs] at R0
  have R2 : 2 ≤ low → ∃ N2 : Nat, N2 ≤ recN (fracQ used.2) (high - low) ∧ ∀ (W : World), Ext w W → LenE used → Calls Tryz.prog 19 #[.agg #[txt used.1, txt used.2], .int .i64 high, .int .i64 (low - 1)] W fun e w' => e = .returned (.tuple #[.int .i64 (N2 : Int), .int .i64 0]) ∧ Ext W w' := fun h => by
    obtain ⟨x1, x2⟩ := SM' h
    have x3 := HR.out (low - 1)
    have x4 : recS used high (low - 1) = (recN (fracQ used.2) (high - (low - 1)) : Int) := by unfold recS; rw [if_pos x1]
    rw [x1, x4] at x3
    exact ⟨_, x2, x3⟩
  clear SM' SM hz hrs SL HR
  generalize recN (fracQ used.2) (high - low) = N at hN hg hlt R0 R2
  have G : ∀ K : Nat, K ≤ 1048577 → ∃ q : Int, (0 ≤ q ↔ givesB (fracQ used.2) (high - low) K = true) ∧ ∀ p1 p2 p3 W, Ext w W → W.cell? ⟨p1, 0, none⟩ = some (.int .i64 high) → W.cell? ⟨p2, 0, none⟩ = some (.int .i64 low) → W.cell? ⟨p3, 1, none⟩ = some (txt used.2) →
      Calls Tryz.prog 20 #[.int .i64 K, .pointer (some ⟨p1, 0, none⟩), .pointer (some ⟨p2, 0, none⟩), .pointer (some ⟨p3, 0, none⟩)] W fun e w' => e = .returned (.tuple #[.int .i64 q, .int .i64 0]) ∧ Ext W w' := fun K hK => by
    obtain ⟨_, _, og⟩ := gives_ord (v := K) (d := high - low) hK (by omega) (by omega)
    exact ⟨_, og used.2, fun p1 p2 p3 W g c1 c2 c3 => GV.out K p1 p2 p3 W g hf2.out hK (by omega) (by omega) (by omega) c1 c2 c3⟩
  obtain ⟨q0, hq0, G0⟩ := G N (by omega)
  have hq0' := hq0.2 hg
  have G1 : 0 < N → ∃ q : Int, q < 0 ∧ ∀ p1 p2 p3 W, Ext w W → W.cell? ⟨p1, 0, none⟩ = some (.int .i64 high) → W.cell? ⟨p2, 0, none⟩ = some (.int .i64 low) → W.cell? ⟨p3, 1, none⟩ = some (txt used.2) →
      Calls Tryz.prog 20 #[.int .i64 (N - 1 : Int), .pointer (some ⟨p1, 0, none⟩), .pointer (some ⟨p2, 0, none⟩), .pointer (some ⟨p3, 0, none⟩)] W fun e w' => e = .returned (.tuple #[.int .i64 q, .int .i64 0]) ∧ Ext W w' := fun h => by
    obtain ⟨q, hq, g⟩ := G (N - 1) (by omega)
    have e1 : ((N - 1 : Nat) : Int) = (N : Int) - 1 := by omega
    rw [e1] at g
    refine ⟨q, ?_, g⟩
    have e2 := hlt (N - 1) (by omega)
    rcases Int.lt_or_le q 0 with h5 | h5
    · exact h5
    · rw [hq.1 h5] at e2
      cases e2
  clear G GV hq0 hg hlt
  have n1 : ¬ ((N : Int) < 0) := by omega
  have n2 : ¬ (1048576 < (N : Int)) := by omega
  have n3 : ¬ (q0 < 0) := by omega
  have u1 : IntKind.i64.wrap ((N : Int) - 1) = (N : Int) - 1 := IntWalk.i64_in _ (by omega)
  have u2 : IntKind.i64.wrap (low - 1) = low - 1 := IntWalk.i64_in _ (by omega)
  replace R0 := Lib.hid R0
  replace G0 := Lib.hid G0
  replace G1 := Lib.hid G1
  replace R2 := Lib.hid R2
  have A' := A
  obtain ⟨a0, a1, a2, a3⟩ := A'
  have za := cell_lt a0
  have z1 := cell_lt c1
  have z2 := cell_lt c2
  dsimp only at za z1 z2
  go_wp2_with fail
  clear a0 a1 a2 a3 za z1 z2
  refine (R0.out _ E HLn.out).mono ?_
  rintro e w4 ⟨rfl, hE⟩
  replace A := A.ext hE
  replace E := E.trans hE
  have c1 := (hE).cell c1
  have c2 := (hE).cell c2
  clear hE
  have A' := A
  obtain ⟨a0, a1, a2, a3⟩ := A'
  have za := cell_lt a0
  have z1 := cell_lt c1
  have z2 := cell_lt c2
  dsimp only at za z1 z2
  go_wp2_with fail
  clear a0 a1 a2 a3 za z1 z2
  refine (G0.out _ _ _ _ E c1 c2 A.c1).mono ?_
  rintro e w5 ⟨rfl, hE⟩
  replace A := A.ext hE
  replace E := E.trans hE
  have c1 := (hE).cell c1
  have c2 := (hE).cell c2
  clear hE
  by_cases hN0 : 0 < N
  · obtain ⟨q1, hq1, G1x⟩ := G1.out hN0
    have n4 : ¬ (0 ≤ q1) := by omega
    have n6 : 0 < (N : Int) := by omega
    replace G1x := Lib.hid G1x
    have A' := A
    obtain ⟨a0, a1, a2, a3⟩ := A'
    have za := cell_lt a0
    have z1 := cell_lt c1
    have z2 := cell_lt c2
    dsimp only at za z1 z2
    go_wp2_with fail
    clear a0 a1 a2 a3 za z1 z2
    refine (G1x.out _ _ _ _ E c1 c2 A.c1).mono ?_
    rintro e w6 ⟨rfl, hE⟩
    replace A := A.ext hE
    replace E := E.trans hE
    have c1 := (hE).cell c1
    have c2 := (hE).cell c2
    clear hE
    rcases (show low = 1 ∨ (¬ low = 1 ∧ 2 ≤ low) by omega) with h1l | ⟨h1l, h2l⟩
    · have A' := A
      obtain ⟨a0, a1, a2, a3⟩ := A'
      have za := cell_lt a0
      have z1 := cell_lt c1
      have z2 := cell_lt c2
      dsimp only at za z1 z2
      go_wp2_with (go_at_call 13; refine (HA.out _ E).mono ?_; rintro e wz ⟨rfl, hE⟩)
      go_ret
      exact ⟨rfl, E.trans hE⟩
    · obtain ⟨N2, hN2, R2x⟩ := R2.out h2l
      have n5 : (N2 : Int) ≤ (N : Int) := by omega
      replace R2x := Lib.hid R2x
      have A' := A
      obtain ⟨a0, a1, a2, a3⟩ := A'
      have za := cell_lt a0
      have z1 := cell_lt c1
      have z2 := cell_lt c2
      dsimp only at za z1 z2
      go_wp2_with fail
      clear a0 a1 a2 a3 za z1 z2
      refine (R2x.out _ E HLn.out).mono ?_
      rintro e w7 ⟨rfl, hE⟩
      replace A := A.ext hE
      replace E := E.trans hE
      have c1 := (hE).cell c1
      have c2 := (hE).cell c2
      clear hE
      have A' := A
      obtain ⟨a0, a1, a2, a3⟩ := A'
      have za := cell_lt a0
      have z1 := cell_lt c1
      have z2 := cell_lt c2
      dsimp only at za z1 z2
      go_wp2_with (go_at_call 13; refine (HA.out _ E).mono ?_; rintro e wz ⟨rfl, hE⟩)
      go_ret
      exact ⟨rfl, E.trans hE⟩
  · have n6 : ¬ (0 < (N : Int)) := by omega
    rcases (show low = 1 ∨ (¬ low = 1 ∧ 2 ≤ low) by omega) with h1l | ⟨h1l, h2l⟩
    · have A' := A
      obtain ⟨a0, a1, a2, a3⟩ := A'
      have za := cell_lt a0
      have z1 := cell_lt c1
      have z2 := cell_lt c2
      dsimp only at za z1 z2
      go_wp2_with (go_at_call 13; refine (HA.out _ E).mono ?_; rintro e wz ⟨rfl, hE⟩)
      go_ret
      exact ⟨rfl, E.trans hE⟩
    · obtain ⟨N2, hN2, R2x⟩ := R2.out h2l
      have n5 : (N2 : Int) ≤ (N : Int) := by omega
      replace R2x := Lib.hid R2x
      have A' := A
      obtain ⟨a0, a1, a2, a3⟩ := A'
      have za := cell_lt a0
      have z1 := cell_lt c1
      have z2 := cell_lt c2
      dsimp only at za z1 z2
      go_wp2_with fail
      clear a0 a1 a2 a3 za z1 z2
      refine (R2x.out _ E HLn.out).mono ?_
      rintro e w6 ⟨rfl, hE⟩
      replace A := A.ext hE
      replace E := E.trans hE
      have c1 := (hE).cell c1
      have c2 := (hE).cell c2
      clear hE
      have A' := A
      obtain ⟨a0, a1, a2, a3⟩ := A'
      have za := cell_lt a0
      have z1 := cell_lt c1
      have z2 := cell_lt c2
      dsimp only at za z1 z2
      go_wp2_with (go_at_call 13; refine (HA.out _ E).mono ?_; rintro e wz ⟨rfl, hE⟩)
      go_ret
      exact ⟨rfl, E.trans hE⟩
end Go.Proofs.YtlnonmmaknhppaaGreatDoor
