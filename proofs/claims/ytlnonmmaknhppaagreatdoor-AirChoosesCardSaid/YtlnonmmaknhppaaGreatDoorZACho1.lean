/- Steps of the proof: FNum, Air5, FOfR, FAwk, AGiv, AOpen, AJoin, ARtR, ABoR, ALCh, ACyl, AOpnB. No conditions. -/
import Derived.Test.YtlnonmmaknhppaaGreatDoorCards
import Derived.Test.YtlnonmmaknhppaaGreatDoorTie
import Derived.WalkKit
import Derived.ProofKit
import Derived.OpenShut
import Derived.Deep.DeepHandedRow
import Derived.Lib.LaidTab
import Derived.LaidSub
import Derived.Stop.LaidErr
import Derived.MakeChecks
import Derived.Lib.SmallJoins
import Derived.Deep.Slices
import Derived.Deep.Strs
import Derived.Test.YtlnonmmaknhppaaGreatDoorZAB1
import Derived.Test.YtlnonmmaknhppaaGreatDoorZAB2
import Derived.Test.YtlnonmmaknhppaaGreatDoorZAB3
import Derived.Test.YtlnonmmaknhppaaGreatDoorZAB4
import Derived.Test.YtlnonmmaknhppaaGreatDoorZAB5
import Derived.Test.YtlnonmmaknhppaaGreatDoorZAB6
import Derived.Test.YtlnonmmaknhppaaGreatDoorZAB7
import Derived.Test.YtlnonmmaknhppaaGreatDoorZAB8
import Derived.Test.YtlnonmmaknhppaaGreatDoorZAB9
import Derived.Test.YtlnonmmaknhppaaGreatDoorZAB10
import Derived.Test.YtlnonmmaknhppaaGreatDoorZAB11
namespace Go.Proofs.YtlnonmmaknhppaaGreatDoor
open Go.Lib (decDigits itoa)
theorem frac_numQ {a : List UInt8} (_ : fracE a = 0) : fracQ a = numQ (negS (topS a)) (decV (bareS (topS a))) (decV (lowS a)) := by
  unfold fracQ numQ
  rfl
end Go.Proofs.YtlnonmmaknhppaaGreatDoor
namespace Go.Proofs.YtlnonmmaknhppaaGreatDoor
theorem halve_first {f : Nat → Bool} (hm : ∀ a b, a ≤ b → f a = true → f b = true) {n k : Nat} (hk : k < n) (h : ∀ j, j < k → f j = false) (hf : f k = true) : halve f 0 n = k := by
  obtain ⟨_, h2, h3, h4⟩ := halve_is hm n 0 n (by omega) (by omega)
  rcases Nat.lt_trichotomy (halve f 0 n) k with hl | hl | hl
  · have := h4 (by omega)
    rw [h _ hl] at this; cases this
  · exact hl
  · have := h3 k (Nat.zero_le _) hl
    rw [hf] at this; cases this
theorem halve_none {f : Nat → Bool} (hm : ∀ a b, a ≤ b → f a = true → f b = true) {n : Nat} (h : ∀ j, j < n → f j = false) : halve f 0 n = n := by
  obtain ⟨_, h2, _, h4⟩ := halve_is hm n 0 n (by omega) (by omega)
  by_cases hl : halve f 0 n < n
  · have := h4 hl
    rw [h _ hl] at this; cases this
  · omega
theorem bore_first {x : Rat} {p : Int} {l : List Int} (h : Bores l) (hp : 0 ≤ p) {k : Nat} (hk : k < l.length) (hj : ∀ j, j < k → enoughB x p (l.getD j 0) = false) (hf : enoughB x p (l.getD k 0) = true) : boreN x p l = k := by
  unfold boreN
  rw [halve_congr (g := atB x p l) l.length 0 l.length (by omega) (fun t ht => (atB_in ht).symm)]
  exact halve_first (atB_mono h hp) hk (fun j hj2 => by rw [atB_in (by omega)]; exact hj j hj2) (by rw [atB_in hk]; exact hf)
theorem bore_none {x : Rat} {p : Int} {l : List Int} (h : Bores l) (hp : 0 ≤ p) (hj : ∀ j, j < l.length → enoughB x p (l.getD j 0) = false) : boreN x p l = l.length := by
  unfold boreN
  rw [halve_congr (g := atB x p l) l.length 0 l.length (by omega) (fun t ht => (atB_in ht).symm)]
  exact halve_none (atB_mono h hp) (fun j hj2 => by rw [atB_in hj2]; exact hj j hj2)
end Go.Proofs.YtlnonmmaknhppaaGreatDoor
namespace Go.Proofs.YtlnonmmaknhppaaGreatDoor
open Go.RowKit
open Go.Lib (decDigits itoa)
set_option maxHeartbeats 4000000 in
theorem wholeR_any (n : Int) (w : World) (h1 : -9223372036854775808 ≤ n) (h2 : n ≤ 9223372036854775807) :
    Calls Tryz.prog 62 #[.int .i64 n] w fun e w' => e = .returned (txt (itoa n)) ∧ Ext w w' := by
  have HT := Lib.hid (fun W => textI_any n W h1 h2)
  go_enter Tryz.func62, Tryz.ntmps62
  go_wp2_with ((go_at_call 107; (with_reducible refine (HT.out _).mono ?_); rintro e w1 ⟨rfl, hE⟩))
  go_ret
  exact ⟨rfl, hE⟩
end Go.Proofs.YtlnonmmaknhppaaGreatDoor
namespace Go.Proofs.YtlnonmmaknhppaaGreatDoor
open Go.RowKit
open Go.Lib (decDigits itoa)
set_option maxHeartbeats 2000000 in
theorem fewR_any (s : Txt) (w : World) : Calls Tryz.prog 12 #[txt s] w fun e w' => e = .returned (.bool (decide (s.length ≤ 180))) ∧ w' = w := by
  have HB : Hid (decide ((s.length : Int) ≤ 180) = decide (s.length ≤ 180)) := by
    show _ = _
    exact decide_eq_decide.2 (by omega)
  go_enter Tryz.func12, Tryz.ntmps12
  go_wp2
  go_ret
  exact ⟨ret_bool HB.out, rfl⟩
end Go.Proofs.YtlnonmmaknhppaaGreatDoor
namespace Go.Proofs.YtlnonmmaknhppaaGreatDoor
open Go.ChangeShapes Go.WideShapes Go.ChangeAt Go.RowKit
theorem own : ownKnob Tryz.prog.godebug = none := by kernel_rfl
theorem gTab : Tryz.prog.globalNamed "internal/strconv.uint64pow10" = some 0 := by kernel_rfl
theorem gTabT : (Tryz.prog.globals[0]?).map (·.type) = some 269 := by kernel_rfl
theorem cellsTab : Tryz.prog.cellsOf 269 = 20 := by kernel_rfl
theorem cellsU64 : Tryz.prog.cellsOf 159 = 1 := by kernel_rfl
theorem gRng : Tryz.prog.globalNamed "strconv.ErrRange" = some 5 := by kernel_rfl
theorem gRngT : (Tryz.prog.globals[5]?).map (·.type) = some 229 := by kernel_rfl
theorem gSyn : Tryz.prog.globalNamed "strconv.ErrSyntax" = some 4 := by kernel_rfl
theorem gSynT : (Tryz.prog.globals[4]?).map (·.type) = some 229 := by kernel_rfl
theorem starE : "*" ++ "errors.errorString" = "*errors.errorString" := by decide
theorem rowE (u : TypeId) (h : Tryz.prog.typeName? 3 u = some "*errors.errorString") : u = 300 :=
  typeName_ptr_named (nm := "errors.errorString") (by rw [starE]; kernel_rfl) (by kernel_rfl) (by decide) u (by rw [starE]; exact h)
theorem cellsErr : Tryz.prog.cellsOf 302 = 1 := by kernel_rfl
theorem cellsStr : Tryz.prog.cellsOf 9 = 1 := by kernel_rfl
theorem glob_of {W : World} (hs : W.ShapedOpen Tryz.prog) (hL : laidMetH Tryz.prog Rows.airMeasuresRow.laid W) : Glob W := by
  have hP : laidMet Tryz.prog Rows.airMeasuresRow.laid W := by
    rw [← MakeChecks.laidMetH_plain _ _ _ (by kernel_rfl)]; exact hL
  have hP2 := hP.tail.tail
  have hP4 := hP2.tail.tail
  have hP5 := hP4.tail
  obtain ⟨a0, _, h0, _⟩ := laid_sentinel hP4 gRng gRngT Tryz.underlying229 rowE Tryz.underlying300 Tryz.underlying302 rfl rfl Tryz.underlying9 cellsErr cellsStr
  obtain ⟨a1, _, h1, _⟩ := laid_sentinel hP5 gSyn gSynT Tryz.underlying229 rowE Tryz.underlying300 Tryz.underlying302 rfl rfl Tryz.underlying9 cellsErr cellsStr
  exact ⟨cell_of_shapedOpen_int (zero := #[.int .i64 0]) (t := 3) hs (of_decide_eq_true (by kernel_rfl)) (by kernel_rfl) rfl (by kernel_rfl) (by kernel_rfl) Tryz.underlying3,
    Lib.tabIs_of_head gTab gTabT Tryz.underlying269 Tryz.underlying159 cellsU64 cellsTab hP2, ⟨_, _, h1⟩, ⟨_, _, h0⟩⟩
def flatD : Nat → DataW Unit → List Value
  | _ + 1, .lit (.int k z) => [.int k z]
  | n + 1, .agg ds => ds.flatMap (flatD n)
  | _, _ => []
def putC (cs : List Value) : Obj → Obj
  | .cells _ t frozen => .cells ⟨cs⟩ t frozen
  | o => o
noncomputable def lowB : Nat := (World.holding Tryz.prog default ⟨#[], #[], []⟩).heap.size
def rngS : ByteArray := ⟨#[118, 97, 108, 117, 101, 32, 111, 117, 116, 32, 111, 102, 32, 114, 97, 110, 103, 101]⟩
def synS : ByteArray := ⟨#[105, 110, 118, 97, 108, 105, 100, 32, 115, 121, 110, 116, 97, 120]⟩
noncomputable def laidWorld (os : Os) : World :=
  let w0 := World.holding Tryz.prog os ⟨#[.cells #[.string rngS] 302, .cells #[.string synS] 302], #[], []⟩
  { w0 with heap := (((((((w0.heap.modify 6 (putC (flatD 3 Rows.laid_math_bits_deBruijn32tab))).modify 7 (putC (flatD 3 Rows.laid_math_bits_deBruijn64tab))).modify
      0 (putC (flatD 3 Rows.laid_internal_strconv_uint64pow10))).modify 3 (putC (flatD 3 Rows.laid_unicode_utf8_acceptRanges))).modify
      5 (putC [.iface 300 (.pointer (some ⟨lowB, 0, none⟩))])).modify 4 (putC [.iface 300 (.pointer (some ⟨lowB + 1, 0, none⟩))])).modify
      2 (putC (flatD 3 Rows.laid_unicode_utf8_first))) }
theorem laid_met (os : Os) (args : Array Value) : laidMet Tryz.prog Rows.airMeasuresRow.laid ((laidWorld os).forCall (fun _ _ => 0) ⟨#[], args, []⟩).memory :=
  laidMet_of_run' 8 (by kernel_rfl) (by kernel_rfl)
end Go.Proofs.YtlnonmmaknhppaaGreatDoor
namespace Go.Proofs.YtlnonmmaknhppaaGreatDoor
open Go.RowKit Go.ChangeShapes Go.WideShapes Go.Joins Go.Deep
theorem laidOut : laidOutB Tryz.prog = true := by kernel_rfl
section
variable {H : Type} {enc : TypeId × Value → H} {w : World} {base : Nat} {spare : Nat → Bool} {held : Bool}
end
end Go.Proofs.YtlnonmmaknhppaaGreatDoor
namespace Go.Proofs.YtlnonmmaknhppaaGreatDoor
open Go.RowKit Go.ChangeShapes Go.WideShapes Go.ChangeAt
theorem band {a b : Bool} (h : a = true) (k : b = true) : (a && b) = true := by rw [h, k]; rfl
theorem factLaid : laidOutB Tryz.pinned.checked.prog = true := by kernel_rfl
theorem factMaps : mapsRowed Tryz.pinned.checked.prog = true := by kernel_rfl
theorem factHeard : Tryz.pinned.checked.prog.stopsHeard = true := by kernel_rfl
theorem factEnter : Tryz.pinned.checked.prog.mayEnter = true := by kernel_rfl
theorem factLifts : (Rows.airMeasuresRow.lifted == Tryz.pinned.checked.prog.liftsFinal) = true := by kernel_rfl
theorem factMake : (Tryz.pinned.checked.prog.make == some Rows.airMeasuresRow.make) = true := by kernel_rfl
theorem factKeys : (Rows.airMeasuresRow.plainKeys == Tryz.pinned.checked.prog.plainKeys) = true := by kernel_rfl
end Go.Proofs.YtlnonmmaknhppaaGreatDoor
namespace Go.Proofs.YtlnonmmaknhppaaGreatDoor
open Go.RowKit
open Go.Lib (decDigits itoa)
theorem inB_iff {n l h : Int} : inB n l h = true ↔ l ≤ n ∧ n ≤ h := by
  unfold inB
  rw [Bool.and_eq_true, decide_eq_true_eq, decide_eq_true_eq]
theorem presB_in (p : Int) : presB p = !inB p 1 2000 := by
  unfold presB inB
  rw [Bool.eq_iff_iff]
  simp only [Bool.or_eq_true, Bool.not_eq_true', Bool.and_eq_false_iff, decide_eq_true_eq, decide_eq_false_iff_not]
  omega
end Go.Proofs.YtlnonmmaknhppaaGreatDoor
namespace Go.Proofs.YtlnonmmaknhppaaGreatDoor
open Go.RowKit
open Go.Lib (decDigits itoa)
set_option maxHeartbeats 8000000 in
set_option maxRecDepth 100000 in
theorem listed_any (l : List Int) (a : Option Addr) (cap : Nat) (w : World) (hc : CellsI w a l) :
    Calls Tryz.prog 54 #[.slice a l.length cap] w fun e w' => e = .returned (.int .i64 (listE l : Nat)) ∧ Ext w w' := by
  have HC := Lib.hid hc
  obtain ⟨R, hR⟩ : ∃ R, R = listE l := ⟨_, rfl⟩
  rw [← hR]
  have HI := Lib.hid (fun x W => in5_any x 1 500 W)
  unfold listE at hR
  clear hc
  by_cases h0 : l.length = 0
  · rw [if_pos h0] at hR
    have HR := Lib.hid hR
    have hz2 : l = [] := List.eq_nil_of_length_eq_zero h0
    subst hz2
    clear hR h0
    go_enter Tryz.func54, Tryz.ntmps54
    go_wp2
    go_ret
    exact ⟨by rw [HR.out]; rfl, Ext.refl _⟩
  rw [if_neg h0] at hR
  have hz2 : ¬ (l = []) := fun h => h0 (by rw [h]; rfl)
  have hz1 : ¬ ((l.length : Int) = 0) := by omega
  by_cases h256 : 256 < l.length
  · rw [if_pos h256] at hR
    have HR := Lib.hid hR
    have hz3 : (256 : Int) < (l.length : Int) := by omega
    clear hR
    go_enter Tryz.func54, Tryz.ntmps54
    go_wp2
    go_ret
    exact ⟨by rw [HR.out]; rfl, Ext.refl _⟩
  rw [if_neg h256] at hR
  have hz3 : ¬ (256 : Int) < (l.length : Int) := by omega
  have M0 : Hid (R = lstGo l l.length 0) := hR
  clear hR
  go_enter Tryz.func54, Tryz.ntmps54
  go_wp2
  go_loopw [3] (fun x wr => ∃ k : Nat, k ≤ l.length ∧ x = .int .i64 k ∧ Hid (R = lstGo l (l.length - k) k) ∧ Ext w wr) (fun x _ => l.length - (intOf x).toNat)
  case atStart => exact ⟨0, Nat.zero_le _, rfl, M0.out, Ext.refl _⟩
  case round =>
    obtain ⟨k, hk, rfl, hz, he⟩ := hrel
    by_cases hlt : k < l.length
    · obtain ⟨cb, co, ha, e1⟩ := HC.out.ext he k hlt
      have h1 := hz.out
      rw [show l.length - k = (l.length - (k + 1)) + 1 by omega] at h1
      unfold lstGo at h1
      obtain ⟨x, hx⟩ : ∃ x, x = l.getD k 0 := ⟨_, rfl⟩
      rw [← hx] at h1 e1
      have zc := cell_lt e1
      dsimp only at zc
      have hib : inB x 1 500 = true ↔ 1 ≤ x ∧ x ≤ 500 := inB_iff
      have HIx := Lib.hid (HI.out x)
      generalize inB x 1 500 = b at HIx hib
      cases b
      · have hno : x < 1 ∨ 500 < x := by
          have : ¬ (1 ≤ x ∧ x ≤ 500) := fun h => by have := hib.2 h; cases this
          omega
        have HR : Hid (R = 2) := by
          show _ = _
          rw [h1]
          rcases hno with hn | hn
          · rw [if_pos hn]
          · rw [if_neg (by omega), if_pos hn]
        subst ha
        clear h1 hz hx hib hno
        go_wp2_with fail
        refine (HIx.out _).mono ?_
        rintro e w5 ⟨rfl, rfl⟩
        go_wp2
        go_ret
        exact ⟨by rw [HR.out]; rfl, he⟩
      obtain ⟨hx1, hx2⟩ := hib.1 rfl
      rw [if_neg (by omega), if_neg (by omega)] at h1
      clear hib
      by_cases hk0 : 0 < k
      · have hk1 : (0 : Int) < (k : Int) := by omega
        obtain ⟨cb2, co2, ha2, e2⟩ := HC.out.ext he (k - 1) (by omega)
        rw [ha] at ha2
        cases ha2
        have u1 : IntKind.i64.wrap ((k : Int) - 1) = ((k - 1 : Nat) : Int) := by rw [IntWalk.i64_in _ (by omega)]; omega
        have hkl : k - 1 < l.length := by omega
        obtain ⟨k1, hkk⟩ : ∃ k1, k1 = k - 1 := ⟨_, rfl⟩
        rw [← hkk] at u1 hkl e2 h1
        obtain ⟨y, hy⟩ : ∃ y, y = l.getD k1 0 := ⟨_, rfl⟩
        rw [← hy] at e2 h1
        have hkl2 : (k1 : Int) < (l.length : Int) := by omega
        subst ha
        by_cases hxy : x ≤ y
        · rw [if_pos ⟨hk0, hxy⟩] at h1
          have HR := Lib.hid h1
          clear h1 hz hx hy hkk
          go_wp2_with fail
          refine (HIx.out _).mono ?_
          rintro e w5 ⟨rfl, rfl⟩
          go_wp2_with fail
          go_quiet (fail)
          go_wp2
          go_ret
          exact ⟨by rw [HR.out]; rfl, extA⟩
        · rw [if_neg (fun h => hxy h.2)] at h1
          have H1 := Lib.hid h1
          clear h1 hz hx hy hkk
          go_wp2_with fail
          refine (HIx.out _).mono ?_
          rintro e w5 ⟨rfl, rfl⟩
          go_wp2_with fail
          go_quiet (fail)
          go_wp2
          refine ⟨⟨k + 1, by omega, by go_num, H1.out, extA⟩, by simp [intOf]; omega⟩
      · have hk1 : ¬ (0 : Int) < (k : Int) := by omega
        rw [if_neg (fun h => hk0 h.1)] at h1
        have H1 := Lib.hid h1
        subst ha
        clear h1 hz hx
        go_wp2_with fail
        refine (HIx.out _).mono ?_
        rintro e w5 ⟨rfl, rfl⟩
        go_wp2_with fail
        go_quiet (fail)
        go_wp2
        refine ⟨⟨k + 1, by omega, by go_num, H1.out, extA⟩, by simp [intOf]; omega⟩
    · have hke : k = l.length := by omega
      subst hke
      have h1 := hz.out
      rw [Nat.sub_self] at h1
      have h1 : R = 0 := h1
      have HR := Lib.hid h1
      clear h1 hz
      go_wp2
      go_ret
      exact ⟨by rw [HR.out]; rfl, he⟩
theorem bare5_any (s : Txt) (w : World) (hl : s.length ≤ 400) : Calls Tryz.prog 59 #[txt s] w fun e w' => e = .returned (.int .i64 ((bareS s).length : Nat)) ∧ w' = w := by
  cases s with
  | nil =>
    go_enter Tryz.func59, Tryz.ntmps59
    go_wp2
    go_ret
    exact ⟨rfl, rfl⟩
  | cons c m =>
    have hl2 : m.length + 1 ≤ 400 := by simpa using hl
    have hget : ∀ h, (⟨(c :: m).toArray⟩ : ByteArray)[0]'h = c := fun _ => rfl
    have hpos : 0 < (c :: m).length := by simp
    by_cases hc : c = 45
    · subst hc
      have hb : Hid ((bareS (45 :: m)).length = m.length) := by show _ = _; unfold bareS negS; rfl
      go_enter Tryz.func59, Tryz.ntmps59
      go_wp2
      go_ret
      rw [hb.out]
      exact ⟨by congr 2, rfl⟩
    · have hb : Hid (bareS (c :: m) = c :: m) := by
        show _ = _
        unfold bareS negS
        rw [if_neg (by simpa using hc)]
      have hne : ((c.toNat : Int) == 45) = false := by
        rw [beq_eq_false_iff_ne]
        intro e
        exact hc (UInt8.toNat_inj.1 (by show c.toNat = 45; omega))
      go_enter Tryz.func59, Tryz.ntmps59
      go_wp2
      go_ret
      rw [hb.out]
      exact ⟨rfl, rfl⟩
theorem num_posQ (q : Rat) : 0 < q.num ↔ 0 < q := by
  rw [← Int.not_le, ← Rat.not_le]
  have h := Rat.num_nonneg (q := -q)
  rw [Rat.neg_num] at h
  have h2 : 0 ≤ -q ↔ q ≤ 0 := by constructor <;> intro g <;> grind
  rw [h2] at h
  constructor
  · intro g k; exact g (by have := h.2 k; omega)
  · intro g k; exact g (h.1 (by omega))
theorem sign_posQ (q : Rat) : 0 < q.num.sign ↔ 0 < q := by rw [Int.sign_pos_iff, num_posQ]
theorem bare_margin {m : Txt} (h : fracE m = 0) (h1 : ¬ fracQ m < 1) : bareS (topS m) = topS m ∧ bareS (lowS m) = lowS m := by
  obtain ⟨_, _, hc, hd, _⟩ := frac_parts h
  refine ⟨bare_pos ?_, bare_pos (canon_pos hc)⟩
  cases hn : negS (topS m)
  · rfl
  · refine absurd ?_ h1
    have h2 := frac_numQ h
    rw [hn] at h2
    have h3 := (num_of (s := true) (t := decV (bareS (topS m))) (d := decV (lowS m)) (by omega)).1
    rw [← h2] at h3
    unfold sgnI at h3
    rw [if_pos rfl] at h3
    generalize decV (bareS (topS m)) / Nat.gcd (decV (bareS (topS m))) (decV (lowS m)) = z at h3
    refine Classical.byContradiction fun h4 => ?_
    have h5 : 0 < fracQ m := by grind
    have h6 := (num_posQ _).2 h5
    omega
theorem ordp_enough {load b p : Int} {m : Txt} (h0 : 0 ≤ load) (h1 : load ≤ 1000000) (hb1 : 1 ≤ b) (hb2 : b ≤ 500) (hp1 : 1 ≤ p) (hp2 : p ≤ 2000) :
    0 ≤ (fracQ (forceT ⟨b, 0, 1⟩ true p).1 * fracQ [49] - fracQ (itoa load) * fracQ m).num.sign ↔ enoughB (boreX load m) p b = true := by
  rw [(bore_force hb1 hb2 hp1 hp2).2.lo.val, (int_good (n := load) (K := 20) (by omega) (by omega) (by omega)).val, one1_good.val]
  have hs := sign_neg (pushL b p * 1 - (load : Rat) * fracQ m)
  unfold enoughB boreX
  rw [decide_eq_true_eq]
  generalize (load : Rat) * fracQ m = a at hs ⊢
  generalize pushL b p = y at hs ⊢
  constructor
  · intro h
    have h5 : ¬ (y * 1 - a < 0) := fun g => by have := hs.2 g; omega
    grind
  · intro h
    have h5 : ¬ (y * 1 - a < 0) := by grind
    have h6 : ¬ ((y * 1 - a).num.sign < 0) := fun g => h5 (hs.1 g)
    omega
set_option maxHeartbeats 16000000 in
set_option maxRecDepth 100000 in
theorem rBore_any (l : List Int) (a : Option Addr) (cap : Nat) (load p : Int) (m : Txt) (w : World) (hm : m.length ≤ 400) (hc : CellsI w a l) :
    Calls Tryz.prog 15 #[.slice a l.length cap, .int .i64 load, .int .i64 p, txt m] w (IntP (boreZ l load p m) (boreE l load p m) w) := by
  have HC := Lib.hid hc
  obtain ⟨R, hR⟩ : ∃ R, R = boreE l load p m := ⟨_, rfl⟩
  obtain ⟨Z, hZ⟩ : ∃ Z, Z = boreZ l load p m := ⟨_, rfl⟩
  unfold IntP
  rw [← hR, ← hZ]
  unfold boreZ at hZ
  rw [← hR] at hZ
  unfold boreE at hR
  rw [presB_in] at hR
  have HZ := Lib.hid hZ
  have HL := Lib.hid (fun W (g : Ext w W) => listed_any l a cap W (HC.out.ext g))
  have HIL := Lib.hid (fun W => in5_any load 0 1000000 W)
  have HIP := Lib.hid (fun W => in5_any p 1 2000 W)
  have HCK := Lib.hid (fun W => checkR_any m W hm)
  obtain ⟨LE, hLE⟩ : ∃ LE, LE = listE l := ⟨_, rfl⟩
  rw [← hLE] at hR HL
  have hib : inB load 0 1000000 = true ↔ 0 ≤ load ∧ load ≤ 1000000 := inB_iff
  have hip : inB p 1 2000 = true ↔ 1 ≤ p ∧ p ≤ 2000 := inB_iff
  generalize inB load 0 1000000 = bl at HIL hib
  generalize inB p 1 2000 = bp at HIP hip hR
  clear hZ hc
  go_enter Tryz.func15, Tryz.ntmps15
  go_wp2_with fail
  refine (HL.out _ (Ext.refl _)).mono ?_
  rintro e w1 ⟨rfl, E⟩
  clear HL
  by_cases h0 : LE = 0
  rotate_left
  · rw [if_pos h0] at hR
    have HR := Lib.hid (And.intro hR (HZ.out.trans (if_neg (by omega))))
    have hne : ¬ ((LE : Int) = 0) := by omega
    clear hR h0 hLE HZ hib hip
    go_wp2
    go_ret2
    exact ⟨by rw [HR.out.1, HR.out.2]; rfl, E⟩
  subst h0
  have hBB := bores_of hLE.symm
  have HB := Lib.hid hBB
  clear hLE hBB
  rw [if_neg (not_not_intro rfl)] at hR
  cases bl
  · have hno : load < 0 ∨ 1000000 < load := by
      have : ¬ (0 ≤ load ∧ load ≤ 1000000) := fun h => by have := hib.2 h; cases this
      omega
    have hR2 : R = 2 := by
      rw [hR]
      rcases hno with hn | hn
      · rw [if_pos hn]
      · rw [if_neg (by omega), if_pos hn]
    have HR := Lib.hid (And.intro hR2 (HZ.out.trans (if_neg (by omega))))
    clear hR hR2 HZ hib hip hno
    go_wp2_with fail
    refine (HIL.out _).mono ?_
    rintro e w3 ⟨rfl, rfl⟩
    go_wp2
    go_ret2
    exact ⟨by rw [HR.out.1, HR.out.2]; rfl, E⟩
  have hl := hib.1 rfl
  clear hib
  rw [if_neg (by omega), if_neg (by omega)] at hR
  cases bp
  · rw [if_pos (show (!false) = true from rfl)] at hR
    have HR := Lib.hid (And.intro hR (HZ.out.trans (if_neg (by omega))))
    clear hR HZ hip
    go_wp2_with fail
    refine (HIL.out _).mono ?_
    rintro e w3 ⟨rfl, rfl⟩
    go_wp2_with fail
    refine (HIP.out _).mono ?_
    rintro e w4 ⟨rfl, rfl⟩
    go_wp2
    go_ret2
    exact ⟨by rw [HR.out.1, HR.out.2]; rfl, E⟩
  have hp := hip.1 rfl
  clear hip
  rw [if_neg (by simp)] at hR
  obtain ⟨de, hde⟩ : ∃ de, de = demE m := ⟨_, rfl⟩
  rw [← hde] at hR
  unfold demE at hde
  have HMG := Lib.hid (fun (h : fracE m = 0) (h1 : ¬ fracQ m < 1) => bare_margin h h1)
  obtain ⟨fe, hfe⟩ : ∃ fe, fe = fracE m := ⟨_, rfl⟩
  rw [← hfe] at hde HCK
  have HFE := Lib.hid hfe
  clear hfe
  go_wp2_with fail
  refine (HIL.out _).mono ?_
  rintro e w3 ⟨rfl, rfl⟩
  go_wp2_with fail
  refine (HIP.out _).mono ?_
  rintro e w4 ⟨rfl, rfl⟩
  go_wp2_with fail
  refine (HCK.out _).mono ?_
  rintro e w5 ⟨rfl, hE⟩
  replace E := E.trans hE
  clear hE HCK HIL HIP
  by_cases h0 : fe = 0
  rotate_left
  · rw [if_pos h0] at hde
    subst hde
    rw [if_pos h0] at hR
    have HR := Lib.hid (And.intro hR (HZ.out.trans (if_neg (by omega))))
    have hne : ¬ ((de : Int) = 0) := by omega
    clear hR h0 HFE HZ
    go_wp2
    go_ret2
    exact ⟨by rw [HR.out.1, HR.out.2]; rfl, E⟩
  subst h0
  have HO1 := Lib.hid (fun W => rOrder_any m [49] W HFE.out.symm (by decide) hm (by decide))
  have HO2 := Lib.hid (fun W => rOrder_any m [49, 48] W HFE.out.symm (by decide) hm (by decide))
  rw [one1_good.val] at HO1
  rw [ten_good.val] at HO2
  have hs1 := sign_neg (fracQ m - 1)
  have hs2 := sign_posQ (fracQ m - 10)
  have hq1 : fracQ m - 1 < 0 ↔ fracQ m < 1 := by constructor <;> intro h <;> grind
  have hq2 : 0 < fracQ m - 10 ↔ 10 < fracQ m := by constructor <;> intro h <;> grind
  rw [hq1] at hs1
  rw [hq2] at hs2
  generalize (fracQ m - 1).num.sign = o1 at HO1 hs1
  generalize (fracQ m - 10).num.sign = o2 at HO2 hs2
  clear hq1 hq2
  rw [if_neg (not_not_intro rfl)] at hde
  by_cases h1 : fracQ m < 1
  · rw [if_pos h1] at hde
    subst hde
    rw [if_pos (by decide)] at hR
    have HR := Lib.hid (And.intro hR (HZ.out.trans (if_neg (by omega))))
    have ho := hs1.2 h1
    clear hR HZ hs1 hs2 HFE HMG
    go_wp2_with fail
    refine (HO1.out _).mono ?_
    rintro e w6 ⟨rfl, hE⟩
    replace E := E.trans hE
    go_wp2
    go_ret2
    exact ⟨by rw [HR.out.1, HR.out.2]; rfl, E⟩
  rw [if_neg h1] at hde
  have ho1 : ¬ o1 < 0 := fun h => h1 (hs1.1 h)
  by_cases h10 : 10 < fracQ m
  · rw [if_pos h10] at hde
    subst hde
    rw [if_pos (by decide)] at hR
    have HR := Lib.hid (And.intro hR (HZ.out.trans (if_neg (by omega))))
    have ho := hs2.2 h10
    clear hR HZ hs1 hs2 HFE HMG h1 h10
    go_wp2_with fail
    refine (HO1.out _).mono ?_
    rintro e w6 ⟨rfl, hE⟩
    replace E := E.trans hE
    clear hE
    go_wp2_with fail
    refine (HO2.out _).mono ?_
    rintro e w7 ⟨rfl, hE⟩
    replace E := E.trans hE
    go_wp2
    go_ret2
    exact ⟨by rw [HR.out.1, HR.out.2]; rfl, E⟩
  rw [if_neg h10] at hde
  have ho2 : ¬ 0 < o2 := fun h => h10 (hs2.1 h)
  obtain ⟨hbt, hbl⟩ := HMG.out HFE.out.symm h1
  have htl : (topS m).length ≤ 400 := Nat.le_trans (List.takeWhile_prefix _).length_le hm
  have hll : (lowS m).length ≤ 400 := by
    unfold lowS
    split
    · rw [List.length_tail]
      have := (List.dropWhile_suffix (l := m) (· != 47)).length_le
      omega
    · decide
  have HB1 := Lib.hid (fun W => bare5_any (topS m) W htl)
  have HB2 := Lib.hid (fun W => bare5_any (lowS m) W hll)
  have HSP := Lib.hid (fun W => splitR_any m W hm)
  rw [hbt] at HB1
  rw [hbl] at HB2
  have HFE2 := Lib.hid HFE.out.symm
  unfold largeB at hde
  generalize topS m = tm at HB1 HSP hde htl
  generalize lowS m = lm at HB2 HSP hde hll
  clear hs1 hs2 HFE HMG h1 h10 hbt hbl
  go_wp2_with fail
  refine (HO1.out _).mono ?_
  rintro e w6 ⟨rfl, hE⟩
  replace E := E.trans hE
  clear hE HO1
  go_wp2_with fail
  refine (HO2.out _).mono ?_
  rintro e w7 ⟨rfl, hE⟩
  replace E := E.trans hE
  clear hE HO2
  go_wp2_with fail
  refine (HSP.out _).mono ?_
  rintro e w8 ⟨rfl, hE⟩
  replace E := E.trans hE
  clear hE HSP
  by_cases hL1 : 30 < tm.length
  · rw [if_pos (by rw [decide_eq_true hL1]; rfl)] at hde
    subst hde
    rw [if_pos (by decide)] at hR
    have HR := Lib.hid (And.intro hR (HZ.out.trans (if_neg (by omega))))
    have hL : (30 : Int) < (tm.length : Int) := by omega
    clear hR HZ
    go_wp2_with fail
    refine (HB1.out _).mono ?_
    rintro e w9 ⟨rfl, rfl⟩
    go_wp2
    go_ret2
    exact ⟨by rw [HR.out.1, HR.out.2]; rfl, E⟩
  have hL : ¬ (30 : Int) < (tm.length : Int) := by omega
  by_cases hL2 : 30 < lm.length
  · rw [if_pos (by rw [decide_eq_true hL2, Bool.or_true])] at hde
    subst hde
    rw [if_pos (by decide)] at hR
    have HR := Lib.hid (And.intro hR (HZ.out.trans (if_neg (by omega))))
    have hLL : (30 : Int) < (lm.length : Int) := by omega
    clear hR HZ
    go_wp2_with fail
    refine (HB1.out _).mono ?_
    rintro e w9 ⟨rfl, rfl⟩
    go_wp2_with fail
    refine (HB2.out _).mono ?_
    rintro e w10 ⟨rfl, rfl⟩
    go_wp2
    go_ret2
    exact ⟨by rw [HR.out.1, HR.out.2]; rfl, E⟩
  have hLL : ¬ (30 : Int) < (lm.length : Int) := by omega
  rw [if_neg (by rw [decide_eq_false hL1, decide_eq_false hL2]; simp)] at hde
  subst hde
  rw [if_neg (by decide)] at hR
  have HRR := Lib.hid hR
  have HWL := Lib.hid (fun W => wholeR_any load W (by omega) (by omega))
  have HPU := Lib.hid (fun (b : Int) (h1 : 1 ≤ b) (h2 : b ≤ 500) W => rPush_any ⟨b, 0, 1⟩ true p W ⟨h1, h2, by dsimp only; omega, by dsimp only; omega, by dsimp only; omega, by dsimp only; omega⟩ hp.1 hp.2)
  have HOP := Lib.hid (fun (b : Int) (h1 : 1 ≤ b) (h2 : b ≤ 500) W => rOrdP_any (forceT ⟨b, 0, 1⟩ true p).1 [49] (itoa load) m W (bore_force h1 h2 hp.1 hp.2).2.lo.ok one1_good.ok (int_good (n := load) (K := 20) (by omega) (by omega) (by omega)).ok HFE2.out)
  have HEN := Lib.hid (fun (b : Int) (h1 : 1 ≤ b) (h2 : b ≤ 500) => ordp_enough (m := m) hl.1 hl.2 h1 h2 hp.1 hp.2)
  have HBF := Lib.hid (fun k (hk : k < l.length) (hj : ∀ j, j < k → enoughB (boreX load m) p (l.getD j 0) = false) (hf : enoughB (boreX load m) p (l.getD k 0) = true) => bore_first HB.out.1 (by omega) hk hj hf)
  have HBN := Lib.hid (fun (hj : ∀ j, j < l.length → enoughB (boreX load m) p (l.getD j 0) = false) => bore_none HB.out.1 (by omega) hj)
  go_wp2_with fail
  refine (HB1.out _).mono ?_
  rintro e w9 ⟨rfl, rfl⟩
  go_wp2_with fail
  refine (HB2.out _).mono ?_
  rintro e w10 ⟨rfl, rfl⟩
  clear hR HB1 HB2 htl hll
  have hl256 := HB.out.2.2
  go_wp2
  go_loopw [14] (fun x wr => ∃ k : Nat, k ≤ l.length ∧ x = .int .i64 k ∧ Hid (∀ j, j < k → enoughB (boreX load m) p (l.getD j 0) = false) ∧ Ext w10 wr) (fun x _ => l.length - (intOf x).toNat)
  case atStart => exact ⟨0, Nat.zero_le _, rfl, (fun j hj => by omega), Ext.refl _⟩
  case round =>
    obtain ⟨k, hk, rfl, hz, he⟩ := hrel
    have E2 := E.trans he
    by_cases hlt : k < l.length
    · obtain ⟨cb, co, ha, e1⟩ := HC.out.ext E2 k hlt
      subst ha
      obtain ⟨hb1, hb2⟩ := HB.out.1.range k hlt
      have HPB := Lib.hid (HPU.out _ hb1 hb2)
      have hob := HOP.out _ hb1 hb2
      have heb := HEN.out _ hb1 hb2
      have HBK := Lib.hid (HBF.out k hlt hz.out)
      obtain ⟨q, hq⟩ : ∃ q, q = enoughB (boreX load m) p (l.getD k 0) := ⟨_, rfl⟩
      rw [← hq] at heb
      have HQ := Lib.hid hq
      obtain ⟨bb, hbb⟩ : ∃ bb, bb = l.getD k 0 := ⟨_, rfl⟩
      rw [← hbb] at HPB hob heb e1
      have HBB := Lib.hid hbb
      generalize forceT ⟨bb, 0, 1⟩ true p = F at HPB hob heb
      obtain ⟨f1, f2⟩ := F
      dsimp only [cylV, encV] at HPB hob heb
      generalize (fracQ f1 * fracQ [49] - fracQ (itoa load) * fracQ m).num.sign = z at hob heb
      have HOB := Lib.hid hob
      have zc := cell_lt e1
      dsimp only at zc
      clear hq hbb hob hb1 hb2
      go_wp2_with fail
      refine (HPB.out _).mono ?_
      rintro e w11 ⟨rfl, hE⟩
      have E3 := he.trans hE
      have e1 := hE.cell e1
      have zc := cell_lt e1
      dsimp only at zc
      have EF : Ext w11 (w11.alloc (.cells #[txt f1, txt f2] 35)) := extA
      have F0 : ((w11.alloc (.cells #[txt f1, txt f2] 35))).cell? ⟨w11.heap.size, 0, none⟩ = some (txt f1) := by go_simp
      have e1 := EF.cell e1
      replace E3 := E3.trans EF
      clear hE HPB
      have hS : Ext (w11.alloc (.cells #[txt f1, txt f2] 35)) (w11.alloc (.cells #[txt f1, txt f2] 35)).drew := extA
      cases q
      · have hz0 : ¬ (0 ≤ z) := fun h => by have := heb.1 h; cases this
        have HN : Hid (∀ j, j < k + 1 → enoughB (boreX load m) p (l.getD j 0) = false) := fun j hj => by
          by_cases e : j = k
          · subst e; exact HQ.out.symm
          · exact hz.out j (by omega)
        clear heb HQ HBB HBK hz
        go_wp2_with fail
        generalize (w11.alloc (.cells #[txt f1, txt f2] 35)) = w12 at F0 e1 E3 hS ⊢
        refine wp_region_heldE 99 (Ext w12) (by kernel_rfl) ?_
        generalize w12.drew = v0 at hS ⊢
        (refine ePu 0 ?_)
        (refine wpAnyE_take (oi := ?_) (v := ?_) (i := 1) ?_ (by kernel_rfl) ?_ ?_ (by assumption) ?_; rotate_left 2; (focus ((simp only [List.getElem?_toArray, List.getElem?_cons_succ, List.getElem?_cons_zero]; exact rfl))); (focus (exact fun _ _ _ h => h)); (focus (refine Or.inl ⟨by rfl, ?_⟩; intro w hSw; have hF0 := hSw.cell F0; have zF0 := cell_lt hF0; dsimp only at zF0; (first | (go_simp; done) | (go_simp; with_reducible rfl)))); (try simp only [Act.put, List.setIfInBounds_toArray, List.set_cons_zero, List.set_cons_succ]))
        ((refine ePu 2 ?_); (refine ePu 4 ?_))
        (refine wpAnyE_one (i := 3) (o := ?_) ?_ (by kernel_rfl) (fun K hK => ?_); rotate_left; (focus ((simp only [List.getElem?_toArray, List.getElem?_cons_succ, List.getElem?_cons_zero]; exact rfl))); go_simp; refine (HWL.out _).mono ?_; rintro e v9 ⟨rfl, hE⟩; go_wp2_with fail; refine hK.out _ _ (hS.trans hE) (fun hHeld => ?_); clear hK K hHeld; (try simp only [Act.put, List.setIfInBounds_toArray, List.set_cons_zero, List.set_cons_succ]); replace hS := hS.trans hE; clear hE)
        (refine wpAnyE_one (i := 5) (o := ?_) ?_ (by kernel_rfl) (fun K hK => ?_); rotate_left; (focus ((simp only [List.getElem?_toArray, List.getElem?_cons_succ, List.getElem?_cons_zero]; exact rfl))); go_simp; refine (HOB.out _).mono ?_; rintro e v9 ⟨rfl, hE⟩; go_wp2_with fail; refine hK.out _ _ (hS.trans hE) (fun hHeld => ?_); clear hK K hHeld; (try simp only [Act.put, List.setIfInBounds_toArray, List.set_cons_zero, List.set_cons_succ]); replace hS := hS.trans hE; clear hE)
        (refine ePu 6 ?_)
        refine wpAnyE_done (by kernel_rfl) ?_ _
        go_wp2
        exact ⟨⟨k + 1, by omega, by go_num, HN.out, E3.trans hS⟩, by simp [intOf]; omega⟩
      · have hz0 : 0 ≤ z := heb.2 rfl
        have hbn := HBK.out HQ.out.symm
        have h8 := HRR.out
        rw [hbn, if_neg (by omega)] at h8
        have h9 := HZ.out
        rw [if_pos h8, hbn, ← HBB.out] at h9
        have HR := Lib.hid (And.intro h8 h9)
        clear heb HQ HBB HBK hz hbn h8 h9
        go_wp2_with fail
        generalize (w11.alloc (.cells #[txt f1, txt f2] 35)) = w12 at F0 e1 E3 hS ⊢
        refine wp_region_heldE 99 (Ext w12) (by kernel_rfl) ?_
        generalize w12.drew = v0 at hS ⊢
        (refine ePu 0 ?_)
        (refine wpAnyE_take (oi := ?_) (v := ?_) (i := 1) ?_ (by kernel_rfl) ?_ ?_ (by assumption) ?_; rotate_left 2; (focus ((simp only [List.getElem?_toArray, List.getElem?_cons_succ, List.getElem?_cons_zero]; exact rfl))); (focus (exact fun _ _ _ h => h)); (focus (refine Or.inl ⟨by rfl, ?_⟩; intro w hSw; have hF0 := hSw.cell F0; have zF0 := cell_lt hF0; dsimp only at zF0; (first | (go_simp; done) | (go_simp; with_reducible rfl)))); (try simp only [Act.put, List.setIfInBounds_toArray, List.set_cons_zero, List.set_cons_succ]))
        ((refine ePu 2 ?_); (refine ePu 4 ?_))
        (refine wpAnyE_one (i := 3) (o := ?_) ?_ (by kernel_rfl) (fun K hK => ?_); rotate_left; (focus ((simp only [List.getElem?_toArray, List.getElem?_cons_succ, List.getElem?_cons_zero]; exact rfl))); go_simp; refine (HWL.out _).mono ?_; rintro e v9 ⟨rfl, hE⟩; go_wp2_with fail; refine hK.out _ _ (hS.trans hE) (fun hHeld => ?_); clear hK K hHeld; (try simp only [Act.put, List.setIfInBounds_toArray, List.set_cons_zero, List.set_cons_succ]); replace hS := hS.trans hE; clear hE)
        (refine wpAnyE_one (i := 5) (o := ?_) ?_ (by kernel_rfl) (fun K hK => ?_); rotate_left; (focus ((simp only [List.getElem?_toArray, List.getElem?_cons_succ, List.getElem?_cons_zero]; exact rfl))); go_simp; refine (HOB.out _).mono ?_; rintro e v9 ⟨rfl, hE⟩; go_wp2_with fail; refine hK.out _ _ (hS.trans hE) (fun hHeld => ?_); clear hK K hHeld; (try simp only [Act.put, List.setIfInBounds_toArray, List.set_cons_zero, List.set_cons_succ]); replace hS := hS.trans hE; clear hE)
        (refine ePu 6 ?_)
        refine wpAnyE_done (by kernel_rfl) ?_ _
        have e1 := hS.cell e1
        have zc := cell_lt e1
        dsimp only at zc
        go_wp2
        go_ret2
        exact ⟨by rw [HR.out.1, HR.out.2]; rfl, E.trans (E3.trans hS)⟩
    · have hke : k = l.length := by omega
      subst hke
      have hbn := HBN.out hz.out
      have h8 := HRR.out
      rw [if_pos hbn] at h8
      have HR := Lib.hid (And.intro h8 (HZ.out.trans (if_neg (by omega))))
      clear hz hbn h8
      go_wp2
      go_ret2
      exact ⟨by rw [HR.out.1, HR.out.2]; rfl, E2⟩
end Go.Proofs.YtlnonmmaknhppaaGreatDoor
namespace Go.Proofs.YtlnonmmaknhppaaGreatDoor
open Go.RowKit
set_option maxHeartbeats 16000000 in
set_option maxRecDepth 100000 in
theorem lawChooses_any (l : List Int) (a : Option Addr) (cap : Nat) (load p : Int) (m : Txt) (w : World) (hG : Glob w) (hc : CellsI w a l) :
    Calls Tryz.prog 3 #[.slice a l.length cap, .agg #[.int .i64 load, .int .i64 p, txt m]] w fun e w' => e = .returned (.bool true) ∧ Ext w w' := by
  have HG := Lib.hid hG
  have HA := Lib.hid (fun W (g : Ext w W) => awake5_any W (HG.out.ext g))
  have HF := Lib.hid (fun W => fewR_any m W)
  have X1 := fun W (g : Ext w W) (hm : m.length ≤ 400) => aBore_any l a cap load p m W (HG.out.ext g) hm (hc.ext g)
  have Y1 := fun W (g : Ext w W) (hm : m.length ≤ 400) => rBore_any l a cap load p m W hm (hc.ext g)
  unfold IntP at X1 Y1
  generalize boreZ l load p m = Z at X1 Y1
  generalize boreE l load p m = R at X1 Y1
  replace X1 := Lib.hid X1
  replace Y1 := Lib.hid Y1
  clear hG hc
  have c0 : ((w.alloc (.cells #[.int .i64 load, .int .i64 p, txt m] 25))).cell? ⟨w.heap.size, 0, none⟩ = some (.int .i64 load) := by go_simp
  have c1 : ((w.alloc (.cells #[.int .i64 load, .int .i64 p, txt m] 25))).cell? ⟨w.heap.size, 1, none⟩ = some (.int .i64 p) := by go_simp
  have c2 : ((w.alloc (.cells #[.int .i64 load, .int .i64 p, txt m] 25))).cell? ⟨w.heap.size, 2, none⟩ = some (txt m) := by go_simp
  have E : Ext w (w.alloc (.cells #[.int .i64 load, .int .i64 p, txt m] 25)) := extA
  by_cases h1 : 512 < l.length
  · have k1 : (512 : Int) < (l.length : Int) := by omega
    go_enter Tryz.func3, Tryz.ntmps3
    go_wp2_with (go_at_call 13; refine (HA.out _ E).mono ?_; rintro e wz ⟨rfl, hE⟩)
    go_ret
    exact ⟨rfl, E.trans hE⟩
  have k1 : ¬ (512 : Int) < (l.length : Int) := by omega
  by_cases h2 : 20 < l.length
  · have k2 : (20 : Int) < (l.length : Int) := by omega
    by_cases h3 : l.length ≤ 256
    · have k3 : (l.length : Int) ≤ 256 := by omega
      go_enter Tryz.func3, Tryz.ntmps3
      go_wp2_with (go_at_call 13; refine (HA.out _ E).mono ?_; rintro e wz ⟨rfl, hE⟩)
      go_ret
      exact ⟨rfl, E.trans hE⟩
    have k3 : ¬ (l.length : Int) ≤ 256 := by omega
    have hm4 : decide (m.length ≤ 180) = true → m.length ≤ 400 := fun h => by rw [decide_eq_true_eq] at h; omega
    generalize decide (m.length ≤ 180) = fw at HF hm4
    go_enter Tryz.func3, Tryz.ntmps3
    go_wp2_with fail
    generalize (w.alloc (.cells #[.int .i64 load, .int .i64 p, txt m] 25)) = w0 at c0 c1 c2 E ⊢
    refine (HF.out _).mono ?_
    rintro e w1 ⟨rfl, hw⟩; obtain rfl := hw.symm; clear hw
    have z0 := cell_lt c0
    dsimp only at z0
    cases fw
    · clear hm4
      go_wp2_with (go_at_call 13; refine (HA.out _ E).mono ?_; rintro e wz ⟨rfl, hE⟩)
      go_ret
      exact ⟨rfl, E.trans hE⟩
    have hm := hm4 rfl
    have HM := Lib.hid hm
    clear hm hm4
    go_wp2_with fail
    refine (X1.out _ E HM.out).mono ?_
    rintro e w2 ⟨rfl, hE⟩
    have c0 := (hE).cell c0
    have c1 := (hE).cell c1
    have c2 := (hE).cell c2
    have E2 := E.trans hE
    have z0 := cell_lt c0
    dsimp only at z0
    clear hE
    go_wp2_with fail
    refine (Y1.out _ E2 HM.out).mono ?_
    rintro e w3 ⟨rfl, hE⟩
    have E3 := E2.trans hE
    go_wp2_with (go_at_call 13; refine (HA.out _ E3).mono ?_; rintro e wz ⟨rfl, hE⟩)
    go_ret
    exact ⟨rfl, E3.trans hE⟩
  have k2 : ¬ (20 : Int) < (l.length : Int) := by omega
  have hm4 : decide (m.length ≤ 180) = true → m.length ≤ 400 := fun h => by rw [decide_eq_true_eq] at h; omega
  generalize decide (m.length ≤ 180) = fw at HF hm4
  go_enter Tryz.func3, Tryz.ntmps3
  go_wp2_with fail
  generalize (w.alloc (.cells #[.int .i64 load, .int .i64 p, txt m] 25)) = w0 at c0 c1 c2 E ⊢
  refine (HF.out _).mono ?_
  rintro e w1 ⟨rfl, hw⟩; obtain rfl := hw.symm; clear hw
  have z0 := cell_lt c0
  dsimp only at z0
  cases fw
  · clear hm4
    go_wp2_with (go_at_call 13; refine (HA.out _ E).mono ?_; rintro e wz ⟨rfl, hE⟩)
    go_ret
    exact ⟨rfl, E.trans hE⟩
  have hm := hm4 rfl
  have HM := Lib.hid hm
  clear hm hm4
  go_wp2_with fail
  refine (X1.out _ E HM.out).mono ?_
  rintro e w2 ⟨rfl, hE⟩
  have c0 := (hE).cell c0
  have c1 := (hE).cell c1
  have c2 := (hE).cell c2
  have E2 := E.trans hE
  have z0 := cell_lt c0
  dsimp only at z0
  clear hE
  go_wp2_with fail
  refine (Y1.out _ E2 HM.out).mono ?_
  rintro e w3 ⟨rfl, hE⟩
  have E3 := E2.trans hE
  go_wp2_with (go_at_call 13; refine (HA.out _ E3).mono ?_; rintro e wz ⟨rfl, hE⟩)
  go_ret
  exact ⟨rfl, E3.trans hE⟩
end Go.Proofs.YtlnonmmaknhppaaGreatDoor
namespace Go.Proofs.YtlnonmmaknhppaaGreatDoor
open Go.RowKit
def cyl0 : Cyl := ⟨0, 0, 0⟩
def CellsC (w : World) (a : Option Addr) (l : List Cyl) : Prop :=
  ∀ i, i < l.length → ∃ b off, a = some ⟨b, off, none⟩ ∧ w.cell? ⟨b, off + i * 3, none⟩ = some (.int .i64 (l.getD i cyl0).bore) ∧ w.cell? ⟨b, off + i * 3 + 1, none⟩ = some (.int .i64 (l.getD i cyl0).rod) ∧ w.cell? ⟨b, off + i * 3 + 2, none⟩ = some (.int .i64 (l.getD i cyl0).stroke)
theorem CellsC.ext {w w' : World} {a : Option Addr} {l : List Cyl} (h : CellsC w a l) (he : Ext w w') : CellsC w' a l := fun i hi => by
  obtain ⟨b, off, h1, h2, h3, h4⟩ := h i hi
  exact ⟨b, off, h1, he.cell h2, he.cell h3, he.cell h4⟩
def flatC : List Cyl → List Value
  | [] => []
  | c :: l => .int .i64 c.bore :: .int .i64 c.rod :: .int .i64 c.stroke :: flatC l
theorem flatC_get (l : List Cyl) : ∀ i, i < l.length → (flatC l)[i * 3]? = some (.int .i64 (l.getD i cyl0).bore) ∧ (flatC l)[i * 3 + 1]? = some (.int .i64 (l.getD i cyl0).rod) ∧ (flatC l)[i * 3 + 2]? = some (.int .i64 (l.getD i cyl0).stroke) := by
  induction l with
  | nil => intro i h; simp at h
  | cons c l ih =>
    intro i h
    cases i with
    | zero => exact ⟨rfl, rfl, rfl⟩
    | succ i =>
      have := ih i (by simpa using h)
      rw [show (i + 1) * 3 = i * 3 + 1 + 1 + 1 by omega]
      simpa [flatC] using this
def OwnsC (w : World) (v : Value) (l : List Cyl) : Prop := w.ownsRow 0 49 3 v l.length (flatC l)
theorem OwnsC.nil (w : World) : OwnsC w (.slice none 0 0) [] := World.ownsRow_nil w 0 _ _
theorem OwnsC.ext {A B : World} {v : Value} {l : List Cyl} (h : OwnsC A v l) (k : Ext A B) : OwnsC B v l := rowExt h k
theorem OwnsC.reads {A : World} {v : Value} {l : List Cyl} (h : OwnsC A v l) : ∃ a cap, v = .slice a l.length cap ∧ CellsC A a l ∧ l.length ≤ maxLen := by
  obtain ⟨a, cap, hv, hm, hr⟩ := rowReads h
  refine ⟨a, cap, hv, fun i hi => ?_, hm⟩
  obtain ⟨b, hb, _, h1, _⟩ := hr _ _ (flatC_get l i hi).1
  obtain ⟨b2, hb2, _, h2, _⟩ := hr _ _ (flatC_get l i hi).2.1
  obtain ⟨b3, hb3, _, h3, _⟩ := hr _ _ (flatC_get l i hi).2.2
  rw [hb] at hb2 hb3
  cases hb2
  cases hb3
  exact ⟨b, 0, hb, by rw [Nat.zero_add]; exact h1, by rw [Nat.zero_add]; exact h2, by rw [Nat.zero_add]; exact h3⟩
end Go.Proofs.YtlnonmmaknhppaaGreatDoor
namespace Go.Proofs.YtlnonmmaknhppaaGreatDoor
open Go.RowKit Go.ChangeShapes Go.WideShapes Go.Joins Go.Deep
theorem cellsOfInt : Tryz.prog.cellsOf 3 = 1 := by kernel_rfl
def SliceI (w : World) (v : Value) (l : List Int) : Prop := ∃ a cap, v = .slice a l.length cap ∧ CellsI w a l ∧ l.length ≤ cap ∧ cap ≤ maxLen
section
variable {H : Type} {enc : TypeId × Value → H} {w : World} {base : Nat} {spare : Nat → Bool} {held : Bool}
theorem open_cellsI {a : Addr} {len : Nat} (h : ∀ i, i < len → ∃ cs' n x, w.cells? base (a.add (i * 1)) 1 = some cs' ∧ DataW.trod enc Tryz.prog w base spare held n 3 cs' = some x) : ∃ l : List Int, l.length = len ∧ CellsI w (some a) l := by
  have key : ∀ i, i < len → ∃ y : Int, w.cell? (a.add (i * 1)) = some (.int .i64 y) := fun i hi => by
    obtain ⟨cs', n, x, h1, h2⟩ := h i hi
    obtain ⟨y, rfl, _, _⟩ := DataW.trod_int Tryz.underlying3 h2
    obtain ⟨_, _, hc⟩ := World.cells?_some h1
    have c0 := hc 0 (by omega)
    refine ⟨y, ?_⟩
    have e : (a.add (i * 1)).add 0 = a.add (i * 1) := by simp [Addr.add]
    rw [e] at c0
    exact c0
  obtain ⟨f, hf⟩ := choose_lt (α := Int) key
  refine ⟨(List.range len).map f, by simp, fun i hi => ?_⟩
  have hi' : i < len := by simpa using hi
  have h1 := hf i hi'
  have hp : ((List.range len).map f).getD i 0 = f i := by simp [List.getD, hi']
  rw [hp]
  obtain ⟨b, off, spot⟩ := a
  have hs : spot = none := by
    have h0 := World.cell?_spot (hf 0 (by omega))
    simpa [Addr.add] using h0
  subst hs
  rw [Addr.add_lit, Nat.mul_one] at h1
  exact ⟨b, off, rfl, h1⟩
theorem open_sli {fuel : Nat} {v : Value} {x : DataW H × List MemPlace} (hf : DataW.trod enc Tryz.prog w base spare held fuel 22 [v] = some x) : ∃ l : List Int, SliceI w v l := by
  rcases open_slice Tryz.underlying22 hf with ⟨h1, _⟩ | ⟨a, len, cap, m, n, D, Pl, h1, hb, hl, hm, hmm, _, hx⟩
  · simp at h1
    exact ⟨[], none, 0, h1, fun i hi => by simp at hi, by simp, by simp⟩
  · simp at h1
    rw [cellsOfInt] at hx
    have hlm : len ≤ m := by rw [hmm]; split <;> omega
    obtain ⟨l, hll, hc⟩ := open_cellsI (enc := enc) (spare := spare) (held := held) (w := w) (base := base) (a := a) (len := len) (fun i hi => by
      obtain ⟨cs', h2, h3⟩ := hx i (by omega)
      exact ⟨cs', n, _, h2, h3⟩)
    exact ⟨l, some a, cap, by rw [h1, hll], hc, by rw [hll]; exact hl, hm⟩
set_option maxRecDepth 100000 in
theorem open_ints {r : Reach} {b0 : Nat} {v : Value} {d : DataW H} {p : List MemPlace} (hv : Value.okWide Tryz.prog w r b0 22 v) (h : DataW.Trod enc Tryz.prog w base spare held 22 v d p) : ∃ l : List Int, SliceI w v l := by
  have key : v.cells.toList = [v] := by
    simp only [Value.okWide, Tryz.underlying22] at hv
    cases v <;> first | rfl | (simp [Cell.okWide, Cell.ok, Tryz.underlying22] at hv)
  obtain ⟨fuel, hf⟩ := h
  rw [key] at hf
  exact open_sli hf
set_option maxRecDepth 100000 in
theorem open_dem {r : Reach} {b0 : Nat} {v : Value} {d : DataW H} {p : List MemPlace} (hv : Value.okWide Tryz.prog w r b0 25 v) (h : DataW.Trod enc Tryz.prog w base spare held 25 v d p) :
    ∃ (x y : Int) (m : Txt), v = .agg #[.int .i64 x, .int .i64 y, txt m] := by
  obtain ⟨c0, c1, c2, y0, y1, y2, n, rfl, _, _, h0, h1, h2⟩ := open_agg3 Tryz.underlying25 (by kernel_rfl) (by kernel_rfl) hv h
  obtain ⟨x0, e0, _, _⟩ := DataW.trod_int Tryz.underlying3 h0
  obtain ⟨x1, e1, _, _⟩ := DataW.trod_int Tryz.underlying3 h1
  obtain ⟨⟨s2⟩, e2, _, _⟩ := DataW.trod_string Tryz.underlying23 h2
  simp at e0 e1 e2
  subst e0; subst e1; subst e2
  exact ⟨x0, x1, s2.toList, rfl⟩
end
end Go.Proofs.YtlnonmmaknhppaaGreatDoor
