/- Steps of the proof: CMbr, CFn, CMin, CLst, Cut6, CGro, FCmp, CCmp, Shelf, CSrt, CCut, CLea, FTrimR, FPlusR, FLessR, FTimesR. No conditions. -/
import Derived.Shelf.Spec.TrailingZeros
import Derived.Laws.BitsAllLaws
import Derived.Shelf.SlSortCmp.Insertion
import Derived.Shelf.SlSortCmp.Whole1
import Derived.Shelf.Strings.Builder1
import Derived.Shelf.Strings.Builder2
import Derived.Shelf.Strings.Trim
import Derived.Shelf.Small.Utf8
import Derived.Shelf.Small.Bits
import Derived.Shelf.Small.Strs
import Derived.Shelf.Small.Wraps
import Derived.Shelf.Strings.BuilderF
import Derived.Shelf.Strings.BuilderK
import Derived.Shelf.Strings.Builder2Cap
import Derived.Shelf.Strconv.Itoa0
import Derived.Shelf.Strconv.Itoa1
import Derived.Shelf.LaysM
import Derived.Shelf.Strconv.Itoa2
import Derived.Shelf.Strconv.Itoa3
import Derived.Shelf.Strconv.Clone
import Derived.Shelf.Strconv.SyntaxError
import Derived.Shelf.LaysC
import Derived.Shelf.Strconv.ToError
import Derived.Shelf.Strconv.Lower
import Derived.Shelf.Strconv.ParseUint10
import Derived.Shelf.Strconv.ParseUint10Empty
import Derived.Shelf.Strconv.ParseUint10Any
import Derived.Shelf.Strconv.RangeError
import Derived.Shelf.Strconv.ToErrorRange
import Derived.Shelf.Strconv.ParseUintEmpty
import Derived.Shelf.Strconv.ParseUint10b64
import Derived.Shelf.Strconv.ParseUint10b32
import Derived.Shelf.Strconv.ParseUint10b16
import Derived.Shelf.Strconv.ParseUint10b8
import Derived.Shelf.Strconv.ParseUint10At
import Derived.Ground.MpProg
import Derived.Shelf.Pu.ParseUintPublic10
import Derived.Shelf.Pu.ErrVarParseUint
import Derived.Shelf.Strings.Search1
import Derived.Shelf.Strings.Search2
import Derived.Shelf.Strings.Cut
import Derived.Shelf.Strings.Shaped
import Derived.Shelf.Strings.Prefix
import Derived.Shelf.Unicode.Decode
import Derived.Shelf.Strings.Runes
import Derived.Shelf.Strings.AsciiSet
import Derived.Shelf.Bits.Mul64
import Derived.Shelf.Strings.Repeat
import Derived.Shelf.Unicode.DecodeSlow
import Derived.Shelf.Unicode.DecodeAny
import Derived.Shelf.Unicode.DecodeLast
import Derived.Shelf.Strings.BuilderCap
import Derived.Shelf.Slices.Turned
import Derived.Shelf.Slices.Equal
import Derived.Ground.Names2Prog
import Derived.Shelf.Slices.Clone
import Derived.Shelf.Slices.SearchI
import Derived.Shelf.Slices.Delete
import Derived.Shelf.Slices.Cells
import Derived.Shelf.Slices.Empties
import Derived.Shelf.Slices.Empties2
import Derived.Ground.SlgnProg
import Derived.Shelf.SlicesE.Reverse
import Derived.Shelf.SlicesE.Clone
import Derived.Ground.SlsfProg
import Derived.Shelf.SlSortCmp.SiftDown1
import Derived.Shelf.SlSortCmp.HeapSort1
import Derived.Shelf.SlSortCmp.Insertion1
import Derived.Shelf.SlSortCmp.Median1
import Derived.Shelf.SlSortCmp.Pivot1
import Derived.Shelf.SlSortCmp.ReverseRange1
import Derived.Shelf.SlSortCmp.PartialInsertion1
import Derived.Shelf.SlSortCmp.PartitionEqual1
import Derived.Shelf.SlSortCmp.Partition1
import Derived.Shelf.SlSortCmp.Pdq1
import Derived.Test.YtlhpfhnbeagnaaaGreatDoorProg
import Derived.Laws.Bits128
import Derived.Test.YtlhpfhnbeagnaaaGreatDoorZCB1
import Derived.Test.YtlhpfhnbeagnaaaGreatDoorZCB2
namespace Go.Proofs.YtlhpfhnbeagnaaaGreatDoor
open Go.RowKit
abbrev TabC (w : World) : Prop := TabAt 1 Lib.deBruijn64tab w
theorem tabC_ext {A B : World} (h : TabC A) (e : Ext A B) : TabC B := fun j hj => e.cell (h j hj)
set_option maxHeartbeats 1000000 in
theorem tz64_core (x k idx : Nat) (w : World) (hx0 : ((x : Int) == 0) = false)
    (key : IntKind.u64.wrap (bits BinOp.and IntKind.u64 (x : Int) (IntKind.u64.wrap (-(x : Int))) * 285870213051353865) / 288230376151711744 = (idx : Int))
    (hi : idx < 64) (hk : k < 64) (hcell : w.cell? ⟨1, idx, none⟩ = some (.int .u8 k)) :
    Calls Tryz.prog 133 #[.int .u64 (x : Int)] w fun e w' => e = .returned (.int .i64 (k : Nat)) ∧ w' = w := by
  go_enter Tryz.func133, Tryz.ntmps133
  go_wp2_with (simp only [key])
  go_ret
  exact ⟨rfl, rfl⟩
theorem tz64_any (x : Nat) (hx0 : x ≠ 0) (hx : x < 18446744073709551616) (w : World) (hT : TabC w) :
    Calls Tryz.prog 133 #[.int .u64 (x : Int)] w fun e w' => e = .returned (.int .i64 (Lib.ctz 64 x : Nat)) ∧ w' = w := by
  obtain ⟨hlow, hk⟩ := Lib.lowest_bit 64 x hx0 hx
  obtain ⟨hi, htab⟩ := Lib.deBruijn64_at _ hk
  have hcell := hT _ hi
  rw [htab] at hcell
  exact tz64_core x _ _ w (by simp; omega) (tz64_key x _ hx hx0 hlow) hi hk hcell
theorem tz_any (x : Nat) (hx0 : x ≠ 0) (hx : x < 18446744073709551616) (w : World) (hT : TabC w) :
    Calls Tryz.prog 119 #[.int .u64 (x : Int)] w fun e w' => e = .returned (.int .i64 (Lib.ctz 64 x : Nat)) ∧ w' = w := by
  have H := Lib.hid (tz64_any x hx0 hx w hT)
  clear hT
  generalize Lib.ctz 64 x = c at H ⊢
  go_enter Tryz.func119, Tryz.ntmps119
  go_wp2_with fail
  refine H.out.mono ?_
  rintro e w1 ⟨rfl, rfl⟩
  go_wp2
  go_ret
  exact ⟨rfl, rfl⟩
set_option maxHeartbeats 4000000 in
set_option maxRecDepth 100000 in
theorem members_any (s : Nat) (hs : s < 65536) (w : World) (hT : TabC w) :
    Calls Tryz.prog 94 #[.int .u64 (s : Int)] w fun e w' => ∃ v, e = .returned v ∧ OwnsI w' v (bitsI 16 s) ∧ (∀ b, v.ownBlock = some b → w.heap.size ≤ b) ∧ Ext w w' := by
  have HT := Lib.hid hT
  clear hT
  go_enter Tryz.func94, Tryz.ntmps94
  go_wp2
  go_loopw [0, 3] (fun x v wr => ∃ (u : Nat) (l : List Int), x = .int .u64 (u : Int) ∧ u < 65536 ∧ l.length ≤ 16 ∧ Hid (l ++ bitsI 16 u = bitsI 16 s) ∧ Hid (OwnsI wr v l) ∧ Hid (∀ b, v.ownBlock = some b → w.heap.size ≤ b) ∧ Ext w wr) (fun x _ _ => (intOf x).toNat)
  case atStart => exact ⟨s, [], rfl, hs, by simp, rfl, OwnsI.nil _, (fun b hb => by cases hb), Ext.refl _⟩
  case round =>
    obtain ⟨u, l, rfl, hu, hll, hl, hO, hB, he⟩ := hrel
    by_cases h0 : u = 0
    · have HL : Hid (l = bitsI 16 s) := by show _ = _; rw [← hl.out, h0, bits_nil, List.append_nil]
      have hk : ((u : Int) != 0) = false := by rw [h0]; rfl
      have hv := hO.out
      rw [HL.out] at hv
      have HV := Lib.hid hv
      subst h0
      clear hl hO hv
      go_wp2
      go_ret
      exact ⟨_, rfl, HV.out, hB.out, he⟩
    · have hk : ((u : Int) != 0) = true := by rw [bne_iff_ne]; omega
      obtain ⟨b1, b2, b3⟩ := low_ctz h0 (show u < 2 ^ 64 by omega)
      have HCT := Lib.hid (fun W hW => tz_any u h0 (by omega) W (tabC_ext HT.out hW))
      have hc16 : Lib.ctz 64 u < 16 := by
        refine Classical.byContradiction fun h => ?_
        rw [Nat.testBit_lt_two_pow (Nat.lt_of_lt_of_le hu (Nat.pow_le_pow_right (n := 2) (i := 16) (by decide) (by omega)))] at b1
        cases b1
      have hbl := bits_low (n := 16) hc16 b1 b2
      have hge := Nat.ge_two_pow_of_testBit b1
      have hand := bits_and_u64_nat u (u - 1) (by omega) (by omega)
      rw [b3] at hand
      have hp := Nat.two_pow_pos (Lib.ctz 64 u)
      have HNL : Hid ((l ++ [((Lib.ctz 64 u : Nat) : Int)]) ++ bitsI 16 (u - 2 ^ Lib.ctz 64 u) = bitsI 16 s) := by
        show _ = _
        rw [← hl.out, hbl, List.append_assoc]
        rfl
      have hlen : l.length + 1 ≤ 16 := by
        have h9 := congrArg List.length hl.out
        have := bits_len 16 s
        rw [hbl, List.length_append, List.length_cons] at h9
        omega
      have hw : IntKind.u64.wrap ((u : Int) - 1) = ((u - 1 : Nat) : Int) := by rw [IntKind.wrap_u64]; omega
      clear b1 b2 b3 hbl hl
      generalize Lib.ctz 64 u = c at HCT hc16 hge hand hp HNL
      generalize 2 ^ c = pc at hge hand hp HNL
      obtain ⟨u2, hu2⟩ : ∃ u2, u2 = u - pc := ⟨_, rfl⟩
      rw [← hu2] at hand HNL
      have hlt : u2 < u := by omega
      clear hu2 hge hp
      obtain ⟨va, vc, hv, _⟩ := hO.out.full
      subst hv
      have EW : Ext wr (wr.alloc (.cells #[.int .i64 (c : Int)] 3)) := (Ext.refl _).alloc _
      have hcc : (wr.alloc (.cells #[.int .i64 (c : Int)] 3)).cell? ⟨wr.heap.size, 0, none⟩ = some (.int .i64 (c : Int)) := by go_simp
      obtain ⟨v9, w9, hr9, hO9, hg9, hb9, _⟩ := (hO.out.ext EW).app1 1 hcc (by omega) (n := w.heap.size) (by have := he.size; have := EW.size; omega) hB.out
      have HR9 := Lib.hid hr9
      have HO9 := Lib.hid hO9
      have HG9 := Lib.hid hg9
      have E9 : Ext w w9 := (he.trans EW).trans' hb9 (Nat.le_refl _)
      clear hr9 hO9 hg9 hb9 hcc EW hO
      go_wp2_with fail
      refine (HCT.out _ he).mono ?_
      rintro e w1 ⟨rfl, hw1⟩
      subst w1
      go_wp2_with (at_builtin; refine wpList_appC _ rfl _ _ 25 rfl (.slice va l.length vc) (.slice (some ⟨wr.heap.size, 0, none⟩) 1 1) rfl rfl v9 w9 HR9.out ?_)
      exact ⟨⟨u2, l ++ [(c : Int)], rfl, by omega, by simpa using hlen, HNL, HO9, HG9, E9⟩, by simp [intOf]; omega⟩
end Go.Proofs.YtlhpfhnbeagnaaaGreatDoor
namespace Go.Proofs.YtlhpfhnbeagnaaaGreatDoor
open Go.RowKit
def FnOn (w : World) (f : Nat) (cb : Array Value) (l : List Int) (p : Int → Bool) : Prop :=
  ∀ x ∈ l, ∀ W, Ext w W → Calls Tryz.prog f (#[.int .i64 x] ++ cb) W fun e w' => e = .returned (.bool (p x)) ∧ Ext W w'
set_option maxHeartbeats 2000000 in
theorem IndexFn_any {f : Nat} (eg : ∀ args w, (callFunc f args).run Tryz.prog w = .ok (.enter f args) w) (cb : Array Value) (l : List Int) (p : Int → Bool) (n : Nat) (a : Option Addr) (cap : Nat) (w : World) (hn : n = l.length) (hl : n ≤ maxLen) (hc : CellsI w a l) (hf : FnOn w f cb l p) :
    Calls Tryz.prog 74 #[.slice a n cap, .func (.func f) #[] cb] w (AnyPost (l.any p) w) := by
  unfold maxLen at hl
  have HC := Lib.hid hc
  have HN := Lib.hid hn
  have HF := Lib.hid hf
  have HA : Hid (∀ k, k < n → p (l.getD k 0) = true → l.any p = true) := fun k hk h => List.any_eq_true.2 ⟨_, getD_mem (by rw [← hn]; exact hk), h⟩
  have HE : Hid ((∀ j, j < n → p (l.getD j 0) = false) → l.any p = false) := fun h => by
    rw [List.any_eq_false]
    intro x hx
    obtain ⟨i, hi, e⟩ := List.mem_iff_getElem.1 hx
    have := h i (by omega)
    rw [List.getD_eq_getElem?_getD, List.getElem?_eq_getElem hi] at this
    simp at this
    rw [← e, this]; simp
  generalize l.any p = r at HA HE ⊢
  clear hc hn hf
  go_enter Tryz.func74, Tryz.ntmps74
  go_wp2
  go_loopw [8] (fun i wr => ∃ k : Nat, k ≤ n ∧ i = .int .i64 k ∧ Hid (∀ j, j < k → p (l.getD j 0) = false) ∧ Ext w wr) (fun i _ => n - (intOf i).toNat)
  case atStart => exact ⟨0, Nat.zero_le _, rfl, fun j hj => by omega, Ext.refl _⟩
  case round =>
    obtain ⟨k, hk, rfl, hnn, he⟩ := hrel
    by_cases hlt : k < n
    · have hlt' : (k : Int) < (n : Int) := by omega
      obtain ⟨b, off, rfl, c1⟩ := HC.out.ext he k (by rw [← HN.out]; exact hlt)
      have HX := Lib.hid (HF.out (l.getD k 0) (getD_mem (by rw [← HN.out]; exact hlt)))
      obtain ⟨q, hq⟩ : ∃ q, p (l.getD k 0) = q := ⟨_, rfl⟩
      rw [hq] at HX
      have HQ := Lib.hid hq
      have HA2 := Lib.hid (HA.out k hlt)
      clear hq
      generalize l.getD k 0 = x at c1 HX
      have z1 := cell_lt c1
      dsimp only at z1
      go_wp2_with fail
      go_at_fn f
      refine (HX.out _ he).mono ?_
      rintro e w1 ⟨rfl, hE⟩
      cases q
      · go_wp2
        refine ⟨⟨k + 1, by omega, by go_num, fun j hj => ?_, he.trans hE⟩, by simp [intOf]; omega⟩
        rcases Nat.lt_or_eq_of_le (Nat.le_of_lt_succ hj) with h | rfl
        · exact hnn.out j h
        · exact HQ.out
      · have HR : Hid (r = true) := HA2.out HQ.out
        go_wp2
        go_ret
        exact ⟨(k : Int), rfl, by rw [HR.out]; simp, he.trans hE⟩
    · have hlt' : ¬ (k : Int) < (n : Int) := by omega
      have HR : Hid (r = false) := HE.out fun j hj => hnn.out j (by omega)
      go_wp2
      go_ret
      exact ⟨-1, rfl, by rw [HR.out]; simp, he⟩
set_option maxHeartbeats 1000000 in
theorem ContainsFn_any {f : Nat} (eg : ∀ args w, (callFunc f args).run Tryz.prog w = .ok (.enter f args) w) (cb : Array Value) (l : List Int) (p : Int → Bool) (n : Nat) (a : Option Addr) (cap : Nat) (w : World) (hn : n = l.length) (hl : n ≤ maxLen) (hc : CellsI w a l) (hf : FnOn w f cb l p) :
    Calls Tryz.prog 36 #[.slice a n cap, .func (.func f) #[] cb] w fun e w' => e = .returned (.bool (l.any p)) ∧ Ext w w' := by
  have H := Lib.hid (IndexFn_any eg cb l p n a cap w hn hl hc hf)
  clear hc hn hf hl
  generalize l.any p = r at H ⊢
  go_enter Tryz.func36, Tryz.ntmps36
  go_wp2_with fail
  refine H.out.mono ?_
  rintro e w1 ⟨q, rfl, hr, hE⟩
  have HR := Lib.hid hr
  clear hr
  go_wp2
  all_goals go_ret
  all_goals exact ⟨ret_bool HR.out, hE⟩
end Go.Proofs.YtlhpfhnbeagnaaaGreatDoor
namespace Go.Proofs.YtlhpfhnbeagnaaaGreatDoor
open Go.RowKit
theorem and_clear {s i : Nat} (hs : s < 65536) (hi : s.testBit i = true) : s &&& (18446744073709551615 - 2 ^ i) = s - 2 ^ i := by
  have hi16 : i < 16 := by
    refine Classical.byContradiction fun h => ?_
    rw [Nat.testBit_lt_two_pow (Nat.lt_of_lt_of_le hs (Nat.pow_le_pow_right (n := 2) (i := 16) (by decide) (by omega)))] at hi
    cases hi
  have hp : 2 ^ i < 2 ^ 64 := Nat.pow_lt_pow_right (by decide) (by omega)
  refine Nat.eq_of_testBit_eq fun j => ?_
  rw [Nat.testBit_and, clear_bit i s hi]
  by_cases hj : j < 64
  · congr 1
    have h := Nat.testBit_two_pow_sub_succ hp j
    rw [show 18446744073709551615 - 2 ^ i = 2 ^ 64 - (2 ^ i + 1) by omega, h, Nat.testBit_two_pow, decide_eq_true hj, Bool.true_and, Bool.eq_iff_iff]
    simp
    exact ⟨fun h e => h e.symm, fun h e => h e.symm⟩
  · rw [Nat.testBit_lt_two_pow (Nat.lt_of_lt_of_le hs (Nat.pow_le_pow_right (n := 2) (i := 16) (by decide) (by omega)))]
    rfl
theorem bit_lt {s i : Nat} (hs : s < 65536) (hi : s.testBit i = true) : i < 16 := by
  refine Classical.byContradiction fun h => ?_
  rw [Nat.testBit_lt_two_pow (Nat.lt_of_lt_of_le hs (Nat.pow_le_pow_right (n := 2) (i := 16) (by decide) (by omega)))] at hi
  cases hi
structure TreeB (w : World) (b : Nat) (t : Tr) (a : Option Addr) (cap : Nat) : Prop where
  c0 : w.cell? ⟨b, 0, none⟩ = some (.int .i64 t.ev)
  c1 : w.cell? ⟨b, 1, none⟩ = some (.slice a t.gates.length cap)
theorem TreeB.ext {A B : World} {b : Nat} {t : Tr} {a : Option Addr} {cap : Nat} (h : TreeB A b t a cap) (e : Ext A B) : TreeB B b t a cap := ⟨e.cell h.c0, e.cell h.c1⟩
set_option maxHeartbeats 4000000 in
theorem minimal1_any {t : Tr} {a : Option Addr} {cap s i bt bs : Nat} {w : World} (ht : TreeG w t a cap) (hok : TrOk t) (hs : s < 65536) (hi : s.testBit i = true) (hb : TreeB w bt t a cap) (hv : w.cell? ⟨bs, 0, none⟩ = some (.int .u64 (s : Int))) :
    Calls Tryz.prog 95 #[.int .i64 (i : Int), .pointer (some ⟨bt, 0, none⟩), .pointer (some ⟨bs, 0, none⟩)] w fun e w' => e = .returned (.bool (topB t (s - 2 ^ i))) ∧ Ext w w' := by
  have hi16 := bit_lt hs hi
  have hp : 2 ^ i < 65536 := show 2 ^ i < 2 ^ 16 from Nat.pow_lt_pow_right (by decide) hi16
  have hand := u64_andNot_nat s (2 ^ i) (by omega) (by omega)
  rw [and_clear hs hi] at hand
  have hsub : s - 2 ^ i < 18446744073709551616 := Nat.lt_of_le_of_lt (Nat.sub_le _ _) (by omega)
  have H := Lib.hid (fun W (hW : Ext w W) => fails_any (ht.ext hW) hok (s := s - 2 ^ i) hsub)
  unfold treeV at H
  obtain ⟨y0, y1⟩ := hb
  have hpi : ((2 : Int) ^ i) = ((2 ^ i : Nat) : Int) := by rw [Int.natCast_pow]; rfl
  have hmin : min i 64 = i := Nat.min_eq_left (by omega)
  have z0 := cell_lt y0
  have z1 := cell_lt hv
  dsimp only at z0 z1
  generalize topB t (s - 2 ^ i) = r at H ⊢
  generalize s - 2 ^ i = s2 at hand H
  generalize 2 ^ i = p2 at hand hpi hp
  have hsh : IntKind.u64.wrap ((2 : Int) ^ i) = (p2 : Int) := by
    rw [hpi, IntKind.wrap_u64]
    omega
  generalize t.ev = ev at y0 H
  generalize t.gates.length = n at y1 H
  clear ht hok hi hpi
  go_enter Tryz.func95, Tryz.ntmps95
  go_wp2
  go_region_held3 (fun w' => Sees w w') ((repeat (first | exact Sees.refl _ | assumption | apply Sees.drew | apply Sees.alloc | (refine Sees.ext ?_ (by assumption))))) (first | (go_at_call 55; refine (H.out _ (by exact (show Sees w _ by assumption).2.2)).mono ?_; rintro e w' ⟨rfl, hE⟩))
  have F := (show Sees w _ by assumption).2.2
  go_wp2
  go_ret
  exact ⟨rfl, F⟩
theorem min_any {t : Tr} {s : Nat} (hok : TrOk t) (hs : s < 2 ^ t.ev.toNat) : minB t s = (topB t s && !(bitsI 16 s).any fun x => topB t (s - 2 ^ x.toNat)) := by
  unfold minB
  congr 1
  rw [Bool.eq_iff_iff, List.all_eq_true, Bool.not_eq_true', List.any_eq_false]
  constructor
  · intro h x hx ht
    obtain ⟨i, _, i2, rfl⟩ := mem_bits.1 hx
    have hin : i < t.ev.toNat := by
      refine Classical.byContradiction fun hn => ?_
      rw [Nat.testBit_lt_two_pow (Nat.lt_of_lt_of_le hs (Nat.pow_le_pow_right (by decide) (by omega)))] at i2
      cases i2
    have := h i (List.mem_range.2 hin)
    rw [Int.toNat_natCast] at ht
    rw [i2, ht] at this
    cases this
  · intro h i hi
    rw [List.mem_range] at hi
    cases hb : s.testBit i
    · rfl
    · have h16 := hok.e2
      have := h (i : Int) (mem_bits.2 ⟨i, by omega, hb, rfl⟩)
      rw [Int.toNat_natCast, Bool.not_eq_true] at this
      rw [this]; rfl
set_option maxHeartbeats 4000000 in
theorem minimal_any {t : Tr} {a : Option Addr} {cap s : Nat} {w : World} (ht : TreeG w t a cap) (hok : TrOk t) (hs : s < 2 ^ t.ev.toNat) (hT : TabC w) :
    Calls Tryz.prog 61 #[treeV t a cap, .int .u64 (s : Int)] w fun e w' => e = .returned (.bool (minB t s)) ∧ Ext w w' := by
  have h16 := hok.e2
  have hs16 : s < 65536 := Nat.lt_of_lt_of_le hs (Nat.pow_le_pow_right (n := 2) (i := t.ev.toNat) (j := 16) (by decide) (by omega))
  rw [min_any hok hs]
  have HF := Lib.hid (fun W (hW : Ext w W) => fails_any (ht.ext hW) hok (s := s) (by omega))
  have HM := Lib.hid (fun W (hW : Ext w W) => members_any s hs16 W (tabC_ext hT hW))
  have HC := Lib.hid (fun W (bt bs : Nat) (hW : Ext w W) (hb : TreeB W bt t a cap) (hv : W.cell? ⟨bs, 0, none⟩ = some (.int .u64 (s : Int))) => show FnOn W 95 #[.pointer (some ⟨bt, 0, none⟩), .pointer (some ⟨bs, 0, none⟩)] (bitsI 16 s) (fun x => topB t (s - 2 ^ x.toNat)) from fun x hx W2 hW2 => by
    obtain ⟨i, _, i2, rfl⟩ := mem_bits.1 hx
    have := minimal1_any ((ht.ext hW).ext hW2) hok hs16 i2 (hb.ext hW2) (hW2.cell hv)
    dsimp only
    rw [Int.toNat_natCast]
    exact this)
  have HL : Hid ((bitsI 16 s).length ≤ 16) := bits_len 16 s
  generalize (fun x : Int => topB t (s - 2 ^ x.toNat)) = p at HC ⊢
  generalize topB t s = r at HF ⊢
  obtain ⟨res, hres⟩ : ∃ res, (r && !(bitsI 16 s).any p) = res := ⟨_, rfl⟩
  rw [hres]
  have HR := Lib.hid hres
  clear hres
  generalize bitsI 16 s = l at HM HC HL HR
  unfold treeV at HF ⊢
  have y0 : ((w.alloc (.cells #[.int .i64 t.ev, .slice a t.gates.length cap] 24)).alloc (.cells #[.int .u64 (s : Int)] 93)).cell? ⟨w.heap.size, 0, none⟩ = some (.int .i64 t.ev) := by go_simp
  have y1 : ((w.alloc (.cells #[.int .i64 t.ev, .slice a t.gates.length cap] 24)).alloc (.cells #[.int .u64 (s : Int)] 93)).cell? ⟨w.heap.size, 1, none⟩ = some (.slice a t.gates.length cap) := by go_simp
  have y2 : ((w.alloc (.cells #[.int .i64 t.ev, .slice a t.gates.length cap] 24)).alloc (.cells #[.int .u64 (s : Int)] 93)).cell? ⟨w.heap.size + 1, 0, none⟩ = some (.int .u64 (s : Int)) := by go_simp
  have E0 : Ext w ((w.alloc (.cells #[.int .i64 t.ev, .slice a t.gates.length cap] 24)).alloc (.cells #[.int .u64 (s : Int)] 93)) := extA
  clear ht hok hs hT h16 hs16
  go_enter Tryz.func61, Tryz.ntmps61
  go_wp2_with fail
  generalize ((w.alloc (.cells #[.int .i64 t.ev, .slice a t.gates.length cap] 24)).alloc (.cells #[.int .u64 (s : Int)] 93)) = W at y0 y1 y2 E0 ⊢
  refine (HF.out _ E0).mono ?_
  rintro e w1 ⟨rfl, hE⟩
  have E1 := E0.trans hE
  replace y0 := hE.cell y0
  replace y1 := hE.cell y1
  replace y2 := hE.cell y2
  clear hE E0 HF
  cases r
  · have HR2 : Hid (false = res) := HR.out
    go_wp2
    go_ret
    exact ⟨ret_bool HR2.out, E1⟩
  · have HR2 : Hid ((!l.any p) = res) := HR.out
    clear HR
    go_wp2_with fail
    refine (HM.out _ E1).mono ?_
    rintro e w2 ⟨v, rfl, hO, hB, hE⟩
    have E2 := E1.trans hE
    obtain ⟨va, vc, rfl, hcv, _, hvc⟩ := hO.full
    replace y0 := hE.cell y0
    replace y1 := hE.cell y1
    replace y2 := hE.cell y2
    have HCN := Lib.hid (ContainsFn_any (enters_of Tryz.func95 (by kernel_rfl) rfl) #[.pointer (some ⟨w.heap.size, 0, none⟩), .pointer (some ⟨w.heap.size + 1, 0, none⟩)] l p l.length va vc w2 rfl (by have := HL.out; unfold maxLen; omega) hcv (HC.out w2 w.heap.size (w.heap.size + 1) E2 ⟨y0, y1⟩ y2))
    clear HC HM hcv hO hB hE
    generalize l.any p = q at HCN HR2
    go_wp2_with fail
    refine HCN.out.mono ?_
    rintro e w3 ⟨rfl, hE⟩
    go_wp2
    go_ret
    exact ⟨ret_bool HR2.out, E2.trans hE⟩
end Go.Proofs.YtlhpfhnbeagnaaaGreatDoor
namespace Go.Proofs.YtlhpfhnbeagnaaaGreatDoor
open Go.RowKit
def listS (ev : Int) (l : List Int) : Nat := if listE ev l = 0 then setL l else 0
theorem take_asc {l : List Int} {k : Nat} (hk : k < l.length) (hp : (l.take k).Pairwise (· < ·)) (hx : 0 < k → l.getD (k - 1) 0 < l.getD k 0) : (∀ a ∈ l.take k, a < l.getD k 0) ∧ (l.take (k + 1)).Pairwise (· < ·) := by
  have key : ∀ a ∈ l.take k, a < l.getD k 0 := by
    intro a ha
    cases k with
    | zero => simp at ha
    | succ m =>
      have h1 := hx (by omega)
      rw [Nat.add_sub_cancel] at h1
      rw [take_at l 0 (by omega)] at ha hp
      rw [List.pairwise_append] at hp
      rcases List.mem_append.1 ha with ha | ha
      · have := hp.2.2 a ha (l.getD m 0) (by simp)
        omega
      · rw [List.mem_singleton] at ha
        omega
  refine ⟨key, ?_⟩
  rw [take_at l 0 hk, List.pairwise_append]
  exact ⟨hp, List.pairwise_singleton _ _, fun a ha b hb => by rw [List.mem_singleton] at hb; subst hb; exact key a ha⟩
structure Pre (ev : Int) (l : List Int) (k : Nat) : Prop where
  asc : (l.take k).Pairwise (· < ·)
  rng : ∀ a ∈ l.take k, 0 ≤ a ∧ a < ev
  err : evE ev (prevI l k) (l.drop k) = evE ev (-1) l
theorem Pre.zero (ev : Int) (l : List Int) : Pre ev l 0 := ⟨by simp, (fun a ha => by simp at ha), rfl⟩
theorem Pre.next {ev : Int} {l : List Int} {k : Nat} (h : Pre ev l k) (hk : k < l.length) (h0 : 0 ≤ l.getD k 0) (h1 : l.getD k 0 < ev) (h2 : ¬ (0 < k ∧ l.getD k 0 ≤ l.getD (k - 1) 0)) :
    Pre ev l (k + 1) ∧ setL (l.take (k + 1)) = setL (l.take k) ||| 2 ^ (l.getD k 0).toNat := by
  obtain ⟨g1, g2⟩ := take_asc hk h.asc (fun h3 => by omega)
  refine ⟨⟨g2, fun a ha => ?_, ?_⟩, ?_⟩
  · rw [take_at l 0 hk] at ha
    rcases List.mem_append.1 ha with ha | ha
    · exact h.rng a ha
    · rw [List.mem_singleton] at ha; omega
  · have := h.err
    rw [evE_next hk, if_neg (by omega), if_neg h2] at this
    exact this
  · rw [setL_take hk, or_add]
    exact setL_lt h.asc fun a ha => by
      have := h.rng a ha
      have := g1 a ha
      omega
theorem Pre.six {ev : Int} {l : List Int} {k : Nat} (h : Pre ev l k) (hk : k < l.length) (h0 : l.getD k 0 < 0 ∨ ev ≤ l.getD k 0) : evE ev (-1) l = 6 := by
  rw [← h.err, evE_next hk, if_pos h0]
theorem Pre.nine {ev : Int} {l : List Int} {k : Nat} (h : Pre ev l k) (hk : k < l.length) (h0 : ¬ (l.getD k 0 < 0 ∨ ev ≤ l.getD k 0)) (h2 : 0 < k ∧ l.getD k 0 ≤ l.getD (k - 1) 0) : evE ev (-1) l = 9 := by
  rw [← h.err, evE_next hk, if_neg h0, if_pos h2]
theorem Pre.done {ev : Int} {l : List Int} (h : Pre ev l l.length) : evE ev (-1) l = 0 := by rw [← h.err, List.drop_length]; rfl
theorem listS_bad {ev : Int} {l : List Int} {e : Nat} (h : listE ev l = e) (h0 : e ≠ 0) : listS ev l = 0 := by unfold listS; rw [if_neg (by omega)]
theorem ret_pair {x y x' y' : Value} (h : x = x') (k : y = y') : Ending.returned (.tuple #[x, y]) = .returned (.tuple #[x', y']) := by rw [h, k]
theorem set_small {ev : Int} {l : List Int} {k : Nat} (hev : ev ≤ 16) (h : Pre ev l k) : setL (l.take k) < 65536 := setL_lt (n := 16) h.asc fun a ha => by have := h.rng a ha; omega
set_option maxHeartbeats 4000000 in
theorem listed_any {t : Tr} {a la : Option Addr} {cap lc : Nat} {l : List Int} {w : World} (hev : t.ev ≤ 16) (hc : CellsI w la l) (hl : l.length ≤ maxLen) :
    Calls Tryz.prog 92 #[treeV t a cap, .slice la l.length lc] w fun e w' => e = .returned (.tuple #[.int .u64 (listS t.ev l : Nat), .int .i64 (listE t.ev l : Nat)]) ∧ Ext w w' := by
  unfold treeV
  obtain ⟨ev, hev2⟩ : ∃ ev, ev = t.ev := ⟨_, rfl⟩
  rw [← hev2] at hev ⊢
  have HC := Lib.hid hc
  obtain ⟨r, hr⟩ : ∃ r, ((listE ev l : Nat) : Int) = r := ⟨_, rfl⟩
  obtain ⟨s, hs⟩ : ∃ s, ((listS ev l : Nat) : Int) = s := ⟨_, rfl⟩
  rw [hr, hs]
  have HR : Hid (∀ e : Nat, e ≠ 0 → listE ev l = e → (0 : Int) = s ∧ (e : Int) = r) := fun e h0 h1 => ⟨by rw [← hs, listS_bad h1 h0]; rfl, by rw [← hr, h1]⟩
  have HR0 : Hid (listE ev l = 0 → ((setL l : Nat) : Int) = s ∧ (0 : Int) = r) := fun h => ⟨by rw [← hs]; unfold listS; rw [if_pos h], by rw [← hr, h]; rfl⟩
  have HB : Hid (16 < l.length → listE ev l = 5) := fun h => by unfold listE; rw [if_pos h]
  have HE : Hid (¬ 16 < l.length → listE ev l = evE ev (-1) l) := fun h => by unfold listE; rw [if_neg h]
  obtain ⟨n, hn⟩ : ∃ n, n = l.length := ⟨_, rfl⟩
  rw [← hn] at hl HB HE ⊢
  have HN := Lib.hid hn
  have hn2 : n ≤ 9223372036854775807 := by unfold maxLen at hl; omega
  clear hr hs hc hn hev2 hl
  have y0 : (w.alloc (.cells #[.int .i64 ev, .slice a t.gates.length cap] 24)).cell? ⟨w.heap.size, 0, none⟩ = some (.int .i64 ev) := by go_simp
  have E0 : Ext w (w.alloc (.cells #[.int .i64 ev, .slice a t.gates.length cap] 24)) := extA
  generalize t.gates.length = gn at y0 E0 ⊢
  go_enter Tryz.func92, Tryz.ntmps92
  by_cases h1 : 16 < n
  · have hi : (16 : Int) < (n : Int) := by omega
    obtain ⟨g1, g2⟩ := HR.out 5 (by omega) (HB.out h1)
    have G1 := Lib.hid g1
    have G2 := Lib.hid g2
    clear g1 g2
    go_wp2
    go_ret2
    exact ⟨ret_pair (congrArg _ G1.out) (congrArg _ G2.out), E0⟩
  have hi : ¬ (16 : Int) < (n : Int) := by omega
  have HE2 := Lib.hid (HE.out h1)
  clear HE HB
  go_wp2
  generalize (w.alloc (.cells #[.int .i64 ev, .slice a gn cap] 24)) = W at y0 E0 ⊢
  go_loopw [14, 6] (fun x v wr => ∃ k : Nat, k ≤ n ∧ x = .int .i64 k ∧ v = .int .u64 (setL (l.take k) : Nat) ∧ Hid (Pre ev l k) ∧ Ext W wr) (fun x _ _ => n - (intOf x).toNat)
  case atStart => exact ⟨0, Nat.zero_le _, rfl, rfl, Pre.zero _ _, Ext.refl _⟩
  case round =>
    obtain ⟨k, hk, rfl, rfl, hp, he⟩ := hrel
    have d0 := he.cell y0
    have z0 := cell_lt d0
    dsimp only at z0
    by_cases hlt : k < n
    · have hlt' : (k : Int) < (n : Int) := by omega
      have hll : k < l.length := by rw [← HN.out]; exact hlt
      obtain ⟨b, off, rfl, c1⟩ := HC.out.ext (E0.trans he) k hll
      have HP6 := Lib.hid (fun h => HR.out 6 (by omega) (HE2.out.trans (hp.out.six hll h)))
      have HP9 := Lib.hid (fun h h2 => HR.out 9 (by omega) (HE2.out.trans (hp.out.nine hll h h2)))
      have HPN := Lib.hid (fun h h2 h3 => hp.out.next hll h h2 h3)
      have hsm := set_small hev hp.out
      have HPV : Hid (∀ m, k = m + 1 → ∃ off2, off2 = off + m ∧ wr.cell? ⟨b, off2, none⟩ = some (.int .i64 (l.getD (k - 1) 0))) := fun m hm => by
        obtain ⟨b2, o2, e2, c2⟩ := HC.out.ext (E0.trans he) m (by omega)
        cases e2
        exact ⟨_, rfl, by rw [c2, hm, Nat.add_sub_cancel]⟩
      clear hp
      generalize hx : l.getD k 0 = x at c1 HP6 HP9 HPN
      generalize hy : l.getD (k - 1) 0 = y at HP9 HPN HPV
      clear hx hy
      by_cases hx0 : x < 0
      · obtain ⟨g1, g2⟩ := HP6.out (.inl hx0)
        have G1 := Lib.hid g1
        have G2 := Lib.hid g2
        clear g1 g2
        go_wp2
        go_ret2
        exact ⟨ret_pair (congrArg _ G1.out) (congrArg _ G2.out), E0.trans he⟩
      by_cases hx1 : ev ≤ x
      · obtain ⟨g1, g2⟩ := HP6.out (.inr hx1)
        have G1 := Lib.hid g1
        have G2 := Lib.hid g2
        clear g1 g2
        go_wp2
        go_ret2
        exact ⟨ret_pair (congrArg _ G1.out) (congrArg _ G2.out), E0.trans he⟩
      obtain ⟨xn, hxn⟩ : ∃ xn : Nat, x = (xn : Int) := ⟨x.toNat, by omega⟩
      subst hxn
      have hx16 : xn < 16 := by omega
      have hpw : 2 ^ xn < 65536 := show 2 ^ xn < 2 ^ 16 from Nat.pow_lt_pow_right (by decide) hx16
      have hor := bits_or_u64_nat (setL (l.take k)) (2 ^ xn) (by omega) (by omega)
      have HNX : Hid (¬ (0 < k ∧ (xn : Int) ≤ y) → Pre ev l (k + 1) ∧ setL (l.take (k + 1)) = setL (l.take k) ||| 2 ^ xn) := fun h => HPN.out (by omega) (by omega) h
      have hpi : ((2 : Int) ^ xn) = ((2 ^ xn : Nat) : Int) := by rw [Int.natCast_pow]; rfl
      generalize setL (l.take k) ||| 2 ^ xn = s3 at hor HNX
      generalize 2 ^ xn = pw at hor hpi hpw
      have hsh : IntKind.u64.wrap ((2 : Int) ^ xn) = (pw : Int) := by rw [hpi, IntKind.wrap_u64]; omega
      have hmin : min xn 64 = xn := Nat.min_eq_left (by omega)
      clear hpi HPN HP6 hpw
      generalize setL (l.take k) = s2 at hor hsm ⊢
      by_cases hk0 : k = 0
      · subst hk0
        have HG := Lib.hid (HNX.out (by omega))
        clear HNX HPV HP9
        rw [Nat.add_zero] at c1
        go_wp2
        exact ⟨⟨1, by omega, by go_num, by rw [HG.out.2], HG.out.1, he⟩, by simp [intOf]; omega⟩
      · obtain ⟨m, hm⟩ : ∃ m, k = m + 1 := ⟨k - 1, by omega⟩
        obtain ⟨off2, ho2, c2⟩ := HPV.out m hm
        subst ho2
        have hkp : (0 : Int) < (k : Int) := by omega
        have hw : IntKind.i64.wrap ((k : Int) - 1) = (m : Int) := by rw [IntWalk.i64_in _ (by omega)]; omega
        have hm1 : (m : Int) < (n : Int) := by omega
        have hm2 : (0 : Int) ≤ (m : Int) := by omega
        by_cases hxy : (xn : Int) ≤ y
        · obtain ⟨g1, g2⟩ := HP9.out (by omega) ⟨by omega, hxy⟩
          have G1 := Lib.hid g1
          have G2 := Lib.hid g2
          clear g1 g2 hm HNX HPV HP9
          go_wp2
          go_ret2
          exact ⟨ret_pair (congrArg _ G1.out) (congrArg _ G2.out), E0.trans he⟩
        · have HG := Lib.hid (HNX.out (fun h => hxy h.2))
          clear hm HNX HPV HP9
          go_wp2
          exact ⟨⟨k + 1, by omega, by go_num, by rw [HG.out.2], HG.out.1, he⟩, by simp [intOf]; omega⟩
    · have hke : k = n := by omega
      have hlt' : ¬ (k : Int) < (n : Int) := by omega
      have hz := hp.out
      rw [hke, HN.out] at hz
      obtain ⟨g1, g2⟩ := HR0.out (HE2.out.trans hz.done)
      have G1 : Hid (((setL (l.take k) : Nat) : Int) = s) := by show _ = _; rw [hke, HN.out, List.take_length]; exact g1
      have G2 := Lib.hid g2
      clear g1 g2 hp hz
      generalize setL (l.take k) = s2 at G1 ⊢
      go_wp2
      go_ret2
      exact ⟨ret_pair (congrArg _ G1.out) (congrArg _ G2.out), E0.trans he⟩
def givenE (t : Tr) (l : List Int) : Nat := if treeE t ≠ 0 then treeE t else listE t.ev l
def givenS (t : Tr) (l : List Int) : Nat := if treeE t ≠ 0 then 0 else listS t.ev l
set_option maxHeartbeats 2000000 in
theorem given_any {t : Tr} {a la : Option Addr} {cap lc : Nat} {l : List Int} {w : World} (ht : TreeG w t a cap) (hc : CellsI w la l) (hl : l.length ≤ maxLen) :
    Calls Tryz.prog 54 #[treeV t a cap, .slice la l.length lc] w fun e w' => e = .returned (.tuple #[.int .u64 (givenS t l : Nat), .int .i64 (givenE t l : Nat)]) ∧ Ext w w' := by
  have HK := Lib.hid (fun W (hW : Ext w W) => cCheck_any (ht.ext hW))
  have HL := Lib.hid (fun W (h0 : treeE t = 0) (hW : Ext w W) => listed_any (a := a) (cap := cap) (lc := lc) (treeE_ok h0).e2 (hc.ext hW) hl)
  obtain ⟨r, hr⟩ : ∃ r, ((givenE t l : Nat) : Int) = r := ⟨_, rfl⟩
  obtain ⟨s, hs⟩ : ∃ s, ((givenS t l : Nat) : Int) = s := ⟨_, rfl⟩
  rw [hr, hs]
  have HR1 : Hid (treeE t ≠ 0 → (0 : Int) = s ∧ ((treeE t : Nat) : Int) = r) := fun h => ⟨by rw [← hs]; unfold givenS; rw [if_pos h]; rfl, by rw [← hr]; unfold givenE; rw [if_pos h]⟩
  have HR2 : Hid (treeE t = 0 → ((listS t.ev l : Nat) : Int) = s ∧ ((listE t.ev l : Nat) : Int) = r) := fun h => ⟨by rw [← hs]; unfold givenS; rw [if_neg (not_not_intro h)], by rw [← hr]; unfold givenE; rw [if_neg (not_not_intro h)]⟩
  unfold treeV at HK HL ⊢
  have y0 : (w.alloc (.cells #[.int .i64 t.ev, .slice a t.gates.length cap] 24)).cell? ⟨w.heap.size, 0, none⟩ = some (.int .i64 t.ev) := by go_simp
  have y1 : (w.alloc (.cells #[.int .i64 t.ev, .slice a t.gates.length cap] 24)).cell? ⟨w.heap.size, 1, none⟩ = some (.slice a t.gates.length cap) := by go_simp
  have E0 : Ext w (w.alloc (.cells #[.int .i64 t.ev, .slice a t.gates.length cap] 24)) := extA
  clear ht hc hl hr hs
  go_enter Tryz.func54, Tryz.ntmps54
  go_wp2_with fail
  generalize (w.alloc (.cells #[.int .i64 t.ev, .slice a t.gates.length cap] 24)) = W at y0 y1 E0 ⊢
  refine (HK.out _ E0).mono ?_
  rintro e w1 ⟨rfl, hE⟩
  have E1 := E0.trans hE
  replace y0 := hE.cell y0
  replace y1 := hE.cell y1
  clear hE
  by_cases h0 : treeE t = 0
  · obtain ⟨g1, g2⟩ := HR2.out h0
    have G1 := Lib.hid g1
    have G2 := Lib.hid g2
    have HLX := Lib.hid (HL.out w1 h0 E1)
    rw [h0]
    clear HR1 HR2 g1 g2 HL HK
    go_wp2_with fail
    refine HLX.out.mono ?_
    rintro e w2 ⟨rfl, hE⟩
    go_wp2
    go_ret2
    exact ⟨ret_pair (congrArg _ G1.out) (congrArg _ G2.out), E1.trans hE⟩
  · obtain ⟨g1, g2⟩ := HR1.out h0
    have G1 := Lib.hid g1
    have G2 := Lib.hid g2
    have k5 : (((treeE t : Nat) : Int) != 0) = true := by rw [bne_iff_ne]; omega
    clear HR1 HR2 g1 g2 HL HK h0
    generalize ((treeE t : Nat) : Int) = e1 at k5 G2 ⊢
    go_wp2
    go_ret2
    exact ⟨ret_pair (congrArg _ G1.out) (congrArg _ G2.out), E1⟩
theorem given_ok {t : Tr} {l : List Int} (h : givenE t l = 0) : TrOk t ∧ givenS t l = setL l ∧ setL l < 2 ^ t.ev.toNat := by
  unfold givenE at h
  split at h
  · rename_i h1; exact absurd h h1
  · rename_i h1
    have h0 : treeE t = 0 := by omega
    have ho := treeE_ok h0
    refine ⟨ho, ?_, ?_⟩
    · unfold givenS listS
      rw [if_neg h1, if_pos h]
    · unfold listE at h
      split at h
      · cases h
      · obtain ⟨g1, g2⟩ := evE_ok _ _ h
        have := ho.e1
        exact setL_lt g1 fun a ha => by have := g2 a ha; omega
def failsB (t : Tr) (l : List Int) : Bool := if givenE t l = 0 then topB t (setL l) else false
set_option maxHeartbeats 2000000 in
theorem Fails_any {t : Tr} {a la : Option Addr} {cap lc : Nat} {l : List Int} {w : World} (ht : TreeG w t a cap) (hc : CellsI w la l) (hl : l.length ≤ maxLen) :
    Calls Tryz.prog 12 #[treeV t a cap, .slice la l.length lc] w fun e w' => e = .returned (.tuple #[.bool (failsB t l), .int .i64 (givenE t l : Nat)]) ∧ Ext w w' := by
  have HG := Lib.hid (fun W (hW : Ext w W) => given_any (lc := lc) (ht.ext hW) (hc.ext hW) hl)
  have HF := Lib.hid (fun W (h0 : givenE t l = 0) (hW : Ext w W) => fails_any (ht.ext hW) (given_ok h0).1 (s := setL l) (Nat.lt_trans (given_ok h0).2.2 (by have := (given_ok h0).1.natE; exact Nat.lt_of_le_of_lt (Nat.pow_le_pow_right (n := 2) (by decide) this.2.2) (by decide))))
  have HS : Hid (givenE t l = 0 → givenS t l = setL l) := fun h => (given_ok h).2.1
  have HR1 : Hid (givenE t l = 0 → failsB t l = topB t (setL l)) := fun h => by unfold failsB; rw [if_pos h]
  have HR2 : Hid (givenE t l ≠ 0 → failsB t l = false) := fun h => by unfold failsB; rw [if_neg h]
  generalize failsB t l = r at HR1 HR2 ⊢
  generalize givenE t l = e0 at HG HF HS HR1 HR2 ⊢
  generalize givenS t l = s0 at HG HS
  unfold treeV at HG HF ⊢
  have y0 : (w.alloc (.cells #[.int .i64 t.ev, .slice a t.gates.length cap] 24)).cell? ⟨w.heap.size, 0, none⟩ = some (.int .i64 t.ev) := by go_simp
  have y1 : (w.alloc (.cells #[.int .i64 t.ev, .slice a t.gates.length cap] 24)).cell? ⟨w.heap.size, 1, none⟩ = some (.slice a t.gates.length cap) := by go_simp
  have E0 : Ext w (w.alloc (.cells #[.int .i64 t.ev, .slice a t.gates.length cap] 24)) := extA
  clear ht hc hl
  go_enter Tryz.func12, Tryz.ntmps12
  go_wp2_with fail
  generalize (w.alloc (.cells #[.int .i64 t.ev, .slice a t.gates.length cap] 24)) = W at y0 y1 E0 ⊢
  refine (HG.out _ E0).mono ?_
  rintro e w1 ⟨rfl, hE⟩
  have E1 := E0.trans hE
  replace y0 := hE.cell y0
  replace y1 := hE.cell y1
  clear hE
  by_cases h0 : e0 = 0
  · have HLX := Lib.hid (HF.out w1 h0 E1)
    have HX := Lib.hid (HR1.out h0)
    have h8 := HS.out h0
    subst h8
    subst h0
    clear HR1 HR2 HF HG HS
    generalize topB t (setL l) = r2 at HLX HX
    go_wp2_with fail
    refine HLX.out.mono ?_
    rintro e w2 ⟨rfl, hE⟩
    go_wp2
    go_ret2
    exact ⟨ret_pair (congrArg _ HX.out.symm) rfl, E1.trans hE⟩
  · have HX := Lib.hid (HR2.out h0)
    have k5 : ((e0 : Int) != 0) = true := by rw [bne_iff_ne]; omega
    clear HR1 HR2 HF HG HS h0
    go_wp2
    go_ret2
    exact ⟨ret_pair (congrArg _ HX.out.symm) rfl, E1⟩
def verifyE (t : Tr) (l : List Int) : Nat := if givenE t l ≠ 0 then givenE t l else if minB t (setL l) = true then 0 else 15
set_option maxHeartbeats 2000000 in
theorem Verify_any {t : Tr} {a la : Option Addr} {cap lc : Nat} {l : List Int} {w : World} (ht : TreeG w t a cap) (hc : CellsI w la l) (hl : l.length ≤ maxLen) (hT : TabC w) :
    Calls Tryz.prog 17 #[treeV t a cap, .slice la l.length lc] w fun e w' => e = .returned (.int .i64 (verifyE t l : Nat)) ∧ Ext w w' := by
  have HG := Lib.hid (fun W (hW : Ext w W) => given_any (lc := lc) (ht.ext hW) (hc.ext hW) hl)
  have HF := Lib.hid (fun W (h0 : givenE t l = 0) (hW : Ext w W) => minimal_any (ht.ext hW) (given_ok h0).1 (s := setL l) (given_ok h0).2.2 (tabC_ext hT hW))
  have HS : Hid (givenE t l = 0 → givenS t l = setL l) := fun h => (given_ok h).2.1
  have HR1 : Hid (givenE t l = 0 → minB t (setL l) = true → verifyE t l = 0) := fun h h2 => by unfold verifyE; rw [if_neg (not_not_intro h), if_pos h2]
  have HR3 : Hid (givenE t l = 0 → minB t (setL l) = false → verifyE t l = 15) := fun h h2 => by unfold verifyE; rw [if_neg (not_not_intro h), if_neg (by rw [h2]; simp)]
  have HR2 : Hid (givenE t l ≠ 0 → verifyE t l = givenE t l) := fun h => by unfold verifyE; rw [if_pos h]
  generalize verifyE t l = r at HR1 HR2 HR3 ⊢
  generalize givenE t l = e0 at HG HF HS HR1 HR2 HR3 ⊢
  generalize givenS t l = s0 at HG HS
  unfold treeV at HG HF ⊢
  have y0 : (w.alloc (.cells #[.int .i64 t.ev, .slice a t.gates.length cap] 24)).cell? ⟨w.heap.size, 0, none⟩ = some (.int .i64 t.ev) := by go_simp
  have y1 : (w.alloc (.cells #[.int .i64 t.ev, .slice a t.gates.length cap] 24)).cell? ⟨w.heap.size, 1, none⟩ = some (.slice a t.gates.length cap) := by go_simp
  have E0 : Ext w (w.alloc (.cells #[.int .i64 t.ev, .slice a t.gates.length cap] 24)) := extA
  clear ht hc hl hT
  go_enter Tryz.func17, Tryz.ntmps17
  go_wp2_with fail
  generalize (w.alloc (.cells #[.int .i64 t.ev, .slice a t.gates.length cap] 24)) = W at y0 y1 E0 ⊢
  refine (HG.out _ E0).mono ?_
  rintro e w1 ⟨rfl, hE⟩
  have E1 := E0.trans hE
  replace y0 := hE.cell y0
  replace y1 := hE.cell y1
  clear hE
  by_cases h0 : e0 = 0
  · have HLX := Lib.hid (HF.out w1 h0 E1)
    have HX := Lib.hid (HR1.out h0)
    have HX2 := Lib.hid (HR3.out h0)
    have h8 := HS.out h0
    subst h8
    subst h0
    clear HR1 HR2 HF HG HS HR3
    generalize minB t (setL l) = r2 at HLX HX HX2
    go_wp2_with fail
    refine HLX.out.mono ?_
    rintro e w2 ⟨rfl, hE⟩
    cases r2
    · have HY := Lib.hid (HX2.out rfl)
      clear HX HX2 HLX
      go_wp2
      go_ret
      exact ⟨ret_int (by rw [HY.out]; rfl), E1.trans hE⟩
    · have HY := Lib.hid (HX.out rfl)
      clear HX HX2 HLX
      go_wp2
      go_ret
      exact ⟨ret_int (by rw [HY.out]; rfl), E1.trans hE⟩
  · have HX := Lib.hid (HR2.out h0)
    have k5 : ((e0 : Int) != 0) = true := by rw [bne_iff_ne]; omega
    clear HR1 HR2 HR3 HF HG HS h0
    go_wp2
    go_ret
    exact ⟨ret_int (by rw [HX.out]), E1⟩
end Go.Proofs.YtlhpfhnbeagnaaaGreatDoor
namespace Go.Proofs.YtlhpfhnbeagnaaaGreatDoor
open Go.Sort
def lexC : List Int → List Int → Int
  | [], [] => 0
  | [], _ :: _ => -1
  | _ :: _, [] => 1
  | a :: l, b :: m => if a < b then -1 else if b < a then 1 else lexC l m
def cmpL (a b : List Int) : Int := if a.length < b.length then -1 else if b.length < a.length then 1 else lexC a b
theorem lexC_lex : ∀ {a b : List Int}, a.length = b.length → (lexC a b < 0 ↔ lexB a b = true) := by
  intro a
  induction a with
  | nil =>
    intro b h
    have : b = [] := List.eq_nil_of_length_eq_zero h.symm
    subst this
    simp [lexC, lexB]
  | cons x a ih =>
    intro b h
    cases b with
    | nil => cases h
    | cons y b =>
      unfold lexC lexB
      by_cases e : x = y
      · subst e
        rw [if_neg (by omega), if_neg (by omega), if_pos rfl]
        exact ih (by simpa using h)
      · rw [if_neg e, decide_eq_true_eq]
        by_cases hl : x < y
        · rw [if_pos hl]; omega
        · rw [if_neg hl, if_pos (by omega)]; omega
theorem cmpL_bef (a b : List Int) : cmpL a b < 0 ↔ befL a b = true := by
  unfold cmpL befL
  by_cases e : a.length = b.length
  · rw [if_neg (by omega), if_neg (by omega), if_pos e]; exact lexC_lex e
  · rw [if_neg e, decide_eq_true_eq]
    by_cases hl : a.length < b.length
    · rw [if_pos hl]; omega
    · rw [if_neg hl, if_pos (by omega)]; omega
theorem befL_ntrans {a b c : List Int} (h1 : befL a b = false) (h2 : befL b c = false) : befL a c = false := by
  cases h : befL a c
  · rfl
  · cases h3 : befL b a
    · have := befL_tri h1 h3
      subst this
      rw [h2] at h; cases h
    · have := befL_trans h3 h
      rw [h2] at this; cases this
section
variable {α : Type} (lst : α → List Int)
def cfL (x y : α) : Int := cmpL (lst x) (lst y)
theorem cfL_lt (x y : α) : ltOf (cfL lst) x y = befL (lst x) (lst y) := by
  unfold ltOf cfL
  rw [Bool.eq_iff_iff, decide_eq_true_eq, cmpL_bef]
theorem cfL_swo : SWO (ltOf (cfL lst)) := by
  refine ⟨fun x => ?_, fun x y z h1 h2 => ?_, fun x y z h1 h2 => ?_⟩
  · rw [cfL_lt]; exact befL_irr _
  · rw [cfL_lt] at *; exact befL_trans h1 h2
  · rw [cfL_lt] at *; exact befL_ntrans h1 h2
theorem bang_get [Inhabited α] (d : Array α) {i : Nat} (h : i < d.size) : d[i]! = d.toList[i]'(by simpa using h) := by
  rw [getElem!_pos d i h]; rfl
theorem sorted_list [Inhabited α] {d d' : Array α} (hp : PermIn 0 d.size d d') (hs : SortedIn (ltOf (cfL lst)) 0 d.size d') : (d'.toList.map lst).Perm (d.toList.map lst) ∧ SortL (d'.toList.map lst) := by
  obtain ⟨h1, _, h3⟩ := hp
  constructor
  · have e1 : d'.extract 0 d.size = d' := by rw [← h1]; exact Array.extract_size
    have e2 : d.extract 0 d.size = d := Array.extract_size
    rw [e1, e2] at h3
    exact h3.map lst
  · unfold SortL
    rw [List.pairwise_map, List.pairwise_iff_getElem]
    intro i j hi hj hij
    have hi' : i < d'.size := by simpa using hi
    have hj' : j < d'.size := by simpa using hj
    have h := hs i j (Nat.zero_le _) hij (by omega)
    rw [cfL_lt, bang_get d' hj', bang_get d' hi'] at h
    exact h
end
end Go.Proofs.YtlhpfhnbeagnaaaGreatDoor
namespace Go.Proofs.YtlhpfhnbeagnaaaGreatDoor
open Go.RowKit
structure ExtD (w w' : World) : Prop where
  e : Ext w w'
  d : w.drawn ≤ w'.drawn
theorem ExtD.refl (w : World) : ExtD w w := ⟨Ext.refl w, Nat.le_refl _⟩
theorem ExtD.trans {a b c : World} (h : ExtD a b) (k : ExtD b c) : ExtD a c := ⟨h.e.trans k.e, Nat.le_trans h.d k.d⟩
theorem ExtD.alloc {a w : World} (h : ExtD a w) (o : Obj) : ExtD a (w.alloc o) := ⟨h.e.alloc o, h.d⟩
theorem ExtD.drew {a w : World} (h : ExtD a w) : ExtD a w.drew := ⟨h.e.drew, Nat.le_trans h.d (Nat.le_succ _)⟩
theorem ExtD.drewN {a w : World} (h : ExtD a w) (n : Nat) : ExtD a (w.drewN n) := ⟨h.e.drewN n, Nat.le_trans h.d (Nat.le_add_right _ n)⟩
theorem grow_of {w w' : World} (h : ExtD w w') : ∃ q os, w' = Sort.grow (w.drewN q) os := by
  obtain ⟨⟨h1, h2, h3, h4, h5⟩, hd⟩ := h
  refine ⟨w'.drawn - w.drawn, w'.heap.extract w.heap.size w'.heap.size, ?_⟩
  have hh : w'.heap = w.heap ++ w'.heap.extract w.heap.size w'.heap.size := by
    refine Array.ext ?_ fun i i1 i2 => ?_
    · rw [Array.size_append, Array.size_extract]; omega
    · by_cases hi : i < w.heap.size
      · rw [Array.getElem_append_left hi]
        have := h5 i hi
        rw [Array.getElem?_eq_getElem i1, Array.getElem?_eq_getElem hi] at this
        exact Option.some.inj this
      · rw [Array.getElem_append_right (by omega), Array.getElem_extract]
        congr 1
        omega
  have hdd : w'.drawn = w.drawn + (w'.drawn - w.drawn) := by omega
  obtain ⟨p, t, d, o, u⟩ := w'
  dsimp only at h1 h2 h3 hh hdd
  unfold Sort.grow World.drewN
  dsimp only
  rw [← hh, ← hdd]
  subst h1 h2 h3
  rfl
end Go.Proofs.YtlhpfhnbeagnaaaGreatDoor
namespace Go.Proofs.YtlhpfhnbeagnaaaGreatDoor
open Go.RowKit
def ordI (a b : Int) : Int := if a < b then -1 else if b < a then 1 else 0
set_option maxHeartbeats 400000 in
theorem isNaNI_any (a : Int) (w : World) :
    Calls Tryz.prog 130 #[.int .i64 a] w fun e w' => e = .returned (.bool false) ∧ w = w' := by
  go_enter Tryz.func130, Tryz.ntmps130
  go_wp2
  all_goals go_ret
  all_goals simp
set_option maxHeartbeats 800000 in
theorem CmpI_any (a b : Int) (w : World) :
    Calls Tryz.prog 102 #[.int .i64 a, .int .i64 b] w fun e w' => e = .returned (.int .i64 (ordI a b)) ∧ w = w' := by
  unfold ordI
  by_cases h1 : a < b
  · rw [if_pos h1]
    go_enter Tryz.func102, Tryz.ntmps102
    go_wp2_with (go_at_call 130; refine (isNaNI_any _ _).mono ?_; rintro e w' ⟨rfl, rfl⟩)
    all_goals go_ret
    all_goals exact ⟨rfl, rfl⟩
  · rw [if_neg h1]
    by_cases h2 : b < a
    · rw [if_pos h2]
      go_enter Tryz.func102, Tryz.ntmps102
      go_wp2_with (go_at_call 130; refine (isNaNI_any _ _).mono ?_; rintro e w' ⟨rfl, rfl⟩)
      all_goals go_ret
      all_goals exact ⟨rfl, rfl⟩
    · rw [if_neg h2]
      go_enter Tryz.func102, Tryz.ntmps102
      go_wp2_with (go_at_call 130; refine (isNaNI_any _ _).mono ?_; rintro e w' ⟨rfl, rfl⟩)
      all_goals go_ret
      all_goals exact ⟨rfl, rfl⟩
set_option maxHeartbeats 400000 in
theorem isNaNU_any (a : Int) (w : World) :
    Calls Tryz.prog 189 #[.int .u64 a] w fun e w' => e = .returned (.bool false) ∧ w = w' := by
  go_enter Tryz.func189, Tryz.ntmps189
  go_wp2
  all_goals go_ret
  all_goals simp
set_option maxHeartbeats 800000 in
theorem CmpU_any (a b : Int) (w : World) :
    Calls Tryz.prog 157 #[.int .u64 a, .int .u64 b] w fun e w' => e = .returned (.int .i64 (ordI a b)) ∧ w = w' := by
  unfold ordI
  by_cases h1 : a < b
  · rw [if_pos h1]
    go_enter Tryz.func157, Tryz.ntmps157
    go_wp2_with (go_at_call 189; refine (isNaNU_any _ _).mono ?_; rintro e w' ⟨rfl, rfl⟩)
    all_goals go_ret
    all_goals exact ⟨rfl, rfl⟩
  · rw [if_neg h1]
    by_cases h2 : b < a
    · rw [if_pos h2]
      go_enter Tryz.func157, Tryz.ntmps157
      go_wp2_with (go_at_call 189; refine (isNaNU_any _ _).mono ?_; rintro e w' ⟨rfl, rfl⟩)
      all_goals go_ret
      all_goals exact ⟨rfl, rfl⟩
    · rw [if_neg h2]
      go_enter Tryz.func157, Tryz.ntmps157
      go_wp2_with (go_at_call 189; refine (isNaNU_any _ _).mono ?_; rintro e w' ⟨rfl, rfl⟩)
      all_goals go_ret
      all_goals exact ⟨rfl, rfl⟩
set_option maxHeartbeats 1000000 in
theorem even_any (x : Nat) (l : List Nat) (a : Option Addr) (cap : Nat) (w : World) (hx : l = toB 1000000000 x) (hc : CellsN .u64 w a l) (hl : l.length ≤ 200) :
    Calls Tryz.prog 158 #[.slice a l.length cap] w fun e w' => e = .returned (.bool (decide (x % 2 = 0))) ∧ Ext w w' := by
  by_cases h0 : x = 0
  · have hl0 : l = [] := by rw [hx, h0, toB_zero]
    subst hl0
    have HR : Hid (decide (x % 2 = 0) = true) := by show _ = _; simp [h0]
    clear hx hc h0
    go_enter Tryz.func158, Tryz.ntmps158
    go_wp2
    go_ret
    exact ⟨ret_bool HR.out.symm, extA⟩
  · have hpos : 0 < l.length := by rw [hx, toB_pos (by omega) h0]; simp
    obtain ⟨b, off, ha, c1⟩ := hc 0 hpos
    subst ha
    obtain ⟨p, hp⟩ : ∃ p, p = l.getD 0 0 := ⟨_, rfl⟩
    have he : p % 2 = x % 2 := by rw [hp, hx]; exact even_toB (by omega) (by decide) h0
    rw [← hp, Nat.add_zero] at c1
    have HR : Hid (decide (x % 2 = 0) = decide (p % 2 = 0)) := by show _ = _; rw [he]
    have ht : ((p : Int).tmod 2 == 0) = decide (p % 2 = 0) := by
      rw [Int.tmod_eq_emod_of_nonneg (by omega), Bool.eq_iff_iff]
      simp only [beq_iff_eq, decide_eq_true_eq]
      omega
    have hn0 : ((l.length : Int) == 0) = false := by rw [beq_eq_false_iff_ne]; omega
    clear hx hc h0 he hp
    generalize decide (p % 2 = 0) = R at HR ht
    go_enter Tryz.func158, Tryz.ntmps158
    go_wp2
    all_goals go_ret
    all_goals exact ⟨ret_bool (by rw [HR.out]; first | rfl | exact ht), extA⟩
end Go.Proofs.YtlhpfhnbeagnaaaGreatDoor
namespace Go.Proofs.YtlhpfhnbeagnaaaGreatDoor
open Go.RowKit
theorem lexC_drop (l m : List Int) (k : Nat) (h1 : k < l.length) (h2 : k < m.length) (r : Int) (e : lexC (l.drop k) (m.drop k) = r) :
    (ordI (l.getD k 0) (m.getD k 0) ≠ 0 → ordI (l.getD k 0) (m.getD k 0) = r) ∧ (ordI (l.getD k 0) (m.getD k 0) = 0 → lexC (l.drop (k + 1)) (m.drop (k + 1)) = r) := by
  rw [drop_at l 0 h1, drop_at m 0 h2] at e
  unfold lexC at e
  unfold ordI
  split at e
  · rename_i h
    rw [if_pos h]
    exact ⟨fun _ => e, fun h => by cases h⟩
  · rename_i h
    rw [if_neg h]
    split at e
    · rename_i h3
      rw [if_pos h3]
      exact ⟨fun _ => e, fun h => by cases h⟩
    · rename_i h3
      rw [if_neg h3]
      exact ⟨fun h => absurd rfl h, fun _ => e⟩
set_option maxHeartbeats 4000000 in
theorem CompareI_any (l m : List Int) (a b : Option Addr) (ca cb : Nat) (w : World) (hl : l.length ≤ maxLen) (hc : CellsI w a l) (_hm : m.length ≤ maxLen) (hd : CellsI w b m) :
    Calls Tryz.prog 103 #[.slice a l.length ca, .slice b m.length cb] w fun r w' => r = .returned (.int .i64 (lexC l m)) ∧ ExtD w w' := by
  have HC := Lib.hid hc
  have HD := Lib.hid hd
  unfold maxLen at hl _hm
  clear hc hd
  obtain ⟨R, hR⟩ : ∃ R, R = lexC l m := ⟨_, rfl⟩
  have HR : Hid (lexC (l.drop 0) (m.drop 0) = R) := hR.symm
  rw [← hR]
  clear hR
  go_enter Tryz.func103, Tryz.ntmps103
  go_wp2
  go_loopw [11] (fun i wr => ∃ k : Nat, k ≤ l.length ∧ k ≤ m.length ∧ i = .int .i64 k ∧ Hid (lexC (l.drop k) (m.drop k) = R) ∧ ExtD w wr) (fun i _ => l.length - (intOf i).toNat)
  case atStart => exact ⟨0, Nat.zero_le _, Nat.zero_le _, rfl, HR, ExtD.refl _⟩
  case round =>
    clear HR
    obtain ⟨k, hk, hk2, rfl, hz, he⟩ := hrel
    by_cases h1 : k < l.length
    · obtain ⟨ba, oa, rfl, c1⟩ := HC.out k h1
      have c1 := he.e.cell c1
      by_cases h2 : k < m.length
      · obtain ⟨bb, ob, rfl, c2⟩ := HD.out k h2
        have c2 := he.e.cell c2
        have HZ := Lib.hid (lexC_drop l m k h1 h2 _ hz.out)
        clear hz
        generalize l.getD k 0 = x at c1 HZ
        generalize m.getD k 0 = y at c2 HZ
        have hge : decide ((k : Int) ≥ (m.length : Int)) = false := by simp; omega
        obtain ⟨c, hcq⟩ : ∃ c, c = ordI x y := ⟨_, rfl⟩
        rw [← hcq] at HZ
        have HCQ := Lib.hid hcq
        clear hcq
        by_cases h0 : c = 0
        · have HZ2 := Lib.hid (HZ.out.2 h0)
          clear HZ
          subst h0
          go_wp2_with (go_at_call 102; (with_reducible refine (CmpI_any _ _ _).mono ?_); rintro e w' ⟨rfl, rfl⟩; rw [← HCQ.out])
          refine ⟨⟨k + 1, by omega, by omega, by go_num, HZ2, by first | exact he | exact he.drew⟩, by simp [intOf]; omega⟩
        · have HZ2 := Lib.hid (HZ.out.1 h0)
          have hcc : (c != 0) = true := by simpa using h0
          clear HZ
          go_wp2_with (go_at_call 102; (with_reducible refine (CmpI_any _ _ _).mono ?_); rintro e w' ⟨rfl, rfl⟩; rw [← HCQ.out])
          go_ret
          exact ⟨ret_int HZ2.out, by first | exact he | exact he.drew⟩
      · have hk3 : k = m.length := by omega
        have hz2 := hz.out
        rw [drop_at l 0 h1, show m.drop k = [] from List.drop_eq_nil_of_le (by omega)] at hz2
        have HZ := Lib.hid hz2
        clear hz hz2
        generalize l.getD k 0 = x at c1 HZ
        subst hk3
        go_wp2
        go_ret
        exact ⟨ret_int (by rw [← HZ.out]; rfl), he⟩
    · have hke : k = l.length := by omega
      have hz2 := hz.out
      rw [show l.drop k = [] from List.drop_eq_nil_of_le (by omega)] at hz2
      have hnk : ¬ k < l.length := h1
      by_cases h2 : l.length < m.length
      · rw [drop_at m 0 (by omega)] at hz2
        have HZ := Lib.hid hz2
        clear hz hz2
        go_wp2
        go_ret
        exact ⟨ret_int (by rw [← HZ.out]; rfl), he⟩
      · rw [show m.drop k = [] from List.drop_eq_nil_of_le (by omega)] at hz2
        have HZ := Lib.hid hz2
        clear hz hz2
        go_wp2
        go_ret
        exact ⟨ret_int (by rw [← HZ.out]; rfl), he⟩
set_option maxHeartbeats 1000000 in
theorem cuts1_any (n m : Nat) (a b : Option Addr) (ca cb : Nat) (w : World) :
    Calls Tryz.prog 101 #[.slice a n ca, .slice b m cb] w fun r w' => r = .returned (.int .i64 (ordI n m)) ∧ ExtD w w' := by
  have H := Lib.hid (fun W => CmpI_any (n : Int) (m : Int) W)
  generalize ordI (n : Int) (m : Int) = r at H ⊢
  go_enter Tryz.func101, Tryz.ntmps101
  go_wp2_with fail
  refine (H.out _).mono ?_
  rintro e w1 ⟨rfl, rfl⟩
  go_wp2
  go_ret
  exact ⟨rfl, by first | exact ExtD.refl _ | exact (ExtD.refl _).drew⟩
theorem cmpL_ord (l m : List Int) : (ordI l.length m.length ≠ 0 → ordI l.length m.length = cmpL l m) ∧ (ordI l.length m.length = 0 → lexC l m = cmpL l m) := by
  unfold ordI cmpL
  by_cases h1 : l.length < m.length
  · rw [if_pos (by omega), if_pos h1]
    exact ⟨fun _ => rfl, fun h => by cases h⟩
  · rw [if_neg (by omega), if_neg h1]
    by_cases h2 : m.length < l.length
    · rw [if_pos (by omega), if_pos h2]
      exact ⟨fun _ => rfl, fun h => by cases h⟩
    · rw [if_neg (by omega), if_neg h2]
      exact ⟨fun h => absurd rfl h, fun _ => rfl⟩
structure ByAt (w : World) (pb g : Nat) : Prop where
  c : w.cell? ⟨pb, 0, none⟩ = some (.slice (some ⟨g, 0, none⟩) 2 2)
  f0 : w.cell? ⟨g, 0, none⟩ = some (.func (.func 101) #[] #[])
  f1 : w.cell? ⟨g, 1, none⟩ = some (.func (.func 103) #[] #[])
theorem ByAt.ext {A B : World} {pb g : Nat} (h : ByAt A pb g) (e : Ext A B) : ByAt B pb g := ⟨e.cell h.c, e.cell h.f0, e.cell h.f1⟩
set_option maxHeartbeats 4000000 in
theorem sorted1_any (l m : List Int) (a b : Option Addr) (ca cb pb g : Nat) (w : World) (hl : l.length ≤ maxLen) (hc : CellsI w a l) (hm : m.length ≤ maxLen) (hd : CellsI w b m) (hb : ByAt w pb g) :
    Calls Tryz.prog 129 #[.slice a l.length ca, .slice b m.length cb, .pointer (some ⟨pb, 0, none⟩)] w fun r w' => r = .returned (.int .i64 (cmpL l m)) ∧ ExtD w w' := by
  have HX := Lib.hid (fun W (hW : Ext w W) => CompareI_any l m a b ca cb W hl (hc.ext hW) hm (hd.ext hW))
  have HY := Lib.hid (fun W => cuts1_any l.length m.length a b ca cb W)
  have HB := Lib.hid hb
  obtain ⟨h1, h2⟩ := cmpL_ord l m
  have H1 := Lib.hid h1
  have H2 := Lib.hid h2
  have hl2 : l.length ≤ 9223372036854775807 := by unfold maxLen at hl; omega
  have hm2 : m.length ≤ 9223372036854775807 := by unfold maxLen at hm; omega
  clear hc hd hb h1 h2 hl hm
  generalize cmpL l m = r at H1 H2 ⊢
  generalize lexC l m = x at HX H2
  generalize ordI (l.length : Int) (m.length : Int) = y at HY H1 H2
  obtain ⟨y0, y1, y2⟩ := HB.out
  have z0 := cell_lt y0
  dsimp only at z0
  go_enter Tryz.func129, Tryz.ntmps129
  go_wp2
  go_loopw [11] (fun i wr => ∃ k : Nat, k ≤ 2 ∧ i = .int .i64 k ∧ Hid (0 < k → y = 0) ∧ Hid (1 < k → r = 0) ∧ ExtD w wr) (fun i _ => 2 - (intOf i).toNat)
  case atStart => exact ⟨0, by omega, rfl, fun h => by omega, fun h => by omega, ExtD.refl _⟩
  case round =>
    obtain ⟨k, hk, rfl, hy, hr, he⟩ := hrel
    clear y0 y1 y2 z0
    obtain ⟨y0, y1, y2⟩ := HB.out.ext he.e
    have z1 := cell_lt y1
    dsimp only at z1
    have hk3 : k = 0 ∨ k = 1 ∨ k = 2 := by omega
    rcases hk3 with rfl | rfl | rfl
    · go_wp2_with fail
      refine (HY.out _).mono ?_
      rintro e w1 ⟨rfl, hE⟩
      by_cases h0 : y = 0
      · have k5 : (y != 0) = false := by simp [h0]
        have HG := Lib.hid h0
        clear h0
        go_wp2
        exact ⟨⟨1, by omega, rfl, fun _ => HG.out, fun h => by omega, he.trans hE⟩, by simp [intOf]⟩
      · have k5 : (y != 0) = true := by simp [h0]
        have HG := Lib.hid (H1.out h0)
        clear h0
        go_wp2
        go_ret
        exact ⟨ret_int HG.out, he.trans hE⟩
    · have HG := Lib.hid (H2.out (hy.out (by omega)))
      go_wp2_with fail
      refine (HX.out _ he.e).mono ?_
      rintro e w1 ⟨rfl, hE⟩
      by_cases h0 : x = 0
      · have k5 : (x != 0) = false := by simp [h0]
        have HG2 := Lib.hid (HG.out.symm.trans h0)
        clear h0
        go_wp2
        exact ⟨⟨2, by omega, rfl, hy.out ∘ (fun _ => by omega), fun _ => HG2.out, he.trans hE⟩, by simp [intOf]⟩
      · have k5 : (x != 0) = true := by simp [h0]
        clear h0
        go_wp2
        go_ret
        exact ⟨ret_int HG.out, he.trans hE⟩
    · have HG := Lib.hid (hr.out (by omega))
      go_wp2
      go_ret
      exact ⟨ret_int HG.out.symm, he⟩
end Go.Proofs.YtlhpfhnbeagnaaaGreatDoor
namespace Go.Proofs
open Go.Shelf
def Tryz.lays169_ren : Go.Shelf.Ren := ⟨fun | 169 => 166 | n => n, fun | 70 => 195 | 9 => 9 | 0 => 0 | 72 => 198 | 37 => 196 | 127 => 233 | 3 => 3 | 5 => 5 | n => n, fun | n => n⟩
theorem Tryz.lays169 : Go.Proofs.Lays.n169 Tryz.prog Tryz.lays169_ren := {
  mixed := by kernel_rfl
  f169 := Tryz.func166.trans (congrArg some (by kernel_rfl))
  t0 := Tryz.underlying0
  a0 := Tryz.isAgg0
  z0 := Tryz.sizeOf0
  v0 := Tryz.zeroValue0
  t3 := Tryz.underlying3
  a3 := Tryz.isAgg3
  z3 := Tryz.sizeOf3
  v3 := Tryz.zeroValue3
  t9 := Tryz.underlying9
  a9 := Tryz.isAgg9
  z9 := Tryz.sizeOf9
  v9 := Tryz.zeroValue9
  t37 := Tryz.underlying196
  a37 := Tryz.isAgg196
  z37 := Tryz.sizeOf196
  v37 := Tryz.zeroValue196
  t70 := Tryz.underlying195
  a70 := Tryz.isAgg195
  z70 := Tryz.sizeOf195
  v70 := Tryz.zeroValue195
  t72 := Tryz.underlying198
  a72 := Tryz.isAgg198
  z72 := Tryz.sizeOf198
  v72 := Tryz.zeroValue198
  t127 := Tryz.underlying233
  a127 := Tryz.isAgg233
  z127 := Tryz.sizeOf233
  v127 := Tryz.zeroValue233 }
theorem Tryz.Builder_Extra_169 : Builder.Extra Tryz.prog Tryz.lays169_ren := {
  sizeBuilder := by kernel_rfl
  liesBuilder := by kernel_rfl
  t5 := Tryz.underlying5
  a5 := Tryz.isAgg5
  z5 := Tryz.sizeOf5
  v5 := Tryz.zeroValue5
  infoByte := by kernel_rfl
  cellsByte := by kernel_rfl
  sizeByte := by kernel_rfl
  neB5 := by decide }
def Tryz.lays160_ren : Go.Shelf.Ren := ⟨fun | 160 => 153 | 232 => 180 | 231 => 179 | 227 => 181 | 234 => 183 | 233 => 182 | 236 => 185 | 235 => 184 | 228 => 209 | 271 => 212 | 151 => 211 | 197 => 210 | 120 => 229 | 152 => 228 | 260 => 227 | 137 => 241 | 119 => 242 | 224 => 206 | 225 => 205 | 217 => 204 | 266 => 225 | n => n, fun | 9 => 9 | 4 => 4 | 3 => 3 | 5 => 5 | 117 => 218 | 116 => 217 | 0 => 0 | 124 => 221 | 21 => 21 | 105 => 243 | 46 => 93 | 119 => 272 | 139 => 275 | 138 => 274 | n => n, fun | 3 => 4 | 4 => 5 | n => n⟩
theorem Tryz.lays160 : Go.Proofs.Lays.n160 Tryz.prog Tryz.lays160_ren := {
  mixed := by kernel_rfl
  f119 := Tryz.func242.trans (congrArg some (by kernel_rfl))
  f120 := Tryz.func229.trans (congrArg some (by kernel_rfl))
  f137 := Tryz.func241.trans (congrArg some (by kernel_rfl))
  f151 := Tryz.func211.trans (congrArg some (by kernel_rfl))
  f152 := Tryz.func228.trans (congrArg some (by kernel_rfl))
  f160 := Tryz.func153.trans (congrArg some (by kernel_rfl))
  f197 := Tryz.func210.trans (congrArg some (by kernel_rfl))
  f217 := Tryz.func204.trans (congrArg some (by kernel_rfl))
  f224 := Tryz.func206.trans (congrArg some (by kernel_rfl))
  f225 := Tryz.func205.trans (congrArg some (by kernel_rfl))
  f227 := Tryz.func181.trans (congrArg some (by kernel_rfl))
  f228 := Tryz.func209.trans (congrArg some (by kernel_rfl))
  f231 := Tryz.func179.trans (congrArg some (by kernel_rfl))
  f232 := Tryz.func180.trans (congrArg some (by kernel_rfl))
  f233 := Tryz.func182.trans (congrArg some (by kernel_rfl))
  f234 := Tryz.func183.trans (congrArg some (by kernel_rfl))
  f235 := Tryz.func184.trans (congrArg some (by kernel_rfl))
  f236 := Tryz.func185.trans (congrArg some (by kernel_rfl))
  f260 := Tryz.func227.trans (congrArg some (by kernel_rfl))
  f266 := Tryz.func225.trans (congrArg some (by kernel_rfl))
  f271 := Tryz.func212.trans (congrArg some (by kernel_rfl))
  t0 := Tryz.underlying0
  a0 := Tryz.isAgg0
  z0 := Tryz.sizeOf0
  v0 := Tryz.zeroValue0
  t3 := Tryz.underlying3
  a3 := Tryz.isAgg3
  z3 := Tryz.sizeOf3
  v3 := Tryz.zeroValue3
  t4 := Tryz.underlying4
  a4 := Tryz.isAgg4
  z4 := Tryz.sizeOf4
  v4 := Tryz.zeroValue4
  t5 := Tryz.underlying5
  a5 := Tryz.isAgg5
  z5 := Tryz.sizeOf5
  v5 := Tryz.zeroValue5
  t9 := Tryz.underlying9
  a9 := Tryz.isAgg9
  z9 := Tryz.sizeOf9
  v9 := Tryz.zeroValue9
  t21 := Tryz.underlying21
  a21 := Tryz.isAgg21
  z21 := Tryz.sizeOf21
  v21 := Tryz.zeroValue21
  t46 := Tryz.underlying93
  a46 := Tryz.isAgg93
  z46 := Tryz.sizeOf93
  v46 := Tryz.zeroValue93
  t105 := Tryz.underlying243
  a105 := Tryz.isAgg243
  z105 := Tryz.sizeOf243
  v105 := Tryz.zeroValue243
  t116 := Tryz.underlying217
  a116 := Tryz.isAgg217
  z116 := Tryz.sizeOf217
  t117 := Tryz.underlying218
  a117 := Tryz.isAgg218
  z117 := Tryz.sizeOf218
  v117 := Tryz.zeroValue218
  t119 := Tryz.underlying272
  a119 := Tryz.isAgg272
  z119 := Tryz.sizeOf272
  t124 := Tryz.underlying221
  a124 := Tryz.isAgg221
  z124 := Tryz.sizeOf221
  v124 := Tryz.zeroValue221
  t138 := Tryz.underlying274
  a138 := Tryz.isAgg274
  z138 := Tryz.sizeOf274
  v138 := Tryz.zeroValue274
  t139 := Tryz.underlying275
  a139 := Tryz.isAgg275
  z139 := Tryz.sizeOf275
  v139 := Tryz.zeroValue275
  g3 := by kernel_rfl
  g4 := by kernel_rfl }
def Tryz.lays103_ren : Go.Shelf.Ren := ⟨fun | 103 => 152 | 210 => 178 | 206 => 208 | n => n, fun | 9 => 9 | 4 => 4 | 24 => 184 | 3 => 3 | n => n, fun | n => n⟩
theorem Tryz.lays103 : Go.Proofs.Lays.n103 Tryz.prog Tryz.lays103_ren := {
  mixed := by kernel_rfl
  f103 := Tryz.func152.trans (congrArg some (by kernel_rfl))
  f206 := Tryz.func208.trans (congrArg some (by kernel_rfl))
  f210 := Tryz.func178.trans (congrArg some (by kernel_rfl))
  t3 := Tryz.underlying3
  a3 := Tryz.isAgg3
  z3 := Tryz.sizeOf3
  v3 := Tryz.zeroValue3
  t4 := Tryz.underlying4
  a4 := Tryz.isAgg4
  z4 := Tryz.sizeOf4
  v4 := Tryz.zeroValue4
  t9 := Tryz.underlying9
  a9 := Tryz.isAgg9
  z9 := Tryz.sizeOf9
  v9 := Tryz.zeroValue9
  t24 := Tryz.underlying184
  a24 := Tryz.isAgg184
  z24 := Tryz.sizeOf184
  v24 := Tryz.zeroValue184 }
open Go.RowKit in
theorem Tryz.strings_CutPrefix (s p : ByteArray) (w : World) :
    Calls Tryz.prog 152 #[.string s, .string p] w fun e w' => e = .returned (.tuple #[.string ⟨(Lib.trimPrefix s.data.toList p.data.toList).toArray⟩, .bool (Lib.hasPrefix s.data.toList p.data.toList)]) ∧ w' = w := Any.strings_CutPrefix Tryz.lays103 s p w
open Go.RowKit in
theorem Tryz.Builder_String_any_k (B b : Nat) (l : List UInt8) (w : World) (h : Lib.IsBuilderF 198 5 B b (Lib.byteCells l) w) (hBw : B ≤ w.heap.size) :
    Calls Tryz.prog 166 #[.pointer (some ⟨b, 0, none⟩)] w fun e w' => e = .returned (.string ⟨l.toArray⟩) ∧ (Lib.IsBuilderF 198 5 B b (Lib.byteCells l) w' ∧ Below B w w' ∧ Lib.OthersKept 5 (some b) w w') := Any.Builder_String_any_k Tryz.lays169 Tryz.Builder_Extra_169 B b l w h hBw
def Tryz.lays283_ren : Go.Shelf.Ren := ⟨fun | 283 => 216 | n => n, fun | 3 => 3 | 9 => 9 | 4 => 4 | n => n, fun | n => n⟩
theorem Tryz.lays283 : Go.Proofs.Lays.n283 Tryz.prog Tryz.lays283_ren := {
  mixed := by kernel_rfl
  f283 := Tryz.func216.trans (congrArg some (by kernel_rfl))
  t3 := Tryz.underlying3
  a3 := Tryz.isAgg3
  z3 := Tryz.sizeOf3
  v3 := Tryz.zeroValue3
  t4 := Tryz.underlying4
  a4 := Tryz.isAgg4
  z4 := Tryz.sizeOf4
  v4 := Tryz.zeroValue4
  t9 := Tryz.underlying9
  a9 := Tryz.isAgg9
  z9 := Tryz.sizeOf9
  v9 := Tryz.zeroValue9 }
open Go.Lib in
theorem Tryz.internal_strconv_small (i : Nat) (h : i < 100) (w : World) :
    Calls Tryz.prog 216 #[.int .i64 i] w fun e w' => e = .returned (.string ⟨(Lib.decDigits i).toArray⟩) ∧ w' = w := Any.internal_strconv_small Tryz.lays283 i h w
def Tryz.laysM284_ren : Go.Shelf.Ren := ⟨fun | 284 => 217 | 129 => 176 | 317 => 237 | 318 => 238 | n => n, fun | 53 => 153 | 3 => 3 | 212 => 269 | 0 => 0 | 4 => 4 | 46 => 93 | 5 => 5 | 9 => 9 | n => n, fun | 17 => 3 | n => n⟩
theorem Tryz.laysM284 : Go.Proofs.LaysM.n284 Tryz.prog Tryz.laysM284_ren := {
  mixed := by kernel_rfl
  f129 := Tryz.func176.trans (congrArg some (by kernel_rfl))
  f284 := Tryz.func217.trans (congrArg some (by kernel_rfl))
  f317 := Tryz.func237.trans (congrArg some (by kernel_rfl))
  f318 := Tryz.func238.trans (congrArg some (by kernel_rfl))
  t0 := Tryz.underlying0
  a0 := Tryz.isAgg0
  z0 := Tryz.sizeOf0
  v0 := Tryz.zeroValue0
  t3 := Tryz.underlying3
  a3 := Tryz.isAgg3
  z3 := Tryz.sizeOf3
  v3 := Tryz.zeroValue3
  t4 := Tryz.underlying4
  a4 := Tryz.isAgg4
  z4 := Tryz.sizeOf4
  v4 := Tryz.zeroValue4
  t5 := Tryz.underlying5
  a5 := Tryz.isAgg5
  z5 := Tryz.sizeOf5
  v5 := Tryz.zeroValue5
  t9 := Tryz.underlying9
  a9 := Tryz.isAgg9
  z9 := Tryz.sizeOf9
  v9 := Tryz.zeroValue9
  t46 := Tryz.underlying93
  a46 := Tryz.isAgg93
  z46 := Tryz.sizeOf93
  v46 := Tryz.zeroValue93
  t53 := Tryz.underlying153
  a53 := Tryz.isAgg153
  z53 := Tryz.sizeOf153
  v53 := Tryz.zeroValue153
  t212 := Tryz.underlying269
  a212 := Tryz.isAgg269
  z212 := Tryz.sizeOf269
  v212 := Tryz.zeroValue269
  g17 := by kernel_rfl
  i0 := by kernel_rfl
  i3 := by kernel_rfl
  i4 := by kernel_rfl
  i5 := by kernel_rfl
  i9 := by kernel_rfl
  i46 := by kernel_rfl
  i53 := by kernel_rfl
  i212 := by kernel_rfl
  m17 := by kernel_rfl }
open Go.Lib in
theorem Tryz.internal_strconv_numDigits (u : Nat) (h1 : 1 ≤ u) (h2 : u < 18446744073709551616) (w : World) (htab : Lib.TabIs Tryz.prog w "internal/strconv.uint64pow10" .u64 Lib.pow10Tab) :
    Calls Tryz.prog 217 #[.int .u64 u] w fun e w' => e = .returned (.int .i64 (Lib.nDigits u)) ∧ w' = w := Any.internal_strconv_numDigits Tryz.laysM284 u h1 h2 w htab
def Tryz.lays285_ren : Go.Shelf.Ren := ⟨fun | 285 => 218 | n => n, fun | 37 => 196 | 53 => 153 | 3 => 3 | 4 => 4 | 51 => 151 | 9 => 9 | 5 => 5 | 0 => 0 | n => n, fun | n => n⟩
theorem Tryz.lays285 : Go.Proofs.Lays.n285 Tryz.prog Tryz.lays285_ren := {
  mixed := by kernel_rfl
  f285 := Tryz.func218.trans (congrArg some (by kernel_rfl))
  t0 := Tryz.underlying0
  a0 := Tryz.isAgg0
  z0 := Tryz.sizeOf0
  v0 := Tryz.zeroValue0
  t3 := Tryz.underlying3
  a3 := Tryz.isAgg3
  z3 := Tryz.sizeOf3
  v3 := Tryz.zeroValue3
  t4 := Tryz.underlying4
  a4 := Tryz.isAgg4
  z4 := Tryz.sizeOf4
  v4 := Tryz.zeroValue4
  t5 := Tryz.underlying5
  a5 := Tryz.isAgg5
  z5 := Tryz.sizeOf5
  v5 := Tryz.zeroValue5
  t9 := Tryz.underlying9
  a9 := Tryz.isAgg9
  z9 := Tryz.sizeOf9
  v9 := Tryz.zeroValue9
  t37 := Tryz.underlying196
  a37 := Tryz.isAgg196
  z37 := Tryz.sizeOf196
  v37 := Tryz.zeroValue196
  t51 := Tryz.underlying151
  a51 := Tryz.isAgg151
  z51 := Tryz.sizeOf151
  v51 := Tryz.zeroValue151
  t53 := Tryz.underlying153
  a53 := Tryz.isAgg153
  z53 := Tryz.sizeOf153
  v53 := Tryz.zeroValue153 }
open Go.RowKit Go.Sort Go.Lib in
theorem Tryz.internal_strconv_formatBase10 (blk off cap : Nat) (u : Nat) (d : Array UInt8) (w : World) (hH : Holds (fun (b : UInt8) => Value.int .u8 (b.toNat : Int)) w blk off d) (hu : u < 10 ^ d.size) (hu64 : u < 18446744073709551616) (hsz : d.size < 4611686018427387904) :
    Calls Tryz.prog 218 #[.slice (some ⟨blk, off, none⟩) d.size cap, .int .u64 u] w fun e w' =>
      e = .returned (.tuple #[]) ∧ ∃ (n v' : Nat) (dk : Array UInt8), w' = (putRow (fun (b : UInt8) => Value.int .u8 (b.toNat : Int)) w blk off dk).drewN n ∧ FmtInv d.size u 0 v' dk := Any.internal_strconv_formatBase10 Tryz.lays285 blk off cap u d w hH hu hu64 hsz
def Tryz.laysPu14_ren : Go.Shelf.Ren := ⟨fun | 14 => 187 | 16 => 213 | 17 => 214 | 19 => 230 | 20 => 231 | 21 => 232 | 22 => 233 | 23 => 234 | 24 => 235 | 25 => 243 | 27 => 245 | 26 => 244 | 28 => 246 | 29 => 247 | 30 => 216 | 31 => 217 | 32 => 218 | 33 => 219 | 35 => 176 | 34 => 237 | 36 => 238 | 37 => 239 | 38 => 119 | 39 => 132 | 40 => 133 | n => n, fun | 9 => 9 | 3 => 3 | 22 => 153 | 24 => 202 | 25 => 222 | 4 => 4 | 34 => 262 | 5 => 5 | 36 => 93 | 37 => 196 | 0 => 0 | 39 => 264 | 21 => 21 | 44 => 278 | 47 => 233 | 50 => 282 | 48 => 280 | 2 => 2 | 52 => 248 | 55 => 250 | 59 => 269 | 60 => 151 | 20 => 20 | 61 => 270 | 65 => 182 | 66 => 183 | 67 => 205 | n => n, fun | 0 => 6 | 1 => 7 | 2 => 3 | 3 => 0 | 4 => 1 | n => n⟩
theorem Tryz.laysPu14 : Go.Proofs.LaysPu.n14 Tryz.prog Tryz.laysPu14_ren := {
  mixed := by kernel_rfl
  f14 := Tryz.func187.trans (congrArg some (by kernel_rfl))
  f16 := Tryz.func213.trans (congrArg some (by kernel_rfl))
  f17 := Tryz.func214.trans (congrArg some (by kernel_rfl))
  f19 := Tryz.func230.trans (congrArg some (by kernel_rfl))
  f20 := Tryz.func231.trans (congrArg some (by kernel_rfl))
  f21 := Tryz.func232.trans (congrArg some (by kernel_rfl))
  f22 := Tryz.func233.trans (congrArg some (by kernel_rfl))
  f23 := Tryz.func234.trans (congrArg some (by kernel_rfl))
  f24 := Tryz.func235.trans (congrArg some (by kernel_rfl))
  f25 := Tryz.func243.trans (congrArg some (by kernel_rfl))
  f26 := Tryz.func244.trans (congrArg some (by kernel_rfl))
  f27 := Tryz.func245.trans (congrArg some (by kernel_rfl))
  f28 := Tryz.func246.trans (congrArg some (by kernel_rfl))
  f29 := Tryz.func247.trans (congrArg some (by kernel_rfl))
  f30 := Tryz.func216.trans (congrArg some (by kernel_rfl))
  f31 := Tryz.func217.trans (congrArg some (by kernel_rfl))
  f32 := Tryz.func218.trans (congrArg some (by kernel_rfl))
  f33 := Tryz.func219.trans (congrArg some (by kernel_rfl))
  f34 := Tryz.func237.trans (congrArg some (by kernel_rfl))
  f35 := Tryz.func176.trans (congrArg some (by kernel_rfl))
  f36 := Tryz.func238.trans (congrArg some (by kernel_rfl))
  f37 := Tryz.func239.trans (congrArg some (by kernel_rfl))
  f38 := Tryz.func119.trans (congrArg some (by kernel_rfl))
  f39 := Tryz.func132.trans (congrArg some (by kernel_rfl))
  f40 := Tryz.func133.trans (congrArg some (by kernel_rfl))
  t0 := Tryz.underlying0
  a0 := Tryz.isAgg0
  z0 := Tryz.sizeOf0
  v0 := Tryz.zeroValue0
  i0 := by kernel_rfl
  t2 := Tryz.underlying2
  a2 := Tryz.isAgg2
  z2 := Tryz.sizeOf2
  v2 := Tryz.zeroValue2
  i2 := by kernel_rfl
  t3 := Tryz.underlying3
  a3 := Tryz.isAgg3
  z3 := Tryz.sizeOf3
  v3 := Tryz.zeroValue3
  i3 := by kernel_rfl
  t4 := Tryz.underlying4
  a4 := Tryz.isAgg4
  z4 := Tryz.sizeOf4
  v4 := Tryz.zeroValue4
  i4 := by kernel_rfl
  t5 := Tryz.underlying5
  a5 := Tryz.isAgg5
  z5 := Tryz.sizeOf5
  v5 := Tryz.zeroValue5
  i5 := by kernel_rfl
  t9 := Tryz.underlying9
  a9 := Tryz.isAgg9
  z9 := Tryz.sizeOf9
  v9 := Tryz.zeroValue9
  i9 := by kernel_rfl
  t20 := Tryz.underlying20
  a20 := Tryz.isAgg20
  z20 := Tryz.sizeOf20
  v20 := Tryz.zeroValue20
  i20 := by kernel_rfl
  t21 := Tryz.underlying21
  a21 := Tryz.isAgg21
  z21 := Tryz.sizeOf21
  v21 := Tryz.zeroValue21
  i21 := by kernel_rfl
  t22 := Tryz.underlying153
  a22 := Tryz.isAgg153
  z22 := Tryz.sizeOf153
  v22 := Tryz.zeroValue153
  i22 := by kernel_rfl
  t24 := Tryz.underlying202
  a24 := Tryz.isAgg202
  z24 := Tryz.sizeOf202
  v24 := Tryz.zeroValue202
  i24 := by kernel_rfl
  t25 := Tryz.underlying222
  a25 := Tryz.isAgg222
  z25 := Tryz.sizeOf222
  v25 := Tryz.zeroValue222
  i25 := by kernel_rfl
  t34 := Tryz.underlying262
  a34 := Tryz.isAgg262
  z34 := Tryz.sizeOf262
  v34 := Tryz.zeroValue262
  i34 := by kernel_rfl
  c34 := by kernel_rfl
  t36 := Tryz.underlying93
  a36 := Tryz.isAgg93
  z36 := Tryz.sizeOf93
  v36 := Tryz.zeroValue93
  i36 := by kernel_rfl
  t37 := Tryz.underlying196
  a37 := Tryz.isAgg196
  z37 := Tryz.sizeOf196
  v37 := Tryz.zeroValue196
  i37 := by kernel_rfl
  t39 := Tryz.underlying264
  a39 := Tryz.isAgg264
  z39 := Tryz.sizeOf264
  v39 := Tryz.zeroValue264
  i39 := by kernel_rfl
  t44 := Tryz.underlying278
  a44 := Tryz.isAgg278
  z44 := Tryz.sizeOf278
  v44 := Tryz.zeroValue278
  i44 := by kernel_rfl
  t47 := Tryz.underlying233
  a47 := Tryz.isAgg233
  z47 := Tryz.sizeOf233
  v47 := Tryz.zeroValue233
  i47 := by kernel_rfl
  t48 := Tryz.underlying280
  a48 := Tryz.isAgg280
  z48 := Tryz.sizeOf280
  v48 := Tryz.zeroValue280
  i48 := by kernel_rfl
  t50 := Tryz.underlying282
  a50 := Tryz.isAgg282
  z50 := Tryz.sizeOf282
  v50 := Tryz.zeroValue282
  i50 := by kernel_rfl
  t52 := Tryz.underlying248
  a52 := Tryz.isAgg248
  z52 := Tryz.sizeOf248
  v52 := Tryz.zeroValue248
  i52 := by kernel_rfl
  t55 := Tryz.underlying250
  a55 := Tryz.isAgg250
  z55 := Tryz.sizeOf250
  v55 := Tryz.zeroValue250
  i55 := by kernel_rfl
  t59 := Tryz.underlying269
  a59 := Tryz.isAgg269
  z59 := Tryz.sizeOf269
  v59 := Tryz.zeroValue269
  i59 := by kernel_rfl
  t60 := Tryz.underlying151
  a60 := Tryz.isAgg151
  z60 := Tryz.sizeOf151
  v60 := Tryz.zeroValue151
  i60 := by kernel_rfl
  t61 := Tryz.underlying270
  a61 := Tryz.isAgg270
  z61 := Tryz.sizeOf270
  t65 := Tryz.underlying182
  a65 := Tryz.isAgg182
  z65 := Tryz.sizeOf182
  v65 := Tryz.zeroValue182
  i65 := by kernel_rfl
  t66 := Tryz.underlying183
  a66 := Tryz.isAgg183
  z66 := Tryz.sizeOf183
  v66 := Tryz.zeroValue183
  i66 := by kernel_rfl
  t67 := Tryz.underlying205
  a67 := Tryz.isAgg205
  z67 := Tryz.sizeOf205
  v67 := Tryz.zeroValue205
  i67 := by kernel_rfl
  g0 := by kernel_rfl
  m0 := by kernel_rfl
  g1 := by kernel_rfl
  m1 := by kernel_rfl
  g2 := by kernel_rfl
  m2 := by kernel_rfl
  g3 := by kernel_rfl
  m3 := by kernel_rfl
  g4 := by kernel_rfl
  m4 := by kernel_rfl }
open Go.RowKit in
theorem Tryz.strconv_ParseUint_10_at64_ok (s : ByteArray) (hmax : s.size ≤ 9223372036854775806) (u : Nat) (h : Lib.parseUintB 64 s.data.toList = .ok u) (w : World) :
    Calls Tryz.prog 187 #[.string s, .int .i64 10, .int .i64 64] w fun e w' => e = .returned (.tuple #[.int .u64 u, .nilIface]) ∧ (w' = w ∨ w' = Lib.bytesWorld w 5 s) := Any.strconv_ParseUint_10_at64_ok Tryz.laysPu14 s hmax u h w
def Tryz.lays145_ren : Go.Shelf.Ren := ⟨fun | 145 => 134 | 220 => 151 | 219 => 177 | 217 => 204 | 225 => 205 | 224 => 206 | 267 => 207 | 266 => 225 | 314 => 226 | n => n, fun | 9 => 9 | 4 => 4 | 59 => 172 | 3 => 3 | 5 => 5 | 46 => 93 | 146 => 252 | 51 => 151 | n => n, fun | 1 => 2 | n => n⟩
theorem Tryz.lays145 : Go.Proofs.Lays.n145 Tryz.prog Tryz.lays145_ren := {
  mixed := by kernel_rfl
  f145 := Tryz.func134.trans (congrArg some (by kernel_rfl))
  f217 := Tryz.func204.trans (congrArg some (by kernel_rfl))
  f219 := Tryz.func177.trans (congrArg some (by kernel_rfl))
  f220 := Tryz.func151.trans (congrArg some (by kernel_rfl))
  f224 := Tryz.func206.trans (congrArg some (by kernel_rfl))
  f225 := Tryz.func205.trans (congrArg some (by kernel_rfl))
  f266 := Tryz.func225.trans (congrArg some (by kernel_rfl))
  f267 := Tryz.func207.trans (congrArg some (by kernel_rfl))
  f314 := Tryz.func226.trans (congrArg some (by kernel_rfl))
  t3 := Tryz.underlying3
  a3 := Tryz.isAgg3
  z3 := Tryz.sizeOf3
  v3 := Tryz.zeroValue3
  t4 := Tryz.underlying4
  a4 := Tryz.isAgg4
  z4 := Tryz.sizeOf4
  v4 := Tryz.zeroValue4
  t5 := Tryz.underlying5
  a5 := Tryz.isAgg5
  z5 := Tryz.sizeOf5
  v5 := Tryz.zeroValue5
  t9 := Tryz.underlying9
  a9 := Tryz.isAgg9
  z9 := Tryz.sizeOf9
  v9 := Tryz.zeroValue9
  t46 := Tryz.underlying93
  a46 := Tryz.isAgg93
  z46 := Tryz.sizeOf93
  v46 := Tryz.zeroValue93
  t51 := Tryz.underlying151
  a51 := Tryz.isAgg151
  z51 := Tryz.sizeOf151
  v51 := Tryz.zeroValue151
  t59 := Tryz.underlying172
  a59 := Tryz.isAgg172
  z59 := Tryz.sizeOf172
  v59 := Tryz.zeroValue172
  t146 := Tryz.underlying252
  a146 := Tryz.isAgg252
  z146 := Tryz.sizeOf252
  v146 := Tryz.zeroValue252
  g1 := by kernel_rfl }
open Go.RowKit Go.Lib in
theorem Tryz.strings_Cut (s sep : ByteArray) (m : Int) (w : World) (hs : s.size < 4294967281) (hm : w.cell? ⟨2, 0, none⟩ = some (.int .i64 m)) :
    Calls Tryz.prog 134 #[.string s, .string sep] w fun e w' => e = .returned (.tuple #[.string ⟨(Lib.cut s.data.toList sep.data.toList).1.toArray⟩, .string ⟨(Lib.cut s.data.toList sep.data.toList).2.1.toArray⟩, .bool (Lib.cut s.data.toList sep.data.toList).2.2]) ∧ ∃ n, w' = w.drewN n := Any.strings_Cut Tryz.lays145 s sep m w hs hm
def Tryz.lays101_ren : Go.Shelf.Ren := ⟨fun | 101 => 154 | 208 => 186 | 206 => 208 | n => n, fun | 9 => 9 | 4 => 4 | 3 => 3 | n => n, fun | n => n⟩
theorem Tryz.lays101 : Go.Proofs.Lays.n101 Tryz.prog Tryz.lays101_ren := {
  mixed := by kernel_rfl
  f101 := Tryz.func154.trans (congrArg some (by kernel_rfl))
  f206 := Tryz.func208.trans (congrArg some (by kernel_rfl))
  f208 := Tryz.func186.trans (congrArg some (by kernel_rfl))
  t3 := Tryz.underlying3
  a3 := Tryz.isAgg3
  z3 := Tryz.sizeOf3
  v3 := Tryz.zeroValue3
  t4 := Tryz.underlying4
  a4 := Tryz.isAgg4
  z4 := Tryz.sizeOf4
  v4 := Tryz.zeroValue4
  t9 := Tryz.underlying9
  a9 := Tryz.isAgg9
  z9 := Tryz.sizeOf9
  v9 := Tryz.zeroValue9 }
open Go.RowKit Go.Lib in
theorem Tryz.strings_TrimPrefix (s p : ByteArray) (w : World) :
    Calls Tryz.prog 154 #[.string s, .string p] w fun e w' => e = .returned (.string ⟨(Lib.trimPrefix s.data.toList p.data.toList).toArray⟩) ∧ w' = w := Any.strings_TrimPrefix Tryz.lays101 s p w
def Tryz.lays105_ren : Go.Shelf.Ren := ⟨fun | 105 => 164 | 212 => 194 | 99 => 195 | 165 => 196 | 166 => 165 | 170 => 197 | 169 => 166 | 263 => 220 | 264 => 221 | 206 => 208 | 240 => 198 | 241 => 222 | 276 => 223 | 277 => 240 | n => n, fun | 9 => 9 | 3 => 3 | 4 => 4 | 20 => 20 | 0 => 0 | 46 => 93 | 109 => 228 | 5 => 5 | 72 => 198 | 76 => 203 | 51 => 151 | 146 => 252 | 53 => 153 | 148 => 254 | 70 => 195 | 37 => 196 | 75 => 202 | 127 => 233 | 164 => 256 | 80 => 205 | n => n, fun | n => n⟩
theorem Tryz.lays105 : Go.Proofs.Lays.n105 Tryz.prog Tryz.lays105_ren := {
  mixed := by kernel_rfl
  f99 := Tryz.func195.trans (congrArg some (by kernel_rfl))
  f105 := Tryz.func164.trans (congrArg some (by kernel_rfl))
  f165 := Tryz.func196.trans (congrArg some (by kernel_rfl))
  f166 := Tryz.func165.trans (congrArg some (by kernel_rfl))
  f169 := Tryz.func166.trans (congrArg some (by kernel_rfl))
  f170 := Tryz.func197.trans (congrArg some (by kernel_rfl))
  f206 := Tryz.func208.trans (congrArg some (by kernel_rfl))
  f212 := Tryz.func194.trans (congrArg some (by kernel_rfl))
  f240 := Tryz.func198.trans (congrArg some (by kernel_rfl))
  f241 := Tryz.func222.trans (congrArg some (by kernel_rfl))
  f263 := Tryz.func220.trans (congrArg some (by kernel_rfl))
  f264 := Tryz.func221.trans (congrArg some (by kernel_rfl))
  f276 := Tryz.func223.trans (congrArg some (by kernel_rfl))
  f277 := Tryz.func240.trans (congrArg some (by kernel_rfl))
  t0 := Tryz.underlying0
  a0 := Tryz.isAgg0
  z0 := Tryz.sizeOf0
  v0 := Tryz.zeroValue0
  t3 := Tryz.underlying3
  a3 := Tryz.isAgg3
  z3 := Tryz.sizeOf3
  v3 := Tryz.zeroValue3
  t4 := Tryz.underlying4
  a4 := Tryz.isAgg4
  z4 := Tryz.sizeOf4
  v4 := Tryz.zeroValue4
  t5 := Tryz.underlying5
  a5 := Tryz.isAgg5
  z5 := Tryz.sizeOf5
  v5 := Tryz.zeroValue5
  t9 := Tryz.underlying9
  a9 := Tryz.isAgg9
  z9 := Tryz.sizeOf9
  v9 := Tryz.zeroValue9
  t20 := Tryz.underlying20
  a20 := Tryz.isAgg20
  z20 := Tryz.sizeOf20
  v20 := Tryz.zeroValue20
  t37 := Tryz.underlying196
  a37 := Tryz.isAgg196
  z37 := Tryz.sizeOf196
  v37 := Tryz.zeroValue196
  t46 := Tryz.underlying93
  a46 := Tryz.isAgg93
  z46 := Tryz.sizeOf93
  v46 := Tryz.zeroValue93
  t51 := Tryz.underlying151
  a51 := Tryz.isAgg151
  z51 := Tryz.sizeOf151
  v51 := Tryz.zeroValue151
  t53 := Tryz.underlying153
  a53 := Tryz.isAgg153
  z53 := Tryz.sizeOf153
  v53 := Tryz.zeroValue153
  t70 := Tryz.underlying195
  a70 := Tryz.isAgg195
  z70 := Tryz.sizeOf195
  v70 := Tryz.zeroValue195
  t72 := Tryz.underlying198
  a72 := Tryz.isAgg198
  z72 := Tryz.sizeOf198
  v72 := Tryz.zeroValue198
  t75 := Tryz.underlying202
  a75 := Tryz.isAgg202
  z75 := Tryz.sizeOf202
  v75 := Tryz.zeroValue202
  t76 := Tryz.underlying203
  a76 := Tryz.isAgg203
  z76 := Tryz.sizeOf203
  v76 := Tryz.zeroValue203
  t109 := Tryz.underlying228
  a109 := Tryz.isAgg228
  z109 := Tryz.sizeOf228
  v109 := Tryz.zeroValue228
  t127 := Tryz.underlying233
  a127 := Tryz.isAgg233
  z127 := Tryz.sizeOf233
  v127 := Tryz.zeroValue233
  t146 := Tryz.underlying252
  a146 := Tryz.isAgg252
  z146 := Tryz.sizeOf252
  v146 := Tryz.zeroValue252
  t148 := Tryz.underlying254
  a148 := Tryz.isAgg254
  z148 := Tryz.sizeOf254
  v148 := Tryz.zeroValue254
  t164 := Tryz.underlying256
  a164 := Tryz.isAgg256
  z164 := Tryz.sizeOf256
  v164 := Tryz.zeroValue256 }
theorem Tryz.Builder_Extra_105 : Builder.Extra Tryz.prog Tryz.lays105_ren := {
  sizeBuilder := by kernel_rfl
  liesBuilder := by kernel_rfl
  t5 := Tryz.underlying5
  a5 := Tryz.isAgg5
  z5 := Tryz.sizeOf5
  v5 := Tryz.zeroValue5
  infoByte := by kernel_rfl
  cellsByte := by kernel_rfl
  sizeByte := by kernel_rfl
  neB5 := by decide }
open Go.RowKit Go.Lib in
theorem Tryz.strings_Repeat (s : ByteArray) (c : Nat) (w : World) (hc : c ≤ 9223372036854775807) (hlen : s.size * c ≤ 140737488355328) :
    Calls Tryz.prog 164 #[.string s, .int .i64 c] w fun e w' => e = .returned (.string ⟨(Lib.repeatL s.data.toList c).toArray⟩) ∧ Below w.heap.size w w' := Any.strings_Repeat Tryz.lays105 Tryz.Builder_Extra_105 s c w hc hlen
def Tryz.laysSlF6_f128_ren : Go.Shelf.Ren := ⟨fun | 6 => 128 | 15 => 150 | 14 => 149 | 28 => 175 | 29 => 176 | 20 => 167 | 21 => 168 | 22 => 169 | 23 => 170 | 24 => 171 | 25 => 172 | 26 => 173 | 27 => 174 | 46 => 199 | 47 => 200 | 48 => 201 | 49 => 202 | 50 => 203 | 57 => 224 | n => n, fun | 22 => 56 | 24 => 25 | 25 => 143 | 3 => 3 | 39 => 93 | 0 => 0 | 53 => 151 | 55 => 153 | 4 => 4 | 46 => 208 | 45 => 207 | 50 => 212 | 5 => 5 | 9 => 9 | 66 => 234 | 70 => 238 | 76 => 258 | 77 => 86 | n => n, fun | n => n⟩
theorem Tryz.laysSlF6_f128 : Go.Proofs.SlLaysF.n6 Tryz.prog Tryz.laysSlF6_f128_ren := {
  mixed := by kernel_rfl
  f6 := ⟨Tryz.f128.name, by decide, Tryz.func128.trans (congrArg some (by kernel_rfl))⟩
  f14 := ⟨Tryz.f149.name, by decide, Tryz.func149.trans (congrArg some (by kernel_rfl))⟩
  f15 := Tryz.func150.trans (congrArg some (by kernel_rfl))
  f20 := ⟨Tryz.f167.name, by decide, Tryz.func167.trans (congrArg some (by kernel_rfl))⟩
  f21 := ⟨Tryz.f168.name, by decide, Tryz.func168.trans (congrArg some (by kernel_rfl))⟩
  f22 := ⟨Tryz.f169.name, by decide, Tryz.func169.trans (congrArg some (by kernel_rfl))⟩
  f23 := ⟨Tryz.f170.name, by decide, Tryz.func170.trans (congrArg some (by kernel_rfl))⟩
  f24 := ⟨Tryz.f171.name, by decide, Tryz.func171.trans (congrArg some (by kernel_rfl))⟩
  f25 := ⟨Tryz.f172.name, by decide, Tryz.func172.trans (congrArg some (by kernel_rfl))⟩
  f26 := ⟨Tryz.f173.name, by decide, Tryz.func173.trans (congrArg some (by kernel_rfl))⟩
  f27 := ⟨Tryz.f174.name, by decide, Tryz.func174.trans (congrArg some (by kernel_rfl))⟩
  f28 := Tryz.func175.trans (congrArg some (by kernel_rfl))
  f29 := Tryz.func176.trans (congrArg some (by kernel_rfl))
  f46 := ⟨Tryz.f199.name, by decide, Tryz.func199.trans (congrArg some (by kernel_rfl))⟩
  f47 := Tryz.func200.trans (congrArg some (by kernel_rfl))
  f48 := Tryz.func201.trans (congrArg some (by kernel_rfl))
  f49 := ⟨Tryz.f202.name, by decide, Tryz.func202.trans (congrArg some (by kernel_rfl))⟩
  f50 := ⟨Tryz.f203.name, by decide, Tryz.func203.trans (congrArg some (by kernel_rfl))⟩
  f57 := ⟨Tryz.f224.name, by decide, Tryz.func224.trans (congrArg some (by kernel_rfl))⟩
  t0 := Tryz.underlying0
  a0 := Tryz.isAgg0
  z0 := Tryz.sizeOf0
  v0 := Tryz.zeroValue0
  t3 := Tryz.underlying3
  a3 := Tryz.isAgg3
  z3 := Tryz.sizeOf3
  v3 := Tryz.zeroValue3
  t4 := Tryz.underlying4
  a4 := Tryz.isAgg4
  z4 := Tryz.sizeOf4
  v4 := Tryz.zeroValue4
  t5 := Tryz.underlying5
  a5 := Tryz.isAgg5
  z5 := Tryz.sizeOf5
  v5 := Tryz.zeroValue5
  t9 := Tryz.underlying9
  a9 := Tryz.isAgg9
  z9 := Tryz.sizeOf9
  v9 := Tryz.zeroValue9
  t22 := Tryz.underlying56
  a22 := Tryz.isAgg56
  z22 := Tryz.sizeOf56
  v22 := Tryz.zeroValue56
  a24 := Tryz.isAgg25
  z24 := Tryz.sizeOf25
  t25 := Tryz.underlying143
  a25 := Tryz.isAgg143
  z25 := Tryz.sizeOf143
  v25 := Tryz.zeroValue143
  t39 := Tryz.underlying93
  a39 := Tryz.isAgg93
  z39 := Tryz.sizeOf93
  v39 := Tryz.zeroValue93
  t45 := Tryz.underlying207
  a45 := Tryz.isAgg207
  z45 := Tryz.sizeOf207
  v45 := Tryz.zeroValue207
  t46 := Tryz.underlying208
  a46 := Tryz.isAgg208
  z46 := Tryz.sizeOf208
  v46 := Tryz.zeroValue208
  t50 := Tryz.underlying212
  a50 := Tryz.isAgg212
  z50 := Tryz.sizeOf212
  v50 := Tryz.zeroValue212
  t53 := Tryz.underlying151
  a53 := Tryz.isAgg151
  z53 := Tryz.sizeOf151
  v53 := Tryz.zeroValue151
  t55 := Tryz.underlying153
  a55 := Tryz.isAgg153
  z55 := Tryz.sizeOf153
  v55 := Tryz.zeroValue153
  t66 := Tryz.underlying234
  a66 := Tryz.isAgg234
  z66 := Tryz.sizeOf234
  v66 := Tryz.zeroValue234
  t70 := Tryz.underlying238
  a70 := Tryz.isAgg238
  z70 := Tryz.sizeOf238
  v70 := Tryz.zeroValue238
  t76 := Tryz.underlying258
  a76 := Tryz.isAgg258
  z76 := Tryz.sizeOf258
  v76 := Tryz.zeroValue258
  t77 := Tryz.underlying86
  a77 := Tryz.isAgg86
  z77 := Tryz.sizeOf86
  v77 := Tryz.zeroValue86 }
open Go.RowKit Go.Lib Go.Sort in
theorem Tryz.slices_SortFunc {α : Type} [Inhabited α] (enc : α → Value) (h1 : OneCell enc) (cf : α → α → Int) (hO : SWO (ltOf cf)) (g : Nat) (cb : Array Value) (blk off cap : Nat) (d : Array α) (w : World) (eg : ∀ args w, (callFunc g args).run Tryz.prog w = .ok (.enter g args) w) (hcmp : CmpLays1 Tryz.prog g cb enc cf blk off d.size w) (hH : Holds enc w blk off d) (hblk : blk < w.heap.size) (hsz : d.size < 4611686018427387904) :
    Calls Tryz.prog 128 #[.slice (some ⟨blk, off, none⟩) d.size cap, .func (.func g) #[] cb] w fun e w' =>
      e = .returned (.tuple #[]) ∧ ∃ d' n os, PermIn 0 d.size d d' ∧ SortedIn (ltOf cf) 0 d.size d' ∧ w' = sortWorld enc w blk off n d' os := Any.slices_SortFunc Tryz.laysSlF6_f128 enc h1 cf hO g cb blk off cap d w eg hcmp hH hblk hsz
end Go.Proofs
namespace Go.Proofs.YtlhpfhnbeagnaaaGreatDoor
open Go.RowKit Go.Sort
def LstW (w : World) (blk : Nat) (v : Value) (l : List Int) : Prop := ∃ a cap, v = .slice a l.length cap ∧ l.length ≤ cap ∧ cap ≤ maxLen ∧ ∀ i, i < l.length → ∃ b off, a = some ⟨b, off, none⟩ ∧ b ≠ blk ∧ w.cell? ⟨b, off + i, none⟩ = some (.int .i64 (l.getD i 0))
theorem LstW.nil (w : World) (blk : Nat) : LstW w blk (.slice none 0 0) [] := ⟨none, 0, rfl, Nat.le_refl _, by unfold maxLen; omega, fun i hi => by simp at hi⟩
theorem LstW.slice {w : World} {blk : Nat} {v : Value} {l : List Int} (h : LstW w blk v l) : SliceI w v l := by
  obtain ⟨a, c, h1, h2, h3, h4⟩ := h
  refine ⟨a, c, h1, fun i hi => ?_, h2, h3⟩
  obtain ⟨b, off, e1, _, e3⟩ := h4 i hi
  exact ⟨b, off, e1, e3⟩
theorem LstW.one {w : World} {blk : Nat} {v : Value} {l : List Int} (h : LstW w blk v l) : v.oneCell' = true := by
  obtain ⟨a, c, h1, _⟩ := h
  rw [h1]; rfl
abbrev Elt (w : World) (blk : Nat) : Type := {x : Value × List Int // LstW w blk x.1 x.2}
instance eltI (w : World) (blk : Nat) : Inhabited (Elt w blk) := ⟨⟨(.slice none 0 0, []), LstW.nil w blk⟩⟩
def encE {w : World} {blk : Nat} (x : Elt w blk) : Value := x.1.1
def lstE {w : World} {blk : Nat} (x : Elt w blk) : List Int := x.1.2
theorem sortW_cell {α : Type} [Inhabited α] {enc : α → Value} {w : World} {blk off m : Nat} {dk : Array α} {os : Array Obj} {p : Addr} {u : Value} (hp : p.block ≠ blk) (hc : w.cell? p = some u) : (sortWorld enc w blk off m dk os).cell? p = some u := by
  unfold sortWorld
  rw [cell?_grow _ _ _ (by rw [size_putRow]; exact cell_lt hc), cell?_putRow_other _ _ _ _ _ _ (.inl hp)]
  exact hc
theorem LstW.sorted {α : Type} [Inhabited α] {enc : α → Value} {w : World} {blk off m : Nat} {dk : Array α} {os : Array Obj} {v : Value} {l : List Int} (h : LstW w blk v l) : SliceI (sortWorld enc w blk off m dk os) v l := by
  obtain ⟨a, c, h1, h2, h3, h4⟩ := h
  refine ⟨a, c, h1, fun i hi => ?_, h2, h3⟩
  obtain ⟨b, o, e1, e2, e3⟩ := h4 i hi
  exact ⟨b, o, e1, sortW_cell (p := ⟨b, o + i, none⟩) e2 e3⟩
theorem sortW_below {α : Type} [Inhabited α] {enc : α → Value} {w : World} {blk off m n : Nat} {dk : Array α} {os : Array Obj} (hn : n ≤ blk) (hs : blk < w.heap.size) : Below n w (sortWorld enc w blk off m dk os) := by
  refine ⟨rfl, rfl, rfl, ?_, fun k hk => ?_⟩
  · unfold sortWorld
    rw [size_grow, size_putRow]
    exact Nat.le_add_right _ _
  · unfold sortWorld
    rw [heap_grow_old _ _ (by rw [size_putRow]; show k < w.heap.size; omega)]
    show (w.heap.modify blk _)[k]? = _
    rw [Array.getElem?_modify, if_neg (by omega)]
theorem cmp_lays {w : World} {blk pb g size : Nat} (hb : ByAt w pb g) (h1 : pb ≠ blk) (h2 : g ≠ blk) :
    CmpLays1 Tryz.prog 129 #[.pointer (some ⟨pb, 0, none⟩)] (encE (w := w) (blk := blk)) (cfL (lstE (w := w) (blk := blk))) blk 0 size w := by
  intro m os dk hs x y
  obtain ⟨⟨vx, lx⟩, hx⟩ := x
  obtain ⟨⟨vy, ly⟩, hy⟩ := y
  obtain ⟨ax, cx, e1, c1, c2, c3⟩ := hx.sorted (enc := encE (w := w) (blk := blk)) (off := 0) (m := m) (dk := dk) (os := os)
  obtain ⟨ay, cy, e2, d1, d2, d3⟩ := hy.sorted (enc := encE (w := w) (blk := blk)) (off := 0) (m := m) (dk := dk) (os := os)
  dsimp only at e1 e2 c1 c2 d1 d2
  subst e1 e2
  have hB : ByAt (sortWorld (encE (w := w) (blk := blk)) w blk 0 m dk os) pb g := ⟨sortW_cell (p := ⟨pb, 0, none⟩) h1 hb.c, sortW_cell (p := ⟨g, 0, none⟩) h2 hb.f0, sortW_cell (p := ⟨g, 1, none⟩) h2 hb.f1⟩
  refine (sorted1_any lx ly ax ay cx cy pb g _ (by omega) c1 (by omega) d1 hB).mono fun e w' ⟨h3, h4⟩ => ?_
  exact ⟨h3, grow_of h4⟩
theorem sortL_any {w : World} {g cap pb gb : Nat} {vs : List (Value × List Int)} (hg : g < w.heap.size) (hl : vs.length ≤ 100000)
    (hc : ∀ i (h : i < vs.length), w.cell? ⟨g, i, none⟩ = some vs[i].1 ∧ w.frozen? ⟨g, i, none⟩ = false) (he : ∀ p ∈ vs, LstW w g p.1 p.2) (hb : ByAt w pb gb) (h1 : pb ≠ g) (h2 : gb ≠ g) :
    Calls Tryz.prog 128 #[.slice (some ⟨g, 0, none⟩) vs.length cap, .func (.func 129) #[] #[.pointer (some ⟨pb, 0, none⟩)]] w fun e w' => e = .returned (.tuple #[]) ∧ ∃ ls : List (List Int), ls.Perm (vs.map Prod.snd) ∧ SortL ls ∧ CellsII w' (some ⟨g, 0, none⟩) ls ∧ ∀ n, n ≤ g → Below n w w' := by
  obtain ⟨d, hd, hdl⟩ : ∃ d : Array (Elt w g), d.size = vs.length ∧ ∀ i (h : i < vs.length), (d[i]!).1 = vs[i] := by
    refine ⟨(vs.attach.map fun p => (⟨p.1, he p.1 p.2⟩ : Elt w g)).toArray, by simp, fun i h => ?_⟩
    rw [getElem!_pos _ i (by simpa using h)]
    simp
  have hH : Holds (encE (w := w) (blk := g)) w g 0 d := fun j hj => by
    rw [hd] at hj
    have := hc j hj
    rw [Nat.zero_add]
    unfold encE
    rw [hdl j hj]
    exact this
  have hcon := Tryz.slices_SortFunc (encE (w := w) (blk := g)) (fun x => x.2.one) (cfL (lstE (w := w) (blk := g))) (cfL_swo _) 129 #[.pointer (some ⟨pb, 0, none⟩)] g 0 cap d w
    (enters_of Tryz.func129 (by kernel_rfl) rfl) (cmp_lays hb h1 h2) hH hg (by omega)
  rw [hd] at hcon
  refine hcon.mono fun e w' ⟨h3, d', n, os, hp, hs, hw⟩ => ⟨h3, ?_⟩
  rw [← hd] at hp hs
  obtain ⟨k1, k2⟩ := sorted_list (lstE (w := w) (blk := g)) hp hs
  have hsz : d'.size = d.size := hp.1
  have hsame : d.toList.map (lstE (w := w) (blk := g)) = vs.map Prod.snd := by
    refine List.ext_getElem (by simp [hd]) fun i i1 i2 => ?_
    simp only [List.getElem_map, Array.getElem_toList]
    have hi : i < vs.length := by simpa using i2
    have := hdl i hi
    rw [getElem!_pos d i (by omega)] at this
    unfold lstE
    rw [this]
  rw [hsame] at k1
  refine ⟨_, k1, k2, fun i hi => ?_, fun n2 hn => ?_⟩
  · rw [List.length_map, Array.length_toList] at hi
    have hh := SW.holds (enc := encE (w := w) (blk := g)) (w0 := w) (W := w') ⟨n, os, hw⟩ hg hH hsz i hi
    rw [Nat.zero_add] at hh
    refine ⟨g, 0, _, rfl, by rw [Nat.zero_add]; exact hh.1, ?_⟩
    have e : (d'.toList.map (lstE (w := w) (blk := g))).getD i [] = lstE d'[i]! := by
      rw [List.getD_eq_getElem?_getD, List.getElem?_map, Array.getElem?_toList, getElem!_pos d' i hi, Array.getElem?_eq_getElem hi]
      rfl
    rw [e, hw]
    exact (d'[i]!).2.sorted
  · rw [hw]
    exact sortW_below hn hg
end Go.Proofs.YtlhpfhnbeagnaaaGreatDoor
namespace Go.Proofs.YtlhpfhnbeagnaaaGreatDoor
open Go.RowKit
structure RowsL (B : Nat) (w : World) (v : Value) (vs : List (Value × List Int)) : Prop where
  own : w.ownsRow 0 25 1 v vs.length (vs.map Prod.fst)
  ge : ∀ b, v.ownBlock = some b → B ≤ b
  el : ∀ p ∈ vs, OwnsI w p.1 p.2 ∧ ∀ b, p.1.ownBlock = some b → v.ownBlock ≠ some b
theorem RowsL.nil (B : Nat) (w : World) : RowsL B w (.slice none 0 0) [] := ⟨World.ownsRow_nil w 0 _ _, (fun b hb => by cases hb), fun p hp => by cases hp⟩
theorem RowsL.ext {B : Nat} {A C : World} {v : Value} {vs : List (Value × List Int)} (h : RowsL B A v vs) (e : Ext A C) : RowsL B C v vs := ⟨rowExt h.own e, h.ge, fun p hp => ⟨(h.el p hp).1.ext e, (h.el p hp).2⟩⟩
theorem ownsI_one {w : World} {v : Value} {l : List Int} (h : OwnsI w v l) : v.oneCell' = true := by
  obtain ⟨a, c, h1, _⟩ := h.reads
  rw [h1]; rfl
theorem RowsL.app {B : Nat} {w : World} {v : Value} {vs : List (Value × List Int)} (h : RowsL B w v vs) {m : Value} {l : List Int} (hm : OwnsI w m l) (hmv : ∀ b, m.ownBlock = some b → v.ownBlock ≠ some b) {g : Nat} (hc : w.cell? ⟨g, 0, none⟩ = some m) (hl : vs.length ≤ 100000) (hB : B ≤ w.heap.size) :
    ∃ v' w', (Builtin.append_ #[56, 56] 56 #[v, .slice (some ⟨g, 0, none⟩) 1 1]).run Tryz.prog w = .ok v' w' ∧ RowsL B w' v' (vs ++ [(m, l)]) ∧ Below B w w' := by
  obtain ⟨v', w', hr, h2, h3⟩ := row_app (P := Tryz.prog) Tryz.underlying56 infoL rfl (by decide) h.own (x := m) (ownsI_one hm) 1 hc hl hB h.ge
  have key : ∀ p : Value × List Int, OwnsI w p.1 p.2 → (∀ b, p.1.ownBlock = some b → v.ownBlock ≠ some b) → OwnsI w' p.1 p.2 ∧ ∀ b, p.1.ownBlock = some b → v'.ownBlock ≠ some b := fun p hp hn =>
    ⟨rowSame hp fun b hb => h3.kept b (hp.lt hb) (hn b hb), fun b hb e => by
      rcases h3.own b e with e2 | e2
      · exact hn b hb e2
      · have := hp.lt hb; omega⟩
  refine ⟨v', w', hr, ⟨?_, h3.ge, fun p hp => ?_⟩, h3.below⟩
  · rw [List.length_append, List.map_append]
    exact h2
  · rcases List.mem_append.1 hp with hp | hp
    · exact key p (h.el p hp).1 (h.el p hp).2
    · rw [List.mem_singleton] at hp
      subst hp
      exact key (m, l) hm hmv
theorem RowsL.reads {B : Nat} {w : World} {v : Value} {vs : List (Value × List Int)} (h : RowsL B w v vs) (hne : vs ≠ []) :
    ∃ g cap, v = .slice (some ⟨g, 0, none⟩) vs.length cap ∧ vs.length ≤ cap ∧ cap ≤ maxLen ∧ B ≤ g ∧ g < w.heap.size ∧ (∀ i (h : i < vs.length), w.cell? ⟨g, i, none⟩ = some vs[i].1 ∧ w.frozen? ⟨g, i, none⟩ = false) ∧ ∀ p ∈ vs, LstW w g p.1 p.2 := by
  have hpos : 0 < vs.length := List.length_pos_iff.2 hne
  rcases h.own.2 with ⟨_, hn⟩ | ⟨g, cap, cur, hv, hg, hh, hnc, hm, hcs, ht⟩
  · omega
  · have hown := h.own
    rw [hv] at hown
    have hb : v.ownBlock = some g := by rw [hv]; rfl
    refine ⟨g, cap, hv, hnc, hm, h.ge g hb, rowLt h.own hb, fun i hi => ?_, fun p hp => ?_⟩
    · have h1 := hown.cellAt i (by omega)
      rw [h1, List.getElem?_map, List.getElem?_eq_getElem hi]
      exact ⟨rfl, hown.frozenAt i⟩
    · obtain ⟨o, hne2⟩ := h.el p hp
      obtain ⟨a, c, e1, _, e2, e3⟩ := o.full
      obtain ⟨a', c', e1', _, e4⟩ := o.reads
      rw [e1] at e1'
      injection e1' with f1 f2 f3
      subst f1 f3
      refine ⟨a, c, e1, e2, e3, fun i hi => ?_⟩
      rcases e4 with e4 | ⟨b, e5, e6, e7⟩
      · rw [e4] at hi; simp at hi
      · exact ⟨b, 0, e5, fun e => hne2 b e6 (by rw [hb, e]), by rw [Nat.zero_add]; exact (e7 i hi).1⟩
theorem LstW.ext {A C : World} {blk : Nat} {v : Value} {l : List Int} (h : LstW A blk v l) (e : Ext A C) : LstW C blk v l := by
  obtain ⟨a, c, h1, h2, h3, h4⟩ := h
  refine ⟨a, c, h1, h2, h3, fun i hi => ?_⟩
  obtain ⟨b, off, k1, k2, k3⟩ := h4 i hi
  exact ⟨b, off, k1, k2, e.cell k3⟩
set_option maxHeartbeats 1000000 in
theorem sorted_any {w : World} {g cap gb : Nat} {vs : List (Value × List Int)} (hg : g < w.heap.size) (hl : vs.length ≤ 100000)
    (hc : ∀ i (h : i < vs.length), w.cell? ⟨g, i, none⟩ = some vs[i].1 ∧ w.frozen? ⟨g, i, none⟩ = false) (he : ∀ p ∈ vs, LstW w g p.1 p.2)
    (f0 : w.cell? ⟨gb, 0, none⟩ = some (.func (.func 101) #[] #[])) (f1 : w.cell? ⟨gb, 1, none⟩ = some (.func (.func 103) #[] #[])) (h2 : gb ≠ g) :
    Calls Tryz.prog 100 #[.slice (some ⟨g, 0, none⟩) vs.length cap, .slice (some ⟨gb, 0, none⟩) 2 2] w fun e w' => e = .returned (.slice (some ⟨g, 0, none⟩) vs.length cap) ∧ ∃ ls : List (List Int), ls.Perm (vs.map Prod.snd) ∧ SortL ls ∧ CellsII w' (some ⟨g, 0, none⟩) ls ∧ ∀ n, n ≤ g → Below n w w' := by
  have E : Ext w (w.alloc (.cells #[.slice (some ⟨gb, 0, none⟩) 2 2] 169)) := extA
  have hcb : (w.alloc (.cells #[.slice (some ⟨gb, 0, none⟩) 2 2] 169)).cell? ⟨w.heap.size, 0, none⟩ = some (.slice (some ⟨gb, 0, none⟩) 2 2) := by go_simp
  have H := Lib.hid (sortL_any (cap := cap) (E.size_lt hg) hl (fun i hi => ⟨E.cell (hc i hi).1, (Below.frozen (p := ⟨g, i, none⟩) E (cell_lt (hc i hi).1)).trans (hc i hi).2⟩) (fun p hp => (he p hp).ext E) ⟨hcb, E.cell f0, E.cell f1⟩ (by omega) h2)
  have HB := Lib.hid (fun n (hn : n ≤ g) => Below.mono E (show n ≤ w.heap.size by omega))
  clear hc he f0 f1 hcb E
  generalize vs.map Prod.snd = ss at H ⊢
  generalize vs.length = n at H ⊢
  go_enter Tryz.func100, Tryz.ntmps100
  go_wp2_with fail
  refine H.out.mono ?_
  rintro e w1 ⟨rfl, ls, h3, h4, h5, h6⟩
  have H3 := Lib.hid h3
  have H4 := Lib.hid h4
  have H5 := Lib.hid h5
  have H6 := Lib.hid h6
  clear h3 h4 h5 h6
  go_wp2
  go_ret
  exact ⟨rfl, ls, H3.out, H4.out, H5.out, fun m hm => (HB.out m hm).trans (H6.out m hm)⟩
def ListsP (l : List (List Int)) (w : World) (e : Ending) (w' : World) : Prop := ∃ a cap, e = .returned (.slice a l.length cap) ∧ CellsII w' a l ∧ l.length ≤ cap ∧ cap ≤ maxLen ∧ Ext w w'
theorem raw_ne {t : Tr} (h : TrOk t) : rawL t (List.range (2 ^ t.ev.toNat)) ≠ [] := by
  obtain ⟨c, r, h1, _⟩ := all_least h
  intro e
  have := (allFrom_perm t (List.range (2 ^ t.ev.toNat)) []).length_eq
  rw [List.nil_append, e] at this
  have h2 : allL t = [] := List.eq_nil_of_length_eq_zero this
  rw [h1] at h2
  cases h2
theorem raw_len (t : Tr) (n k : Nat) (h : k ≤ n) : (rawL t ((List.range n).take k)).length ≤ k := by
  unfold rawL
  rw [List.length_map]
  refine Nat.le_trans (List.length_filter_le _ _) ?_
  rw [List.length_take]
  omega
theorem ret_val {x y : Value} (h : x = y) : Ending.returned x = .returned y := by rw [h]
set_option maxHeartbeats 4000000 in
set_option maxRecDepth 100000 in
theorem cuts_any {t : Tr} {a : Option Addr} {cap : Nat} {w : World} (ht : TreeG w t a cap) (hok : TrOk t) (hT : TabC w) :
    Calls Tryz.prog 69 #[treeV t a cap] w (ListsP (allL t) w) := by
  obtain ⟨hev, hE1, hE2⟩ := hok.natE
  have hNE := Lib.hid (raw_ne hok)
  have HALL := Lib.hid (fun (ls : List (List Int)) (h1 : ls.Perm (rawL t (List.range (2 ^ t.ev.toNat)))) (h2 : SortL ls) => all_unique h1 h2)
  obtain ⟨E, hE⟩ : ∃ E, E = t.ev.toNat := ⟨_, rfl⟩
  obtain ⟨N, hN⟩ : ∃ N, N = 2 ^ E := ⟨_, rfl⟩
  rw [← hE] at hNE HALL hev hE1 hE2
  rw [← hN] at hNE HALL
  have hN16 : N ≤ 65536 := by rw [hN]; exact Nat.pow_le_pow_right (n := 2) (i := E) (j := 16) (by decide) hE2
  have HMN := Lib.hid (fun k (hk : k < N) W (hW : Ext w W) => minimal_any (ht.ext hW) hok (s := k) (by rw [← hE, ← hN]; exact hk) (tabC_ext hT hW))
  have HMB := Lib.hid (fun k (hk : k < N) W (hW : Ext w W) => members_any k (by omega) W (tabC_ext hT hW))
  have HRT := Lib.hid (fun k (hk : k < N) => rawL_take (t := t) hk)
  have HRL := Lib.hid (raw_len t N)
  have hpi : ((2 : Int) ^ E) = (N : Int) := by rw [hN, Int.natCast_pow]; rfl
  have hsh : IntKind.u64.wrap ((2 : Int) ^ E) = (N : Int) := by rw [hpi, IntKind.wrap_u64]; omega
  have hmin : min E 64 = E := Nat.min_eq_left (by omega)
  have HFN : Hid (List.take N (List.range N) = List.range N) := List.take_of_length_le (by simp)
  unfold treeV at HMN ⊢
  generalize allL t = al at HALL ⊢
  rw [hev] at HMN ⊢
  generalize t.gates.length = gn at HMN ⊢
  have y0 : (w.alloc (.cells #[.int .i64 (E : Int), .slice a gn cap] 24)).cell? ⟨w.heap.size, 0, none⟩ = some (.int .i64 (E : Int)) := by rw [World.cell?_alloc_new]; rfl
  have y1 : (w.alloc (.cells #[.int .i64 (E : Int), .slice a gn cap] 24)).cell? ⟨w.heap.size, 1, none⟩ = some (.slice a gn cap) := by rw [World.cell?_alloc_new]; rfl
  have E0 : Ext w (w.alloc (.cells #[.int .i64 (E : Int), .slice a gn cap] 24)) := extA
  have hN1 : 1 ≤ N := by rw [hN]; exact Nat.two_pow_pos E
  clear ht hok hT hE hN hpi
  go_enter Tryz.func69, Tryz.ntmps69
  go_wp2
  generalize (w.alloc (.cells #[.int .i64 (E : Int), .slice a gn cap] 24)) = W at y0 y1 E0 ⊢
  go_loopw [8, 3] (fun x v wr => ∃ (k : Nat) (vs : List (Value × List Int)), k ≤ N ∧ x = .int .u64 k ∧ Hid (vs.map Prod.snd = rawL t ((List.range N).take k)) ∧ Hid (RowsL W.heap.size wr v vs) ∧ Ext W wr) (fun x _ _ => N - (intOf x).toNat)
  case atStart => exact ⟨0, [], Nat.zero_le _, rfl, rfl, RowsL.nil _ _, Ext.refl _⟩
  case round =>
    obtain ⟨k, vs, hk, rfl, hvs, hR, he⟩ := hrel
    have EK := E0.trans he
    have hvl : vs.length ≤ k := by
      have := congrArg List.length hvs.out
      rw [List.length_map] at this
      rw [this]
      exact HRL.out k hk
    by_cases hlt : k < N
    · have hlt' : (k : Int) < (N : Int) := by omega
      have d0 := he.cell y0
      have d1 := he.cell y1
      have z0 := cell_lt d0
      dsimp only at z0
      have hw : IntKind.u64.wrap ((k : Int) + 1) = (k : Int) + 1 := by rw [IntKind.wrap_u64]; omega
      have HX := Lib.hid (HMN.out k hlt wr EK)
      have HY := Lib.hid (HMB.out k hlt)
      have HNX := Lib.hid (HRT.out k hlt)
      generalize bitsI 16 k = bl at HY HNX
      cases hm : minB t k
      · rw [hm] at HX
        have HG : Hid (vs.map Prod.snd = rawL t ((List.range N).take (k + 1))) := by
          show _ = _
          rw [HNX.out, hm, if_neg (by simp), List.append_nil]
          exact hvs.out
        clear hm hvs HNX
        go_wp2_with fail
        refine HX.out.mono ?_
        rintro e w1 ⟨rfl, hE⟩
        go_wp2
        exact ⟨⟨k + 1, vs, hlt, by go_num, HG, hR.out.ext hE, he.trans hE⟩, by simp [intOf]; omega⟩
      · rw [hm] at HX
        have HG : Hid (vs.map Prod.snd ++ [bl] = rawL t ((List.range N).take (k + 1))) := by
          show _ = _
          rw [HNX.out, hm, if_pos rfl, hvs.out]
        clear hm hvs HNX
        go_wp2_with fail
        refine HX.out.mono ?_
        rintro e w1 ⟨rfl, hE⟩
        have HY2 := Lib.hid (HY.out w1 (EK.trans hE))
        have F1 := he.trans hE
        have hR1 := Lib.hid (hR.out.ext hE)
        clear hE hR HX HY
        go_wp2_with fail
        refine HY2.out.mono ?_
        rintro e w2 ⟨m, rfl, hO, hB, hE⟩
        have EA : Ext w2 (w2.alloc (.cells #[m] 25)) := (Ext.refl _).alloc _
        have hcm : (w2.alloc (.cells #[m] 25)).cell? ⟨w2.heap.size, 0, none⟩ = some m := by go_simp
        obtain ⟨v9, w9, hr9, hR9, hb9⟩ := ((hR1.out.ext hE).ext EA).app (hO.ext EA) (fun b hb e => by
          have h7 := hB b hb
          have h8 := rowLt hR1.out.own e
          omega) hcm (by omega) (by have := F1.size; have := hE.size; have := EA.size; omega)
        obtain ⟨va, vc, hv, _⟩ := rowReads hR1.out.own
        obtain ⟨ma, mc, hmv, _⟩ := hO.full
        subst hv hmv
        have HR9 := Lib.hid hr9
        have HX9 := Lib.hid hR9
        have F9 : Ext W w9 := ((F1.trans hE).trans EA).trans' hb9 (Nat.le_refl _)
        clear hr9 hR9 hb9 hcm EA hO hB hR1
        go_wp2_with (at_builtin; refine wpList_appC _ rfl _ _ 56 rfl (.slice va vs.length vc) (.slice (some ⟨w2.heap.size, 0, none⟩) 1 1) rfl rfl v9 w9 HR9.out ?_)
        exact ⟨⟨k + 1, _, hlt, by go_num, by show _ = _; rw [List.map_append]; exact HG.out, HX9, F9⟩, by simp [intOf]; omega⟩
    · have hke : k = N := by omega
      have hlt' : ¬ (k : Int) < (N : Int) := by omega
      have hvs2 := hvs.out
      rw [hke, HFN.out] at hvs2
      have hne : vs ≠ [] := fun e => by rw [e] at hvs2; exact hNE.out hvs2.symm
      obtain ⟨g, gc, hv, hgc, hgm, hBg, hgl, hcl, hel⟩ := hR.out.reads hne
      subst hv
      have EV : Ext wr (wr.alloc (.cells #[.func (.func 101) #[] #[], .func (.func 103) #[] #[]] 143)) := (Ext.refl _).alloc _
      have f0 : (wr.alloc (.cells #[.func (.func 101) #[] #[], .func (.func 103) #[] #[]] 143)).cell? ⟨wr.heap.size, 0, none⟩ = some (.func (.func 101) #[] #[]) := by rw [World.cell?_alloc_new]; rfl
      have f1 : (wr.alloc (.cells #[.func (.func 101) #[] #[], .func (.func 103) #[] #[]] 143)).cell? ⟨wr.heap.size, 1, none⟩ = some (.func (.func 103) #[] #[]) := by rw [World.cell?_alloc_new]; rfl
      have HS := Lib.hid (sorted_any (cap := gc) (EV.size_lt hgl) (by omega) (fun i hi => ⟨EV.cell (hcl i hi).1, (Below.frozen (p := ⟨g, i, none⟩) EV (cell_lt (hcl i hi).1)).trans (hcl i hi).2⟩) (fun p hp => (hel p hp).ext EV) f0 f1 (by omega))
      rw [hvs2] at HS
      have HLE : Hid (rawL t (List.range N) = vs.map Prod.snd) := hvs2.symm
      have HVL : Hid (vs.length = (rawL t (List.range N)).length) := by show _ = _; rw [← hvs2, List.length_map]
      have HEV : Hid (Ext w (wr.alloc (.cells #[.func (.func 101) #[] #[], .func (.func 103) #[] #[]] 143)) ∧ w.heap.size ≤ g) := ⟨EK.trans EV, by have := E0.size; omega⟩
      clear hcl hel f0 f1 EV hR hvs hvs2 hvl
      go_wp2_with fail
      refine HS.out.mono ?_
      rintro e w3 ⟨rfl, ls, h3, h4, h5, h6⟩
      have hall := HALL.out ls h3 h4
      have HL2 : Hid (vs.length = al.length) := by show _ = _; rw [HVL.out, ← h3.length_eq, hall]
      rw [hall] at h5
      have H5 := Lib.hid h5
      have H6 : Hid (Ext w w3) := HEV.out.1.trans' (h6 _ HEV.out.2) (Nat.le_refl _)
      clear h3 h4 h5 h6 hall
      go_wp2
      go_ret
      exact ⟨some ⟨g, 0, none⟩, gc, ret_val (congrArg (fun n => Value.slice (some ⟨g, 0, none⟩) n gc) HL2.out), H5.out, by rw [← HL2.out]; exact hgc, hgm, H6.out⟩
def ListsE (l : List (List Int)) (er : Int) (w : World) (e : Ending) (w' : World) : Prop := ∃ a cap, e = .returned (.tuple #[.slice a l.length cap, .int .i64 er]) ∧ CellsII w' a l ∧ l.length ≤ cap ∧ cap ≤ maxLen ∧ Ext w w'
def cutsL (t : Tr) : List (List Int) := if treeE t = 0 then allL t else []
set_option maxHeartbeats 2000000 in
theorem Cuts_any {t : Tr} {a : Option Addr} {cap : Nat} {w : World} (ht : TreeG w t a cap) (hT : TabC w) :
    Calls Tryz.prog 26 #[treeV t a cap] w (ListsE (cutsL t) (treeE t : Nat) w) := by
  have HK := Lib.hid (fun W (hW : Ext w W) => cCheck_any (ht.ext hW))
  have HL := Lib.hid (fun W (h0 : treeE t = 0) (hW : Ext w W) => cuts_any (ht.ext hW) (treeE_ok h0) (tabC_ext hT hW))
  have HR1 : Hid (treeE t = 0 → cutsL t = allL t) := fun h => if_pos h
  have HR2 : Hid (treeE t ≠ 0 → cutsL t = []) := fun h => if_neg h
  generalize cutsL t = r at HR1 HR2 ⊢
  generalize treeE t = er at HK HL HR1 HR2 ⊢
  generalize allL t = al at HL HR1
  unfold treeV at HK HL ⊢
  have y0 : (w.alloc (.cells #[.int .i64 t.ev, .slice a t.gates.length cap] 24)).cell? ⟨w.heap.size, 0, none⟩ = some (.int .i64 t.ev) := by go_simp
  have y1 : (w.alloc (.cells #[.int .i64 t.ev, .slice a t.gates.length cap] 24)).cell? ⟨w.heap.size, 1, none⟩ = some (.slice a t.gates.length cap) := by go_simp
  have E0 : Ext w (w.alloc (.cells #[.int .i64 t.ev, .slice a t.gates.length cap] 24)) := extA
  clear ht hT
  go_enter Tryz.func26, Tryz.ntmps26
  go_wp2_with fail
  generalize (w.alloc (.cells #[.int .i64 t.ev, .slice a t.gates.length cap] 24)) = W at y0 y1 E0 ⊢
  refine (HK.out _ E0).mono ?_
  rintro e w1 ⟨rfl, hE⟩
  have E1 := E0.trans hE
  replace y0 := hE.cell y0
  replace y1 := hE.cell y1
  clear hE
  by_cases h0 : er = 0
  · have HLX := Lib.hid (HL.out w1 h0 E1)
    have hr := HR1.out h0
    subst hr h0
    clear HR1 HR2 HL HK
    go_wp2_with fail
    refine HLX.out.mono ?_
    rintro e w2 ⟨ra, rc, rfl, h1, h2, h3, hE⟩
    have H1 := Lib.hid h1
    clear h1
    go_wp2
    go_ret2
    exact ⟨ra, rc, rfl, H1.out, h2, h3, E1.trans hE⟩
  · have hr := HR2.out h0
    subst hr
    have k5 : ((er : Int) != 0) = true := by rw [bne_iff_ne]; omega
    clear HR1 HR2 HL HK h0
    go_wp2
    go_ret2
    exact ⟨none, 0, rfl, (fun i hi => by simp at hi), Nat.le_refl _, by unfold maxLen; omega, E1⟩
end Go.Proofs.YtlhpfhnbeagnaaaGreatDoor
namespace Go.Proofs.YtlhpfhnbeagnaaaGreatDoor
open Go.RowKit
def pop1 (x : Nat) : Nat := (x / 2 &&& 6148914691236517205) + (x &&& 6148914691236517205)
def pop2 (x : Nat) : Nat := (x / 4 &&& 3689348814741910323) + (x &&& 3689348814741910323)
def pop3 (x : Nat) : Nat := (x / 16 + x) &&& 1085102592571150095
theorem pop_card : ∀ x, x < 128 → pop3 (pop2 (pop1 x)) = cardN 16 x ∧ pop3 (pop2 (pop1 x)) < 128 := by decide +kernel
theorem u64_one {x : Nat} (h : x < 18446744073709551616) : IntKind.u64.wrap (x : Int) = (x : Int) := by rw [IntKind.wrap_u64]; omega
set_option maxHeartbeats 2000000 in
theorem ones64_any (x : Nat) (hx : x < 128) (w : World) : Calls Tryz.prog 115 #[.int .u64 (x : Int)] w fun e w' => e = .returned (.int .i64 (cardN 16 x : Nat)) ∧ w' = w := by
  obtain ⟨hc, hc2⟩ := pop_card x hx
  have l1 : x / 2 &&& 6148914691236517205 ≤ x / 2 := Nat.and_le_left
  have l2 : x &&& 6148914691236517205 ≤ x := Nat.and_le_left
  have g1 : bits .and .u64 ((x / 2 : Nat) : Int) 6148914691236517205 = ((x / 2 &&& 6148914691236517205 : Nat) : Int) := bits_and_u64_nat (x / 2) 6148914691236517205 (by omega) (by omega)
  have g2 : bits .and .u64 (x : Int) 6148914691236517205 = ((x &&& 6148914691236517205 : Nat) : Int) := bits_and_u64_nat x 6148914691236517205 (by omega) (by omega)
  obtain ⟨a2, ha2⟩ : ∃ y, y = x / 2 &&& 6148914691236517205 := ⟨_, rfl⟩
  obtain ⟨a3, ha3⟩ : ∃ y, y = x &&& 6148914691236517205 := ⟨_, rfl⟩
  obtain ⟨a, ha⟩ : ∃ y, y = pop1 x := ⟨_, rfl⟩
  rw [← ha] at hc hc2
  unfold pop1 at ha
  rw [← ha2, ← ha3] at ha
  rw [← ha2] at g1 l1
  rw [← ha3] at g2 l2
  clear ha2 ha3
  have s1 : ((x : Int) / 2) = ((x / 2 : Nat) : Int) := by omega
  have s2 : IntKind.u64.wrap ((a2 : Int) + (a3 : Int)) = (a : Int) := by rw [IntKind.wrap_u64]; omega
  generalize x / 2 = a1 at g1 l1 s1
  have la : a < 256 := by omega
  clear ha
  have k1 : a / 4 &&& 3689348814741910323 ≤ a / 4 := Nat.and_le_left
  have k2 : a &&& 3689348814741910323 ≤ a := Nat.and_le_left
  have g3 : bits .and .u64 ((a / 4 : Nat) : Int) 3689348814741910323 = ((a / 4 &&& 3689348814741910323 : Nat) : Int) := bits_and_u64_nat (a / 4) 3689348814741910323 (by omega) (by omega)
  have g4 : bits .and .u64 (a : Int) 3689348814741910323 = ((a &&& 3689348814741910323 : Nat) : Int) := bits_and_u64_nat a 3689348814741910323 (by omega) (by omega)
  obtain ⟨b2, hb2⟩ : ∃ y, y = a / 4 &&& 3689348814741910323 := ⟨_, rfl⟩
  obtain ⟨b3, hb3⟩ : ∃ y, y = a &&& 3689348814741910323 := ⟨_, rfl⟩
  obtain ⟨b, hb⟩ : ∃ y, y = pop2 a := ⟨_, rfl⟩
  rw [← hb] at hc hc2
  unfold pop2 at hb
  rw [← hb2, ← hb3] at hb
  rw [← hb2] at g3 k1
  rw [← hb3] at g4 k2
  clear hb2 hb3
  have s3 : ((a : Int) / 4) = ((a / 4 : Nat) : Int) := by omega
  have s4 : IntKind.u64.wrap ((b2 : Int) + (b3 : Int)) = (b : Int) := by rw [IntKind.wrap_u64]; omega
  generalize a / 4 = b1 at g3 k1 s3
  have lb : b < 512 := by omega
  clear hb
  have g5 : bits .and .u64 ((b / 16 + b : Nat) : Int) 1085102592571150095 = ((b / 16 + b &&& 1085102592571150095 : Nat) : Int) := bits_and_u64_nat (b / 16 + b) 1085102592571150095 (by omega) (by omega)
  obtain ⟨c, hcc⟩ : ∃ y, y = pop3 b := ⟨_, rfl⟩
  rw [← hcc] at hc hc2
  unfold pop3 at hcc
  rw [← hcc] at g5
  clear hcc
  have s5 : ((b : Int) / 16) = ((b / 16 : Nat) : Int) := by omega
  have s6 : IntKind.u64.wrap (((b / 16 : Nat) : Int) + (b : Int)) = ((b / 16 + b : Nat) : Int) := by rw [IntKind.wrap_u64]; omega
  generalize b / 16 + b = c2 at g5 s6
  generalize b / 16 = c1 at s5 s6
  have s7 : ((c : Int) / 256) = 0 := by omega
  have s8 : ((c : Int) / 65536) = 0 := by omega
  have s9 : ((c : Int) / 4294967296) = 0 := by omega
  have s10 : IntKind.u64.wrap (c : Int) = (c : Int) := u64_one (by omega)
  have s11 : IntKind.i64.wrap (c : Int) = (c : Int) := IntWalk.i64_in _ (by omega)
  have g6 : bits .and .i64 (c : Int) 127 = ((cardN 16 x : Nat) : Int) := by
    rw [i64_and127, ← hc]
    omega
  generalize cardN 16 x = r at g6 hc ⊢
  clear hc l1 l2 k1 k2
  go_enter Tryz.func115, Tryz.ntmps115
  go_wp2
  go_ret
  exact ⟨rfl, rfl⟩
theorem ones_any (x : Nat) (hx : x < 128) (w : World) : Calls Tryz.prog 91 #[.int .u64 (x : Int)] w fun e w' => e = .returned (.int .i64 (cardN 16 x : Nat)) ∧ w' = w := by
  have H := Lib.hid (ones64_any x hx w)
  generalize cardN 16 x = c at H ⊢
  go_enter Tryz.func91, Tryz.ntmps91
  go_wp2_with fail
  refine H.out.mono ?_
  rintro e w1 ⟨rfl, rfl⟩
  go_wp2
  go_ret
  exact ⟨rfl, rfl⟩
def leastZ (t : Tr) : Nat := if treeE t = 0 then leastN t else 0
set_option maxHeartbeats 4000000 in
set_option maxRecDepth 100000 in
theorem Least_any {t : Tr} {a : Option Addr} {cap : Nat} {w : World} (ht : TreeG w t a cap) (h7 : treeE t = 0 → t.ev ≤ 7) :
    Calls Tryz.prog 47 #[treeV t a cap] w fun e w' => e = .returned (.tuple #[.int .i64 (leastZ t : Nat), .int .i64 (treeE t : Nat)]) ∧ Ext w w' := by
  have HK := Lib.hid (fun W (hW : Ext w W) => cCheck_any (ht.ext hW))
  have HF := Lib.hid (fun (h0 : treeE t = 0) s (hs : s < 128) W (hW : Ext w W) => fails_any (ht.ext hW) (treeE_ok h0) (s := s) (by omega))
  have HR1 : Hid (treeE t = 0 → leastZ t = leastN t) := fun h => if_pos h
  have HR2 : Hid (treeE t ≠ 0 → leastZ t = 0) := fun h => if_neg h
  have HE : Hid (treeE t = 0 → t.ev = (t.ev.toNat : Int) ∧ t.ev.toNat ≤ 7 ∧ leastN t = leastFrom t t.ev.toNat ((List.range (2 ^ t.ev.toNat)).drop 0)) := fun h => ⟨(treeE_ok h).natE.1, by have := h7 h; omega, rfl⟩
  generalize leastZ t = r at HR1 HR2 ⊢
  obtain ⟨er, her⟩ : ∃ er, er = treeE t := ⟨_, rfl⟩
  rw [← her] at HK HR1 HR2 HE HF ⊢
  unfold treeV at HK HF ⊢
  generalize t.gates.length = gn at HK HF ⊢
  obtain ⟨ev, hev⟩ : ∃ ev, ev = t.ev := ⟨_, rfl⟩
  rw [← hev] at HK HF HE ⊢
  have y0 : (w.alloc (.cells #[.int .i64 ev, .slice a gn cap] 24)).cell? ⟨w.heap.size, 0, none⟩ = some (.int .i64 ev) := by rw [World.cell?_alloc_new]; rfl
  have y1 : (w.alloc (.cells #[.int .i64 ev, .slice a gn cap] 24)).cell? ⟨w.heap.size, 1, none⟩ = some (.slice a gn cap) := by rw [World.cell?_alloc_new]; rfl
  have E0 : Ext w (w.alloc (.cells #[.int .i64 ev, .slice a gn cap] 24)) := extA
  clear ht h7 her hev
  go_enter Tryz.func47, Tryz.ntmps47
  go_wp2_with fail
  generalize (w.alloc (.cells #[.int .i64 ev, .slice a gn cap] 24)) = W at y0 y1 E0 ⊢
  refine (HK.out _ E0).mono ?_
  rintro e w1 ⟨rfl, hE⟩
  have E1 := E0.trans hE
  replace y0 := hE.cell y0
  replace y1 := hE.cell y1
  clear hE HK
  by_cases h0 : er = 0
  · have hr := HR1.out h0
    have HF2 := Lib.hid (HF.out h0)
    obtain ⟨e1, e2, e3⟩ := HE.out h0
    rw [e3] at hr
    obtain ⟨E, hEE⟩ : ∃ E, E = ev.toNat := ⟨_, rfl⟩
    rw [← hEE] at e1 e2 hr
    obtain ⟨N, hN⟩ : ∃ N, N = 2 ^ E := ⟨_, rfl⟩
    rw [← hN] at hr
    have hN16 : N ≤ 128 := by rw [hN]; exact Nat.pow_le_pow_right (n := 2) (i := E) (j := 7) (by decide) e2
    have hpi : ((2 : Int) ^ E) = (N : Int) := by rw [hN, Int.natCast_pow]; rfl
    have hsh : IntKind.u64.wrap ((2 : Int) ^ E) = (N : Int) := by rw [hpi, IntKind.wrap_u64]; omega
    have hmin : min E 64 = E := Nat.min_eq_left (by omega)
    have HLD := Lib.hid (fun b k (hk : k < N) => leastFrom_drop (t := t) (b := b) hk)
    have HRD := Lib.hid (range_done N)
    have HR := Lib.hid hr
    subst h0
    rw [e1] at HF2 y0
    clear HR1 HR2 hN hpi hEE HE HF e1 e3 hr
    go_wp2
    go_loopw [18, 5] (fun x v wr => ∃ (k b : Nat), k ≤ N ∧ b ≤ 16 ∧ x = .int .u64 k ∧ v = .int .i64 b ∧ Hid (r = leastFrom t b ((List.range N).drop k)) ∧ Ext w1 wr) (fun x _ _ => N - (intOf x).toNat)
    case atStart => exact ⟨0, E, Nat.zero_le _, by omega, rfl, rfl, HR, Ext.refl _⟩
    case round =>
      obtain ⟨k, b, hk, hb, rfl, rfl, hl, he⟩ := hrel
      by_cases hlt : k < N
      · have hlt' : (k : Int) < (N : Int) := by omega
        have d0 := he.cell y0
        have d1 := he.cell y1
        have z0 := cell_lt d0
        dsimp only at z0
        have hw : IntKind.u64.wrap ((k : Int) + 1) = (k : Int) + 1 := by rw [IntKind.wrap_u64]; omega
        have HX := Lib.hid (fun W (hW : Ext wr W) => HF2.out k (by omega) W ((E1.trans he).trans hW))
        have HO := Lib.hid (ones_any k (by omega))
        have HNX := Lib.hid (HLD.out b k hlt)
        have hc16 := card_le 16 k
        generalize cardN 16 k = c at HO HNX hc16
        by_cases hcb : c < b
        · have hcb' : (c : Int) < (b : Int) := by omega
          cases hm : topB t k
          · rw [hm] at HX
            have HG : Hid (r = leastFrom t b ((List.range N).drop (k + 1))) := by
              show _ = _
              rw [hl.out, HNX.out, hm, if_neg (by simp)]
            clear hm hl HNX
            go_wp2_with fail
            refine (HO.out _).mono ?_
            rintro e w2 ⟨rfl, rfl⟩
            go_wp2_with fail
            refine (HX.out _ (Ext.refl _)).mono ?_
            rintro e w3 ⟨rfl, hE⟩
            go_wp2
            exact ⟨⟨k + 1, b, hlt, hb, by go_num, rfl, HG, he.trans hE⟩, by simp [intOf]; omega⟩
          · rw [hm] at HX
            have HG : Hid (r = leastFrom t c ((List.range N).drop (k + 1))) := by
              show _ = _
              rw [hl.out, HNX.out, hm, if_pos ⟨hcb, rfl⟩]
            clear hm hl HNX
            go_wp2_with fail
            refine (HO.out _).mono ?_
            rintro e w2 ⟨rfl, rfl⟩
            go_wp2_with fail
            refine (HX.out _ (Ext.refl _)).mono ?_
            rintro e w3 ⟨rfl, hE⟩
            go_wp2
            exact ⟨⟨k + 1, c, hlt, hc16, by go_num, rfl, HG, he.trans hE⟩, by simp [intOf]; omega⟩
        · have hcb' : ¬ (c : Int) < (b : Int) := by omega
          have HG : Hid (r = leastFrom t b ((List.range N).drop (k + 1))) := by
            show _ = _
            rw [hl.out, HNX.out, if_neg fun h => hcb h.1]
          clear hl HNX
          go_wp2_with fail
          refine (HO.out _).mono ?_
          rintro e w2 ⟨rfl, rfl⟩
          go_wp2
          exact ⟨⟨k + 1, b, hlt, hb, by go_num, rfl, HG, by first | exact he | exact he.drew⟩, by simp [intOf]; omega⟩
      · have hke : k = N := by omega
        have hlt' : ¬ (k : Int) < (N : Int) := by omega
        have HG : Hid ((b : Int) = (r : Int)) := by
          show _ = _
          rw [hl.out, hke, HRD.out]
          rfl
        clear hl HR
        go_wp2
        go_ret2
        exact ⟨ret_pair (congrArg _ HG.out) rfl, E1.trans he⟩
  · have hr := HR2.out h0
    subst hr
    have k5 : ((er : Int) != 0) = true := by rw [bne_iff_ne]; omega
    clear HR1 HR2 HE HF h0
    go_wp2
    go_ret2
    exact ⟨rfl, E1⟩
end Go.Proofs.YtlhpfhnbeagnaaaGreatDoor
namespace Go.Proofs.YtlhpfhnbeagnaaaGreatDoor
open Go.RowKit
end Go.Proofs.YtlhpfhnbeagnaaaGreatDoor
namespace Go.Proofs.YtlhpfhnbeagnaaaGreatDoor
open Go.RowKit
structure PlusWR (la lb : List Nat) (w0 : World) (i c : Nat) (v : Value) (w : World) : Prop where
  ex : ∃ o, PlusI 1000000 la lb i c o ∧ OwnsN .i64 3 w v o ∧ (i ≤ plusM la lb ∨ (i = plusM la lb + 1 ∧ c = 0 ∧ 1000000 ^ (i - 1) ≤ valB 1000000 o))
  new : ∀ b, v.ownBlock = some b → w0.heap.size ≤ b
theorem PlusWR.done {la lb : List Nat} {w0 w : World} {i : Nat} {v : Value} {x y : Nat} (h : PlusWR la lb w0 i 0 v w) (hi : plusM la lb ≤ i)
    (ha : la = toB 1000000 x) (hb : lb = toB 1000000 y) : OwnsN .i64 3 w v (toB 1000000 (x + y)) := by
  obtain ⟨o, h1, h2, h3⟩ := h.ex
  have hM : la.length ≤ plusM la lb ∧ lb.length ≤ plusM la lb := ⟨Nat.le_max_left _ _, Nat.le_max_right _ _⟩
  have e := h1.done (by omega) (ha ▸ trim_toB (by omega) x) (hb ▸ trim_toB (by omega) y) ⟨by omega, by omega⟩ (by
    rcases h3 with h3 | h3
    · exact .inl (by unfold plusM at *; omega)
    · exact .inr h3.2.2)
  rw [ha, hb, valB_toB (by omega), valB_toB (by omega)] at e
  rw [← e]; exact h2
theorem PlusWR.step {la lb o : List Nat} {w0 w' : World} {i c : Nat} {v' : Value} (h1 : PlusI 1000000 la lb i c o)
    (h3 : i ≤ plusM la lb ∨ (i = plusM la lb + 1 ∧ c = 0 ∧ 1000000 ^ (i - 1) ≤ valB 1000000 o)) (ha : OkB 1000000 la) (hb : OkB 1000000 lb)
    (hgo : i < plusM la lb ∨ 0 < c) {r d : Nat} (hr : r = (c + la.getD i 0 + lb.getD i 0) % 1000000) (hd : d = (c + la.getD i 0 + lb.getD i 0) / 1000000)
    (hown : OwnsN .i64 3 w' v' (o ++ [r])) (hnew : ∀ b, v'.ownBlock = some b → w0.heap.size ≤ b) : PlusWR la lb w0 (i + 1) d v' w' := by
  subst hr hd
  refine ⟨⟨_, h1.next (by omega) ha hb, hown, ?_⟩, hnew⟩
  have hc := h1.c1
  by_cases hi : i < plusM la lb
  · exact .inl hi
  · have hia : la.length ≤ i := by unfold plusM at hi; omega
    have hib : lb.length ≤ i := by unfold plusM at hi; omega
    have e1 : la.getD i 0 = 0 := by rw [List.getD_eq_getElem?_getD, List.getElem?_eq_none hia]; rfl
    have e2 : lb.getD i 0 = 0 := by rw [List.getD_eq_getElem?_getD, List.getElem?_eq_none hib]; rfl
    rcases h3 with h3 | h3
    · right
      have e3 : c = 1 := by omega
      rw [e1, e2, e3]
      refine ⟨by omega, by decide, ?_⟩
      rw [valB_snoc, h1.len]
      have : (1 + 0 + 0) % 1000000 = 1 := by decide
      rw [this]
      simp
    · omega
end Go.Proofs.YtlhpfhnbeagnaaaGreatDoor
namespace Go.Proofs.YtlhpfhnbeagnaaaGreatDoor
open Go.RowKit
end Go.Proofs.YtlhpfhnbeagnaaaGreatDoor
namespace Go.Proofs.YtlhpfhnbeagnaaaGreatDoor
open Go.RowKit
end Go.Proofs.YtlhpfhnbeagnaaaGreatDoor
