/- Steps of the proof: FOver, FDiv, FQuoP, FQuoR, FShaR, Shelf, FGlob, FInt, FRead, FFmt, FBld. No conditions. -/
import Derived.Shelf.Strings.Builder1
import Derived.Shelf.Strings.Builder2
import Derived.Shelf.Strings.Trim
import Derived.Shelf.Small.Utf8
import Derived.Shelf.Small.Bits
import Derived.Shelf.Small.Strs
import Derived.Shelf.Small.Wraps
import Derived.Shelf.Strings.BuilderF
import Derived.Shelf.Strings.BuilderK
import Derived.Shelf.Strings.Builder2Cap
import Derived.Shelf.Strconv.Itoa0
import Derived.Shelf.Strconv.Itoa1
import Derived.Shelf.LaysM
import Derived.Shelf.Strconv.Itoa2
import Derived.Shelf.Strconv.Itoa3
import Derived.Shelf.Strconv.Clone
import Derived.Shelf.Strconv.SyntaxError
import Derived.Shelf.LaysC
import Derived.Shelf.Strconv.ToError
import Derived.Shelf.Strconv.Lower
import Derived.Shelf.Strconv.ParseUint10
import Derived.Shelf.Strconv.ParseUint10Empty
import Derived.Shelf.Strconv.ParseUint10Any
import Derived.Shelf.Strconv.RangeError
import Derived.Shelf.Strconv.ToErrorRange
import Derived.Shelf.Strconv.ParseUintEmpty
import Derived.Shelf.Strconv.ParseUint10b64
import Derived.Shelf.Strconv.ParseUint10b32
import Derived.Shelf.Strconv.ParseUint10b16
import Derived.Shelf.Strconv.ParseUint10b8
import Derived.Shelf.Strconv.ParseUint10At
import Derived.Ground.MpProg
import Derived.Shelf.Pu.ParseUintPublic10
import Derived.Shelf.Pu.ErrVarParseUint
import Derived.Shelf.Strings.Search1
import Derived.Shelf.Strings.Search2
import Derived.Shelf.Strings.Cut
import Derived.Shelf.Strings.Shaped
import Derived.Shelf.Strings.Prefix
import Derived.Shelf.Unicode.Decode
import Derived.Shelf.Strings.Runes
import Derived.Shelf.Strings.AsciiSet
import Derived.Shelf.Bits.Mul64
import Derived.Shelf.Strings.Repeat
import Derived.Shelf.Unicode.DecodeSlow
import Derived.Shelf.Unicode.DecodeAny
import Derived.Shelf.Unicode.DecodeLast
import Derived.Shelf.Strings.BuilderCap
import Derived.Shelf.Slices.Turned
import Derived.Ground.Names2Prog
import Derived.Shelf.Slices.SearchI
import Derived.Ground.SlgnProg
import Derived.Shelf.SlicesE.Reverse
import Derived.Test.YtbpjbhbbkonjlaaGreatDoorProg
import Derived.Lib.SlTrimSet
import Derived.Shelf.Strings.SlTrimAscii
import Derived.Test.YtbpjbhbbkonjlaaGreatDoorZTB1
import Derived.Test.YtbpjbhbbkonjlaaGreatDoorZTB2
import Derived.Test.YtbpjbhbbkonjlaaGreatDoorZTB3
namespace Go.Proofs.YtbpjbhbbkonjlaaGreatDoor
open Go.RowKit
attribute [local go_sem] Oper.semAt_some
def OwnNPost2 (k : IntKind) (t : TypeId) (l m : List Nat) (w : World) (e : Ending) (w' : World) : Prop :=
  ∃ v u, e = .returned (.tuple #[v, u]) ∧ OwnsN k t w' v l ∧ OwnsN k t w' u m ∧ (∀ b, v.ownBlock = some b → w.heap.size ≤ b) ∧ (∀ b, u.ownBlock = some b → w.heap.size ≤ b) ∧ Ext w w'
set_option maxHeartbeats 4000000 in
set_option maxRecDepth 100000 in
theorem over_any (x y : Nat) (la lb : List Nat) (a b : Option Addr) (ca cb : Nat) (w : World) (hx : la = toB 1000000000 x) (hy : lb = toB 1000000000 y) (hy0 : 0 < y)
    (hla : la.length ≤ 100) (hlb : lb.length ≤ 100) (ha : CellsN .u64 w a la) (hb : CellsN .u64 w b lb) :
    Calls Tryz.prog 107 #[.slice a la.length ca, .slice b lb.length cb] w (OwnNPost2 .u64 164 (toB 1000000000 (x / y)) (toB 1000000000 (x % y)) w) := by
  have HX := Lib.hid hx
  have HY := Lib.hid hy
  have HA := Lib.hid ha
  have HB := Lib.hid hb
  have HOA : Hid (OkB 1000000000 la) := by show OkB _ _; rw [hx]; exact okB_toB (by omega) x
  clear hx hy ha hb
  obtain ⟨w1, hw1⟩ : ∃ w1, w1 = w.alloc (.cells #[.slice b lb.length cb] 141) := ⟨_, rfl⟩
  have hs1 : w1.heap.size = w.heap.size + 1 := by rw [hw1]; simp
  have hmk : (Instr.makeSlice 141 (.int .i64 (la.length : Int)) (.int .i64 (la.length : Int))).run Tryz.prog w1 = .ok (.slice (some ⟨w1.heap.size, 0, none⟩) la.length la.length) (w1.alloc (.cells (madeCells #[.int .u64 0] la.length) 164)) :=
    run_make_row' _ _ (.int .u64 0) 8 Tryz.underlying141 infoU64 rfl _ _ la.length (by omega) (by omega) w1
  obtain ⟨w2, hw2⟩ : ∃ w2, w2 = w1.alloc (.cells (madeCells #[.int .u64 0] la.length) 164) := ⟨_, rfl⟩
  rw [← hw2] at hmk
  have hs2 : w2.heap.size = w.heap.size + 1 + 1 := by rw [hw2]; simp [hs1]
  have E2 : Ext w w2 := by rw [hw2, hw1]; exact extA
  have O2 : OwnsN .u64 164 w2 (.slice (some ⟨w1.heap.size, 0, none⟩) la.length la.length) (List.replicate la.length 0) := by rw [hw2]; exact madeN _ _ w1 _ (by omega)
  have b2 : w2.cell? ⟨w.heap.size, 0, none⟩ = some (.slice b lb.length cb) := by rw [hw2, hw1]; go_simp
  rw [hs1] at O2 hmk
  have E3 : Ext w2 (((w2.alloc (.cells #[.slice (some ⟨w.heap.size + 1, 0, none⟩) la.length la.length] 141)).alloc (.cells #[.slice none 0 0] 141)).alloc (.cells #[.slice a la.length ca] 141)) := extA
  have hs3 : ((w2.alloc (.cells #[.slice (some ⟨w.heap.size + 1, 0, none⟩) la.length la.length] 141)).alloc (.cells #[.slice none 0 0] 141)).heap.size = w.heap.size + 1 + 1 + 1 + 1 := by simp [hs2]
  have q3 : (((w2.alloc (.cells #[.slice (some ⟨w.heap.size + 1, 0, none⟩) la.length la.length] 141)).alloc (.cells #[.slice none 0 0] 141)).alloc (.cells #[.slice a la.length ca] 141)).cell? ⟨w2.heap.size, 0, none⟩ = some (.slice (some ⟨w.heap.size + 1, 0, none⟩) la.length la.length) := by go_simp
  have r3 : (((w2.alloc (.cells #[.slice (some ⟨w.heap.size + 1, 0, none⟩) la.length la.length] 141)).alloc (.cells #[.slice none 0 0] 141)).alloc (.cells #[.slice a la.length ca] 141)).cell? ⟨w2.heap.size + 1, 0, none⟩ = some (.slice none 0 0) := by go_simp
  have f3 : (((w2.alloc (.cells #[.slice (some ⟨w.heap.size + 1, 0, none⟩) la.length la.length] 141)).alloc (.cells #[.slice none 0 0] 141)).alloc (.cells #[.slice a la.length ca] 141)).frozen? ⟨w2.heap.size + 1, 0, none⟩ = false := by go_simp
  have s3 : (((w2.alloc (.cells #[.slice (some ⟨w.heap.size + 1, 0, none⟩) la.length la.length] 141)).alloc (.cells #[.slice none 0 0] 141)).alloc (.cells #[.slice a la.length ca] 141)).cell? ⟨w2.heap.size + 1 + 1, 0, none⟩ = some (.slice a la.length ca) := by go_simp
  rw [hs2] at q3 r3 f3 s3
  have EV := E2.trans E3
  have HW : Hid (OverW la lb y b cb (w.heap.size + 1) w.heap.size (w.heap.size + 1 + 1) (w.heap.size + 1 + 1 + 1) (((w2.alloc (.cells #[.slice (some ⟨w.heap.size + 1, 0, none⟩) la.length la.length] 141)).alloc (.cells #[.slice none 0 0] 141)).alloc (.cells #[.slice a la.length ca] 141)).heap.size w 0 (((w2.alloc (.cells #[.slice (some ⟨w.heap.size + 1, 0, none⟩) la.length la.length] 141)).alloc (.cells #[.slice none 0 0] 141)).alloc (.cells #[.slice a la.length ca] 141))) := by
    refine ⟨EV, E3.cell b2, q3, f3, 0, _, _, OverI.start (by omega) la hy0, O2.ext E3, r3, ?_, fun b hb => by cases hb⟩
    rw [toB_zero]; exact OwnsN.nil _ _ _
  have hw1' := hw1.symm
  have HW1 := Lib.hid hw1
  have HW2 := Lib.hid hw2
  clear hw2 hw1 b2 E2 E3 O2 q3 r3 f3
  refine (callsIn_wide (n := 0)).1 ?_
  refine callsIn_of_wp_marks Tryz.func107 rfl trivial ?_
  simp only [Tryz.ntmps107, List.size_toArray, List.length_cons, List.length_nil, Nat.reduceAdd, Nat.reduceSub, Array.replicate_succ, Array.replicate_zero, List.push_toArray, List.append_toArray, List.nil_append, List.cons_append]
  gi_wp2_with fail
  refine ⟨trivial, rfl, ?_⟩
  gi_at_call 122
  refine (callsIn_wide.2 (Backward_any a la.length ca _)).mono ?_
  rintro e w3 ⟨rfl, rfl⟩
  rw [hs3]
  clear hs3 hmk hw1' hs1
  generalize (((w2.alloc (.cells #[.slice (some ⟨w.heap.size + 1, 0, none⟩) la.length la.length] 141)).alloc (.cells #[.slice none 0 0] 141)).alloc (.cells #[.slice a la.length ca] 141)) = w3 at EV s3 HW ⊢
  have hz3 := EV.size
  have hsz : w.heap.size + 1 + 1 + 1 + 1 < w3.heap.size := cell_lt s3
  gi_wp2_with fail
  refine wpIn_wide.2 (over_range _ _ rfl y la lb a b ca cb w w3 (w.heap.size + 1 + 1 + 1 + 1) (w.heap.size + 1) w.heap.size (w.heap.size + 1 + 1) (w.heap.size + 1 + 1 + 1) hla hlb HOA.out HY.out hy0 HA.out HB.out EV s3 HW.out (by omega) (by omega) (by omega) (by omega) (by omega) (by omega) (by omega) (by omega) (by omega) (by omega) (by omega) _ _ _ _ _ _ _ _ _ _ _ _ _ _ _ _ _ _ _ _ _ _ _ _ _ _ _ _ _ _ _ _ _ _ _ _ _ _ _ _ _ _ _ _ _ _ _ [] _ ?_)
  intro D W k1 k2 hW hD
  clear HW s3
  obtain ⟨r, q, v, hI, hO, r4, hV, hvn⟩ := hW.st
  have q4 := hW.pq
  have E4 := hW.ext
  rw [Nat.sub_self] at hI
  have hql : q.length = la.length := hI.len
  have hdone := hI.done (by omega)
  rw [HX.out, valB_toB (by omega)] at hdone
  rw [← hql] at q4 hO
  obtain ⟨_, _, hov, hoc, hor, _⟩ := hO.reads
  cases hov
  clear hql
  obtain ⟨ra, rc, rfl, _, _, _⟩ := hV.reads
  have HR := Lib.hid (trimmed_any q (some ⟨w.heap.size + 1, 0, none⟩) q.length)
  have HC := Lib.hid (And.intro hoc hor)
  have HDN := Lib.hid hdone
  have HO := Lib.hid hO
  have HV := Lib.hid hV
  have HVN := Lib.hid hvn
  have HD := Lib.hid hD
  clear hI hoc hor hO hD hW hV hvn hdone EV
  have hdr : Ext W W.drew := extA
  have hS : W.drew.cell? ⟨w.heap.size + 1 + 1, 0, none⟩ = some (.slice (some ⟨w.heap.size + 1, 0, none⟩) q.length q.length) ∧ W.drew.cell? ⟨w.heap.size + 1 + 1 + 1, 0, none⟩ = some (.slice ra (toB 1000000000 r).length rc) := ⟨hdr.cell q4, hdr.cell r4⟩
  gi_wp2_with fail
  refine wide_heldE 99 (fun w' => w'.cell? ⟨w.heap.size + 1 + 1, 0, none⟩ = some (.slice (some ⟨w.heap.size + 1, 0, none⟩) q.length q.length) ∧ w'.cell? ⟨w.heap.size + 1 + 1 + 1, 0, none⟩ = some (.slice ra (toB 1000000000 r).length rc)) (by kernel_rfl) ?_
  ((refine eTk 0 ?_); (refine eTk 2 ?_))
  (refine wpAnyE_one (i := 1) (o := ?_) ?_ (by kernel_rfl) (fun K hK => ?_); rotate_left; (focus ((simp only [List.getElem?_toArray, List.getElem?_cons_succ, List.getElem?_cons_zero]; exact rfl))); go_simp; go_at_call 126; refine (HR.out W.drew HC.out.2 (HC.out.1.ext hdr)).mono ?_; rintro e w5 ⟨rfl, hn5, hE5⟩; go_wp2_with fail; refine hK.out _ _ ?_ (fun hHeld => ?_); rotate_left; clear hK K; (try simp only [Act.put, List.setIfInBounds_toArray, List.set_cons_zero, List.set_cons_succ]))
  rotate_left
  · exact ⟨hE5.cell hS.1, hE5.cell hS.2⟩
  have hdr2 := hdr.trans hE5
  have hS2 : w5.cell? ⟨w.heap.size + 1 + 1, 0, none⟩ = some (.slice (some ⟨w.heap.size + 1, 0, none⟩) q.length q.length) ∧ w5.cell? ⟨w.heap.size + 1 + 1 + 1, 0, none⟩ = some (.slice ra (toB 1000000000 r).length rc) := ⟨hE5.cell hS.1, hE5.cell hS.2⟩
  ((refine eTk 3 ?_); (refine eTk 4 ?_))
  refine wpAnyE_done (by kernel_rfl) ?_ _
  refine NoPanic.normal ?_
  have HO6 := Lib.hid ((HO.out.ext hdr2).trim hn5)
  have HV6 := Lib.hid (HV.out.ext hdr2)
  have HD6 := Lib.hid ((Below.block hdr2 D k2).trans HD.out)
  have E6 := E4.trans hdr2
  clear hn5 hE5 hS hS2 hdr2 hdr HO HV HD hHeld q4 r4 E4
  gi_wp2
  refine leaves_cells (v := .tuple #[.slice (some ⟨w.heap.size + 1, 0, none⟩) (trimL q).length q.length, .slice ra (toB 1000000000 r).length rc]) (n := w3.heap.size) [mark D] _ ⟨[D], rfl, by simp, fun E hE => by simp at hE; subst hE; exact ⟨k1, HD6.out⟩⟩ (fun W6 hk => ?_)
  refine ⟨(results_tmp2 (t := 4) (u := 5) rfl _ _ _).trans rfl, _, _, rfl, ?_, ?_, fun b hb => by cases hb; exact Nat.le_succ _, fun b hb => by have := HVN.out b hb; omega, E6.trans' hk.1 hz3⟩
  · rw [← HDN.out.1]; exact rowKeep HO6.out hk
  · rw [← HDN.out.2]; exact rowKeep HV6.out hk
end Go.Proofs.YtbpjbhbbkonjlaaGreatDoor
namespace Go.Proofs.YtbpjbhbbkonjlaaGreatDoor
open Go.RowKit
def readN (w : World) (a : Option Addr) (n : Nat) : List Nat := (List.range n).map fun i => match a with
  | some p => (match w.cell? ⟨p.block, p.off + i, none⟩ with | some (.int _ z) => z.toNat | _ => 0)
  | none => 0
theorem readN_eq {k : IntKind} {w : World} {a : Option Addr} {l : List Nat} (h : CellsN k w a l) : readN w a l.length = l := by
  apply List.ext_getElem (by simp [readN])
  intro i h1 h2
  obtain ⟨b, off, rfl, hc⟩ := h i h2
  simp [readN, hc, List.getD_eq_getElem?_getD, h2]
def natOf (w : World) : Value → Nat
  | .slice a n _ => valB 1000000000 (readN w a n)
  | _ => 0
theorem ordN_ge {a b : Nat} : 0 ≤ ordN a b ↔ b ≤ a := by
  unfold ordN
  by_cases h : a < b
  · rw [if_pos h]; omega
  · rw [if_neg h]
    by_cases k : b < a
    · rw [if_pos k]; omega
    · rw [if_neg k]; omega
def NewC (x : Nat) (w : World) (e : Ending) (w' : World) : Prop := ∃ a c, e = .returned (.slice a (toB 1000000000 x).length c) ∧ CellsN .u64 w' a (toB 1000000000 x) ∧ Ext w w'
theorem OwnNPost.newC {x : Nat} {w : World} {e : Ending} {w' : World} (h : OwnNPost .u64 164 (toB 1000000000 x) w e w') : NewC x w e w' := by
  obtain ⟨v, h1, h2, _, h4⟩ := h
  obtain ⟨a, c, rfl, h5, _⟩ := h2.reads
  exact ⟨a, c, h1, h5, h4⟩
theorem natOf_eq {w : World} {a : Option Addr} {x c : Nat} (h : CellsN .u64 w a (toB 1000000000 x)) : natOf w (.slice a (toB 1000000000 x).length c) = x := by
  unfold natOf
  simp only
  rw [readN_eq h, valB_toB (by omega)]
theorem len_pos {x : Nat} (h : x ≠ 0) : 0 < (toB 1000000000 x).length := by rw [toB_pos (by omega) h]; simp
theorem len_zero {x : Nat} (h : x = 0) : (toB 1000000000 x).length = 0 := by rw [h, toB_zero]; rfl
theorem len_le {x : Nat} (h : x < 1000000000 ^ 101) : (toB 1000000000 x).length ≤ 101 := toB_len (by omega) 101 h
theorem lt_of_len {l : List Nat} {x : Nat} (h : l = toB 1000000000 x) (hl : l.length ≤ 100) : x < 1000000000 ^ 100 := by
  have h1 := valB_lt (okB_toB (B := 1000000000) (by omega) x)
  rw [valB_toB (by omega), ← h] at h1
  exact Nat.lt_of_lt_of_le h1 (Nat.pow_le_pow_right (by omega) hl)
theorem pow_le_two {a b c : Nat} (h : 1000000000 ≤ 2 ^ b) (k : b * a ≤ c) : 1000000000 ^ a ≤ 2 ^ c := by
  have h1 := Nat.pow_le_pow_left h a
  rw [← Nat.pow_mul] at h1
  exact Nat.le_trans h1 (Nat.pow_le_pow_right (by omega) k)
theorem GcdI.t_lt_of {x y a b t N k : Nat} (h : GcdI x y a b t) (hxy : x + y < 1000000000 ^ k) (hN : 30 * k ≤ N) : t < N := by
  have h1 : 2 ^ t ≤ (a + b) * 2 ^ t := Nat.le_mul_of_pos_left _ h.pos
  have h2 : 2 ^ t < 1000000000 ^ k := Nat.lt_of_le_of_lt (Nat.le_trans h1 h.le) hxy
  have h3 : 1000000000 ^ k ≤ 2 ^ N := pow_le_two (b := 30) (by omega) hN
  exact (Nat.pow_lt_pow_iff_right (by omega)).1 (Nat.lt_of_lt_of_le h2 h3)
theorem GcdI.t_lt {x y a b t : Nat} (h : GcdI x y a b t) (hxy : x + y < 1000000000 ^ 101) : t < 5000 := h.t_lt_of hxy (by omega)
theorem GcdI.ab_le {x y a b t : Nat} (h : GcdI x y a b t) : a + b ≤ x + y := Nat.le_trans (Nat.le_mul_of_pos_right _ (Nat.pow_pos (by omega))) h.le
structure DivW (x y : Nat) (w0 : World) (va vb : Value) (a b t : Nat) (w : World) : Prop where
  g : GcdI x y a b t
  a : ∃ pa pc, va = .slice pa (toB 1000000000 a).length pc ∧ CellsN .u64 w pa (toB 1000000000 a)
  b : ∃ qa qc, vb = .slice qa (toB 1000000000 b).length qc ∧ CellsN .u64 w qa (toB 1000000000 b)
  e : Ext w0 w
set_option maxHeartbeats 8000000 in
set_option maxRecDepth 100000 in
theorem divisor_any (x y : Nat) (la lb : List Nat) (a b : Option Addr) (ca cb : Nat) (w : World) (hx : la = toB 1000000000 x) (hy : lb = toB 1000000000 y) (hxy : 0 < x + y)
    (hla : la.length ≤ 100) (hlb : lb.length ≤ 100) (ha : CellsN .u64 w a la) (hb : CellsN .u64 w b lb) :
    Calls Tryz.prog 101 #[.slice a la.length ca, .slice b lb.length cb] w (OwnNPost .u64 164 (toB 1000000000 (Nat.gcd x y)) w) := by
  have hxl := lt_of_len hx hla
  have hyl := lt_of_len hy hlb
  have hxyB : x + y < 1000000000 ^ 101 := by
    have : (1000000000 : Nat) ^ 101 = 1000000000 * 1000000000 ^ 100 := by rw [Nat.pow_succ, Nat.mul_comm]
    omega
  subst hx hy
  have HXY := Lib.hid hxyB
  have W0 : Hid (DivW x y w (.slice a (toB 1000000000 x).length ca) (.slice b (toB 1000000000 y).length cb) x y 0 w) := ⟨GcdI.start hxy, ⟨_, _, rfl, ha⟩, ⟨_, _, rfl, hb⟩, Ext.refl _⟩
  clear hxl hyl hxyB ha hb hxy
  generalize Value.slice a (toB 1000000000 x).length ca = va0 at W0 ⊢
  generalize Value.slice b (toB 1000000000 y).length cb = vb0 at W0 ⊢
  clear hla hlb
  go_enter Tryz.func101, Tryz.ntmps101
  go_wp2
  go_loopw [0, 1, 5] (fun va vb tw wr => ∃ (p q t : Nat), tw = .int .i64 (t : Int) ∧ Hid (DivW x y w va vb p q t wr)) (fun va vb _ wr => natOf wr va + natOf wr vb)
  case atStart => exact ⟨x, y, 0, rfl, W0.out⟩
  case round =>
    obtain ⟨p, q, t, rfl, HW⟩ := hrel
    obtain ⟨hg, ⟨pa, pc, rfl, hpc⟩, ⟨qa, qc, rfl, hqc⟩, he⟩ := HW.out
    have hpq := hg.ab_le
    have hxb := HXY.out
    have hpl := len_le (x := p) (by omega)
    have hql := len_le (x := q) (by omega)
    have ht := hg.t_lt hxb
    have HM : Hid (natOf wr (.slice pa (toB 1000000000 p).length pc) + natOf wr (.slice qa (toB 1000000000 q).length qc) = p + q) := by
      show _ = _
      rw [natOf_eq hpc, natOf_eq hqc]
    have HG := Lib.hid hg
    have HP := Lib.hid hpc
    have HQ := Lib.hid hqc
    have HE := Lib.hid he
    clear hpc hqc hxb hpq W0 HW
    by_cases h0 : p = 0 ∨ q = 0
    · have HD : Hid (2 ^ t * (p + q) = Nat.gcd x y) := hg.done h0
      have HLE : Hid (∀ k, k ≤ t → (toB 1000000000 (2 ^ k * (p + q))).length ≤ 101) := fun k hk => len_le (by
        have h1 : 2 ^ k * (p + q) ≤ 2 ^ t * (p + q) := Nat.mul_le_mul_right _ (Nat.pow_le_pow_right (by omega) hk)
        have h2 := hg.le
        rw [Nat.mul_comm] at h2
        have := HXY.out
        omega)
      have H0 : Hid (2 ^ 0 * (p + q) = p + q) := by show _ = _; simp
      have hlen : (toB 1000000000 p).length = 0 ∨ (0 < (toB 1000000000 p).length ∧ (toB 1000000000 q).length = 0) := by
        rcases h0 with h | h
        · exact .inl (len_zero h)
        · by_cases hp : p = 0
          · exact .inl (len_zero hp)
          · exact .inr ⟨len_pos hp, len_zero h⟩
      have HPL := Lib.hid (show ∀ W, Ext wr W → _ from fun W hW => plus_any p q _ _ pa qa pc qc W rfl rfl (by omega) (by omega) (HP.out.ext hW) (HQ.out.ext hW))
      generalize (toB 1000000000 p).length = lp at *
      generalize (toB 1000000000 q).length = lq at *
      have HZ : Hid (∀ v W, OwnsN .u64 164 W v (toB 1000000000 (p + q)) → OwnsN .u64 164 W v (toB 1000000000 (2 ^ 0 * (p + q)))) := fun v W h => by rw [H0.out]; exact h
      have HS : Hid (∀ k, 2 ^ k * (p + q) + 2 ^ k * (p + q) = 2 ^ (k + 1) * (p + q)) := fun k => two_pow_step k _
      generalize p + q = g at *
      clear h0 hg HM HG HP HQ H0
      rcases hlen with h | ⟨h1, h2⟩
      · subst h
        go_wp2_with fail
        refine (HPL.out _ extA).mono ?_
        rintro e w1 ⟨ov, rfl, O1, N1, E1⟩
        have HO1 := Lib.hid (HZ.out _ _ O1)
        have HN1 : Hid (∀ b, ov.ownBlock = some b → w.heap.size ≤ b) := fun b hb => Nat.le_trans he.size (N1 b hb)
        have F1 := he.trans E1
        clear O1 N1 E1 HPL HZ he
        go_wp2
        go_loopw [6, 53] (fun v i wl => ∃ (k : Nat) (vv : Value), v = vv ∧ i = .int .i64 (k : Int) ∧ k ≤ t ∧ Hid (OwnsN .u64 164 wl vv (toB 1000000000 (2 ^ k * g))) ∧ Hid (∀ b, vv.ownBlock = some b → w.heap.size ≤ b) ∧ Ext w wl) (fun _ i _ => t - (intOf i).toNat)
        case atStart => exact ⟨0, _, rfl, rfl, Nat.zero_le _, HO1.out, HN1.out, F1⟩
        case round =>
          obtain ⟨k, vv, hvv, rfl, hk, HO, HN, he⟩ := hrel
          obtain rfl := hvv.symm
          obtain ⟨oa, oc, rfl, hoc, _, _⟩ := HO.out.reads
          have HOC := Lib.hid hoc
          have hl := HLE.out k hk
          clear hoc HO1 HN1 F1
          by_cases hkt : k < t
          · have hki : (k : Int) < (t : Int) := by omega
            have HPP := Lib.hid (plus_any (2 ^ k * g) (2 ^ k * g) _ _ oa oa oc oc wr rfl rfl (by omega) (by omega) HOC.out HOC.out)
            rw [HS.out] at HPP
            generalize (toB 1000000000 (2 ^ k * g)).length = lk at *
            clear HO HOC hl
            go_wp2_with fail
            refine HPP.out.mono ?_
            rintro e w5 ⟨v5, rfl, O5, N5, E5⟩
            have HO5 := Lib.hid O5
            have HN5 : Hid (∀ b, v5.ownBlock = some b → w.heap.size ≤ b) := fun b hb => Nat.le_trans he.size (N5 b hb)
            have F5 := he.trans E5
            clear O5 N5 E5 HPP HN he
            go_wp2
            refine ⟨⟨k + 1, v5, rfl, by go_num, by omega, HO5, HN5, F5⟩, by simp [intOf]; omega⟩
          · have hke : k = t := by omega
            have hki : ¬ (k : Int) < (t : Int) := by omega
            have HF : Hid (OwnsN .u64 164 wr (.slice oa (toB 1000000000 (2 ^ k * g)).length oc) (toB 1000000000 (Nat.gcd x y))) := by
              show OwnsN _ _ _ _ _
              have h1 := HO.out
              have h2 := HD.out
              rw [← hke] at h2
              rw [← h2]
              exact h1
            generalize (toB 1000000000 (2 ^ k * g)).length = lk at *
            clear HO HOC hl hke
            go_wp2
            go_ret
            exact ⟨_, rfl, HF.out, HN.out, he⟩
      · subst h2
        have h3 : (0 : Int) < (lp : Int) := by omega
        go_wp2_with fail
        refine (HPL.out _ extA).mono ?_
        rintro e w1 ⟨ov, rfl, O1, N1, E1⟩
        have HO1 := Lib.hid (HZ.out _ _ O1)
        have HN1 : Hid (∀ b, ov.ownBlock = some b → w.heap.size ≤ b) := fun b hb => Nat.le_trans he.size (N1 b hb)
        have F1 := he.trans E1
        clear O1 N1 E1 HPL HZ he
        go_wp2
        go_loopw [6, 53] (fun v i wl => ∃ (k : Nat) (vv : Value), v = vv ∧ i = .int .i64 (k : Int) ∧ k ≤ t ∧ Hid (OwnsN .u64 164 wl vv (toB 1000000000 (2 ^ k * g))) ∧ Hid (∀ b, vv.ownBlock = some b → w.heap.size ≤ b) ∧ Ext w wl) (fun _ i _ => t - (intOf i).toNat)
        case atStart => exact ⟨0, _, rfl, rfl, Nat.zero_le _, HO1.out, HN1.out, F1⟩
        case round =>
          obtain ⟨k, vv, hvv, rfl, hk, HO, HN, he⟩ := hrel
          obtain rfl := hvv.symm
          obtain ⟨oa, oc, rfl, hoc, _, _⟩ := HO.out.reads
          have HOC := Lib.hid hoc
          have hl := HLE.out k hk
          clear hoc HO1 HN1 F1
          by_cases hkt : k < t
          · have hki : (k : Int) < (t : Int) := by omega
            have HPP := Lib.hid (plus_any (2 ^ k * g) (2 ^ k * g) _ _ oa oa oc oc wr rfl rfl (by omega) (by omega) HOC.out HOC.out)
            rw [HS.out] at HPP
            generalize (toB 1000000000 (2 ^ k * g)).length = lk at *
            clear HO HOC hl
            go_wp2_with fail
            refine HPP.out.mono ?_
            rintro e w5 ⟨v5, rfl, O5, N5, E5⟩
            have HO5 := Lib.hid O5
            have HN5 : Hid (∀ b, v5.ownBlock = some b → w.heap.size ≤ b) := fun b hb => Nat.le_trans he.size (N5 b hb)
            have F5 := he.trans E5
            clear O5 N5 E5 HPP HN he
            go_wp2
            refine ⟨⟨k + 1, v5, rfl, by go_num, by omega, HO5, HN5, F5⟩, by simp [intOf]; omega⟩
          · have hke : k = t := by omega
            have hki : ¬ (k : Int) < (t : Int) := by omega
            have HF : Hid (OwnsN .u64 164 wr (.slice oa (toB 1000000000 (2 ^ k * g)).length oc) (toB 1000000000 (Nat.gcd x y))) := by
              show OwnsN _ _ _ _ _
              have h1 := HO.out
              have h2 := HD.out
              rw [← hke] at h2
              rw [← h2]
              exact h1
            generalize (toB 1000000000 (2 ^ k * g)).length = lk at *
            clear HO HOC hl hke
            go_wp2
            go_ret
            exact ⟨_, rfl, HF.out, HN.out, he⟩
    · have hp0 : p ≠ 0 := fun e => h0 (.inl e)
      have hq0 : q ≠ 0 := fun e => h0 (.inr e)
      have lp := len_pos hp0
      have lq := len_pos hq0
      have lpi : (0 : Int) < ((toB 1000000000 p).length : Int) := by omega
      have lqi : (0 : Int) < ((toB 1000000000 q).length : Int) := by omega
      obtain ⟨fp, hfp⟩ : ∃ f, f = decide (p % 2 = 0) := ⟨_, rfl⟩
      obtain ⟨fq, hfq⟩ : ∃ f, f = decide (q % 2 = 0) := ⟨_, rfl⟩
      have HEp : Hid (∀ W, Ext wr W → Calls Tryz.prog 124 #[.slice pa (toB 1000000000 p).length pc] W fun e w' => e = .returned (.bool fp) ∧ Ext W w') := fun W hW => by
        rw [hfp]; exact even_any p _ pa pc W rfl (HP.out.ext hW) (by omega)
      have HEq : Hid (∀ W, Ext wr W → Calls Tryz.prog 124 #[.slice qa (toB 1000000000 q).length qc] W fun e w' => e = .returned (.bool fq) ∧ Ext W w') := fun W hW => by
        rw [hfq]; exact even_any q _ qa qc W rfl (HQ.out.ext hW) (by omega)
      have HHp : Hid (∀ W, Ext wr W → Calls Tryz.prog 125 #[.slice pa (toB 1000000000 p).length pc] W (NewC (p / 2) W)) := fun W hW =>
        (half_any p _ pa pc W rfl (by omega) lp (HP.out.ext hW)).mono fun _ _ h => h.newC
      have HHq : Hid (∀ W, Ext wr W → Calls Tryz.prog 125 #[.slice qa (toB 1000000000 q).length qc] W (NewC (q / 2) W)) := fun W hW =>
        (half_any q _ qa qc W rfl (by omega) lq (HQ.out.ext hW)).mono fun _ _ h => h.newC
      clear h0
      cases fp
      · have hpo : p % 2 ≠ 0 := fun e => by rw [e] at hfp; simp at hfp
        cases fq
        · have hqo : q % 2 ≠ 0 := fun e => by rw [e] at hfq; simp at hfq
          clear hfp hfq
          by_cases hle : q ≤ p
          · obtain ⟨z, hz, hz0⟩ : ∃ z, ordN p q = z ∧ 0 ≤ z := ⟨_, rfl, ordN_ge.2 hle⟩
            have HCC : Hid (∀ W, Ext wr W → Calls Tryz.prog 100 #[.slice pa (toB 1000000000 p).length pc, .slice qa (toB 1000000000 q).length qc] W fun e w' => e = .returned (.int .i64 z) ∧ Ext W w') := fun W hW => by
              rw [← hz]; exact compare_any p q _ _ pa qa pc qc W rfl rfl (by omega) (by omega) (HP.out.ext hW) (HQ.out.ext hW)
            have HMM : Hid (∀ W, Ext wr W → Calls Tryz.prog 116 #[.slice pa (toB 1000000000 p).length pc, .slice qa (toB 1000000000 q).length qc] W (NewC (p - q) W)) := fun W hW =>
              (minus_any p q _ _ pa qa pc qc W rfl rfl hle (by omega) (HP.out.ext hW) (HQ.out.ext hW)).mono fun _ _ h => h.newC
            have HG2 := Lib.hid (hg.less (by omega) hle)
            have hms : p - q + q < p + q := by omega
            clear hz hg hle hpo hqo he
            go_wp2_with (first
          | (go_at_call 124; (with_reducible refine (HEp.out _ extA).mono ?_); rintro e w' ⟨rfl, hE⟩)
          | (go_at_call 124; (with_reducible refine (HEq.out _ extA).mono ?_); rintro e w' ⟨rfl, hE⟩)
          | (go_at_call 125; (with_reducible refine (HHp.out _ extA).mono ?_); rintro e w' ⟨na, nc, rfl, hCp, hE⟩)
          | (go_at_call 125; (with_reducible refine (HHq.out _ extA).mono ?_); rintro e w' ⟨ma, mc, rfl, hCq, hE⟩)
          | (go_at_call 100; (with_reducible refine (HCC.out _ extA).mono ?_); rintro e w' ⟨rfl, hE⟩)
          | (go_at_call 116; (with_reducible refine (HMM.out _ extA).mono ?_); rintro e w' ⟨na, nc, rfl, hCp, hE⟩))
            have hEE : Ext wr w' := extA
            have hQ2 := HQ.out.ext hEE
            refine ⟨⟨_, _, _, rfl, HG2.out, ⟨_, _, rfl, hCp⟩, ⟨_, _, rfl, hQ2⟩, HE.out.trans hEE⟩, ?_⟩
            show natOf w' _ + natOf w' _ < natOf wr _ + natOf wr _
            rw [HM.out, natOf_eq hCp, natOf_eq hQ2]
            exact hms
          · have hlt : p ≤ q := by omega
            obtain ⟨z, hz, hz0⟩ : ∃ z, ordN p q = z ∧ ¬ 0 ≤ z := ⟨_, rfl, fun h => hle (ordN_ge.1 h)⟩
            have HCC : Hid (∀ W, Ext wr W → Calls Tryz.prog 100 #[.slice pa (toB 1000000000 p).length pc, .slice qa (toB 1000000000 q).length qc] W fun e w' => e = .returned (.int .i64 z) ∧ Ext W w') := fun W hW => by
              rw [← hz]; exact compare_any p q _ _ pa qa pc qc W rfl rfl (by omega) (by omega) (HP.out.ext hW) (HQ.out.ext hW)
            have HMM : Hid (∀ W, Ext wr W → Calls Tryz.prog 116 #[.slice qa (toB 1000000000 q).length qc, .slice pa (toB 1000000000 p).length pc] W (NewC (q - p) W)) := fun W hW =>
              (minus_any q p _ _ qa pa qc pc W rfl rfl hlt (by omega) (HQ.out.ext hW) (HP.out.ext hW)).mono fun _ _ h => h.newC
            have HG2 := Lib.hid (hg.less' (by omega) hlt)
            have hms : p + (q - p) < p + q := by omega
            clear hz hg hle hpo hqo he hlt
            go_wp2_with (first
          | (go_at_call 124; (with_reducible refine (HEp.out _ extA).mono ?_); rintro e w' ⟨rfl, hE⟩)
          | (go_at_call 124; (with_reducible refine (HEq.out _ extA).mono ?_); rintro e w' ⟨rfl, hE⟩)
          | (go_at_call 125; (with_reducible refine (HHp.out _ extA).mono ?_); rintro e w' ⟨na, nc, rfl, hCp, hE⟩)
          | (go_at_call 125; (with_reducible refine (HHq.out _ extA).mono ?_); rintro e w' ⟨ma, mc, rfl, hCq, hE⟩)
          | (go_at_call 100; (with_reducible refine (HCC.out _ extA).mono ?_); rintro e w' ⟨rfl, hE⟩)
          | (go_at_call 116; (with_reducible refine (HMM.out _ extA).mono ?_); rintro e w' ⟨na, nc, rfl, hCp, hE⟩))
            have hEE : Ext wr w' := extA
            have hP2 := HP.out.ext hEE
            have hQ2 := hCp
            refine ⟨⟨_, _, _, by go_num, HG2.out, ⟨_, _, rfl, hP2⟩, ⟨_, _, rfl, hQ2⟩, HE.out.trans hEE⟩, ?_⟩
            show natOf w' _ + natOf w' _ < natOf wr _ + natOf wr _
            rw [HM.out, natOf_eq hP2, natOf_eq hQ2]
            exact hms
        · have hqe : q % 2 = 0 := of_decide_eq_true hfq.symm
          have HG2 := Lib.hid (hg.right (by omega) hpo hqe)
          have hms : p + q / 2 < p + q := by omega
          have HCC : Hid True := trivial
          have HMM : Hid True := trivial
          clear hg he hfp hfq hpo hqe
          go_wp2_with (first
          | (go_at_call 124; (with_reducible refine (HEp.out _ extA).mono ?_); rintro e w' ⟨rfl, hE⟩)
          | (go_at_call 124; (with_reducible refine (HEq.out _ extA).mono ?_); rintro e w' ⟨rfl, hE⟩)
          | (go_at_call 125; (with_reducible refine (HHp.out _ extA).mono ?_); rintro e w' ⟨na, nc, rfl, hCp, hE⟩)
          | (go_at_call 125; (with_reducible refine (HHq.out _ extA).mono ?_); rintro e w' ⟨ma, mc, rfl, hCq, hE⟩)
          | (go_at_call 100; (with_reducible refine (HCC.out _ extA).mono ?_); rintro e w' ⟨rfl, hE⟩)
          | (go_at_call 116; (with_reducible refine (HMM.out _ extA).mono ?_); rintro e w' ⟨na, nc, rfl, hCp, hE⟩))
          have hEE : Ext wr w' := extA
          have hP2 := HP.out.ext hEE
          have hQ2 := hCq
          refine ⟨⟨_, _, _, by go_num, HG2.out, ⟨_, _, rfl, hP2⟩, ⟨_, _, rfl, hQ2⟩, HE.out.trans hEE⟩, ?_⟩
          show natOf w' _ + natOf w' _ < natOf wr _ + natOf wr _
          rw [HM.out, natOf_eq hP2, natOf_eq hQ2]
          exact hms
      · have hpe : p % 2 = 0 := of_decide_eq_true hfp.symm
        cases fq
        · have hqo : q % 2 ≠ 0 := fun e => by rw [e] at hfq; simp at hfq
          have HG2 := Lib.hid (hg.left (by omega) hpe hqo)
          have hms : p / 2 + q < p + q := by omega
          have HCC : Hid True := trivial
          have HMM : Hid True := trivial
          clear hg he hfp hfq hpe hqo
          go_wp2_with (first
          | (go_at_call 124; (with_reducible refine (HEp.out _ extA).mono ?_); rintro e w' ⟨rfl, hE⟩)
          | (go_at_call 124; (with_reducible refine (HEq.out _ extA).mono ?_); rintro e w' ⟨rfl, hE⟩)
          | (go_at_call 125; (with_reducible refine (HHp.out _ extA).mono ?_); rintro e w' ⟨na, nc, rfl, hCp, hE⟩)
          | (go_at_call 125; (with_reducible refine (HHq.out _ extA).mono ?_); rintro e w' ⟨ma, mc, rfl, hCq, hE⟩)
          | (go_at_call 100; (with_reducible refine (HCC.out _ extA).mono ?_); rintro e w' ⟨rfl, hE⟩)
          | (go_at_call 116; (with_reducible refine (HMM.out _ extA).mono ?_); rintro e w' ⟨na, nc, rfl, hCp, hE⟩))
          have hEE : Ext wr w' := extA
          have hP2 := hCp
          have hQ2 := HQ.out.ext hEE
          refine ⟨⟨_, _, _, by go_num, HG2.out, ⟨_, _, rfl, hP2⟩, ⟨_, _, rfl, hQ2⟩, HE.out.trans hEE⟩, ?_⟩
          show natOf w' _ + natOf w' _ < natOf wr _ + natOf wr _
          rw [HM.out, natOf_eq hP2, natOf_eq hQ2]
          exact hms
        · have hqe : q % 2 = 0 := of_decide_eq_true hfq.symm
          have HG2 := Lib.hid (hg.both (by omega) hpe hqe)
          have hms : p / 2 + q / 2 < p + q := by omega
          have HCC : Hid True := trivial
          have HMM : Hid True := trivial
          clear hg he hfp hfq hpe hqe
          go_wp2_with (first
          | (go_at_call 124; (with_reducible refine (HEp.out _ extA).mono ?_); rintro e w' ⟨rfl, hE⟩)
          | (go_at_call 124; (with_reducible refine (HEq.out _ extA).mono ?_); rintro e w' ⟨rfl, hE⟩)
          | (go_at_call 125; (with_reducible refine (HHp.out _ extA).mono ?_); rintro e w' ⟨na, nc, rfl, hCp, hE⟩)
          | (go_at_call 125; (with_reducible refine (HHq.out _ extA).mono ?_); rintro e w' ⟨ma, mc, rfl, hCq, hE⟩)
          | (go_at_call 100; (with_reducible refine (HCC.out _ extA).mono ?_); rintro e w' ⟨rfl, hE⟩)
          | (go_at_call 116; (with_reducible refine (HMM.out _ extA).mono ?_); rintro e w' ⟨na, nc, rfl, hCp, hE⟩))
          have hEE : Ext wr w' := extA
          have hP2 := hCp.ext hE
          have hQ2 := hCq
          refine ⟨⟨_, _, _, by go_num, HG2.out, ⟨_, _, rfl, hP2⟩, ⟨_, _, rfl, hQ2⟩, HE.out.trans hEE⟩, ?_⟩
          show natOf w' _ + natOf w' _ < natOf wr _ + natOf wr _
          rw [HM.out, natOf_eq hP2, natOf_eq hQ2]
          exact hms
end Go.Proofs.YtbpjbhbbkonjlaaGreatDoor
namespace Go.Proofs.YtbpjbhbbkonjlaaGreatDoor
open Go.RowKit
theorem src_none {P : Program} {w : World} {size : Nat} {tx e' : TypeId} (hk : P.underlying tx = some (.slice e')) (a : Option Addr) (c : Nat) : Src P size tx (.slice a 0 c) 0 [] w := by
  cases a with
  | none => exact Src.ofNil w hk c
  | some a => exact Src.ofSlice w hk a 0 c [] (by simp) (fun j u h => by simp at h) (fun u h => by cases h)
theorem wpList_appendN (n0 : Nat) (w : World) {ops : Array Oper} {rest : List Oper} {o : Oper} {a : Act} {Q : Exit → Act → World → Prop} (hgd : o.guard = none) (s x : Operand)
    (ho : o.op = .call { callee := .builtin .append, args := #[s, x], argTypes := #[103, 103] })
    (b c : Nat) (l m : List Nat) (hs : a.eval s = .slice (some ⟨b, 0, none⟩) l.length c) (hown : OwnsN .i64 3 w (.slice (some ⟨b, 0, none⟩) l.length c) l) (u : Value) (hx : a.eval x = u) (hu : SliceN .i64 w u m)
    (hn : n0 ≤ w.heap.size) (hb : n0 ≤ b) (hlen : l.length + m.length ≤ 10000)
    (h : ∀ v' w', OwnsN .i64 3 w' v' (l ++ m) → Below n0 w w' → (∀ g, v'.ownBlock = some g → n0 ≤ g) → wpList Tryz.prog ops Q rest (a.put o.dst v') w') : wpList Tryz.prog ops Q (o :: rest) a w := by
  obtain ⟨i0, hi, hi0, hi1, hi2⟩ := info_parts infoI64
  obtain ⟨ua, uc, rfl, hc, hr⟩ := hu
  rcases m with _ | ⟨y, m⟩
  · have hroom : l.length ≤ c := by
      obtain ⟨_, _, e, _, hR, _⟩ := hown.reads
      obtain ⟨_, _, e3⟩ := Value.slice.inj e
      subst e3
      exact hR.1
    refine wpList_append_room1 w hgd s x 103 103 ho 3 (.int .i64 0) 8 Tryz.underlying103 infoI64 b 0 l.length c hs _ hx 0 [] (src_none Tryz.underlying103 _ _) hroom (fun j hj => by simp at hj) (fun j hj => by simp at hj) ?_
    refine h _ _ ?_ (Below.refl _ _) (fun g hg => by cases hg; exact hb)
    rw [List.append_nil]
    exact hown
  · obtain ⟨g, off, rfl⟩ := hr.2.2 (by simp)
    refine wpList_append1 w hgd s x 103 ho 3 i0 (.int .i64 0) 1 8 Tryz.underlying103 hi hi0 hi1 hi2 rfl (by decide) _ l.length (natsV .i64 l) hs hown ⟨g, off, none⟩ (y :: m).length uc (by simp) (natsV .i64 (y :: m)) hx (by rw [natsV_len, Nat.mul_one]) ?_ ?_ (by unfold maxLen; omega) (by omega) ?_
    · intro j v hj
      have hjl : j < (y :: m).length := by rw [← natsV_len .i64]; exact (List.getElem?_eq_some_iff.1 hj).1
      rw [natsV_get hjl] at hj
      obtain ⟨b', o', e, h1⟩ := hc j hjl
      cases e
      rw [Addr.add_lit]
      exact h1.trans hj
    · intro v hv
      unfold natsV at hv
      simp only [List.mem_map] at hv
      obtain ⟨z, _, rfl⟩ := hv
      rfl
    · intro v' w' h1 h2
      refine h v' w' ?_ (h2.below hn (fun k hk => by cases hk; exact hb)) (h2.ge hn (fun k hk => by cases hk; exact hb))
      unfold OwnsN
      rw [List.length_append]
      unfold natsV at h1 ⊢
      rw [List.map_append]
      exact h1
theorem owns_one (x : Nat) (w : World) : OwnsN .i64 3 (w.alloc (.cells #[.int .i64 (x : Int)] 3)) (.slice (some ⟨w.heap.size, 0, none⟩) [x].length 1) [x] :=
  ownsN_of (l := [x]) (cur := #[.int .i64 (x : Int)]) (by show (w.heap.push _)[w.heap.size]? = _; exact Array.getElem?_push_size) (Nat.le_refl _) (by unfold maxLen; omega) rfl (fun j hj => by
    have hj0 : j = 0 := by simpa using hj
    subst hj0; rfl)
theorem cells_one' (x : Nat) (w : World) : CellsN .i64 (w.alloc (.cells #[.int .i64 (x : Int)] 3)) (some ⟨w.heap.size, 0, none⟩) [x] := by
  obtain ⟨a, cap, e, h, _⟩ := (owns_one x w).reads
  cases e
  exact h
theorem OwnsN.cells {k : IntKind} {t : TypeId} {w : World} {a : Option Addr} {n c : Nat} {l : List Nat} (h : OwnsN k t w (.slice a n c) l) : CellsN k w a l := by
  obtain ⟨a', c', e, h1, _⟩ := h.reads
  cases e
  exact h1
theorem ordN_neg {a b : Nat} : ordN a b < 0 ↔ a < b := by have := ordN_ge (a := a) (b := b); omega
structure QuoI (B : Nat) (a : List Nat) (m i r : Nat) (q : List Nat) : Prop where
  ov : OverI B a m i r q
  zr : ∀ j, j < i → q.getD j 0 = 0
theorem QuoI.start {B : Nat} (hB : 2 ≤ B) (a : List Nat) {m : Nat} (hm : 0 < m) : QuoI B a m a.length 0 (List.replicate a.length 0) :=
  ⟨OverI.start hB a hm, fun j hj => by rw [List.getD_eq_getElem?_getD, List.getElem?_replicate]; split <;> rfl⟩
theorem QuoI.skip {B : Nat} (hB : 2 ≤ B) {a : List Nat} (ha : OkB B a) {m i r : Nat} {q : List Nat} (h : QuoI B a m (i + 1) r q) (hi : i < a.length) (hs : a.getD i 0 + B * r < m) : QuoI B a m i (a.getD i 0 + B * r) q := by
  obtain ⟨_, h2⟩ := h.ov.next hB ha hi
  rw [Nat.mod_eq_of_lt hs, Nat.div_eq_of_lt hs] at h2
  have e : q.set i 0 = q := by
    apply List.ext_getElem?
    intro j
    rw [List.getElem?_set]
    by_cases hj : i = j
    · subst hj
      have hl : i < q.length := by rw [h.ov.len]; exact hi
      have hz := h.zr i (by omega)
      rw [List.getD_eq_getElem?_getD, List.getElem?_eq_getElem hl] at hz
      rw [if_pos rfl, if_pos hl, List.getElem?_eq_getElem hl]
      exact congrArg some hz.symm
    · rw [if_neg hj]
  rw [e] at h2
  exact ⟨h2, fun j hj => h.zr j (by omega)⟩
theorem QuoI.step {B : Nat} (hB : 2 ≤ B) {a : List Nat} (ha : OkB B a) {m i r x : Nat} {q : List Nat} (h : QuoI B a m (i + 1) r q) (hi : i < a.length)
    (h1 : m * x ≤ a.getD i 0 + B * r) (h2 : a.getD i 0 + B * r < m * (x + 1)) : QuoI B a m i (a.getD i 0 + B * r - m * x) (q.set i x) := by
  obtain ⟨_, h3⟩ := h.ov.next hB ha hi
  have e1 : (a.getD i 0 + B * r) / m = x := by
    refine Nat.div_eq_of_lt_le ?_ ?_
    · rw [Nat.mul_comm x m]; exact h1
    · rw [Nat.mul_comm (x + 1) m]; exact h2
  have e2 : (a.getD i 0 + B * r) % m = a.getD i 0 + B * r - m * x := by
    have e := Nat.div_add_mod (a.getD i 0 + B * r) m
    rw [e1] at e
    omega
  rw [e1, e2] at h3
  refine ⟨h3, fun j hj => ?_⟩
  rw [List.getD_eq_getElem?_getD, List.getElem?_set, if_neg (by omega), ← List.getD_eq_getElem?_getD]
  exact h.zr j (by omega)
theorem quo_row {B : Nat} (hB : 2 ≤ B) {x r : Nat} (hx : x < B) : trimL (x :: toB B r) = toB B (x + B * r) := by
  rw [trimL_toB hB (fun z hz => by
    rcases List.mem_cons.1 hz with rfl | hz
    · exact hx
    · exact okB_toB hB r z hz)]
  show toB B (x + B * valB B (toB B r)) = _
  rw [valB_toB hB]
theorem toB_mono {B : Nat} (hB : 2 ≤ B) {x y : Nat} (h : x ≤ y) : (toB B x).length ≤ (toB B y).length :=
  valB_le_len (okB_toB hB y) (trim_toB hB x) (by rw [valB_toB hB, valB_toB hB]; exact h) (by omega)
theorem toB_mul_len {B : Nat} (hB : 2 ≤ B) (y : Nat) : (toB B (B * y)).length ≤ (toB B y).length + 1 := by
  have h := quo_row hB (x := 0) (r := y) (by omega)
  rw [Nat.zero_add] at h
  rw [← h]
  obtain ⟨k, e, _⟩ := trimL_spec (0 :: toB B y)
  have := congrArg List.length e
  rw [List.length_append, List.length_cons] at this
  omega
end Go.Proofs.YtbpjbhbbkonjlaaGreatDoor
namespace Go.Proofs.YtbpjbhbbkonjlaaGreatDoor
open Go.RowKit
set_option maxHeartbeats 8000000 in
set_option maxRecDepth 100000 in
theorem quotientR_any (x y : Nat) (la lb : List Nat) (a b : Option Addr) (ca cb : Nat) (w : World) (hx : la = toB 1000000 x) (hy : lb = toB 1000000 y) (hy0 : 0 < y)
    (hla : la.length ≤ 100) (hlb : lb.length ≤ 100) (ha : CellsN .i64 w a la) (hb : CellsN .i64 w b lb) :
    Calls Tryz.prog 74 #[.slice a la.length ca, .slice b lb.length cb] w (OwnNPost2 .i64 3 (toB 1000000 (x / y)) (toB 1000000 (x % y)) w) := by
  have HA := Lib.hid ha
  have HB := Lib.hid hb
  have HX := Lib.hid hx
  have HY := Lib.hid hy
  have OA : Hid (OkB 1000000 la) := by show OkB _ _; rw [hx]; exact okB_toB (by omega) x
  have HYL : Hid (∀ z, z ≤ 1000000 * y → (toB 1000000 z).length ≤ lb.length + 1) := fun z hz => by
    have h1 := toB_mono (B := 1000000) (by omega) hz
    have h2 := toB_mul_len (B := 1000000) (by omega) y
    rw [← hy] at h2
    omega
  clear ha hb hx hy
  obtain ⟨N, hN⟩ : ∃ N, N = la.length := ⟨_, rfl⟩
  have hmk : (Instr.makeSlice 103 (.int .i64 (la.length : Int)) (.int .i64 (la.length : Int))).run Tryz.prog w = .ok (.slice (some ⟨w.heap.size, 0, none⟩) N N) (w.alloc (.cells (madeCells #[.int .i64 0] N) 3)) := by
    rw [← hN]
    exact run_make_row' _ _ (.int .i64 0) 8 Tryz.underlying103 infoI64 rfl _ _ N (by omega) (by omega) w
  have O0 : Hid (OwnsN .i64 3 (w.alloc (.cells (madeCells #[.int .i64 0] N) 3)) (.slice (some ⟨w.heap.size, 0, none⟩) N N) (List.replicate N 0)) := madeN _ _ _ N (by omega)
  have E0 : Ext w (w.alloc (.cells (madeCells #[.int .i64 0] N) 3)) := (Ext.refl _).alloc _
  have Z0 : w.heap.size < (w.alloc (.cells (madeCells #[.int .i64 0] N) 3)).heap.size := by simp
  generalize hW : w.alloc (.cells (madeCells #[.int .i64 0] N) 3) = W at hmk O0 E0 Z0
  clear hW
  obtain ⟨ob, hob⟩ : ∃ ob, ob = w.heap.size := ⟨_, rfl⟩
  rw [← hob] at hmk O0 Z0
  have HNN := Lib.hid hN
  have HOB := Lib.hid hob
  clear hN hob
  go_enter Tryz.func74, Tryz.ntmps74
  go_wp2
  clear hmk
  have HI0 : Hid (QuoI 1000000 la y la.length 0 (List.replicate N 0)) := by show QuoI _ _ _ _ _ _; rw [HNN.out]; exact QuoI.start (by omega) _ hy0
  go_loopw [7, 8] (fun v i wr => ∃ (k : Nat) (vv : Value), k ≤ la.length ∧ i = .int .i64 ((k : Int) - 1) ∧ v = vv ∧ Hid (∃ r q, QuoI 1000000 la y k r q ∧ OwnsN .i64 3 wr (.slice (some ⟨ob, 0, none⟩) N N) q ∧ OwnsN .i64 3 wr vv (toB 1000000 r)) ∧ Hid (∀ b, vv.ownBlock = some b → ob < b) ∧ ob < wr.heap.size ∧ Ext w wr) (fun _ i _ => (intOf i + 1).toNat)
  case atStart => exact ⟨la.length, _, Nat.le_refl _, by go_num, rfl, ⟨0, _, HI0.out, O0.out, by rw [toB_zero]; exact OwnsN.nil _ _ _⟩, (fun b hb => by cases hb), Z0, E0⟩
  case round =>
    obtain ⟨k, vv, hk, rfl, hvv, hw, HN, hobz, he⟩ := hrel
    obtain rfl := hvv.symm
    obtain ⟨r, q, hI, hO, hV⟩ := hw.out
    have HI := Lib.hid hI
    have HO := Lib.hid hO
    have HV := Lib.hid hV
    have hr : r < y := hI.ov.lt
    have HQL := Lib.hid hI.ov.len
    clear hI hO hV hw
    rcases k with _ | k
    · have hdone : Hid (trimL q = toB 1000000 (x / y) ∧ r = x % y) := by
        have h := HI.out.ov.done (by omega)
        rw [HX.out, valB_toB (by omega)] at h
        exact h
      have hNq : N = q.length := by rw [HNN.out, HQL.out]
      have HO2 : Hid (OwnsN .i64 3 wr (.slice (some ⟨ob, 0, none⟩) q.length N) q) := by
        have := HO.out
        show OwnsN _ _ _ _ _
        rw [← hNq]; exact this
      obtain ⟨oa, oc, hov, hoc, hor, _⟩ := HO2.out.reads
      obtain ⟨e1, _, e3⟩ := Value.slice.inj hov
      subst e1 e3
      have HT := Lib.hid (trimR_any q (some ⟨ob, 0, none⟩) N wr hor hoc)
      clear hoc hor hov
      have HNQ := Lib.hid hNq
      clear hNq HQL
      go_wp2_with (go_at_call 75; rw [HNQ.out] at HT ⊢; refine HT.out.mono ?_; rintro e w5 ⟨rfl, hn5, hE5⟩; rw [← HNQ.out])
      have HT5 := Lib.hid ((HO2.out.ext hE5).trim hn5)
      have HV5 := Lib.hid (HV.out.ext hE5)
      have E5 := he.trans hE5
      clear hn5 hE5 HO2 HO HV HT
      go_ret2
      refine ⟨.slice (some ⟨ob, 0, none⟩) (trimL q).length N, vv, rfl, ?_, ?_, ?_, ?_, E5⟩
      · rw [← hdone.out.1]; exact HT5.out
      · rw [← hdone.out.2]; exact HV5.out
      · intro g hg; cases hg; rw [HOB.out]; exact Nat.le_refl _
      · intro g hg; have := HN.out g hg; have := HOB.out; omega
    · obtain ⟨p, hp⟩ : ∃ p, p = la.getD k 0 := ⟨_, rfl⟩
      have hpb : p < 1000000 := by rw [hp]; exact okB_getD OA.out (by omega) k
      obtain ⟨b1, o1, ha1, p1⟩ := HA.out.ext he k (by omega)
      subst ha1
      rw [← hp] at p1
      obtain ⟨s, hs⟩ : ∃ s, s = p + 1000000 * r := ⟨_, rfl⟩
      have hsy : s < 1000000 * y := by omega
      have HSKIP : Hid (s < y → QuoI 1000000 la y k s q) := fun h => by
        have h1 := HI.out.skip (by omega) OA.out (by omega) (by rw [← hp, ← hs]; exact h)
        rw [← hp, ← hs] at h1
        exact h1
      have HSTEP : Hid (∀ z, y * z ≤ s → s < y * (z + 1) → QuoI 1000000 la y k (s - y * z) (q.set k z)) := fun z h1 h2 => by
        have h3 := HI.out.step (by omega) OA.out (by omega) (x := z) (by rw [← hp, ← hs]; exact h1) (by rw [← hp, ← hs]; exact h2)
        rw [← hp, ← hs] at h3
        exact h3
      have HROW : Hid (trimL (p :: toB 1000000 r) = toB 1000000 s) := by show _ = _; rw [hs]; exact quo_row (by omega) hpb
      have hrl : (toB 1000000 r).length ≤ lb.length := by
        have := toB_mono (B := 1000000) (by omega) (Nat.le_of_lt hr)
        rw [← HY.out] at this; exact this
      have hkk : ((k + 1 : Nat) : Int) - 1 = (k : Int) := by omega
      rw [hkk]
      clear hp hs hpb HI
      go_wp2_with (at_builtin; refine wpList_appendN (ob + 1) _ rfl _ _ rfl wr.heap.size 1 [p] (toB 1000000 r) rfl (owns_one p wr) vv rfl (HV.out.slice.ext ((Ext.refl _).alloc _)) (by simp; omega) (by omega) (by simp; omega) ?_)
      all_goals
        intro v5 w5 o5 b5 n5
        obtain ⟨a5, c5, rfl, oc5, or5, _⟩ := o5.reads
        have HT5 := Lib.hid (trimR_any (p :: toB 1000000 r) a5 c5 w5 or5 oc5)
        have H5 := Lib.hid (And.intro o5 (And.intro b5 n5))
        clear o5 b5 n5 oc5 or5
        go_wp2_with (go_at_call 75; refine HT5.out.mono ?_; rintro e w6 ⟨rfl, hn6, hE6⟩; rw [HROW.out])
        have H6 : Hid (OwnsN .i64 3 w6 (.slice a5 (toB 1000000 s).length c5) (toB 1000000 s)) := by
          have h := (H5.out.1.ext hE6).trim hn6
          rw [HROW.out] at h
          exact h
        have HN6 : Hid (∀ b, (Value.slice a5 (toB 1000000 s).length c5).ownBlock = some b → ob < b) := fun b hb => H5.out.2.2 b (by cases a5 <;> exact hb)
        have B6 : Below (ob + 1) wr w6 := ((((Ext.refl _).alloc _).mono (by omega)).trans H5.out.2.1).trans (hE6.mono (by have := H5.out.2.1.size; simp at this; omega))
        have HO6 : Hid (OwnsN .i64 3 w6 (.slice (some ⟨ob, 0, none⟩) N N) q) := HO.out.same (fun g hg => by cases hg; exact Below.block B6 ob (by omega))
        have E6 : Ext w w6 := he.trans' B6 (by rw [HOB.out]; omega)
        have hz6 : ob < w6.heap.size := Nat.lt_of_lt_of_le hobz B6.size
        have hsl : (toB 1000000 s).length ≤ lb.length + 1 := HYL.out s (by omega)
        clear H5 HT5 hn6 hE6 B6 HROW HV HO HN hobz p1 he
        by_cases hc : s < y
        · have hlt : ordN s y < 0 := ordN_neg.2 hc
          go_wp2_with ((go_at_call 51; (with_reducible refine (orderR_any s y (toB 1000000 s) lb a5 b c5 cb w6 rfl HY.out (by omega) (by omega) H6.out.cells (HB.out.ext E6)).mono ?_); rintro e w1 ⟨rfl, hE⟩))
          have HS := Lib.hid (HSKIP.out hc)
          have H7 := Lib.hid (H6.out.ext hE)
          have HO7 := Lib.hid (HO6.out.ext hE)
          have E7 := E6.trans hE
          have hz7 : ob < w1.heap.size := Nat.lt_of_lt_of_le hz6 hE.size
          have hm : ((k : Int) - 1 + 1).toNat < ((k : Int) + 1).toNat := by omega
          clear H6 HO6 E6 hE hz6 HSKIP HSTEP
          go_wp2
          refine ⟨⟨k, _, by omega, by go_num, rfl, ⟨s, q, HS.out, HO7.out, H7.out⟩, HN6, hz7, E7⟩, by simp [intOf]⟩
        · have hlt : ¬ ordN s y < 0 := fun h => hc (ordN_neg.1 h)
          go_wp2_with ((go_at_call 51; (with_reducible refine (orderR_any s y (toB 1000000 s) lb a5 b c5 cb w6 rfl HY.out (by omega) (by omega) H6.out.cells (HB.out.ext E6)).mono ?_); rintro e w1 ⟨rfl, hE⟩))
          obtain ⟨wo, hwo⟩ : ∃ wo, wo = w1 := ⟨w1, rfl⟩
          subst hwo
          have H7 := Lib.hid (H6.out.ext hE)
          have HO7 := Lib.hid (HO6.out.ext hE)
          have E7 := E6.trans hE
          have hz7 : ob < wo.heap.size := Nat.lt_of_lt_of_le hz6 hE.size
          clear H6 HO6 E6 hE hz6 HSKIP hlt
          go_wp2
          go_loopw [9, 10] (fun lo hi wr => ∃ (l h : Nat), l ≤ h ∧ h ≤ 999999 ∧ lo = .int .i64 l ∧ hi = .int .i64 h ∧ Hid (y * l ≤ s ∧ s < y * (h + 1)) ∧ Ext wo wr) (fun lo hi _ => (intOf hi - intOf lo).toNat)
          case atStart => exact ⟨0, 999999, by omega, by omega, rfl, rfl, ⟨by omega, by rw [Nat.mul_comm]; omega⟩, Ext.refl _⟩
          case round =>
            obtain ⟨l, h, hlh, hh, rfl, rfl, hin, he⟩ := hrel
            by_cases hl : l < h
            · obtain ⟨m, hm⟩ : ∃ m, m = (l + h + 1) / 2 := ⟨_, rfl⟩
              have hm1 : l < m := by omega
              have hm2 : m ≤ h := by omega
              have hw1 : IntKind.i64.wrap ((l : Int) + (h : Int)) = (l : Int) + (h : Int) := by rw [IntKind.wrap_i64]; omega
              have hw2 : IntKind.i64.wrap ((l : Int) + (h : Int) + 1) = (l : Int) + (h : Int) + 1 := by rw [IntKind.wrap_i64]; omega
              have ht : ((l : Int) + (h : Int) + 1).tdiv 2 = (m : Int) := by rw [Int.tdiv_eq_ediv_of_nonneg (by omega)]; omega
              have hw3 : IntKind.i64.wrap (m : Int) = (m : Int) := by rw [IntKind.wrap_i64]; omega
              have hw4 : IntKind.i64.wrap ((m : Int) - 1) = (m : Int) - 1 := by rw [IntKind.wrap_i64]; omega
              have HM : Hid ([m] = toB 1000000 m) := (toB_one (by omega) (by omega) (by omega)).symm
              have hym : (toB 1000000 (y * m)).length ≤ lb.length + 1 := HYL.out _ (by rw [Nat.mul_comm]; exact Nat.mul_le_mul_right _ (by omega))
              clear hm
              go_wp2_with (go_at_call 76; refine (timesR_any y m lb [m] b _ cb 1 _ HY.out HM.out (by omega) (by simp) (HB.out.ext (E7.trans (he.alloc _))) (cells_one' m wr)).mono ?_; rintro e w8 ⟨v8, rfl, o8, n8, e8⟩)
              all_goals
                obtain ⟨a8, c8, rfl, oc8, _, _⟩ := o8.reads
                have E8 : Ext wo w8 := (he.alloc _).trans e8
                have OC8 := Lib.hid oc8
                clear o8 n8 e8 oc8
                by_cases hcmp : y * m ≤ s
                · have hz : ordN (y * m) s ≤ 0 := ordN_le.2 hcmp
                  go_wp2_with ((go_at_call 51; (with_reducible refine (orderR_any (y * m) s (toB 1000000 (y * m)) (toB 1000000 s) a8 a5 c8 c5 w8 rfl rfl (by omega) (by omega) OC8.out (H7.out.cells.ext E8)).mono ?_); rintro e w1 ⟨rfl, hE⟩))
                  have E9 := E8.trans hE
                  clear hE OC8 he E8
                  go_wp2
                  refine ⟨⟨m, h, hm2, hh, rfl, rfl, ⟨hcmp, hin.out.2⟩, E9⟩, by simp [intOf]; omega⟩
                · have hz : ¬ ordN (y * m) s ≤ 0 := fun h => hcmp (ordN_le.1 h)
                  go_wp2_with ((go_at_call 51; (with_reducible refine (orderR_any (y * m) s (toB 1000000 (y * m)) (toB 1000000 s) a8 a5 c8 c5 w8 rfl rfl (by omega) (by omega) OC8.out (H7.out.cells.ext E8)).mono ?_); rintro e w1 ⟨rfl, hE⟩))
                  have E9 := E8.trans hE
                  clear hE OC8 he E8
                  go_wp2
                  refine ⟨⟨l, m - 1, by omega, by omega, rfl, by go_num, ⟨hin.out.1, by rw [Nat.sub_add_cancel (by omega)]; omega⟩, E9⟩, by simp [intOf]; omega⟩
            · have hlh2 : l = h := by omega
              subst hlh2
              have hl1 : 1 ≤ l := by
                rcases Nat.eq_zero_or_pos l with h0 | h0
                · have := hin.out.2; rw [h0] at this; omega
                · exact h0
              obtain ⟨hI1, hI2⟩ := hin.out
              have HQ := Lib.hid (HSTEP.out l hI1 hI2)
              have HSET := Lib.hid (HO7.out.ext he |>.set k l)
              have HL : Hid ([l] = toB 1000000 l) := (toB_one (by omega) (by omega) (by omega)).symm
              have HTR : Hid (trimL [l] = [l]) := by
                show _ = _
                rw [trimL_toB (B := 1000000) (by omega) (fun z hz => by rw [List.mem_singleton] at hz; omega)]
                show toB 1000000 (l + 1000000 * 0) = _
                exact HL.out.symm
              have hym : (toB 1000000 (y * l)).length ≤ lb.length + 1 := HYL.out _ (by omega)
              have hkN : k < N := by have := HNN.out; omega
              obtain ⟨s1, s2⟩ := (HO7.out.ext he).at (i := k) (by have := HQL.out; omega)
              generalize q.getD k 0 = z0 at s1
              have HS5 : Hid (OwnsN .i64 3 (wr.setCell ⟨ob, k, none⟩ (.int .i64 (l : Int))) (.slice a5 (toB 1000000 s).length c5) (toB 1000000 s)) :=
                (H7.out.ext he).same (fun g hg => Below.heap_setCell _ _ _ _ (Nat.ne_of_gt (HN6.out g hg)))
              have E8 : Ext w (wr.setCell ⟨ob, k, none⟩ (.int .i64 (l : Int))) := (E7.trans he).set (by rw [HOB.out]; exact Nat.le_refl _) _
              have hz8 : ob < (wr.setCell ⟨ob, k, none⟩ (.int .i64 (l : Int))).heap.size := by have := he.size; simp [World.setCell]; omega
              have HI1 := Lib.hid hI1
              clear HSTEP HO7 H7 hz7 E7 he hI1 hI2 hin
              obtain ⟨ws, hws⟩ : ∃ ws, ws = wr.setCell ⟨ob, k, none⟩ (.int .i64 (l : Int)) := ⟨_, rfl⟩
              rw [← hws] at HSET HS5 E8 hz8
              have HSS : Hid (ws.heap.size = wr.heap.size) := by show _ = _; rw [hws]; simp [World.setCell]
              have HWS := Lib.hid hws
              clear hws
              have HR1 : Room (some ⟨ws.heap.size, 0, none⟩) [l].length 1 := ⟨by simp, by unfold maxLen; omega, fun _ => ⟨_, _, rfl⟩⟩
              have HT9 := Lib.hid (trimR_any [l] (some ⟨ws.heap.size, 0, none⟩) 1 (ws.alloc (.cells #[.int .i64 (l : Int)] 3)) HR1 (cells_one' l ws))
              clear HR1
              go_wp2_with (go_at_call 75; rw [← HWS.out, ← HSS.out]; refine HT9.out.mono ?_; rintro e w9 ⟨rfl, hn9, hE9⟩; rw [HTR.out, HSS.out])
              have C9 := Lib.hid ((cells_one' l ws).ext hE9)
              rw [HSS.out] at C9
              have E9 : Ext ws w9 := ((Ext.refl _).alloc _).trans hE9
              clear hn9 hE9 HT9
              go_wp2_with (go_at_call 76; refine (timesR_any y l lb [l] b _ cb 1 _ HY.out HL.out (by omega) (by simp) (HB.out.ext (E8.trans E9)) C9.out).mono ?_; rintro e w10 ⟨v10, rfl, o10, n10, e10⟩)
              all_goals
                obtain ⟨a10, c10, rfl, oc10, _, _⟩ := o10.reads
                have E10 : Ext ws w10 := E9.trans e10
                have OC10 := Lib.hid oc10
                clear o10 n10 e10 oc10 E9 C9
                have hsub : y * l ≤ s := HI1.out
                go_wp2_with (go_at_call 78; refine (lessR_any s (y * l) (toB 1000000 s) (toB 1000000 (y * l)) a5 a10 c5 c10 w10 rfl rfl hsub (by omega) (HS5.out.cells.ext E10) OC10.out).mono ?_; rintro e w11 ⟨v11, rfl, o11, n11, e11⟩)
                all_goals
                  have O11 := Lib.hid o11
                  have N11 : Hid (∀ b, v11.ownBlock = some b → ob < b) := fun b hb => by have h1 := n11 b hb; have h2 := E10.size; omega
                  have HSET11 := Lib.hid (HSET.out.ext (E10.trans e11))
                  have E11 := E8.trans (E10.trans e11)
                  have hz11 : ob < w11.heap.size := Nat.lt_of_lt_of_le hz8 (E10.trans e11).size
                  clear o11 n11 e11 E10 OC10 E8 hz8 HS5 HSET
                  go_wp2
                  refine ⟨⟨k, _, by omega, by go_num, rfl, ⟨s - y * l, _, HQ.out, HSET11.out, O11.out⟩, N11, hz11, E11⟩, by simp [intOf]⟩
end Go.Proofs.YtbpjbhbbkonjlaaGreatDoor
namespace Go.Proofs.YtbpjbhbbkonjlaaGreatDoor
open Go.RowKit
def natR (w : World) : Value → Nat
  | .slice a n _ => valB 1000000 (readN w a n)
  | _ => 0
theorem natR_eq {w : World} {a : Option Addr} {x c : Nat} (h : CellsN .i64 w a (toB 1000000 x)) : natR w (.slice a (toB 1000000 x).length c) = x := by
  unfold natR
  simp only
  rw [readN_eq h, valB_toB (by omega)]
def NewR (l : List Nat) (w : World) (e : Ending) (w' : World) : Prop := ∃ a c, e = .returned (.slice a l.length c) ∧ CellsN .i64 w' a l ∧ Ext w w'
theorem lenR_pos {x : Nat} (h : x ≠ 0) : 0 < (toB 1000000 x).length := by rw [toB_pos (by omega) h]; simp
theorem lenR_zero {x : Nat} (h : x = 0) : (toB 1000000 x).length = 0 := by rw [h, toB_zero]; rfl
structure ShaW (x y : Nat) (w0 : World) (va vb : Value) (a b : Nat) (w : World) : Prop where
  g : Nat.gcd a b = Nat.gcd x y
  la : (toB 1000000 a).length ≤ 100
  lb : (toB 1000000 b).length ≤ 100
  a : ∃ pa pc, va = .slice pa (toB 1000000 a).length pc ∧ CellsN .i64 w pa (toB 1000000 a)
  b : ∃ qa qc, vb = .slice qa (toB 1000000 b).length qc ∧ CellsN .i64 w qa (toB 1000000 b)
  e : Ext w0 w
set_option maxHeartbeats 4000000 in
set_option maxRecDepth 100000 in
theorem sharedR_any (x y : Nat) (la lb : List Nat) (a b : Option Addr) (ca cb : Nat) (w : World) (hx : la = toB 1000000 x) (hy : lb = toB 1000000 y)
    (hla : la.length ≤ 100) (hlb : lb.length ≤ 100) (ha : CellsN .i64 w a la) (hb : CellsN .i64 w b lb) :
    Calls Tryz.prog 52 #[.slice a la.length ca, .slice b lb.length cb] w (NewR (toB 1000000 (Nat.gcd x y)) w) := by
  subst hx hy
  have W0 : Hid (ShaW x y w (.slice a (toB 1000000 x).length ca) (.slice b (toB 1000000 y).length cb) x y w) := ⟨rfl, hla, hlb, ⟨_, _, rfl, ha⟩, ⟨_, _, rfl, hb⟩, Ext.refl _⟩
  clear ha hb hla hlb
  generalize Value.slice a (toB 1000000 x).length ca = va0 at W0 ⊢
  generalize Value.slice b (toB 1000000 y).length cb = vb0 at W0 ⊢
  go_enter Tryz.func52, Tryz.ntmps52
  go_wp2
  go_loopw [0, 1] (fun va vb wr => ∃ (p q : Nat), Hid (ShaW x y w va vb p q wr)) (fun _ vb wr => natR wr vb)
  case atStart => exact ⟨x, y, W0.out⟩
  case round =>
    obtain ⟨p, q, HW⟩ := hrel
    obtain ⟨hg, hpl, hql, ⟨pa, pc, rfl, hpc⟩, ⟨qa, qc, rfl, hqc⟩, he⟩ := HW.out
    have HG := Lib.hid hg
    have HP := Lib.hid hpc
    have HQ := Lib.hid hqc
    have HE := Lib.hid he
    have HM : Hid (natR wr (.slice qa (toB 1000000 q).length qc) = q) := natR_eq hqc
    clear hg hpc hqc W0 HW
    by_cases h0 : q = 0
    · have hz := lenR_zero h0
      have HD : Hid (p = Nat.gcd x y) := by show _ = _; rw [← HG.out, h0, Nat.gcd_zero_right]
      have HL : Hid (toB 1000000 p = toB 1000000 (Nat.gcd x y)) := by show _ = _; rw [← HD.out]
      clear h0 HD
      go_wp2
      go_ret
      rw [HL.out] at HP ⊢
      exact ⟨_, _, rfl, HP.out, HE.out⟩
    · have hz := lenR_pos h0
      have HT := Lib.hid (quotientR_any p q (toB 1000000 p) (toB 1000000 q) pa qa pc qc wr rfl rfl (by omega) hpl hql HP.out HQ.out)
      have HR : Hid (p % q < q ∧ Nat.gcd q (p % q) = Nat.gcd x y) := ⟨Nat.mod_lt _ (by omega), by rw [← HG.out, Nat.gcd_comm p q, Nat.gcd_rec q p, Nat.gcd_comm]⟩
      clear h0 HG
      go_wp2_with (go_at_call 74; refine HT.out.mono ?_; rintro e w5 ⟨v5, u5, rfl, o5, r5, n5, m5, e5⟩)
      obtain ⟨a5, c5, rfl, oc5, _, _⟩ := r5.reads
      have hM2 : natR w5 (.slice a5 (toB 1000000 (p % q)).length c5) = p % q := natR_eq oc5
      have hml : (toB 1000000 (p % q)).length ≤ 100 := Nat.le_trans (toB_mono (by omega) (Nat.le_of_lt HR.out.1)) hql
      have W5 : Hid (ShaW x y w (.slice qa (toB 1000000 q).length qc) (.slice a5 (toB 1000000 (p % q)).length c5) q (p % q) w5) := ⟨HR.out.2, hql, hml, ⟨_, _, rfl, HQ.out.ext e5⟩, ⟨_, _, rfl, oc5⟩, HE.out.trans e5⟩
      have HM2 := Lib.hid hM2
      clear hM2 o5 r5 n5 m5 e5 oc5
      go_wp2
      refine ⟨⟨q, _, W5⟩, ?_⟩
      rw [HM.out, HM2.out]
      exact HR.out.1
end Go.Proofs.YtbpjbhbbkonjlaaGreatDoor
namespace Go.Proofs
open Go.Shelf
def Tryz.lays169_ren : Go.Shelf.Ren := ⟨fun | 169 => 132 | n => n, fun | 70 => 185 | 9 => 9 | 0 => 0 | 72 => 188 | 37 => 186 | 127 => 231 | 3 => 3 | 5 => 5 | n => n, fun | n => n⟩
theorem Tryz.lays169 : Go.Proofs.Lays.n169 Tryz.prog Tryz.lays169_ren := {
  mixed := by kernel_rfl
  f169 := Tryz.func132.trans (congrArg some (by kernel_rfl))
  t0 := Tryz.underlying0
  a0 := Tryz.isAgg0
  z0 := Tryz.sizeOf0
  v0 := Tryz.zeroValue0
  t3 := Tryz.underlying3
  a3 := Tryz.isAgg3
  z3 := Tryz.sizeOf3
  v3 := Tryz.zeroValue3
  t9 := Tryz.underlying9
  a9 := Tryz.isAgg9
  z9 := Tryz.sizeOf9
  v9 := Tryz.zeroValue9
  t37 := Tryz.underlying186
  a37 := Tryz.isAgg186
  z37 := Tryz.sizeOf186
  v37 := Tryz.zeroValue186
  t70 := Tryz.underlying185
  a70 := Tryz.isAgg185
  z70 := Tryz.sizeOf185
  v70 := Tryz.zeroValue185
  t72 := Tryz.underlying188
  a72 := Tryz.isAgg188
  z72 := Tryz.sizeOf188
  v72 := Tryz.zeroValue188
  t127 := Tryz.underlying231
  a127 := Tryz.isAgg231
  z127 := Tryz.sizeOf231
  v127 := Tryz.zeroValue231 }
theorem Tryz.Builder_Extra_169 : Builder.Extra Tryz.prog Tryz.lays169_ren := {
  sizeBuilder := by kernel_rfl
  liesBuilder := by kernel_rfl
  t5 := Tryz.underlying5
  a5 := Tryz.isAgg5
  z5 := Tryz.sizeOf5
  v5 := Tryz.zeroValue5
  infoByte := by kernel_rfl
  cellsByte := by kernel_rfl
  sizeByte := by kernel_rfl
  neB5 := by decide }
open Go.RowKit in
theorem Tryz.Builder_String_any (B b : Nat) (l : List UInt8) (w : World) (h : Lib.IsBuilder 188 5 B b (Lib.byteCells l) w) (hBw : B ≤ w.heap.size) :
    Calls Tryz.prog 132 #[.pointer (some ⟨b, 0, none⟩)] w fun e w' => e = .returned (.string ⟨l.toArray⟩) ∧ Below B w w' := Any.Builder_String_any Tryz.lays169 Tryz.Builder_Extra_169 B b l w h hBw
def Tryz.lays160_ren : Go.Shelf.Ren := ⟨fun | 160 => 119 | 232 => 151 | 231 => 150 | 227 => 152 | 234 => 154 | 233 => 153 | 236 => 156 | 235 => 155 | 228 => 183 | 271 => 186 | 151 => 185 | 197 => 184 | 120 => 205 | 152 => 204 | 260 => 203 | 137 => 218 | 119 => 219 | 224 => 180 | 225 => 179 | 217 => 178 | 266 => 201 | n => n, fun | 9 => 9 | 4 => 4 | 3 => 3 | 5 => 5 | 117 => 216 | 116 => 215 | 0 => 0 | 124 => 219 | 21 => 21 | 105 => 245 | 46 => 171 | 119 => 276 | 139 => 279 | 138 => 278 | n => n, fun | 3 => 2 | 4 => 3 | n => n⟩
theorem Tryz.lays160 : Go.Proofs.Lays.n160 Tryz.prog Tryz.lays160_ren := {
  mixed := by kernel_rfl
  f119 := Tryz.func219.trans (congrArg some (by kernel_rfl))
  f120 := Tryz.func205.trans (congrArg some (by kernel_rfl))
  f137 := Tryz.func218.trans (congrArg some (by kernel_rfl))
  f151 := Tryz.func185.trans (congrArg some (by kernel_rfl))
  f152 := Tryz.func204.trans (congrArg some (by kernel_rfl))
  f160 := Tryz.func119.trans (congrArg some (by kernel_rfl))
  f197 := Tryz.func184.trans (congrArg some (by kernel_rfl))
  f217 := Tryz.func178.trans (congrArg some (by kernel_rfl))
  f224 := Tryz.func180.trans (congrArg some (by kernel_rfl))
  f225 := Tryz.func179.trans (congrArg some (by kernel_rfl))
  f227 := Tryz.func152.trans (congrArg some (by kernel_rfl))
  f228 := Tryz.func183.trans (congrArg some (by kernel_rfl))
  f231 := Tryz.func150.trans (congrArg some (by kernel_rfl))
  f232 := Tryz.func151.trans (congrArg some (by kernel_rfl))
  f233 := Tryz.func153.trans (congrArg some (by kernel_rfl))
  f234 := Tryz.func154.trans (congrArg some (by kernel_rfl))
  f235 := Tryz.func155.trans (congrArg some (by kernel_rfl))
  f236 := Tryz.func156.trans (congrArg some (by kernel_rfl))
  f260 := Tryz.func203.trans (congrArg some (by kernel_rfl))
  f266 := Tryz.func201.trans (congrArg some (by kernel_rfl))
  f271 := Tryz.func186.trans (congrArg some (by kernel_rfl))
  t0 := Tryz.underlying0
  a0 := Tryz.isAgg0
  z0 := Tryz.sizeOf0
  v0 := Tryz.zeroValue0
  t3 := Tryz.underlying3
  a3 := Tryz.isAgg3
  z3 := Tryz.sizeOf3
  v3 := Tryz.zeroValue3
  t4 := Tryz.underlying4
  a4 := Tryz.isAgg4
  z4 := Tryz.sizeOf4
  v4 := Tryz.zeroValue4
  t5 := Tryz.underlying5
  a5 := Tryz.isAgg5
  z5 := Tryz.sizeOf5
  v5 := Tryz.zeroValue5
  t9 := Tryz.underlying9
  a9 := Tryz.isAgg9
  z9 := Tryz.sizeOf9
  v9 := Tryz.zeroValue9
  t21 := Tryz.underlying21
  a21 := Tryz.isAgg21
  z21 := Tryz.sizeOf21
  v21 := Tryz.zeroValue21
  t46 := Tryz.underlying171
  a46 := Tryz.isAgg171
  z46 := Tryz.sizeOf171
  v46 := Tryz.zeroValue171
  t105 := Tryz.underlying245
  a105 := Tryz.isAgg245
  z105 := Tryz.sizeOf245
  v105 := Tryz.zeroValue245
  t116 := Tryz.underlying215
  a116 := Tryz.isAgg215
  z116 := Tryz.sizeOf215
  t117 := Tryz.underlying216
  a117 := Tryz.isAgg216
  z117 := Tryz.sizeOf216
  v117 := Tryz.zeroValue216
  t119 := Tryz.underlying276
  a119 := Tryz.isAgg276
  z119 := Tryz.sizeOf276
  t124 := Tryz.underlying219
  a124 := Tryz.isAgg219
  z124 := Tryz.sizeOf219
  v124 := Tryz.zeroValue219
  t138 := Tryz.underlying278
  a138 := Tryz.isAgg278
  z138 := Tryz.sizeOf278
  v138 := Tryz.zeroValue278
  t139 := Tryz.underlying279
  a139 := Tryz.isAgg279
  z139 := Tryz.sizeOf279
  v139 := Tryz.zeroValue279
  g3 := by kernel_rfl
  g4 := by kernel_rfl }
def Tryz.lays103_ren : Go.Shelf.Ren := ⟨fun | 103 => 118 | 210 => 149 | 206 => 182 | n => n, fun | 9 => 9 | 4 => 4 | 24 => 174 | 3 => 3 | n => n, fun | n => n⟩
theorem Tryz.lays103 : Go.Proofs.Lays.n103 Tryz.prog Tryz.lays103_ren := {
  mixed := by kernel_rfl
  f103 := Tryz.func118.trans (congrArg some (by kernel_rfl))
  f206 := Tryz.func182.trans (congrArg some (by kernel_rfl))
  f210 := Tryz.func149.trans (congrArg some (by kernel_rfl))
  t3 := Tryz.underlying3
  a3 := Tryz.isAgg3
  z3 := Tryz.sizeOf3
  v3 := Tryz.zeroValue3
  t4 := Tryz.underlying4
  a4 := Tryz.isAgg4
  z4 := Tryz.sizeOf4
  v4 := Tryz.zeroValue4
  t9 := Tryz.underlying9
  a9 := Tryz.isAgg9
  z9 := Tryz.sizeOf9
  v9 := Tryz.zeroValue9
  t24 := Tryz.underlying174
  a24 := Tryz.isAgg174
  z24 := Tryz.sizeOf174
  v24 := Tryz.zeroValue174 }
open Go.RowKit in
theorem Tryz.strings_CutPrefix (s p : ByteArray) (w : World) :
    Calls Tryz.prog 118 #[.string s, .string p] w fun e w' => e = .returned (.tuple #[.string ⟨(Lib.trimPrefix s.data.toList p.data.toList).toArray⟩, .bool (Lib.hasPrefix s.data.toList p.data.toList)]) ∧ w' = w := Any.strings_CutPrefix Tryz.lays103 s p w
open Go.RowKit in
theorem Tryz.Builder_String_any_k (B b : Nat) (l : List UInt8) (w : World) (h : Lib.IsBuilderF 188 5 B b (Lib.byteCells l) w) (hBw : B ≤ w.heap.size) :
    Calls Tryz.prog 132 #[.pointer (some ⟨b, 0, none⟩)] w fun e w' => e = .returned (.string ⟨l.toArray⟩) ∧ (Lib.IsBuilderF 188 5 B b (Lib.byteCells l) w' ∧ Below B w w' ∧ Lib.OthersKept 5 (some b) w w') := Any.Builder_String_any_k Tryz.lays169 Tryz.Builder_Extra_169 B b l w h hBw
def Tryz.lays283_ren : Go.Shelf.Ren := ⟨fun | 283 => 190 | n => n, fun | 3 => 3 | 9 => 9 | 4 => 4 | n => n, fun | n => n⟩
theorem Tryz.lays283 : Go.Proofs.Lays.n283 Tryz.prog Tryz.lays283_ren := {
  mixed := by kernel_rfl
  f283 := Tryz.func190.trans (congrArg some (by kernel_rfl))
  t3 := Tryz.underlying3
  a3 := Tryz.isAgg3
  z3 := Tryz.sizeOf3
  v3 := Tryz.zeroValue3
  t4 := Tryz.underlying4
  a4 := Tryz.isAgg4
  z4 := Tryz.sizeOf4
  v4 := Tryz.zeroValue4
  t9 := Tryz.underlying9
  a9 := Tryz.isAgg9
  z9 := Tryz.sizeOf9
  v9 := Tryz.zeroValue9 }
open Go.Lib in
theorem Tryz.internal_strconv_small (i : Nat) (h : i < 100) (w : World) :
    Calls Tryz.prog 190 #[.int .i64 i] w fun e w' => e = .returned (.string ⟨(Lib.decDigits i).toArray⟩) ∧ w' = w := Any.internal_strconv_small Tryz.lays283 i h w
def Tryz.laysM284_ren : Go.Shelf.Ren := ⟨fun | 284 => 191 | 129 => 142 | 317 => 213 | 318 => 214 | n => n, fun | 53 => 164 | 3 => 3 | 212 => 273 | 0 => 0 | 4 => 4 | 46 => 171 | 5 => 5 | 9 => 9 | n => n, fun | 17 => 1 | n => n⟩
theorem Tryz.laysM284 : Go.Proofs.LaysM.n284 Tryz.prog Tryz.laysM284_ren := {
  mixed := by kernel_rfl
  f129 := Tryz.func142.trans (congrArg some (by kernel_rfl))
  f284 := Tryz.func191.trans (congrArg some (by kernel_rfl))
  f317 := Tryz.func213.trans (congrArg some (by kernel_rfl))
  f318 := Tryz.func214.trans (congrArg some (by kernel_rfl))
  t0 := Tryz.underlying0
  a0 := Tryz.isAgg0
  z0 := Tryz.sizeOf0
  v0 := Tryz.zeroValue0
  t3 := Tryz.underlying3
  a3 := Tryz.isAgg3
  z3 := Tryz.sizeOf3
  v3 := Tryz.zeroValue3
  t4 := Tryz.underlying4
  a4 := Tryz.isAgg4
  z4 := Tryz.sizeOf4
  v4 := Tryz.zeroValue4
  t5 := Tryz.underlying5
  a5 := Tryz.isAgg5
  z5 := Tryz.sizeOf5
  v5 := Tryz.zeroValue5
  t9 := Tryz.underlying9
  a9 := Tryz.isAgg9
  z9 := Tryz.sizeOf9
  v9 := Tryz.zeroValue9
  t46 := Tryz.underlying171
  a46 := Tryz.isAgg171
  z46 := Tryz.sizeOf171
  v46 := Tryz.zeroValue171
  t53 := Tryz.underlying164
  a53 := Tryz.isAgg164
  z53 := Tryz.sizeOf164
  v53 := Tryz.zeroValue164
  t212 := Tryz.underlying273
  a212 := Tryz.isAgg273
  z212 := Tryz.sizeOf273
  v212 := Tryz.zeroValue273
  g17 := by kernel_rfl
  i0 := by kernel_rfl
  i3 := by kernel_rfl
  i4 := by kernel_rfl
  i5 := by kernel_rfl
  i9 := by kernel_rfl
  i46 := by kernel_rfl
  i53 := by kernel_rfl
  i212 := by kernel_rfl
  m17 := by kernel_rfl }
open Go.Lib in
theorem Tryz.internal_strconv_numDigits (u : Nat) (h1 : 1 ≤ u) (h2 : u < 18446744073709551616) (w : World) (htab : Lib.TabIs Tryz.prog w "internal/strconv.uint64pow10" .u64 Lib.pow10Tab) :
    Calls Tryz.prog 191 #[.int .u64 u] w fun e w' => e = .returned (.int .i64 (Lib.nDigits u)) ∧ w' = w := Any.internal_strconv_numDigits Tryz.laysM284 u h1 h2 w htab
def Tryz.lays285_ren : Go.Shelf.Ren := ⟨fun | 285 => 192 | n => n, fun | 37 => 186 | 53 => 164 | 3 => 3 | 4 => 4 | 51 => 205 | 9 => 9 | 5 => 5 | 0 => 0 | n => n, fun | n => n⟩
theorem Tryz.lays285 : Go.Proofs.Lays.n285 Tryz.prog Tryz.lays285_ren := {
  mixed := by kernel_rfl
  f285 := Tryz.func192.trans (congrArg some (by kernel_rfl))
  t0 := Tryz.underlying0
  a0 := Tryz.isAgg0
  z0 := Tryz.sizeOf0
  v0 := Tryz.zeroValue0
  t3 := Tryz.underlying3
  a3 := Tryz.isAgg3
  z3 := Tryz.sizeOf3
  v3 := Tryz.zeroValue3
  t4 := Tryz.underlying4
  a4 := Tryz.isAgg4
  z4 := Tryz.sizeOf4
  v4 := Tryz.zeroValue4
  t5 := Tryz.underlying5
  a5 := Tryz.isAgg5
  z5 := Tryz.sizeOf5
  v5 := Tryz.zeroValue5
  t9 := Tryz.underlying9
  a9 := Tryz.isAgg9
  z9 := Tryz.sizeOf9
  v9 := Tryz.zeroValue9
  t37 := Tryz.underlying186
  a37 := Tryz.isAgg186
  z37 := Tryz.sizeOf186
  v37 := Tryz.zeroValue186
  t51 := Tryz.underlying205
  a51 := Tryz.isAgg205
  z51 := Tryz.sizeOf205
  v51 := Tryz.zeroValue205
  t53 := Tryz.underlying164
  a53 := Tryz.isAgg164
  z53 := Tryz.sizeOf164
  v53 := Tryz.zeroValue164 }
open Go.RowKit Go.Sort Go.Lib in
theorem Tryz.internal_strconv_formatBase10 (blk off cap : Nat) (u : Nat) (d : Array UInt8) (w : World) (hH : Holds (fun (b : UInt8) => Value.int .u8 (b.toNat : Int)) w blk off d) (hu : u < 10 ^ d.size) (hu64 : u < 18446744073709551616) (hsz : d.size < 4611686018427387904) :
    Calls Tryz.prog 192 #[.slice (some ⟨blk, off, none⟩) d.size cap, .int .u64 u] w fun e w' =>
      e = .returned (.tuple #[]) ∧ ∃ (n v' : Nat) (dk : Array UInt8), w' = (putRow (fun (b : UInt8) => Value.int .u8 (b.toNat : Int)) w blk off dk).drewN n ∧ FmtInv d.size u 0 v' dk := Any.internal_strconv_formatBase10 Tryz.lays285 blk off cap u d w hH hu hu64 hsz
def Tryz.laysM171_ren : Go.Shelf.Ren := ⟨fun | 171 => 144 | 243 => 175 | 246 => 199 | 283 => 190 | 284 => 191 | 285 => 192 | 286 => 193 | 129 => 142 | 317 => 213 | 318 => 214 | 319 => 215 | 320 => 216 | 337 => 222 | 338 => 223 | n => n, fun | 3 => 3 | 9 => 9 | 2 => 2 | 4 => 4 | 171 => 249 | 0 => 0 | 53 => 164 | 37 => 186 | 5 => 5 | 173 => 251 | 212 => 273 | 51 => 205 | 20 => 20 | 213 => 274 | 46 => 171 | 232 => 287 | 233 => 288 | n => n, fun | 17 => 1 | 18 => 6 | 19 => 7 | n => n⟩
theorem Tryz.laysM171 : Go.Proofs.LaysM.n171 Tryz.prog Tryz.laysM171_ren := {
  mixed := by kernel_rfl
  f129 := Tryz.func142.trans (congrArg some (by kernel_rfl))
  f171 := Tryz.func144.trans (congrArg some (by kernel_rfl))
  f243 := Tryz.func175.trans (congrArg some (by kernel_rfl))
  f246 := Tryz.func199.trans (congrArg some (by kernel_rfl))
  f283 := Tryz.func190.trans (congrArg some (by kernel_rfl))
  f284 := Tryz.func191.trans (congrArg some (by kernel_rfl))
  f285 := Tryz.func192.trans (congrArg some (by kernel_rfl))
  f286 := Tryz.func193.trans (congrArg some (by kernel_rfl))
  f317 := Tryz.func213.trans (congrArg some (by kernel_rfl))
  f318 := Tryz.func214.trans (congrArg some (by kernel_rfl))
  f319 := Tryz.func215.trans (congrArg some (by kernel_rfl))
  f320 := Tryz.func216.trans (congrArg some (by kernel_rfl))
  f337 := Tryz.func222.trans (congrArg some (by kernel_rfl))
  f338 := Tryz.func223.trans (congrArg some (by kernel_rfl))
  t0 := Tryz.underlying0
  a0 := Tryz.isAgg0
  z0 := Tryz.sizeOf0
  v0 := Tryz.zeroValue0
  t2 := Tryz.underlying2
  a2 := Tryz.isAgg2
  z2 := Tryz.sizeOf2
  v2 := Tryz.zeroValue2
  t3 := Tryz.underlying3
  a3 := Tryz.isAgg3
  z3 := Tryz.sizeOf3
  v3 := Tryz.zeroValue3
  t4 := Tryz.underlying4
  a4 := Tryz.isAgg4
  z4 := Tryz.sizeOf4
  v4 := Tryz.zeroValue4
  t5 := Tryz.underlying5
  a5 := Tryz.isAgg5
  z5 := Tryz.sizeOf5
  v5 := Tryz.zeroValue5
  t9 := Tryz.underlying9
  a9 := Tryz.isAgg9
  z9 := Tryz.sizeOf9
  v9 := Tryz.zeroValue9
  t20 := Tryz.underlying20
  a20 := Tryz.isAgg20
  z20 := Tryz.sizeOf20
  v20 := Tryz.zeroValue20
  t37 := Tryz.underlying186
  a37 := Tryz.isAgg186
  z37 := Tryz.sizeOf186
  v37 := Tryz.zeroValue186
  t46 := Tryz.underlying171
  a46 := Tryz.isAgg171
  z46 := Tryz.sizeOf171
  v46 := Tryz.zeroValue171
  t51 := Tryz.underlying205
  a51 := Tryz.isAgg205
  z51 := Tryz.sizeOf205
  v51 := Tryz.zeroValue205
  t53 := Tryz.underlying164
  a53 := Tryz.isAgg164
  z53 := Tryz.sizeOf164
  v53 := Tryz.zeroValue164
  t171 := Tryz.underlying249
  a171 := Tryz.isAgg249
  z171 := Tryz.sizeOf249
  v171 := Tryz.zeroValue249
  t173 := Tryz.underlying251
  a173 := Tryz.isAgg251
  z173 := Tryz.sizeOf251
  v173 := Tryz.zeroValue251
  t212 := Tryz.underlying273
  a212 := Tryz.isAgg273
  z212 := Tryz.sizeOf273
  v212 := Tryz.zeroValue273
  t213 := Tryz.underlying274
  a213 := Tryz.isAgg274
  z213 := Tryz.sizeOf274
  t232 := Tryz.underlying287
  a232 := Tryz.isAgg287
  z232 := Tryz.sizeOf287
  v232 := Tryz.zeroValue287
  t233 := Tryz.underlying288
  a233 := Tryz.isAgg288
  z233 := Tryz.sizeOf288
  v233 := Tryz.zeroValue288
  g17 := by kernel_rfl
  g18 := by kernel_rfl
  g19 := by kernel_rfl
  i0 := by kernel_rfl
  i2 := by kernel_rfl
  i3 := by kernel_rfl
  i4 := by kernel_rfl
  i5 := by kernel_rfl
  i9 := by kernel_rfl
  i20 := by kernel_rfl
  i37 := by kernel_rfl
  i46 := by kernel_rfl
  i51 := by kernel_rfl
  i53 := by kernel_rfl
  i171 := by kernel_rfl
  i173 := by kernel_rfl
  i212 := by kernel_rfl
  i232 := by kernel_rfl
  i233 := by kernel_rfl
  m17 := by kernel_rfl
  m18 := by kernel_rfl
  m19 := by kernel_rfl }
open Go.RowKit Go.Sort Go.Lib in
theorem Tryz.strconv_Itoa (n : Int) (h0 : -9223372036854775808 ≤ n) (h1 : n ≤ 9223372036854775807) (w : World) (htab : Lib.TabIs Tryz.prog w "internal/strconv.uint64pow10" .u64 Lib.pow10Tab) :
    Calls Tryz.prog 144 #[.int .i64 n] w fun e w' => e = .returned (.string ⟨(Lib.itoa n).toArray⟩) ∧ ∃ k os, w' = grow (w.drewN k) os := Any.strconv_Itoa Tryz.laysM171 n h0 h1 w htab
def Tryz.laysPu14_ren : Go.Shelf.Ren := ⟨fun | 14 => 158 | 16 => 187 | 17 => 188 | 19 => 206 | 20 => 207 | 21 => 208 | 22 => 209 | 23 => 210 | 24 => 211 | 25 => 220 | 27 => 144 | 26 => 221 | 28 => 175 | 29 => 199 | 30 => 190 | 31 => 191 | 32 => 192 | 33 => 193 | 35 => 142 | 34 => 213 | 36 => 214 | 37 => 215 | 38 => 216 | 39 => 222 | 40 => 223 | n => n, fun | 9 => 9 | 3 => 3 | 22 => 164 | 24 => 192 | 25 => 220 | 4 => 4 | 34 => 266 | 5 => 5 | 36 => 171 | 37 => 186 | 0 => 0 | 39 => 268 | 21 => 21 | 44 => 282 | 47 => 231 | 50 => 286 | 48 => 284 | 2 => 2 | 52 => 249 | 55 => 251 | 59 => 273 | 60 => 205 | 20 => 20 | 61 => 274 | 65 => 287 | 66 => 288 | 67 => 195 | n => n, fun | 0 => 4 | 1 => 5 | 2 => 1 | 3 => 6 | 4 => 7 | n => n⟩
theorem Tryz.laysPu14 : Go.Proofs.LaysPu.n14 Tryz.prog Tryz.laysPu14_ren := {
  mixed := by kernel_rfl
  f14 := Tryz.func158.trans (congrArg some (by kernel_rfl))
  f16 := Tryz.func187.trans (congrArg some (by kernel_rfl))
  f17 := Tryz.func188.trans (congrArg some (by kernel_rfl))
  f19 := Tryz.func206.trans (congrArg some (by kernel_rfl))
  f20 := Tryz.func207.trans (congrArg some (by kernel_rfl))
  f21 := Tryz.func208.trans (congrArg some (by kernel_rfl))
  f22 := Tryz.func209.trans (congrArg some (by kernel_rfl))
  f23 := Tryz.func210.trans (congrArg some (by kernel_rfl))
  f24 := Tryz.func211.trans (congrArg some (by kernel_rfl))
  f25 := Tryz.func220.trans (congrArg some (by kernel_rfl))
  f26 := Tryz.func221.trans (congrArg some (by kernel_rfl))
  f27 := Tryz.func144.trans (congrArg some (by kernel_rfl))
  f28 := Tryz.func175.trans (congrArg some (by kernel_rfl))
  f29 := Tryz.func199.trans (congrArg some (by kernel_rfl))
  f30 := Tryz.func190.trans (congrArg some (by kernel_rfl))
  f31 := Tryz.func191.trans (congrArg some (by kernel_rfl))
  f32 := Tryz.func192.trans (congrArg some (by kernel_rfl))
  f33 := Tryz.func193.trans (congrArg some (by kernel_rfl))
  f34 := Tryz.func213.trans (congrArg some (by kernel_rfl))
  f35 := Tryz.func142.trans (congrArg some (by kernel_rfl))
  f36 := Tryz.func214.trans (congrArg some (by kernel_rfl))
  f37 := Tryz.func215.trans (congrArg some (by kernel_rfl))
  f38 := Tryz.func216.trans (congrArg some (by kernel_rfl))
  f39 := Tryz.func222.trans (congrArg some (by kernel_rfl))
  f40 := Tryz.func223.trans (congrArg some (by kernel_rfl))
  t0 := Tryz.underlying0
  a0 := Tryz.isAgg0
  z0 := Tryz.sizeOf0
  v0 := Tryz.zeroValue0
  i0 := by kernel_rfl
  t2 := Tryz.underlying2
  a2 := Tryz.isAgg2
  z2 := Tryz.sizeOf2
  v2 := Tryz.zeroValue2
  i2 := by kernel_rfl
  t3 := Tryz.underlying3
  a3 := Tryz.isAgg3
  z3 := Tryz.sizeOf3
  v3 := Tryz.zeroValue3
  i3 := by kernel_rfl
  t4 := Tryz.underlying4
  a4 := Tryz.isAgg4
  z4 := Tryz.sizeOf4
  v4 := Tryz.zeroValue4
  i4 := by kernel_rfl
  t5 := Tryz.underlying5
  a5 := Tryz.isAgg5
  z5 := Tryz.sizeOf5
  v5 := Tryz.zeroValue5
  i5 := by kernel_rfl
  t9 := Tryz.underlying9
  a9 := Tryz.isAgg9
  z9 := Tryz.sizeOf9
  v9 := Tryz.zeroValue9
  i9 := by kernel_rfl
  t20 := Tryz.underlying20
  a20 := Tryz.isAgg20
  z20 := Tryz.sizeOf20
  v20 := Tryz.zeroValue20
  i20 := by kernel_rfl
  t21 := Tryz.underlying21
  a21 := Tryz.isAgg21
  z21 := Tryz.sizeOf21
  v21 := Tryz.zeroValue21
  i21 := by kernel_rfl
  t22 := Tryz.underlying164
  a22 := Tryz.isAgg164
  z22 := Tryz.sizeOf164
  v22 := Tryz.zeroValue164
  i22 := by kernel_rfl
  t24 := Tryz.underlying192
  a24 := Tryz.isAgg192
  z24 := Tryz.sizeOf192
  v24 := Tryz.zeroValue192
  i24 := by kernel_rfl
  t25 := Tryz.underlying220
  a25 := Tryz.isAgg220
  z25 := Tryz.sizeOf220
  v25 := Tryz.zeroValue220
  i25 := by kernel_rfl
  t34 := Tryz.underlying266
  a34 := Tryz.isAgg266
  z34 := Tryz.sizeOf266
  v34 := Tryz.zeroValue266
  i34 := by kernel_rfl
  c34 := by kernel_rfl
  t36 := Tryz.underlying171
  a36 := Tryz.isAgg171
  z36 := Tryz.sizeOf171
  v36 := Tryz.zeroValue171
  i36 := by kernel_rfl
  t37 := Tryz.underlying186
  a37 := Tryz.isAgg186
  z37 := Tryz.sizeOf186
  v37 := Tryz.zeroValue186
  i37 := by kernel_rfl
  t39 := Tryz.underlying268
  a39 := Tryz.isAgg268
  z39 := Tryz.sizeOf268
  v39 := Tryz.zeroValue268
  i39 := by kernel_rfl
  t44 := Tryz.underlying282
  a44 := Tryz.isAgg282
  z44 := Tryz.sizeOf282
  v44 := Tryz.zeroValue282
  i44 := by kernel_rfl
  t47 := Tryz.underlying231
  a47 := Tryz.isAgg231
  z47 := Tryz.sizeOf231
  v47 := Tryz.zeroValue231
  i47 := by kernel_rfl
  t48 := Tryz.underlying284
  a48 := Tryz.isAgg284
  z48 := Tryz.sizeOf284
  v48 := Tryz.zeroValue284
  i48 := by kernel_rfl
  t50 := Tryz.underlying286
  a50 := Tryz.isAgg286
  z50 := Tryz.sizeOf286
  v50 := Tryz.zeroValue286
  i50 := by kernel_rfl
  t52 := Tryz.underlying249
  a52 := Tryz.isAgg249
  z52 := Tryz.sizeOf249
  v52 := Tryz.zeroValue249
  i52 := by kernel_rfl
  t55 := Tryz.underlying251
  a55 := Tryz.isAgg251
  z55 := Tryz.sizeOf251
  v55 := Tryz.zeroValue251
  i55 := by kernel_rfl
  t59 := Tryz.underlying273
  a59 := Tryz.isAgg273
  z59 := Tryz.sizeOf273
  v59 := Tryz.zeroValue273
  i59 := by kernel_rfl
  t60 := Tryz.underlying205
  a60 := Tryz.isAgg205
  z60 := Tryz.sizeOf205
  v60 := Tryz.zeroValue205
  i60 := by kernel_rfl
  t61 := Tryz.underlying274
  a61 := Tryz.isAgg274
  z61 := Tryz.sizeOf274
  t65 := Tryz.underlying287
  a65 := Tryz.isAgg287
  z65 := Tryz.sizeOf287
  v65 := Tryz.zeroValue287
  i65 := by kernel_rfl
  t66 := Tryz.underlying288
  a66 := Tryz.isAgg288
  z66 := Tryz.sizeOf288
  v66 := Tryz.zeroValue288
  i66 := by kernel_rfl
  t67 := Tryz.underlying195
  a67 := Tryz.isAgg195
  z67 := Tryz.sizeOf195
  v67 := Tryz.zeroValue195
  i67 := by kernel_rfl
  g0 := by kernel_rfl
  m0 := by kernel_rfl
  g1 := by kernel_rfl
  m1 := by kernel_rfl
  g2 := by kernel_rfl
  m2 := by kernel_rfl
  g3 := by kernel_rfl
  m3 := by kernel_rfl
  g4 := by kernel_rfl
  m4 := by kernel_rfl }
open Go.RowKit in
theorem Tryz.strconv_ParseUint_10_at64_ok (s : ByteArray) (hmax : s.size ≤ 9223372036854775806) (u : Nat) (h : Lib.parseUintB 64 s.data.toList = .ok u) (w : World) :
    Calls Tryz.prog 158 #[.string s, .int .i64 10, .int .i64 64] w fun e w' => e = .returned (.tuple #[.int .u64 u, .nilIface]) ∧ (w' = w ∨ w' = Lib.bytesWorld w 5 s) := Any.strconv_ParseUint_10_at64_ok Tryz.laysPu14 s hmax u h w
def Tryz.lays145_ren : Go.Shelf.Ren := ⟨fun | 145 => 96 | 220 => 117 | 219 => 148 | 217 => 178 | 225 => 179 | 224 => 180 | 267 => 181 | 266 => 201 | 314 => 202 | n => n, fun | 9 => 9 | 4 => 4 | 59 => 159 | 3 => 3 | 5 => 5 | 46 => 171 | 146 => 253 | 51 => 205 | n => n, fun | 1 => 0 | n => n⟩
theorem Tryz.lays145 : Go.Proofs.Lays.n145 Tryz.prog Tryz.lays145_ren := {
  mixed := by kernel_rfl
  f145 := Tryz.func96.trans (congrArg some (by kernel_rfl))
  f217 := Tryz.func178.trans (congrArg some (by kernel_rfl))
  f219 := Tryz.func148.trans (congrArg some (by kernel_rfl))
  f220 := Tryz.func117.trans (congrArg some (by kernel_rfl))
  f224 := Tryz.func180.trans (congrArg some (by kernel_rfl))
  f225 := Tryz.func179.trans (congrArg some (by kernel_rfl))
  f266 := Tryz.func201.trans (congrArg some (by kernel_rfl))
  f267 := Tryz.func181.trans (congrArg some (by kernel_rfl))
  f314 := Tryz.func202.trans (congrArg some (by kernel_rfl))
  t3 := Tryz.underlying3
  a3 := Tryz.isAgg3
  z3 := Tryz.sizeOf3
  v3 := Tryz.zeroValue3
  t4 := Tryz.underlying4
  a4 := Tryz.isAgg4
  z4 := Tryz.sizeOf4
  v4 := Tryz.zeroValue4
  t5 := Tryz.underlying5
  a5 := Tryz.isAgg5
  z5 := Tryz.sizeOf5
  v5 := Tryz.zeroValue5
  t9 := Tryz.underlying9
  a9 := Tryz.isAgg9
  z9 := Tryz.sizeOf9
  v9 := Tryz.zeroValue9
  t46 := Tryz.underlying171
  a46 := Tryz.isAgg171
  z46 := Tryz.sizeOf171
  v46 := Tryz.zeroValue171
  t51 := Tryz.underlying205
  a51 := Tryz.isAgg205
  z51 := Tryz.sizeOf205
  v51 := Tryz.zeroValue205
  t59 := Tryz.underlying159
  a59 := Tryz.isAgg159
  z59 := Tryz.sizeOf159
  v59 := Tryz.zeroValue159
  t146 := Tryz.underlying253
  a146 := Tryz.isAgg253
  z146 := Tryz.sizeOf253
  v146 := Tryz.zeroValue253
  g1 := by kernel_rfl }
open Go.RowKit Go.Lib in
theorem Tryz.strings_Cut (s sep : ByteArray) (m : Int) (w : World) (hs : s.size < 4294967281) (hm : w.cell? ⟨0, 0, none⟩ = some (.int .i64 m)) :
    Calls Tryz.prog 96 #[.string s, .string sep] w fun e w' => e = .returned (.tuple #[.string ⟨(Lib.cut s.data.toList sep.data.toList).1.toArray⟩, .string ⟨(Lib.cut s.data.toList sep.data.toList).2.1.toArray⟩, .bool (Lib.cut s.data.toList sep.data.toList).2.2]) ∧ ∃ n, w' = w.drewN n := Any.strings_Cut Tryz.lays145 s sep m w hs hm
def Tryz.lays99_ren : Go.Shelf.Ren := ⟨fun | 99 => 166 | 206 => 182 | n => n, fun | 9 => 9 | 4 => 4 | 3 => 3 | n => n, fun | n => n⟩
theorem Tryz.lays99 : Go.Proofs.Lays.n99 Tryz.prog Tryz.lays99_ren := {
  mixed := by kernel_rfl
  f99 := Tryz.func166.trans (congrArg some (by kernel_rfl))
  f206 := Tryz.func182.trans (congrArg some (by kernel_rfl))
  t3 := Tryz.underlying3
  a3 := Tryz.isAgg3
  z3 := Tryz.sizeOf3
  v3 := Tryz.zeroValue3
  t4 := Tryz.underlying4
  a4 := Tryz.isAgg4
  z4 := Tryz.sizeOf4
  v4 := Tryz.zeroValue4
  t9 := Tryz.underlying9
  a9 := Tryz.isAgg9
  z9 := Tryz.sizeOf9
  v9 := Tryz.zeroValue9 }
open Go.RowKit Go.Lib in
theorem Tryz.strings_HasPrefix (s p : ByteArray) (w : World) :
    Calls Tryz.prog 166 #[.string s, .string p] w fun e w' => e = .returned (.bool (Lib.hasPrefix s.data.toList p.data.toList)) ∧ w' = w := Any.strings_HasPrefix Tryz.lays99 s p w
def Tryz.lays101_ren : Go.Shelf.Ren := ⟨fun | 101 => 120 | 208 => 157 | 206 => 182 | n => n, fun | 9 => 9 | 4 => 4 | 3 => 3 | n => n, fun | n => n⟩
theorem Tryz.lays101 : Go.Proofs.Lays.n101 Tryz.prog Tryz.lays101_ren := {
  mixed := by kernel_rfl
  f101 := Tryz.func120.trans (congrArg some (by kernel_rfl))
  f206 := Tryz.func182.trans (congrArg some (by kernel_rfl))
  f208 := Tryz.func157.trans (congrArg some (by kernel_rfl))
  t3 := Tryz.underlying3
  a3 := Tryz.isAgg3
  z3 := Tryz.sizeOf3
  v3 := Tryz.zeroValue3
  t4 := Tryz.underlying4
  a4 := Tryz.isAgg4
  z4 := Tryz.sizeOf4
  v4 := Tryz.zeroValue4
  t9 := Tryz.underlying9
  a9 := Tryz.isAgg9
  z9 := Tryz.sizeOf9
  v9 := Tryz.zeroValue9 }
open Go.RowKit Go.Lib in
theorem Tryz.strings_TrimPrefix (s p : ByteArray) (w : World) :
    Calls Tryz.prog 120 #[.string s, .string p] w fun e w' => e = .returned (.string ⟨(Lib.trimPrefix s.data.toList p.data.toList).toArray⟩) ∧ w' = w := Any.strings_TrimPrefix Tryz.lays101 s p w
def Tryz.lays105_ren : Go.Shelf.Ren := ⟨fun | 105 => 130 | 212 => 165 | 99 => 166 | 165 => 167 | 166 => 131 | 170 => 168 | 169 => 132 | 263 => 194 | 264 => 195 | 206 => 182 | 240 => 169 | 241 => 196 | 276 => 197 | 277 => 217 | n => n, fun | 9 => 9 | 3 => 3 | 4 => 4 | 20 => 20 | 0 => 0 | 46 => 171 | 109 => 226 | 5 => 5 | 72 => 188 | 76 => 193 | 51 => 205 | 146 => 253 | 53 => 164 | 148 => 255 | 70 => 185 | 37 => 186 | 75 => 192 | 127 => 231 | 164 => 257 | 80 => 195 | n => n, fun | n => n⟩
theorem Tryz.lays105 : Go.Proofs.Lays.n105 Tryz.prog Tryz.lays105_ren := {
  mixed := by kernel_rfl
  f99 := Tryz.func166.trans (congrArg some (by kernel_rfl))
  f105 := Tryz.func130.trans (congrArg some (by kernel_rfl))
  f165 := Tryz.func167.trans (congrArg some (by kernel_rfl))
  f166 := Tryz.func131.trans (congrArg some (by kernel_rfl))
  f169 := Tryz.func132.trans (congrArg some (by kernel_rfl))
  f170 := Tryz.func168.trans (congrArg some (by kernel_rfl))
  f206 := Tryz.func182.trans (congrArg some (by kernel_rfl))
  f212 := Tryz.func165.trans (congrArg some (by kernel_rfl))
  f240 := Tryz.func169.trans (congrArg some (by kernel_rfl))
  f241 := Tryz.func196.trans (congrArg some (by kernel_rfl))
  f263 := Tryz.func194.trans (congrArg some (by kernel_rfl))
  f264 := Tryz.func195.trans (congrArg some (by kernel_rfl))
  f276 := Tryz.func197.trans (congrArg some (by kernel_rfl))
  f277 := Tryz.func217.trans (congrArg some (by kernel_rfl))
  t0 := Tryz.underlying0
  a0 := Tryz.isAgg0
  z0 := Tryz.sizeOf0
  v0 := Tryz.zeroValue0
  t3 := Tryz.underlying3
  a3 := Tryz.isAgg3
  z3 := Tryz.sizeOf3
  v3 := Tryz.zeroValue3
  t4 := Tryz.underlying4
  a4 := Tryz.isAgg4
  z4 := Tryz.sizeOf4
  v4 := Tryz.zeroValue4
  t5 := Tryz.underlying5
  a5 := Tryz.isAgg5
  z5 := Tryz.sizeOf5
  v5 := Tryz.zeroValue5
  t9 := Tryz.underlying9
  a9 := Tryz.isAgg9
  z9 := Tryz.sizeOf9
  v9 := Tryz.zeroValue9
  t20 := Tryz.underlying20
  a20 := Tryz.isAgg20
  z20 := Tryz.sizeOf20
  v20 := Tryz.zeroValue20
  t37 := Tryz.underlying186
  a37 := Tryz.isAgg186
  z37 := Tryz.sizeOf186
  v37 := Tryz.zeroValue186
  t46 := Tryz.underlying171
  a46 := Tryz.isAgg171
  z46 := Tryz.sizeOf171
  v46 := Tryz.zeroValue171
  t51 := Tryz.underlying205
  a51 := Tryz.isAgg205
  z51 := Tryz.sizeOf205
  v51 := Tryz.zeroValue205
  t53 := Tryz.underlying164
  a53 := Tryz.isAgg164
  z53 := Tryz.sizeOf164
  v53 := Tryz.zeroValue164
  t70 := Tryz.underlying185
  a70 := Tryz.isAgg185
  z70 := Tryz.sizeOf185
  v70 := Tryz.zeroValue185
  t72 := Tryz.underlying188
  a72 := Tryz.isAgg188
  z72 := Tryz.sizeOf188
  v72 := Tryz.zeroValue188
  t75 := Tryz.underlying192
  a75 := Tryz.isAgg192
  z75 := Tryz.sizeOf192
  v75 := Tryz.zeroValue192
  t76 := Tryz.underlying193
  a76 := Tryz.isAgg193
  z76 := Tryz.sizeOf193
  v76 := Tryz.zeroValue193
  t109 := Tryz.underlying226
  a109 := Tryz.isAgg226
  z109 := Tryz.sizeOf226
  v109 := Tryz.zeroValue226
  t127 := Tryz.underlying231
  a127 := Tryz.isAgg231
  z127 := Tryz.sizeOf231
  v127 := Tryz.zeroValue231
  t146 := Tryz.underlying253
  a146 := Tryz.isAgg253
  z146 := Tryz.sizeOf253
  v146 := Tryz.zeroValue253
  t148 := Tryz.underlying255
  a148 := Tryz.isAgg255
  z148 := Tryz.sizeOf255
  v148 := Tryz.zeroValue255
  t164 := Tryz.underlying257
  a164 := Tryz.isAgg257
  z164 := Tryz.sizeOf257
  v164 := Tryz.zeroValue257 }
theorem Tryz.Builder_Extra_105 : Builder.Extra Tryz.prog Tryz.lays105_ren := {
  sizeBuilder := by kernel_rfl
  liesBuilder := by kernel_rfl
  t5 := Tryz.underlying5
  a5 := Tryz.isAgg5
  z5 := Tryz.sizeOf5
  v5 := Tryz.zeroValue5
  infoByte := by kernel_rfl
  cellsByte := by kernel_rfl
  sizeByte := by kernel_rfl
  neB5 := by decide }
open Go.RowKit Go.Lib in
theorem Tryz.strings_Repeat (s : ByteArray) (c : Nat) (w : World) (hc : c ≤ 9223372036854775807) (hlen : s.size * c ≤ 140737488355328) :
    Calls Tryz.prog 130 #[.string s, .int .i64 c] w fun e w' => e = .returned (.string ⟨(Lib.repeatL s.data.toList c).toArray⟩) ∧ Below w.heap.size w w' := Any.strings_Repeat Tryz.lays105 Tryz.Builder_Extra_105 s c w hc hlen
end Go.Proofs
namespace Go.Proofs.YtbpjbhbbkonjlaaGreatDoor
open Go.RowKit
structure Glob (w : World) : Prop where
  len : ∃ m : Int, w.cell? ⟨0, 0, none⟩ = some (.int .i64 m)
  tab : Lib.TabIs Tryz.prog w "internal/strconv.uint64pow10" .u64 Lib.pow10Tab
  syn : ∃ tp p, w.var? Tryz.prog "strconv.ErrSyntax" = some #[.iface tp p]
  rng : ∃ tp p, w.var? Tryz.prog "strconv.ErrRange" = some #[.iface tp p]
theorem var_ext {A B : World} (h : Ext A B) {n : String} {x : Array Value} (hv : A.var? Tryz.prog n = some x) : B.var? Tryz.prog n = some x := by
  unfold World.var? at hv ⊢
  cases hg : Tryz.prog.globalNamed n with
  | none => rw [hg] at hv; cases hv
  | some g =>
    rw [hg] at hv
    simp only [Option.bind_some] at hv ⊢
    cases ho : A.heap[g]? with
    | none => rw [ho] at hv; cases hv
    | some o => rw [Below.block h g (Array.getElem?_eq_some_iff.1 ho).1]; exact hv
theorem Glob.ext {A B : World} (g : Glob A) (h : Ext A B) : Glob B := by
  obtain ⟨⟨m, h1⟩, h2, ⟨a, b, h3⟩, ⟨c, d, h4⟩⟩ := g
  exact ⟨⟨m, h.cell h1⟩, var_ext h h2, ⟨a, b, var_ext h h3⟩, ⟨c, d, var_ext h h4⟩⟩
abbrev txt (s : Txt) : Value := .string ⟨s.toArray⟩
theorem trimP_bare (s : Txt) : Lib.trimPrefix s [45] = bareS s ∧ Lib.hasPrefix s [45] = negS s := by
  unfold Lib.trimPrefix Lib.hasPrefix bareS negS
  cases s with
  | nil => exact ⟨rfl, rfl⟩
  | cons c s =>
    by_cases h : c = 45
    · subst h; exact ⟨rfl, rfl⟩
    · have h1 : ((45 : UInt8) == c) = false := by rw [beq_eq_false_iff_ne]; exact fun e => h e.symm
      have h2 : (c == (45 : UInt8)) = false := by rw [beq_eq_false_iff_ne]; exact h
      simp [h1, h2, List.isPrefixOf]
def digitsC : Txt := [48, 49, 50, 51, 52, 53, 54, 55, 56, 57]
set_option maxRecDepth 100000 in
theorem digitsC_iff (c : UInt8) : digitsC.contains c = decide (48 ≤ c.toNat ∧ c.toNat ≤ 57) := by
  have key : ∀ n : Fin 256, digitsC.contains (UInt8.ofNat n.val) = decide (48 ≤ (UInt8.ofNat n.val).toNat ∧ (UInt8.ofNat n.val).toNat ≤ 57) := by decide
  have := key ⟨c.toNat, c.toNat_lt⟩
  rwa [UInt8.ofNat_toNat] at this
theorem dropWhile_nil {α : Type} (p : α → Bool) (l : List α) : l.dropWhile p = [] ↔ ∀ c ∈ l, p c = true := by
  induction l with
  | nil => simp
  | cons a l ih =>
    rw [List.dropWhile_cons]
    by_cases h : p a = true
    · rw [if_pos h, ih]; simp [h]
    · rw [if_neg h]; simp [h]
theorem trimS_digits (d : Txt) : Lib.trimS d digitsC = [] ↔ DigitL d := by
  have e : ∀ l : Txt, (∀ c ∈ l, digitsC.contains c = true) ↔ DigitL l := fun l => by
    unfold DigitL
    constructor
    · intro h c hc
      have := h c hc
      rw [digitsC_iff] at this
      exact of_decide_eq_true this
    · intro h c hc
      rw [digitsC_iff]
      exact decide_eq_true (h c hc)
  unfold Lib.trimS Lib.trimLeftS
  rw [dropWhile_nil, e]
  constructor
  · intro h
    have h1 : Lib.trimRightS d digitsC = [] := by
      have h2 := (e _).2 h
      unfold Lib.trimRightS at h2 ⊢
      cases hr : d.reverse.dropWhile (digitsC.contains ·) with
      | nil => rfl
      | cons c l =>
        rw [hr] at h2
        have h3 := h2 c (by simp)
        have h4 : (d.reverse.dropWhile (digitsC.contains ·)).head? = some c := by rw [hr]; rfl
        have h5 := List.head?_dropWhile_not (digitsC.contains ·) d.reverse
        rw [h4] at h5
        simp only at h5
        rw [h3] at h5
        cases h5
    unfold Lib.trimRightS at h1
    rw [List.reverse_eq_nil_iff, dropWhile_nil] at h1
    exact (e d).1 (fun c hc => h1 c (by simpa using hc))
  · intro h
    have h1 : Lib.trimRightS d digitsC = [] := by
      unfold Lib.trimRightS
      rw [List.reverse_eq_nil_iff, dropWhile_nil]
      exact fun c hc => (e d).2 h c (by simpa using hc)
    rw [h1]
    intro c hc
    cases hc
end Go.Proofs.YtbpjbhbbkonjlaaGreatDoor
namespace Go.Proofs.YtbpjbhbbkonjlaaGreatDoor
open Go.RowKit
theorem Trim_digits (d : Txt) (w : World) (hl : d.length ≤ 1000) :
    Calls Tryz.prog 119 #[txt d, txt digitsC] w fun e w' => e = .returned (txt (Lib.trimS d digitsC)) ∧ Ext w w' :=
  (Any.strings_Trim_laid Tryz.lays160 (by kernel_rfl) ⟨d.toArray⟩ ⟨digitsC.toArray⟩ w (by show d.toArray.size ≤ _; simp; omega) (by decide) (ascii_of_all (by decide))).mono fun e w' h => h
theorem CutPrefix_any (s : Txt) (w : World) :
    Calls Tryz.prog 118 #[txt s, txt [45]] w fun e w' => e = .returned (.tuple #[txt (bareS s), .bool (negS s)]) ∧ w' = w :=
  (Tryz.strings_CutPrefix ⟨s.toArray⟩ ⟨#[45]⟩ w).mono fun e w' h => by
    have := trimP_bare s
    rw [← this.1, ← this.2]; exact h
theorem TrimPrefix_any (s : Txt) (w : World) :
    Calls Tryz.prog 120 #[txt s, txt [45]] w fun e w' => e = .returned (txt (bareS s)) ∧ w' = w :=
  (Tryz.strings_TrimPrefix ⟨s.toArray⟩ ⟨#[45]⟩ w).mono fun e w' h => by
    have := trimP_bare s
    rw [← this.1]; exact h
set_option maxHeartbeats 2000000 in
theorem long_any (s : Txt) (w : World) :
    Calls Tryz.prog 98 #[txt s] w fun e w' => e = .returned (.bool (decide (60 < (bareS s).length))) ∧ Ext w w' := by
  have HT := Lib.hid (fun W => TrimPrefix_any s W)
  go_enter Tryz.func98, Tryz.ntmps98
  go_wp2_with (go_at_call 120; refine (HT.out _).mono ?_; rintro e w' ⟨rfl, rfl⟩)
  go_ret
  exact ⟨ret_bool (decide_eq_decide.2 (by omega)), Ext.refl _⟩
set_option maxHeartbeats 2000000 in
theorem integer_any (s : Txt) (w : World) (hl : s.length ≤ 1000) :
    Calls Tryz.prog 97 #[txt s] w fun e w' => e = .returned (.bool (decide (IntS s))) ∧ Ext w w' := by
  have HT := Lib.hid (fun W => CutPrefix_any s W)
  have HI : Hid (∀ b : Bool, (b = true ↔ IntS s) → decide (IntS s) = b) := fun b h => by
    by_cases k : IntS s
    · rw [decide_eq_true k, (h.2 k)]
    · rw [decide_eq_false k]
      cases b
      · rfl
      · exact absurd (h.1 rfl) k
  have HIN := Lib.hid (show IntS s ↔ CanonL (bareS s) ∧ s ≠ [45, 48] from Iff.rfl)
  have HD : Hid (∀ W, Calls Tryz.prog 119 #[txt (bareS s), txt digitsC] W fun e w' => e = .returned (txt (Lib.trimS (bareS s) digitsC)) ∧ Ext W w') := fun W => Trim_digits _ W (by
    have : (bareS s).length ≤ s.length := by unfold bareS; split; rw [List.length_tail]; omega; exact Nat.le_refl _
    omega)
  obtain ⟨f, hf⟩ : ∃ f, f = decide (IntS s) := ⟨_, rfl⟩
  rw [← hf]
  have HF := Lib.hid hf
  clear hf
  have HN : Hid (negS s = false → bareS s = s) := fun h => bare_pos h
  have HN2 : Hid (negS s = true → s = 45 :: bareS s) := fun h => neg_cons h
  generalize bareS s = d at *
  generalize negS s = ng at *
  by_cases hd : d = []
  · subst hd
    have hF : Hid (f = false) := HF.out.trans (HI.out false ⟨(fun h => by cases h), fun h => absurd rfl (HIN.out.1 h).1.2.1⟩)
    clear HI HF HIN HN HN2
    go_enter Tryz.func97, Tryz.ntmps97
    go_wp2_with (go_at_call 118; refine (HT.out _).mono ?_; rintro e w' ⟨rfl, rfl⟩)
    go_ret
    exact ⟨ret_bool hF.out.symm, Ext.refl _⟩
  · obtain ⟨c, m, rfl⟩ := List.exists_cons_of_ne_nil hd
    clear hd
    by_cases hdig : DigitL (c :: m)
    · have e0 : Lib.trimS (c :: m) digitsC = [] := (trimS_digits _).2 hdig
      rw [e0] at HD
      have hc : (48 ≤ c.toNat ∧ c.toNat ≤ 57) := hdig c (List.mem_cons_self ..)
      have hget : ∀ h, (⟨(c :: m).toArray⟩ : ByteArray)[0]'h = c := fun _ => rfl
      by_cases h48 : c = 48
      · subst h48
        cases m with
        | nil =>
          have hF : Hid (f = !ng) := HF.out.trans (HI.out (!ng) (by
            rw [HIN.out]
            cases ng
            · refine ⟨fun _ => ⟨⟨hdig, by simp, .inr rfl⟩, ?_⟩, fun _ => rfl⟩
              rw [← HN.out rfl]; decide
            · refine ⟨(fun h => by cases h), fun h => absurd (HN2.out rfl) h.2⟩))
          clear HI HF HIN HN HN2
          go_enter Tryz.func97, Tryz.ntmps97
          go_wp2_with (first
            | (go_at_call 118; refine (HT.out _).mono ?_; rintro e w' ⟨rfl, rfl⟩)
            | (go_at_call 119; refine (HD.out _).mono ?_; rintro e w' ⟨rfl, hE⟩))
          trace_state
          go_ret
          exact ⟨ret_bool hF.out.symm, hE⟩
        | cons k m =>
          have hF : Hid (f = false) := HF.out.trans (HI.out false (by
            rw [HIN.out]
            refine ⟨(fun h => by cases h), fun h => ?_⟩
            rcases h.1.2.2 with h | h
            · exact absurd rfl h
            · simp at h))
          clear HI HF HIN HN HN2
          go_enter Tryz.func97, Tryz.ntmps97
          go_wp2_with (first
            | (go_at_call 118; refine (HT.out _).mono ?_; rintro e w' ⟨rfl, rfl⟩)
            | (go_at_call 119; refine (HD.out _).mono ?_; rintro e w' ⟨rfl, hE⟩))
          trace_state
          go_ret
          exact ⟨ret_bool hF.out.symm, hE⟩
      · have hF : Hid (f = true) := HF.out.trans (HI.out true (by
          rw [HIN.out]
          refine ⟨fun _ => ⟨⟨hdig, by simp, .inl (by simpa using h48)⟩, ?_⟩, fun _ => rfl⟩
          intro e
          cases ng
          · rw [← HN.out rfl] at e
            simp only [List.cons.injEq] at e
            rw [e.1] at hc; simp at hc
          · have := HN2.out rfl
            rw [this] at e
            simp only [List.cons.injEq] at e
            exact h48 e.2.1))
        have hne : ((c.toNat : Int) != 48) = true := by
          rw [bne_iff_ne]
          intro e
          have e2 : c.toNat = 48 := by omega
          exact h48 (UInt8.toNat_inj.1 e2)
        clear HI HF HIN HN HN2
        go_enter Tryz.func97, Tryz.ntmps97
        go_wp2_with (first
          | (go_at_call 118; refine (HT.out _).mono ?_; rintro e w' ⟨rfl, rfl⟩)
          | (go_at_call 119; refine (HD.out _).mono ?_; rintro e w' ⟨rfl, hE⟩))
        go_ret
        exact ⟨ret_bool hF.out.symm, hE⟩
    · have hF : Hid (f = false) := HF.out.trans (HI.out false ⟨(fun h => by cases h), fun h => absurd (HIN.out.1 h).1.1 hdig⟩)
      have e0 : Lib.trimS (c :: m) digitsC ≠ [] := fun e => hdig ((trimS_digits _).1 e)
      generalize Lib.trimS (c :: m) digitsC = t at e0 HD
      obtain ⟨t0, t1, rfl⟩ := List.exists_cons_of_ne_nil e0
      clear HI HF HIN HN HN2
      go_enter Tryz.func97, Tryz.ntmps97
      go_wp2_with (first
        | (go_at_call 118; refine (HT.out _).mono ?_; rintro e w' ⟨rfl, rfl⟩)
        | (go_at_call 119; refine (HD.out _).mono ?_; rintro e w' ⟨rfl, hE⟩))
      go_ret
      exact ⟨ret_bool hF.out.symm, hE⟩
end Go.Proofs.YtbpjbhbbkonjlaaGreatDoor
namespace Go.Proofs.YtbpjbhbbkonjlaaGreatDoor
open Go.RowKit
theorem ext_bytes (w : World) (e : TypeId) (s : ByteArray) : Ext w (Lib.bytesWorld w e s) := Lib.bytesWorld_below w e s
theorem Parse_any (d : Txt) (w : World) (hd : DigitL d) (hne : d ≠ []) (hl : d.length ≤ 18) :
    Calls Tryz.prog 158 #[txt d, .int .i64 10, .int .i64 64] w fun e w' => e = .returned (.tuple #[.int .u64 (decV d : Nat), .nilIface]) ∧ Ext w w' :=
  (Tryz.strconv_ParseUint_10_at64_ok ⟨d.toArray⟩ (by show d.toArray.size ≤ _; simp; omega) (decV d) (parse_eq hd hne hl) w).mono fun e w' h => by
    rcases h with ⟨h1, rfl | rfl⟩
    · exact ⟨h1, Ext.refl _⟩
    · exact ⟨h1, ext_bytes _ _ _⟩
theorem extract_txt (s : Txt) (i j : Nat) : (⟨s.toArray⟩ : ByteArray).extract i j = ⟨((s.take j).drop i).toArray⟩ := by
  apply ByteArray.ext
  rw [ByteArray.data_extract]
  simp [List.drop_take]
set_option maxHeartbeats 4000000 in
set_option maxRecDepth 100000 in
theorem read_any (s : Txt) (w : World) (hs : DigitL s) (hl : s.length ≤ 500) :
    Calls Tryz.prog 121 #[txt s] w (OwnNPost .u64 164 (toB 1000000000 (decV s)) w) := by
  obtain ⟨i0, hi, hi0, hi1, hi2⟩ := info_parts infoU64
  have HS := Lib.hid hs
  clear hs
  go_enter Tryz.func121, Tryz.ntmps121
  go_wp2
  go_loopw [3, 4] (fun v en wr => ∃ (vv : Value) (o : List Nat), v = vv ∧ en = .int .i64 ((s.length : Int) - 9 * (o.length : Int)) ∧ 9 * o.length ≤ s.length + 9 ∧ Hid (ReadI 9 s o) ∧ Hid (OwnsN .u64 164 wr vv o) ∧ Hid (∀ b, vv.ownBlock = some b → w.heap.size ≤ b) ∧ Ext w wr) (fun _ en _ => (intOf en + 9).toNat)
  case atStart => exact ⟨_, [], rfl, by simp, by simp, ReadI.start 9 s, OwnsN.nil _ _ _, (fun b hb => by cases hb), Ext.refl _⟩
  case round =>
    obtain ⟨vv, o, hvv, rfl, hol, HR, HO, HN, he⟩ := hrel
    obtain rfl := hvv.symm
    by_cases hgt : 9 * o.length < s.length
    · obtain ⟨en, hen⟩ : ∃ en, en = s.length - 9 * o.length := ⟨_, rfl⟩
      have hee : (s.length : Int) - 9 * (o.length : Int) = (en : Int) := by omega
      have he0 : (0 : Int) < (en : Int) := by omega
      have hes : (en : Int) ≤ (s.length : Int) := by omega
      obtain ⟨st, hst⟩ : ∃ st, st = en - 9 := ⟨_, rfl⟩
      have hw1 : IntKind.i64.wrap ((en : Int) - 9) = (en : Int) - 9 := by rw [IntKind.wrap_i64]; omega
      have hmx : max (0 : Int) ((en : Int) - 9) = (st : Int) := by omega
      have hst0 : (0 : Int) ≤ (st : Int) := by omega
      have hst1 : (st : Int) ≤ (en : Int) := by omega
      have hex := extract_txt s st en
      have hnx := HR.out.next (by omega) HS.out
      rw [← hen, ← hst] at hnx
      obtain ⟨d, hd⟩ : ∃ d, d = (s.take en).drop st := ⟨_, rfl⟩
      rw [← hd] at hnx hex
      have hdl : d.length ≤ 9 := by rw [hd, List.length_drop, List.length_take]; omega
      have hdn : d ≠ [] := by
        intro e
        have : d.length = 0 := by rw [e]; rfl
        rw [hd, List.length_drop, List.length_take] at this
        omega
      have HP := Lib.hid (fun W => Parse_any d W (by rw [hd]; exact (HS.out.of_take en).of_drop st) hdn (by omega))
      have HNX := Lib.hid hnx
      have HEN := Lib.hid hen
      rw [hee]
      clear hd hst hen hnx hdl hdn
      generalize decV d = x at HNX HP
      have hol2 : o.length ≤ 100 := by omega
      have hEnd : Hid ((en : Int) - 9 = (s.length : Int) - 9 * ((o ++ [x]).length : Int)) := by
        show _ = _
        rw [List.length_append, List.length_singleton]; omega
      have hlo : Hid (9 * (o ++ [x]).length ≤ s.length + 9) := by
        show _ ≤ _
        rw [List.length_append, List.length_singleton]; omega
      clear hee HEN HR
      go_wp2_with (first
        | (go_at_call 158; refine (HP.out _).mono ?_; rintro e w' ⟨rfl, hE⟩)
        | (at_builtin; refine wpList_append1 _ rfl _ _ 141 rfl 164 i0 (.int .u64 0) 1 8 Tryz.underlying141 hi hi0 hi1 hi2 rfl (by decide) vv o.length (natsV .u64 o) rfl (HO.out.ext extA) ⟨w'.heap.size, 0, none⟩ 1 1 (by decide) [.int .u64 (x : Int)] rfl rfl (cells_one _ _ _) (by intro u hu; simp at hu; subst hu; rfl) (by unfold maxLen; omega) (by omega) ?_))
      all_goals
        intro v' w5 hown5 hend5
        have E5 : Ext wr (w'.alloc (.cells #[.int .u64 (x : Int)] 164)) := extA
        have hz5 := he.size
        have hz6 := E5.size
        have OB5 : Hid (∀ b, v'.ownBlock = some b → w.heap.size ≤ b) := hend5.ge (n := w.heap.size) (by omega) HN.out
        have O5 : Hid (OwnsN .u64 164 w5 v' (o ++ [x])) := ownsN_succ hown5
        have B5 : Ext w w5 := (he.trans E5).trans' (hend5.below (n := w.heap.size) (by omega) HN.out) (Nat.le_refl _)
        clear hown5 hend5 HO hz5 hz6 E5
        go_wp2
        refine ⟨⟨v', o ++ [x], rfl, by rw [← hEnd.out], hlo.out, HNX, O5, OB5, B5⟩, by simp [intOf]; omega⟩
    · have he0 : ¬ (0 : Int) < (s.length : Int) - 9 * (o.length : Int) := by omega
      have hdone : trimL o = toB 1000000000 (decV s) := HR.out.done (by omega) (by omega)
      obtain ⟨oa, oc, rfl, hoc, hor, _⟩ := HO.out.reads
      have HNB : Hid (∀ b, (Value.slice oa (trimL o).length oc).ownBlock = some b → w.heap.size ≤ b) := fun b hb => HN.out b (by cases oa <;> exact hb)
      have HT := Lib.hid (trimmed_any o oa oc wr hor hoc)
      have HDN := Lib.hid hdone
      clear hoc hor hdone
      generalize (s.length : Int) - 9 * (o.length : Int) = z at *
      go_wp2_with (go_at_call 126; refine HT.out.mono ?_; rintro e w5 ⟨rfl, hn5, hE5⟩)
      go_ret
      refine ⟨_, rfl, ?_, HNB.out, he.trans hE5⟩
      rw [← HDN.out]
      exact (HO.out.ext hE5).trim hn5
end Go.Proofs.YtbpjbhbbkonjlaaGreatDoor
namespace Go.Proofs.YtbpjbhbbkonjlaaGreatDoor
open Go.RowKit Go.Lib Go.Sort
theorem holds_zero0 (w : World) (T : TypeId) (nd : Nat) (hs : nd ≤ 24) : Holds (fun (b : UInt8) => Value.int .u8 (b.toNat : Int)) (w.alloc (.cells zeros24 T)) w.heap.size 0 (Array.replicate nd (0 : UInt8)) := fun j hj => by
  have hj' : j < nd := by simpa using hj
  refine ⟨?_, World.frozen?_alloc_new _ _ _ _⟩
  rw [World.cell?_alloc_new, zeros24_at _ (by omega), getElem!_pos _ j hj]
  simp
theorem ext_putRow {w A : World} (h : Ext w A) {b : Nat} (hb : w.heap.size ≤ b) (o : Nat) (d : Array UInt8) : Ext w (putRow (fun (b : UInt8) => Value.int .u8 (b.toNat : Int)) A b o d) := by
  refine ⟨h.os, h.tape, h.output, by rw [size_putRow]; exact h.size, fun k hk => ?_⟩
  rw [← h.block k hk]
  simp only [putRow, mapBlock, Array.getElem?_modify]
  rw [if_neg (by omega)]
theorem ext_grow {w A : World} (h : Ext w A) (os : Array Obj) : Ext w (grow A os) := by
  refine ⟨h.os, h.tape, h.output, by simp only [grow, Array.size_append]; have := h.size; omega, fun k hk => ?_⟩
  rw [← h.block k hk]
  simp only [grow]
  exact Array.getElem?_append_left (Nat.lt_of_lt_of_le hk h.size)
set_option maxHeartbeats 4000000 in
set_option maxRecDepth 100000 in
theorem FormatU_any (u : Nat) (w : World) (hu : u < 18446744073709551616) (htab : TabIs Tryz.prog w "internal/strconv.uint64pow10" .u64 pow10Tab) :
    Calls Tryz.prog 164 #[.int .u64 (u : Int), .int .i64 10] w fun e w' => e = .returned (.string ⟨(decDigits u).toArray⟩) ∧ Ext w w' := by
  have mixed : Tryz.prog.follows Departure.mixedOrders = true := by kernel_rfl
  by_cases hs : u < 100
  · have hi : (u : Int) < 100 := by omega
    have hw : IntKind.i64.wrap (u : Int) = (u : Int) := by rw [IntKind.wrap_i64]; omega
    go_enter Tryz.func164, Tryz.ntmps164
    go_wp2_with (go_at_call 190; refine (Tryz.internal_strconv_small u hs _).mono ?_; rintro e w' ⟨rfl, rfl⟩)
    go_ret
    exact ⟨rfl, Ext.refl _⟩
  · have hi : ¬ (u : Int) < 100 := by omega
    have hu1 : 1 ≤ u := by omega
    have hnd20 : nDigits u ≤ 20 := by have := numDigits_eq u hu1 hu; split at this <;> omega
    have hal : Tryz.prog.arrayLen 249 = 24 := by simp [Program.arrayLen, Tryz.underlying249]
    have hsl1 : ∀ W, (Instr.sliceAt 249 (.pointer (some ⟨w.heap.size, 0, none⟩)) none (some (.int .i64 (nDigits u : Int))) none).run Tryz.prog W = .ok (.slice (some ⟨w.heap.size, 0, none⟩) (nDigits u) 24) W := fun W => by
      rw [run_sliceAt_array_h W 249 ⟨w.heap.size, 0, none⟩ (by simp [Program.arrayLen, Program.elem, Tryz.underlying249]) .i64 (nDigits u : Int) (by omega) (by rw [hal]; omega)]
      go_simp
    have hH0 := holds_zero0 w 249 (nDigits u) (by omega)
    have hfmt := Tryz.internal_strconv_formatBase10 w.heap.size 0 24 u (Array.replicate (nDigits u) 0) (w.alloc (.cells zeros24 249)) hH0 (by rw [Array.size_replicate]; exact lt_pow_nDigits u) hu (by rw [Array.size_replicate]; omega)
    rw [Array.size_replicate] at hfmt
    have HH0 := Lib.hid hH0
    clear hH0 hal
    go_enter Tryz.func164, Tryz.ntmps164
    go_wp2_with (go_at_call 191; refine (Tryz.internal_strconv_numDigits u hu1 hu _ (tabIs_alloc htab _)).mono ?_; rintro e w' ⟨rfl, rfl⟩)
    refine hfmt.mono ?_
    rintro e w' ⟨rfl, k, v', dk, rfl, hF⟩
    have hcv : (convert 186 9 (.slice (some ⟨w.heap.size, 0, none⟩) (nDigits u) 24)).run Tryz.prog ((putRow (fun (b : UInt8) => Value.int .u8 (b.toNat : Int)) (w.alloc (.cells zeros24 249)) w.heap.size 0 dk).drewN k) = .ok (.string ⟨(decDigits u).toArray⟩) ((putRow (fun (b : UInt8) => Value.int .u8 (b.toNat : Int)) (w.alloc (.cells zeros24 249)) w.heap.size 0 dk).drewN k) := by
      have h := run_convert_bytes_back (P := Tryz.prog) ((putRow (fun (b : UInt8) => Value.int .u8 (b.toNat : Int)) (w.alloc (.cells zeros24 249)) w.heap.size 0 dk).drewN k) 186 9 5 ⟨w.heap.size, 0, none⟩ 24 (decDigits u) Tryz.underlying186 Tryz.underlying5 Tryz.underlying9 (fun j hj => by
        rw [row_is_numeral hF j hj, add_plain, World.cell?_drewN]
        exact cell?_putRow (fun (b : UInt8) => Value.int .u8 (b.toNat : Int)) _ w.heap.size 0 _ dk HH0.out (by rw [hF.size, Array.size_replicate]) j (by rw [hF.size]; rw [decDigits_length] at hj; exact hj))
      rw [decDigits_length] at h
      exact h
    have E : Ext w ((putRow (fun (b : UInt8) => Value.int .u8 (b.toNat : Int)) (w.alloc (.cells zeros24 249)) w.heap.size 0 dk).drewN k) := Ext.drewN (ext_putRow ((Ext.refl w).alloc _) (Nat.le_refl _) _ _) _
    go_wp2
    go_ret
    exact ⟨rfl, E⟩
theorem FormatUint_any (u : Nat) (w : World) (hu : u < 18446744073709551616) (htab : TabIs Tryz.prog w "internal/strconv.uint64pow10" .u64 pow10Tab) :
    Calls Tryz.prog 129 #[.int .u64 (u : Int), .int .i64 10] w fun e w' => e = .returned (.string ⟨(decDigits u).toArray⟩) ∧ Ext w w' := by
  have HF := Lib.hid (FormatU_any u w hu htab)
  go_enter Tryz.func129, Tryz.ntmps129
  go_wp2_with (go_at_call 164; refine HF.out.mono ?_; rintro e w' ⟨rfl, hE⟩)
  go_ret
  exact ⟨rfl, hE⟩
theorem Repeat_any (n : Nat) (w : World) (hn : n ≤ 100) :
    Calls Tryz.prog 130 #[.string ⟨#[48]⟩, .int .i64 (n : Int)] w fun e w' => e = .returned (.string ⟨(List.replicate n (48 : UInt8)).toArray⟩) ∧ Ext w w' :=
  (Tryz.strings_Repeat ⟨#[48]⟩ n w (by omega) (by show 1 * n ≤ _; omega)).mono fun e w' h => by
    refine ⟨?_, h.2⟩
    rw [h.1]
    congr 3
    have : ∀ k, repeatL ((⟨#[48]⟩ : ByteArray).data.toList) k = List.replicate k (48 : UInt8) := fun k => by
      induction k with
      | zero => rfl
      | succ k ih => rw [repeatL, ih, List.replicate_succ]; rfl
    rw [this]
theorem Itoa_any (n : Int) (w : World) (h0 : -9223372036854775808 ≤ n) (h1 : n ≤ 9223372036854775807) (htab : TabIs Tryz.prog w "internal/strconv.uint64pow10" .u64 pow10Tab) :
    Calls Tryz.prog 144 #[.int .i64 n] w fun e w' => e = .returned (.string ⟨(itoa n).toArray⟩) ∧ Ext w w' :=
  (Tryz.strconv_Itoa n h0 h1 w htab).mono fun e w' h => by
    obtain ⟨h1, k, os, rfl⟩ := h
    exact ⟨h1, ext_grow (Ext.drewN (Ext.refl w) k) os⟩
end Go.Proofs.YtbpjbhbbkonjlaaGreatDoor
namespace Go.Proofs.YtbpjbhbbkonjlaaGreatDoor
open Go.RowKit
def BldW (b n3 : Nat) (l : Txt) (W : World) : Prop :=
  ∃ p v, W.heap[b]? = some (.cells #[p, v] 188 (0, 0)) ∧ (p = .pointer none ∨ p = .pointer (some ⟨b, 0, none⟩)) ∧
    W.ownsRow n3 5 1 v l.length (Lib.byteCells l)
theorem BldW.fresh {b n3 : Nat} {W : World} (h : W.heap[b]? = some (.cells #[.pointer none, .slice none 0 0] 188 (0, 0))) : BldW b n3 [] W :=
  ⟨_, _, h, .inl rfl, World.ownsRow_nil W n3 _ _⟩
theorem row_ge {A : World} {n3 : Nat} {e : TypeId} {s : Nat} {v : Value} {n : Nat} {xs : List Value} (h : A.ownsRow n3 e s v n xs) {g : Nat} (hg : v.ownBlock = some g) : n3 ≤ g ∧ ∃ cur, A.heap[g]? = some (.cells cur e (0, 0)) := by
  rcases h.2 with ⟨hv, _⟩ | ⟨g', cap, cur, hv, hb, hh, _⟩
  · rw [hv] at hg; cases hg
  · rw [hv] at hg; cases hg; exact ⟨hb, cur, hh⟩
theorem row_base {A : World} {n3 m : Nat} {e : TypeId} {s : Nat} {v : Value} {n : Nat} {xs : List Value} (h : A.ownsRow n3 e s v n xs) (hm : m ≤ n3) : A.ownsRow m e s v n xs := by
  refine ⟨h.1, ?_⟩
  rcases h.2 with h | ⟨g, cap, cur, hv, hb, r⟩
  · exact .inl h
  · exact .inr ⟨g, cap, cur, hv, Nat.le_trans hm hb, r⟩
theorem row_same {A B : World} {n3 : Nat} {e : TypeId} {s : Nat} {v : Value} {n : Nat} {xs : List Value} (h : A.ownsRow n3 e s v n xs) (k : ∀ b, v.ownBlock = some b → B.heap[b]? = A.heap[b]?) : B.ownsRow n3 e s v n xs := by
  obtain ⟨h1, h2⟩ := h
  refine ⟨h1, ?_⟩
  rcases h2 with h2 | ⟨g, cap, cur, hv, hg, hh, r⟩
  · exact .inl h2
  · exact .inr ⟨g, cap, cur, hv, hg, (k g (by rw [hv]; rfl)).trans hh, r⟩
theorem BldW.is {b n3 : Nat} {l : Txt} {W : World} (h : BldW b n3 l W) (hb : b < n3) : Lib.IsBuilder 188 5 b b (Lib.byteCells l) W := by
  obtain ⟨p, v, h1, h2, h3⟩ := h
  rw [← Lib.byteCells_length] at h3
  have h6 : v.ownBlock ≠ some b := fun e => by have := (row_ge h3 e).1; omega
  rcases h2 with rfl | rfl
  · exact .inl ⟨Nat.le_refl _, v, h1, row_base h3 (Nat.le_of_lt hb), h6⟩
  · exact .inr ⟨Nat.le_refl _, v, h1, row_base h3 (Nat.le_of_lt hb), h6⟩
theorem BldW.keep {b n3 m : Nat} {l : Txt} {A B : World} (h : BldW b n3 l A) (q : Keep m A B) : BldW b n3 l B := by
  obtain ⟨p, v, h1, h2, h3⟩ := h
  refine ⟨p, v, q.2 b _ h1 rfl, h2, row_same h3 (fun g hg => ?_)⟩
  obtain ⟨_, cur, hh⟩ := row_ge h3 hg
  exact (q.2 g _ hh rfl).trans hh.symm
theorem BldW.ext {b n3 : Nat} {l : Txt} {A B : World} (h : BldW b n3 l A) (q : Ext A B) : BldW b n3 l B := h.keep (Keep.ext q (Nat.le_refl _))
set_option maxHeartbeats 2000000 in
set_option maxRecDepth 100000 in
theorem copyCheck_used (b : Nat) (w : World) (h0 : w.cell? ⟨b, 0, none⟩ = some (.pointer (some ⟨b, 0, none⟩))) :
    Calls Tryz.prog 169 #[.pointer (some ⟨b, 0, none⟩)] w fun e w' => e = .returned (.tuple #[]) ∧ w' = w := by
  obtain ⟨j, hj, _⟩ := Option.map_eq_some_iff.1 Tryz.Builder_Extra_169.sizeBuilder
  go_enter Tryz.func169, Tryz.ntmps169
  go_wp2
  rw [Lib.run_neq_ptr_same w _ Tryz.underlying185 hj]
  go_wp2
  go_end0
  exact ⟨rfl, rfl⟩
set_option maxHeartbeats 2000000 in
set_option maxRecDepth 100000 in
theorem copyCheck_fresh (b : Nat) (w : World) (h0 : w.cell? ⟨b, 0, none⟩ = some (.pointer none)) (hsh : w.shape? b = some (188, 2)) (hfz : w.frozen? ⟨b, 0, none⟩ = false) :
    Calls Tryz.prog 169 #[.pointer (some ⟨b, 0, none⟩)] w fun e w' => e = .returned (.tuple #[]) ∧ w' = w.setCell ⟨b, 0, none⟩ (.pointer (some ⟨b, 0, none⟩)) := by
  obtain ⟨j, hj, hjs⟩ := Option.map_eq_some_iff.1 Tryz.Builder_Extra_169.sizeBuilder
  go_enter Tryz.func169, Tryz.ntmps169
  go_wp2
  rw [Lib.run_to_unsafe w ⟨b, 0, none⟩ Tryz.underlying185 Tryz.underlying257 hj (by rw [hjs]; decide) hsh (Nat.zero_lt_succ 1)]
  simp only [Result.andThen]
  rw [Oper.upon_value]
  go_wp2
  rw [run_callFunc_extern Tryz.func197 (by kernel_rfl) (by kernel_rfl) (by kernel_rfl) (e := Extern.AbiNoEscape.same) (by kernel_rfl)]
  rw [Lib.run_noEscape]
  simp only [Result.andThen]
  rw [Oper.upon_value]
  go_wp2
  rw [Lib.run_from_unsafe w ⟨b, 0, none⟩ Tryz.underlying257 Tryz.underlying185 hj hsh Tryz.Builder_Extra_169.liesBuilder]
  simp only [Result.andThen]
  rw [Oper.upon_value]
  go_wp2
  go_end0
  exact ⟨rfl, rfl⟩
theorem strCells_txt (m : Txt) : Lib.strCells ⟨m.toArray⟩ = Lib.byteCells m := by
  unfold Lib.strCells Lib.byteCells
  rfl
theorem byteCells_app (l m : Txt) : Lib.byteCells (l ++ m) = Lib.byteCells l ++ Lib.byteCells m := by
  unfold Lib.byteCells
  rw [List.map_append]
set_option maxHeartbeats 2000000 in
set_option maxRecDepth 100000 in
theorem WriteString_any (b n3 : Nat) (l m : Txt) (w : World) (h : BldW b n3 l w) (hb : b < n3) (hn : n3 ≤ w.heap.size) (hlen : l.length + m.length ≤ 100000) :
    Calls Tryz.prog 131 #[.pointer (some ⟨b, 0, none⟩), txt m] w fun e w' => e = .returned (.tuple #[.int .i64 m.length, .nilIface]) ∧ BldW b n3 (l ++ m) w' ∧ Below b w w' ∧
      ∃ M : Nat → Prop, Chg M w w' ∧ (∀ k, M k → k = b ∨ n3 ≤ k) ∧ ∀ k, M k → ∀ o, w.heap[k]? = some o → o.isCells = true := by
  obtain ⟨i0, hi, hz0, hz1, hz2⟩ := info_parts Tryz.Builder_Extra_169.infoByte
  obtain ⟨p, v, h1, h2, h3⟩ := h
  have hbw : b < w.heap.size := by omega
  have hvb : v.ownBlock ≠ some b := fun e => by have := (row_ge h3 e).1; omega
  have hCC : Hid (Calls Tryz.prog 169 #[.pointer (some ⟨b, 0, none⟩)] w fun e w' => e = .returned (.tuple #[]) ∧ w'.heap[b]? = some (.cells #[.pointer (some ⟨b, 0, none⟩), v] 188 (0, 0)) ∧ Chg (fun k => k = b) w w' ∧ Below b w w') := by
    rcases h2 with rfl | rfl
    · refine (copyCheck_fresh b w (by simp [World.cell?, h1]) (by simp [World.shape?, h1]) (by simp [World.frozen?, h1])).mono ?_
      rintro e w' ⟨rfl, rfl⟩
      refine ⟨rfl, ?_, Chg.setCell (B := fun k => k = b) ⟨b, 0, none⟩ _ rfl, (Below.refl b w).setCell (p := ⟨b, 0, none⟩) (Nat.le_refl _) _⟩
      simp only [World.setCell, Array.getElem?_modify, h1]
      simp
    · refine (copyCheck_used b w (by simp [World.cell?, h1])).mono ?_
      rintro e w' ⟨rfl, rfl⟩
      exact ⟨rfl, h1, Chg.refl _ _, Below.refl _ _⟩
  have HM : Hid ((∀ k, (k = b ∨ v.ownBlock = some k) → k = b ∨ n3 ≤ k) ∧ ∀ k, (k = b ∨ v.ownBlock = some k) → ∀ o, w.heap[k]? = some o → o.isCells = true) := by
    refine ⟨fun k hk => hk.imp id (fun e => (row_ge h3 e).1), ?_⟩
    rintro k (rfl | hk) o ho
    · rw [h1] at ho; cases ho; rfl
    · obtain ⟨_, cur, hh⟩ := row_ge h3 hk
      rw [hh] at ho; cases ho; rfl
  have HR := Lib.hid h3
  have HV := Lib.hid hvb
  clear h1 h2 h3 hvb
  go_enter Tryz.func131, Tryz.ntmps131
  go_wp2_with (go_at_call 169; refine hCC.out.mono ?_)
  rintro e w1 ⟨rfl, k1, k2, k3⟩
  have c0 : w1.cell? ⟨b, 0, none⟩ = some (.pointer (some ⟨b, 0, none⟩)) := by rw [Lib.cell_of_heap k1]; rfl
  have c1 : w1.cell? ⟨b, 1, none⟩ = some v := by rw [Lib.cell_of_heap k1]; rfl
  have hown : w1.ownsRow n3 5 1 v l.length (Lib.byteCells l) := row_same HR.out (fun g hg => k2.2 g (by
    obtain ⟨_, cur, hh⟩ := row_ge HR.out hg
    exact (Array.getElem?_eq_some_iff.1 hh).1) (fun e => HV.out (e ▸ hg)))
  have HK := Lib.hid (And.intro k1 (And.intro k2 k3))
  have hz := k2.1
  clear k1 k2 k3 HR
  go_wp2_with (at_builtin; refine Lib.wpList_append_own_string _ rfl _ _ 186 9 rfl n3 5 i0 Tryz.underlying186 Tryz.underlying9 hi hz0 hz1 hz2 _ _ _ rfl hown ⟨m.toArray⟩ rfl ?c3 ?c4 ?c5 ?_)
  case c3 => show l.length + m.toArray.size ≤ maxLen; unfold maxLen; simp; omega
  case c4 => show l.length + m.toArray.size ≤ _; simp; omega
  case c5 => omega
  intro v' w2 hown' hgrow _
  have hlt : b < w1.heap.size := by omega
  have hb2 : w2.heap[b]? = some (.cells #[.pointer (some ⟨b, 0, none⟩), v] 188 (0, 0)) := by
    rw [hgrow.block b hlt (fun e => HV.out e.symm)]
    exact HK.out.1
  have d0 : w2.cell? ⟨b, 0, none⟩ = some (.pointer (some ⟨b, 0, none⟩)) := by rw [Lib.cell_of_heap hb2]; rfl
  have d1 : w2.cell? ⟨b, 1, none⟩ = some v := by rw [Lib.cell_of_heap hb2]; rfl
  have f1 : w2.frozen? ⟨b, 1, none⟩ = false := Lib.frozen_of_heap hb2 1
  obtain ⟨ao, n', cap, rfl⟩ : ∃ ao n' cap, v' = .slice ao n' cap := by
    rcases hown'.2 with ⟨hv, _⟩ | ⟨g, cap, cur, hv, _⟩
    · exact ⟨_, _, _, hv⟩
    · exact ⟨_, _, _, hv⟩
  have hW : BldW b n3 (l ++ m) (w2.setCell ⟨b, 1, none⟩ (.slice ao n' cap)) := by
    refine ⟨.pointer (some ⟨b, 0, none⟩), .slice ao n' cap, ?_, .inr rfl, ?_⟩
    · show (w2.setCell ⟨b, 1, none⟩ (.slice ao n' cap)).heap[b]? = some (.cells #[.pointer (some ⟨b, 0, none⟩), .slice ao n' cap] _ (0, 0))
      simp only [World.setCell, Array.getElem?_modify, hb2]
      simp
    · have h9 : (w2.setCell ⟨b, 1, none⟩ (.slice ao n' cap)).ownsRow n3 5 1 (.slice ao n' cap) (l.length + (⟨m.toArray⟩ : ByteArray).size) (Lib.byteCells l ++ Lib.strCells ⟨m.toArray⟩) :=
        row_same hown' (fun g hg => Below.heap_setCell _ ⟨b, 1, none⟩ _ g (fun e => by have := (row_ge hown' hg).1; dsimp only at e; omega))
      rw [strCells_txt, ← byteCells_app, show (⟨m.toArray⟩ : ByteArray).size = m.length from by show m.toArray.size = _; simp, ← List.length_append] at h9
      exact h9
  have hC : Chg (fun k => k = b ∨ v.ownBlock = some k) w (w2.setCell ⟨b, 1, none⟩ (.slice ao n' cap)) := by
    refine ((HK.out.2.1.mono (fun k hk => .inl hk)).trans (?_ : Chg _ w1 w2)).trans (Chg.setCell (B := fun k => k = b ∨ v.ownBlock = some k) ⟨b, 1, none⟩ _ (.inl rfl))
    exact ⟨hgrow.size, fun k hk hn => hgrow.block k hk (fun e => hn (.inr e.symm))⟩
  have hB : Below b w (w2.setCell ⟨b, 1, none⟩ (.slice ao n' cap)) :=
    (HK.out.2.2.grown hgrow (by omega) (fun k hk => by have := (row_ge hown hk).1; omega)).setCell (p := ⟨b, 1, none⟩) (Nat.le_refl _) _
  have HF := Lib.hid (And.intro hW (And.intro hB hC))
  clear hW hB hC hown hown' hgrow
  go_wp2
  go_ret2
  exact ⟨by congr 4, HF.out.1, HF.out.2.1, _, HF.out.2.2, HM.out.1, HM.out.2⟩
end Go.Proofs.YtbpjbhbbkonjlaaGreatDoor
