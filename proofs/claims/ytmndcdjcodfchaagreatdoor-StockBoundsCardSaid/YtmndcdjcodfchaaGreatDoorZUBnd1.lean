/- Steps of the proof: FDec, UOpen, FTrimR, FPlusR, FLessR, FTimesR, FOrdR, FQuoP, FQuoR, FShaR, FDigR, FRedR, FTxtR, FSplR, FChkR, FNumR. No conditions. -/
import Derived.Lib.ItoaMem
import Derived.Lib.ParseIntB
import Derived.Lib.Atoi
import Derived.ProofKit
import Derived.OpenShut
import Derived.Lib.SmallJoins
import Derived.Deep.Slices
import Derived.Deep.Strs
import Derived.Test.YtmndcdjcodfchaaGreatDoorZUB1
import Derived.Test.YtmndcdjcodfchaaGreatDoorZUB2
import Derived.Test.YtmndcdjcodfchaaGreatDoorZUB3
import Derived.Test.YtmndcdjcodfchaaGreatDoorZUB4
import Derived.Test.YtmndcdjcodfchaaGreatDoorZUB5
import Derived.Test.YtmndcdjcodfchaaGreatDoorZUB6
import Derived.Test.YtmndcdjcodfchaaGreatDoorZUB7
import Derived.Test.YtmndcdjcodfchaaGreatDoorZUB8
namespace Go.Proofs.YtmndcdjcodfchaaGreatDoor
open Go.Lib (decDigits decFrom)
instance (l : List UInt8) : Decidable (DigitL l) := by unfold DigitL; infer_instance
instance (l : List UInt8) : Decidable (CanonL l) := by unfold CanonL; infer_instance
theorem canon_inj {l m : List UInt8} (h : CanonL l) (k : CanonL m) (e : decV l = decV m) : l = m := by
  rw [← canon_back h, ← canon_back k, e]
theorem padD_len (k x : Nat) : (padD k x).length = k := by
  induction k generalizing x with
  | zero => rfl
  | succ k ih => rw [padD, List.length_append, ih]; rfl
end Go.Proofs.YtmndcdjcodfchaaGreatDoor
namespace Go.Proofs.YtmndcdjcodfchaaGreatDoor
open Go.RowKit Go.ChangeShapes Go.WideShapes Go.Joins Go.Deep
theorem laidOut : laidOutB Tryz.prog = true := by kernel_rfl
theorem cellsOfInt : Tryz.prog.cellsOf 3 = 1 := by kernel_rfl
theorem cellsOfSli : Tryz.prog.cellsOf 23 = 1 := by kernel_rfl
theorem cellsOfPk : Tryz.prog.cellsOf 62 = 3 := by kernel_rfl
theorem list3 {α : Type} {l : List α} (h : l.length = 3) : ∃ a b c, l = [a, b, c] := by
  match l, h with
  | [a, b, c], _ => exact ⟨a, b, c, rfl⟩
section
variable {H : Type} {enc : TypeId × Value → H} {w : World} {base : Nat} {spare : Nat → Bool} {held : Bool}
theorem open_cellsI {a : Addr} {len : Nat} (h : ∀ i, i < len → ∃ cs' n x, w.cells? base (a.add (i * 1)) 1 = some cs' ∧ DataW.trod enc Tryz.prog w base spare held n 3 cs' = some x) : ∃ l : List Int, l.length = len ∧ CellsI w (some a) l := by
  have key : ∀ i, i < len → ∃ y : Int, w.cell? (a.add (i * 1)) = some (.int .i64 y) := fun i hi => by
    obtain ⟨cs', n, x, h1, h2⟩ := h i hi
    obtain ⟨y, rfl, _, _⟩ := DataW.trod_int Tryz.underlying3 h2
    obtain ⟨_, _, hc⟩ := World.cells?_some h1
    have c0 := hc 0 (by omega)
    refine ⟨y, ?_⟩
    have e : (a.add (i * 1)).add 0 = a.add (i * 1) := by simp [Addr.add]
    rw [e] at c0
    exact c0
  obtain ⟨f, hf⟩ := choose_lt (α := Int) key
  refine ⟨(List.range len).map f, by simp, fun i hi => ?_⟩
  have hi' : i < len := by simpa using hi
  have h1 := hf i hi'
  have hp : ((List.range len).map f).getD i 0 = f i := by simp [List.getD, hi']
  rw [hp]
  obtain ⟨b, off, spot⟩ := a
  have hs : spot = none := by
    have h0 := World.cell?_spot (hf 0 (by omega))
    simpa [Addr.add] using h0
  subst hs
  rw [Addr.add_lit, Nat.mul_one] at h1
  exact ⟨b, off, rfl, h1⟩
theorem open_sli {fuel : Nat} {v : Value} {x : DataW H × List MemPlace} (hf : DataW.trod enc Tryz.prog w base spare held fuel 23 [v] = some x) : ∃ l : List Int, SliceI w v l := by
  rcases open_slice Tryz.underlying23 hf with ⟨h1, _⟩ | ⟨a, len, cap, m, n, D, Pl, h1, hb, hl, hm, hmm, _, hx⟩
  · simp at h1
    exact ⟨[], none, 0, h1, fun i hi => by simp at hi, by simp, by simp⟩
  · simp at h1
    rw [cellsOfInt] at hx
    have hlm : len ≤ m := by rw [hmm]; split <;> omega
    obtain ⟨l, hll, hc⟩ := open_cellsI (enc := enc) (spare := spare) (held := held) (w := w) (base := base) (a := a) (len := len) (fun i hi => by
      obtain ⟨cs', h2, h3⟩ := hx i (by omega)
      exact ⟨cs', n, _, h2, h3⟩)
    exact ⟨l, some a, cap, by rw [h1, hll], hc, by rw [hll]; exact hl, hm⟩
theorem open_pkg {fuel : Nat} {cs : List Value} {x : DataW H × List MemPlace} (h : DataW.trod enc Tryz.prog w base spare held fuel 62 cs = some x) : ∃ (v : Value) (p : Pk), cs = [v, .int .i64 p.price, .int .i64 p.most] ∧ SliceI w v p.parts := by
  obtain ⟨y0, y1, y2, n, _, hl, h0, h1, h2⟩ := trod_struct3 Tryz.underlying62 h
  rw [cellsOfPk] at hl
  obtain ⟨a, b, c, rfl⟩ := list3 hl
  rw [cellsOfSli] at h0
  rw [cellsOfInt] at h1
  rw [cellsOfInt] at h2
  obtain ⟨i, e1, _, _⟩ := DataW.trod_int Tryz.underlying3 h1
  obtain ⟨j, e2, _, _⟩ := DataW.trod_int Tryz.underlying3 h2
  obtain ⟨l, hv⟩ := open_sli (v := a) (by simpa using h0)
  simp at e1 e2
  subst e1; subst e2
  exact ⟨a, ⟨l, i, j⟩, rfl, hv⟩
theorem open_pkgs {a : Addr} {len : Nat} (h : ∀ i, i < len → ∃ cs' n x, w.cells? base (a.add (i * 3)) 3 = some cs' ∧ DataW.trod enc Tryz.prog w base spare held n 62 cs' = some x) : ∃ l : List Pk, l.length = len ∧ PkG w (some a) l := by
  have key : ∀ i, i < len → ∃ y : Value × Pk, w.cell? (a.add (i * 3)) = some y.1 ∧ SliceI w y.1 y.2.parts ∧ w.cell? ((a.add (i * 3)).add 1) = some (.int .i64 y.2.price) ∧ w.cell? ((a.add (i * 3)).add 2) = some (.int .i64 y.2.most) := fun i hi => by
    obtain ⟨cs', n, x, h1, h2⟩ := h i hi
    obtain ⟨v, y, rfl, hv⟩ := open_pkg h2
    obtain ⟨_, _, hc⟩ := World.cells?_some h1
    have c0 := hc 0 (by omega)
    have c1 := hc 1 (by omega)
    have c2 := hc 2 (by omega)
    refine ⟨(v, y), ?_, hv, c1, c2⟩
    have e : (a.add (i * 3)).add 0 = a.add (i * 3) := by simp [Addr.add]
    rw [e] at c0
    exact c0
  haveI : Inhabited (Value × Pk) := ⟨(undef, pk0)⟩
  obtain ⟨f, hf⟩ := choose_lt (α := Value × Pk) key
  have hs : 0 < len → a.spot = none := fun h0 => by
    have h0 := World.cell?_spot (hf 0 h0).1
    simpa [Addr.add] using h0
  refine ⟨(List.range len).map fun i => (f i).2, by simp, fun i hi => ?_⟩
  have hi' : i < len := by simpa using hi
  obtain ⟨h1, h2, h3, h4⟩ := hf i hi'
  have hp : ((List.range len).map fun i => (f i).2).getD i pk0 = (f i).2 := by simp [List.getD, hi']
  rw [hp]
  obtain ⟨b, off, spot⟩ := a
  have hs := hs (by omega)
  dsimp only at hs
  subst hs
  rw [Addr.add_lit] at h1 h3 h4
  rw [Addr.add_lit] at h3 h4
  exact ⟨b, off, _, rfl, h1, h2, h3, h4⟩
set_option maxRecDepth 100000 in
theorem open_task {r : Reach} {b0 : Nat} {v : Value} {d : DataW H} {p : List MemPlace} (hv : Value.okWide Tryz.prog w r b0 25 v) (h : DataW.Trod enc Tryz.prog w base spare held 25 v d p) :
    ∃ pks need pa pc na nc, v = taskV pks need pa pc na nc ∧ TaskG w pks need pa pc na nc := by
  obtain ⟨c0, c1, y0, y1, n, rfl, _, _, h0, h1⟩ := open_agg2 Tryz.underlying25 (by kernel_rfl) (by kernel_rfl) hv h
  obtain ⟨need, na, nc, rfl, e2, e3, e4⟩ := open_sli h1
  rcases open_slice Tryz.underlying22 h0 with ⟨h1, _⟩ | ⟨a, len, cap, m, n, D, Pl, h1, hb, hl, hm, hmm, _, hx⟩
  · simp at h1
    subst h1
    exact ⟨[], need, none, 0, na, nc, rfl, fun i hi => by simp at hi, e2, by simp, by simp, e3, e4⟩
  · simp at h1
    rw [cellsOfPk] at hx
    have hlm : len ≤ m := by rw [hmm]; split <;> omega
    obtain ⟨l, hll, hc⟩ := open_pkgs (enc := enc) (spare := spare) (held := held) (w := w) (base := base) (a := a) (len := len) (fun i hi => by
      obtain ⟨cs', h2, h3⟩ := hx i (by omega)
      exact ⟨cs', n, _, h2, h3⟩)
    subst h1
    exact ⟨l, need, some a, cap, na, nc, by unfold taskV; rw [hll], hc, e2, by rw [hll]; exact hl, hm, e3, e4⟩
end
end Go.Proofs.YtmndcdjcodfchaaGreatDoor
namespace Go.Proofs.YtmndcdjcodfchaaGreatDoor
open Go.RowKit
theorem infoI64 : (Tryz.prog.info? 3).map (fun i => (i.zero, i.size, i.bytes)) = some (some (.int .i64 0), 1, 8) := by kernel_rfl
set_option maxHeartbeats 2000000 in
theorem trimR_any (l : List Nat) (a : Option Addr) (cap : Nat) (w : World) (hr : Room a l.length cap) (hc : CellsN .i64 w a l) :
    Calls Tryz.prog 109 #[.slice a l.length cap] w fun e w' => e = .returned (.slice a (trimL l).length cap) ∧ (∃ n, n ≤ l.length ∧ trimL l = l.take n) ∧ Ext w w' := by
  obtain ⟨hr1, hr2, hr3⟩ := hr
  unfold maxLen at hr2
  have HC := Lib.hid hc
  clear hc
  go_enter Tryz.func109, Tryz.ntmps109
  go_wp2
  go_loop [0] (fun v => ∃ k : Nat, k ≤ l.length ∧ v = .slice a k cap ∧ Hid (trimL (l.take k) = trimL l)) (fun v => match v with | .slice _ n _ => n | _ => 0)
  case atStart => exact ⟨l.length, Nat.le_refl _, rfl, by show _ = _; rw [List.take_length]⟩
  case round =>
    obtain ⟨k, hk, rfl, hz⟩ := hrel
    rcases k with _ | k
    · have HT : Hid (trimL l = []) := by show _ = _; rw [← hz.out]; rfl
      clear hz
      go_wp2
      go_ret
      exact ⟨by rw [HT.out]; rfl, ⟨0, Nat.zero_le _, HT.out⟩, Ext.refl _⟩
    · obtain ⟨b, off, ha, c1⟩ := HC.out k (by omega)
      subst ha
      by_cases hx : l.getD k 0 = 0
      · have HT : Hid (trimL (l.take k) = trimL l) := by show _ = _; rw [← hz.out]; exact (trimL_zero (by omega) hx).symm
        rw [hx] at c1
        clear hz hx
        go_wp2
        refine ⟨⟨k, by omega, by go_num, HT⟩, by simp⟩
      · have HT : Hid (trimL l = l.take (k + 1)) := by show _ = _; rw [← hz.out]; exact trimL_stop (by omega) hx
        have hx2 : ((l.getD k 0 : Int) == 0) = false := by rw [beq_eq_false_iff_ne]; omega
        clear hz
        generalize l.getD k 0 = x at c1 hx2 hx
        go_wp2
        go_ret
        refine ⟨?_, ⟨k + 1, by omega, HT.out⟩, Ext.refl _⟩
        rw [HT.out, List.length_take, Nat.min_eq_left (by omega)]
        rfl
end Go.Proofs.YtmndcdjcodfchaaGreatDoor
namespace Go.Proofs.YtmndcdjcodfchaaGreatDoor
open Go.RowKit
theorem trimL_same {B : Nat} (hB : 2 ≤ B) (n : Nat) : trimL (toB B n) = toB B n := by rw [trimL_toB hB (okB_toB hB n), valB_toB hB]
set_option maxHeartbeats 8000000 in
set_option maxRecDepth 100000 in
theorem plusR_any (x y : Nat) (la lb : List Nat) (a b : Option Addr) (ca cb : Nat) (w : World) (hx : la = toB 1000000 x) (hy : lb = toB 1000000 y)
    (hla : la.length ≤ 200) (hlb : lb.length ≤ 200) (ha : CellsN .i64 w a la) (hb : CellsN .i64 w b lb) :
    Calls Tryz.prog 111 #[.slice a la.length ca, .slice b lb.length cb] w (OwnNPost .i64 3 (toB 1000000 (x + y)) w) := by
  have HA := Lib.hid ha
  have HB := Lib.hid hb
  have HX := Lib.hid hx
  have HY := Lib.hid hy
  have OA : Hid (OkB 1000000 la) := by show OkB _ _; rw [hx]; exact okB_toB (by omega) x
  have OB : Hid (OkB 1000000 lb) := by show OkB _ _; rw [hy]; exact okB_toB (by omega) y
  clear ha hb hx hy
  obtain ⟨M, hM⟩ : ∃ M, M = plusM la lb := ⟨_, rfl⟩
  have hM1 : la.length ≤ M := by rw [hM]; exact Nat.le_max_left _ _
  have hM2 : lb.length ≤ M := by rw [hM]; exact Nat.le_max_right _ _
  have hM3 : max (la.length : Int) (lb.length : Int) = (M : Int) := by rw [hM]; unfold plusM; omega
  have hM4 : M ≤ 200 := by rw [hM]; unfold plusM; omega
  have HM := Lib.hid hM
  clear hM
  obtain ⟨i0, hi, hi0, hi1, hi2⟩ := info_parts infoI64
  go_enter Tryz.func111, Tryz.ntmps111
  go_wp2
  go_loopw [5, 6, 7] (fun v c i wr => ∃ (k cc : Nat) (vv : Value), k ≤ M + 1 ∧ cc ≤ 1 ∧ i = .int .i64 k ∧ c = .int .i64 (cc : Nat) ∧ v = vv ∧ Hid (PlusWR la lb w k cc vv wr) ∧ Ext w wr) (fun _ c i _ => 2 * (M + 1 - (intOf i).toNat) + (intOf c).toNat)
  case atStart => exact ⟨0, 0, _, by omega, by omega, rfl, rfl, rfl, ⟨⟨[], PlusI.start _ _ _, OwnsN.nil _ _ _, .inl (Nat.zero_le _)⟩, fun b hb => by cases hb⟩, Ext.refl _⟩
  case round =>
    obtain ⟨k, cc, vv, hk, hcc, rfl, rfl, hvv, hw, he⟩ := hrel
    obtain rfl := hvv.symm
    obtain ⟨⟨o, ho1, ho2, ho3⟩, hnw⟩ := hw.out
    have HO := Lib.hid ho2
    have HP := Lib.hid ho1
    have HC := Lib.hid ho3
    have HN := Lib.hid hnw
    have HOL := Lib.hid ho1.len
    have hol : o.length ≤ 201 := by have := ho1.len; omega
    clear ho1 ho2 ho3 hnw
    by_cases hgo : k < M ∨ 0 < cc
    · clear hw
      obtain ⟨p, hp⟩ : ∃ p, p = la.getD k 0 := ⟨_, rfl⟩
      obtain ⟨q, hq⟩ : ∃ q, q = lb.getD k 0 := ⟨_, rfl⟩
      have hpb : p < 1000000 := by rw [hp]; exact okB_getD OA.out (by omega) k
      have hqb : q < 1000000 := by rw [hq]; exact okB_getD OB.out (by omega) k
      have hp0 : ¬ k < la.length → p = 0 := fun h => by rw [hp, List.getD_eq_getElem?_getD, List.getElem?_eq_none (by omega)]; rfl
      have hq0 : ¬ k < lb.length → q = 0 := fun h => by rw [hq, List.getD_eq_getElem?_getD, List.getElem?_eq_none (by omega)]; rfl
      obtain ⟨r, hr⟩ : ∃ r, r = (cc + p + q) % 1000000 := ⟨_, rfl⟩
      obtain ⟨d, hd⟩ : ∃ d, d = (cc + p + q) / 1000000 := ⟨_, rfl⟩
      have hd1 : d ≤ 1 := by omega
      have hw1 : IntKind.i64.wrap ((cc : Int) + (p : Int)) = (cc : Int) + (p : Int) := by rw [IntKind.wrap_i64]; omega
      have hw2 : IntKind.i64.wrap ((cc : Int) + (p : Int) + (q : Int)) = (cc : Int) + (p : Int) + (q : Int) := by rw [IntKind.wrap_i64]; omega
      have ht1 : ((cc : Int) + (p : Int) + (q : Int)).tmod 1000000 = (r : Int) := by rw [Int.tmod_eq_emod_of_nonneg (by omega)]; omega
      have ht2 : ((cc : Int) + (p : Int) + (q : Int)).tdiv 1000000 = (d : Int) := by rw [Int.tdiv_eq_ediv_of_nonneg (by omega)]; omega
      have HR : Hid (r = (cc + la.getD k 0 + lb.getD k 0) % 1000000 ∧ d = (cc + la.getD k 0 + lb.getD k 0) / 1000000) := by
        show _ ∧ _; rw [← hp, ← hq]; exact ⟨hr, hd⟩
      have hmd : 2 * (M + 1 - (k + 1)) + d < 2 * (M + 1 - k) + cc := by omega
      have hkM : k + 1 ≤ M + 1 := by
        have h9 := HC.out
        rw [← HM.out] at h9
        omega
      clear hr hd
      by_cases h1 : k < la.length
      · obtain ⟨b1, o1, ha1, p1⟩ := HA.out.ext he k h1
        subst ha1
        rw [← hp] at p1
        clear hp hp0
        by_cases h2 : k < lb.length
        · obtain ⟨b2, o2, ha2, q1⟩ := HB.out.ext he k h2
          subst ha2
          rw [← hq] at q1
          clear hq hq0
          go_wp2_with (at_builtin; refine wpList_append1 _ rfl _ _ 123 rfl 3 i0 (.int .i64 0) 1 8 Tryz.underlying123 hi hi0 hi1 hi2 rfl (by decide) vv o.length (natsV .i64 o) rfl (HO.out.ext ((Ext.refl _).alloc _)) ⟨wr.heap.size, 0, none⟩ 1 1 (by decide) [.int .i64 (r : Int)] rfl rfl (cells_one _ _ _) (by intro u hu; simp at hu; subst hu; rfl) (by unfold maxLen; omega) (by omega) ?_)
          all_goals
            intro v' w5 hown5 hend5
            have OB5 : Hid (∀ b, v'.ownBlock = some b → w.heap.size ≤ b) := hend5.ge (n := w.heap.size) (by have := he.size; simp; omega) HN.out
            have O5 : Hid (PlusWR la lb w (k + 1) d v' w5) := PlusWR.step HP.out HC.out OA.out OB.out (by rw [← HM.out]; exact hgo) HR.out.1 HR.out.2 (ownsN_succ hown5) OB5.out
            have B5 : Ext w w5 := (he.trans ((Ext.refl _).alloc _)).trans' (hend5.below (n := w.heap.size) (by have := he.size; simp; omega) HN.out) (Nat.le_refl _)
            clear hown5 hend5 HO HP HC
            go_wp2
            refine ⟨⟨k + 1, d, v', hkM, hd1, by go_num, rfl, rfl, O5, B5⟩, by simp [intOf]; omega⟩
        · have hqz := hq0 h2
          subst hqz
          clear hq hq0
          rw [Int.natCast_zero, Int.add_zero] at hw2 ht1 ht2
          go_wp2_with (at_builtin; refine wpList_append1 _ rfl _ _ 123 rfl 3 i0 (.int .i64 0) 1 8 Tryz.underlying123 hi hi0 hi1 hi2 rfl (by decide) vv o.length (natsV .i64 o) rfl (HO.out.ext ((Ext.refl _).alloc _)) ⟨wr.heap.size, 0, none⟩ 1 1 (by decide) [.int .i64 (r : Int)] rfl rfl (cells_one _ _ _) (by intro u hu; simp at hu; subst hu; rfl) (by unfold maxLen; omega) (by omega) ?_)
          all_goals
            intro v' w5 hown5 hend5
            have OB5 : Hid (∀ b, v'.ownBlock = some b → w.heap.size ≤ b) := hend5.ge (n := w.heap.size) (by have := he.size; simp; omega) HN.out
            have O5 : Hid (PlusWR la lb w (k + 1) d v' w5) := PlusWR.step HP.out HC.out OA.out OB.out (by rw [← HM.out]; exact hgo) HR.out.1 HR.out.2 (ownsN_succ hown5) OB5.out
            have B5 : Ext w w5 := (he.trans ((Ext.refl _).alloc _)).trans' (hend5.below (n := w.heap.size) (by have := he.size; simp; omega) HN.out) (Nat.le_refl _)
            clear hown5 hend5 HO HP HC
            go_wp2
            refine ⟨⟨k + 1, d, v', hkM, hd1, by go_num, rfl, rfl, O5, B5⟩, by simp [intOf]; omega⟩
      · have hpz := hp0 h1
        subst hpz
        clear hp hp0
        rw [Int.natCast_zero, Int.add_zero] at hw1 hw2 ht1 ht2
        by_cases h2 : k < lb.length
        · obtain ⟨b2, o2, ha2, q1⟩ := HB.out.ext he k h2
          subst ha2
          rw [← hq] at q1
          clear hq hq0
          go_wp2_with (at_builtin; refine wpList_append1 _ rfl _ _ 123 rfl 3 i0 (.int .i64 0) 1 8 Tryz.underlying123 hi hi0 hi1 hi2 rfl (by decide) vv o.length (natsV .i64 o) rfl (HO.out.ext ((Ext.refl _).alloc _)) ⟨wr.heap.size, 0, none⟩ 1 1 (by decide) [.int .i64 (r : Int)] rfl rfl (cells_one _ _ _) (by intro u hu; simp at hu; subst hu; rfl) (by unfold maxLen; omega) (by omega) ?_)
          all_goals
            intro v' w5 hown5 hend5
            have OB5 : Hid (∀ b, v'.ownBlock = some b → w.heap.size ≤ b) := hend5.ge (n := w.heap.size) (by have := he.size; simp; omega) HN.out
            have O5 : Hid (PlusWR la lb w (k + 1) d v' w5) := PlusWR.step HP.out HC.out OA.out OB.out (by rw [← HM.out]; exact hgo) HR.out.1 HR.out.2 (ownsN_succ hown5) OB5.out
            have B5 : Ext w w5 := (he.trans ((Ext.refl _).alloc _)).trans' (hend5.below (n := w.heap.size) (by have := he.size; simp; omega) HN.out) (Nat.le_refl _)
            clear hown5 hend5 HO HP HC
            go_wp2
            refine ⟨⟨k + 1, d, v', hkM, hd1, by go_num, rfl, rfl, O5, B5⟩, by simp [intOf]; omega⟩
        · have hqz := hq0 h2
          subst hqz
          clear hq hq0
          rw [Int.natCast_zero, Int.add_zero] at hw2 ht1 ht2
          go_wp2_with (at_builtin; refine wpList_append1 _ rfl _ _ 123 rfl 3 i0 (.int .i64 0) 1 8 Tryz.underlying123 hi hi0 hi1 hi2 rfl (by decide) vv o.length (natsV .i64 o) rfl (HO.out.ext ((Ext.refl _).alloc _)) ⟨wr.heap.size, 0, none⟩ 1 1 (by decide) [.int .i64 (r : Int)] rfl rfl (cells_one _ _ _) (by intro u hu; simp at hu; subst hu; rfl) (by unfold maxLen; omega) (by omega) ?_)
          all_goals
            intro v' w5 hown5 hend5
            have OB5 : Hid (∀ b, v'.ownBlock = some b → w.heap.size ≤ b) := hend5.ge (n := w.heap.size) (by have := he.size; simp; omega) HN.out
            have O5 : Hid (PlusWR la lb w (k + 1) d v' w5) := PlusWR.step HP.out HC.out OA.out OB.out (by rw [← HM.out]; exact hgo) HR.out.1 HR.out.2 (ownsN_succ hown5) OB5.out
            have B5 : Ext w w5 := (he.trans ((Ext.refl _).alloc _)).trans' (hend5.below (n := w.heap.size) (by have := he.size; simp; omega) HN.out) (Nat.le_refl _)
            clear hown5 hend5 HO HP HC
            go_wp2
            refine ⟨⟨k + 1, d, v', hkM, hd1, by go_num, rfl, rfl, O5, B5⟩, by simp [intOf]; omega⟩
    · have h9 := HC.out
      have hk2 : M ≤ k := by omega
      have hc0 : cc = 0 := by omega
      subst hc0
      have HF : Hid (OwnsN .i64 3 wr vv (toB 1000000 (x + y))) := hw.out.done (by rw [← HM.out]; exact hk2) HX.out HY.out
      clear h9 hgo hw HO
      obtain ⟨oa, oc, hov, hoc, hor, _⟩ := HF.out.reads
      subst hov
      have HT := Lib.hid (trimR_any (toB 1000000 (x + y)) oa oc wr hor hoc)
      have HS : Hid (trimL (toB 1000000 (x + y)) = toB 1000000 (x + y)) := trimL_same (by omega) _
      rw [HS.out] at HT
      clear hor hoc
      go_wp2_with (go_at_call 109; refine HT.out.mono ?_; rintro e w5 ⟨rfl, hn5, hE5⟩)
      all_goals go_ret
      all_goals exact ⟨.slice oa (toB 1000000 (x + y)).length oc, rfl, HF.out.ext hE5, HN.out, he.trans hE5⟩
end Go.Proofs.YtmndcdjcodfchaaGreatDoor
namespace Go.Proofs.YtmndcdjcodfchaaGreatDoor
open Go.RowKit
set_option maxHeartbeats 8000000 in
set_option maxRecDepth 100000 in
theorem lessR_any (x y : Nat) (la lb : List Nat) (a b : Option Addr) (ca cb : Nat) (w : World) (hx : la = toB 1000000 x) (hy : lb = toB 1000000 y) (hyx : y ≤ x)
    (hla : la.length ≤ 200) (ha : CellsN .i64 w a la) (hb : CellsN .i64 w b lb) :
    Calls Tryz.prog 112 #[.slice a la.length ca, .slice b lb.length cb] w (OwnNPost .i64 3 (toB 1000000 (x - y)) w) := by
  have hlb : lb.length ≤ la.length := valB_le_len (B := 1000000) (by rw [hx]; exact okB_toB (by omega) x) (by rw [hy]; exact trim_toB (by omega) y) (by rw [hx, hy, valB_toB (by omega), valB_toB (by omega)]; exact hyx) (by omega)
  have HA := Lib.hid ha
  have HB := Lib.hid hb
  have HX := Lib.hid hx
  have HY := Lib.hid hy
  have HYX := Lib.hid hyx
  have OA : Hid (OkB 1000000 la) := by show OkB _ _; rw [hx]; exact okB_toB (by omega) x
  have OB : Hid (OkB 1000000 lb) := by show OkB _ _; rw [hy]; exact okB_toB (by omega) y
  clear ha hb hx hy hyx
  obtain ⟨i0, hi, hi0, hi1, hi2⟩ := info_parts infoI64
  go_enter Tryz.func112, Tryz.ntmps112
  go_wp2
  go_loopw [5, 6, 7] (fun v c i wr => ∃ (k br : Nat) (vv : Value), k ≤ la.length ∧ br ≤ 1 ∧ i = .int .i64 k ∧ c = .int .i64 br ∧ v = vv ∧ Hid (∃ o, MinusI 1000000 la lb k br o ∧ OwnsN .i64 3 wr vv o) ∧ Hid (∀ b, vv.ownBlock = some b → w.heap.size ≤ b) ∧ Ext w wr) (fun _ _ i _ => la.length - (intOf i).toNat)
  case atStart => exact ⟨0, 0, _, by omega, by omega, rfl, rfl, rfl, ⟨[], MinusI.start _ _ _, OwnsN.nil _ _ _⟩, (fun b hb => by cases hb), Ext.refl _⟩
  case round =>
    obtain ⟨k, br, vv, hk, hbr, rfl, rfl, hvv, hw, HN, he⟩ := hrel
    obtain rfl := hvv.symm
    obtain ⟨o, ho1, ho2⟩ := hw.out
    have HO := Lib.hid ho2
    have HP := Lib.hid ho1
    have HOL := Lib.hid ho1.len
    have hol : o.length ≤ 200 := by have := ho1.len; omega
    clear ho1 ho2 hw
    by_cases h1 : k < la.length
    · obtain ⟨p, hp⟩ : ∃ p, p = la.getD k 0 := ⟨_, rfl⟩
      obtain ⟨q, hq⟩ : ∃ q, q = lb.getD k 0 := ⟨_, rfl⟩
      have hpb : p < 1000000 := by rw [hp]; exact okB_getD OA.out (by omega) k
      have hqb : q < 1000000 := by rw [hq]; exact okB_getD OB.out (by omega) k
      have hq0 : ¬ k < lb.length → q = 0 := fun h => by rw [hq, List.getD_eq_getElem?_getD, List.getElem?_eq_none (by omega)]; rfl
      obtain ⟨b1, o1, ha1, p1⟩ := HA.out.ext he k h1
      subst ha1
      rw [← hp] at p1
      by_cases h2 : k < lb.length
      · obtain ⟨b2, o2, ha2, q1⟩ := HB.out.ext he k h2
        subst ha2
        rw [← hq] at q1
        clear hq0
        by_cases hlt : p < br + q
        · obtain ⟨d, hd⟩ : ∃ d, d = p + 1000000 - (br + q) := ⟨_, rfl⟩
          have hw1 : IntKind.i64.wrap ((p : Int) - (br : Int)) = (p : Int) - (br : Int) := by rw [IntKind.wrap_i64]; omega
          have hw2 : IntKind.i64.wrap ((p : Int) - (br : Int) - (q : Int)) = (p : Int) - (br : Int) - (q : Int) := by rw [IntKind.wrap_i64]; omega
          have hlt2 : (p : Int) - (br : Int) - (q : Int) < 0 := by omega
          have hw3 : IntKind.i64.wrap ((p : Int) - (br : Int) - (q : Int) + 1000000) = (d : Int) := by rw [IntKind.wrap_i64]; omega
          have HE : Hid (d + lb.getD k 0 + br = la.getD k 0 + 1000000 * 1) := by show _ = _; rw [← hp, ← hq]; omega
          have hdb : d < 1000000 := by omega
          clear hd hp hq
          go_wp2_with (at_builtin; refine wpList_append1 _ rfl _ _ 123 rfl 3 i0 (.int .i64 0) 1 8 Tryz.underlying123 hi hi0 hi1 hi2 rfl (by decide) vv o.length (natsV .i64 o) rfl (HO.out.ext ((Ext.refl _).alloc _)) ⟨wr.heap.size, 0, none⟩ 1 1 (by decide) [.int .i64 (d : Int)] rfl rfl (cells_one _ _ _) (by intro u hu; simp at hu; subst hu; rfl) (by unfold maxLen; omega) (by omega) ?_)
          all_goals
            intro v' w5 hown5 hend5
            have OB5 : Hid (∀ b, v'.ownBlock = some b → w.heap.size ≤ b) := hend5.ge (n := w.heap.size) (by have := he.size; simp; omega) HN.out
            have O5 : Hid (∃ o, MinusI 1000000 la lb (k + 1) 1 o ∧ OwnsN .i64 3 w5 v' o) := ⟨_, HP.out.next (d := d) (br' := 1) (by omega) (by omega) HE.out, ownsN_succ hown5⟩
            have B5 : Ext w w5 := (he.trans ((Ext.refl _).alloc _)).trans' (hend5.below (n := w.heap.size) (by have := he.size; simp; omega) HN.out) (Nat.le_refl _)
            clear hown5 hend5 HO HP
            go_wp2
            refine ⟨⟨k + 1, 1, v', by omega, by omega, by go_num, rfl, rfl, O5, OB5, B5⟩, by simp [intOf]; omega⟩
        · obtain ⟨d, hd⟩ : ∃ d, d = p - (br + q) := ⟨_, rfl⟩
          have hw1 : IntKind.i64.wrap ((p : Int) - (br : Int)) = (p : Int) - (br : Int) := by rw [IntKind.wrap_i64]; omega
          have hw2 : IntKind.i64.wrap ((p : Int) - (br : Int) - (q : Int)) = (d : Int) := by rw [IntKind.wrap_i64]; omega
          have hlt2 : ¬ ((d : Int) < 0) := by omega
          have HE : Hid (d + lb.getD k 0 + br = la.getD k 0 + 1000000 * 0) := by show _ = _; rw [← hp, ← hq]; omega
          have hdb : d < 1000000 := by omega
          clear hd hp hq
          go_wp2_with (at_builtin; refine wpList_append1 _ rfl _ _ 123 rfl 3 i0 (.int .i64 0) 1 8 Tryz.underlying123 hi hi0 hi1 hi2 rfl (by decide) vv o.length (natsV .i64 o) rfl (HO.out.ext ((Ext.refl _).alloc _)) ⟨wr.heap.size, 0, none⟩ 1 1 (by decide) [.int .i64 (d : Int)] rfl rfl (cells_one _ _ _) (by intro u hu; simp at hu; subst hu; rfl) (by unfold maxLen; omega) (by omega) ?_)
          all_goals
            intro v' w5 hown5 hend5
            have OB5 : Hid (∀ b, v'.ownBlock = some b → w.heap.size ≤ b) := hend5.ge (n := w.heap.size) (by have := he.size; simp; omega) HN.out
            have O5 : Hid (∃ o, MinusI 1000000 la lb (k + 1) 0 o ∧ OwnsN .i64 3 w5 v' o) := ⟨_, HP.out.next (d := d) (br' := 0) (by omega) (by omega) HE.out, ownsN_succ hown5⟩
            have B5 : Ext w w5 := (he.trans ((Ext.refl _).alloc _)).trans' (hend5.below (n := w.heap.size) (by have := he.size; simp; omega) HN.out) (Nat.le_refl _)
            clear hown5 hend5 HO HP
            go_wp2
            refine ⟨⟨k + 1, 0, v', by omega, by omega, by go_num, rfl, rfl, O5, OB5, B5⟩, by simp [intOf]; omega⟩
      · have hqz := hq0 h2
        clear hq0
        by_cases hlt : p < br
        · obtain ⟨d, hd⟩ : ∃ d, d = p + 1000000 - (br) := ⟨_, rfl⟩
          have hw1 : IntKind.i64.wrap ((p : Int) - (br : Int)) = (p : Int) - (br : Int) := by rw [IntKind.wrap_i64]; omega
          have hlt2 : (p : Int) - (br : Int) < 0 := by omega
          have hw3 : IntKind.i64.wrap ((p : Int) - (br : Int) + 1000000) = (d : Int) := by rw [IntKind.wrap_i64]; omega
          have HE : Hid (d + lb.getD k 0 + br = la.getD k 0 + 1000000 * 1) := by show _ = _; rw [← hp, ← hq]; omega
          have hdb : d < 1000000 := by omega
          clear hd hp hq
          go_wp2_with (at_builtin; refine wpList_append1 _ rfl _ _ 123 rfl 3 i0 (.int .i64 0) 1 8 Tryz.underlying123 hi hi0 hi1 hi2 rfl (by decide) vv o.length (natsV .i64 o) rfl (HO.out.ext ((Ext.refl _).alloc _)) ⟨wr.heap.size, 0, none⟩ 1 1 (by decide) [.int .i64 (d : Int)] rfl rfl (cells_one _ _ _) (by intro u hu; simp at hu; subst hu; rfl) (by unfold maxLen; omega) (by omega) ?_)
          all_goals
            intro v' w5 hown5 hend5
            have OB5 : Hid (∀ b, v'.ownBlock = some b → w.heap.size ≤ b) := hend5.ge (n := w.heap.size) (by have := he.size; simp; omega) HN.out
            have O5 : Hid (∃ o, MinusI 1000000 la lb (k + 1) 1 o ∧ OwnsN .i64 3 w5 v' o) := ⟨_, HP.out.next (d := d) (br' := 1) (by omega) (by omega) HE.out, ownsN_succ hown5⟩
            have B5 : Ext w w5 := (he.trans ((Ext.refl _).alloc _)).trans' (hend5.below (n := w.heap.size) (by have := he.size; simp; omega) HN.out) (Nat.le_refl _)
            clear hown5 hend5 HO HP
            go_wp2
            refine ⟨⟨k + 1, 1, v', by omega, by omega, by go_num, rfl, rfl, O5, OB5, B5⟩, by simp [intOf]; omega⟩
        · obtain ⟨d, hd⟩ : ∃ d, d = p - (br) := ⟨_, rfl⟩
          have hw2 : IntKind.i64.wrap ((p : Int) - (br : Int)) = (d : Int) := by rw [IntKind.wrap_i64]; omega
          have hlt2 : ¬ ((d : Int) < 0) := by omega
          have HE : Hid (d + lb.getD k 0 + br = la.getD k 0 + 1000000 * 0) := by show _ = _; rw [← hp, ← hq]; omega
          have hdb : d < 1000000 := by omega
          clear hd hp hq
          go_wp2_with (at_builtin; refine wpList_append1 _ rfl _ _ 123 rfl 3 i0 (.int .i64 0) 1 8 Tryz.underlying123 hi hi0 hi1 hi2 rfl (by decide) vv o.length (natsV .i64 o) rfl (HO.out.ext ((Ext.refl _).alloc _)) ⟨wr.heap.size, 0, none⟩ 1 1 (by decide) [.int .i64 (d : Int)] rfl rfl (cells_one _ _ _) (by intro u hu; simp at hu; subst hu; rfl) (by unfold maxLen; omega) (by omega) ?_)
          all_goals
            intro v' w5 hown5 hend5
            have OB5 : Hid (∀ b, v'.ownBlock = some b → w.heap.size ≤ b) := hend5.ge (n := w.heap.size) (by have := he.size; simp; omega) HN.out
            have O5 : Hid (∃ o, MinusI 1000000 la lb (k + 1) 0 o ∧ OwnsN .i64 3 w5 v' o) := ⟨_, HP.out.next (d := d) (br' := 0) (by omega) (by omega) HE.out, ownsN_succ hown5⟩
            have B5 : Ext w w5 := (he.trans ((Ext.refl _).alloc _)).trans' (hend5.below (n := w.heap.size) (by have := he.size; simp; omega) HN.out) (Nat.le_refl _)
            clear hown5 hend5 HO HP
            go_wp2
            refine ⟨⟨k + 1, 0, v', by omega, by omega, by go_num, rfl, rfl, O5, OB5, B5⟩, by simp [intOf]; omega⟩
    · have hkl : k = la.length := by omega
      have hdone : Hid (trimL o = toB 1000000 (x - y)) := by
        have h5 := HP.out
        rw [hkl] at h5
        have h6 := h5.done (by omega) OA.out (by rw [HY.out]; exact trim_toB (by omega) y) (by rw [HX.out, HY.out, valB_toB (by omega), valB_toB (by omega)]; exact HYX.out)
        rw [HX.out, HY.out, valB_toB (by omega), valB_toB (by omega)] at h6
        exact h6
      obtain ⟨oa, oc, hov, hoc, hor, _⟩ := HO.out.reads
      subst hov
      have HOR := Lib.hid hor
      have HOC := Lib.hid hoc
      clear hor hoc
      have HN2 : Hid (∀ b, (Value.slice oa (trimL o).length oc).ownBlock = some b → w.heap.size ≤ b) := fun b hb => HN.out b (by cases oa <;> exact hb)
      go_wp2_with (go_at_call 109; refine (trimR_any o oa oc wr HOR.out HOC.out).mono ?_; rintro e w5 ⟨rfl, hn5, hE5⟩)
      go_ret
      refine ⟨.slice oa (trimL o).length oc, rfl, ?_, HN2.out, he.trans hE5⟩
      · rw [← hdone.out]
        exact (HO.out.ext hE5).trim hn5
end Go.Proofs.YtmndcdjcodfchaaGreatDoor
namespace Go.Proofs.YtmndcdjcodfchaaGreatDoor
open Go.RowKit
set_option maxHeartbeats 8000000 in
set_option maxRecDepth 100000 in
theorem timesR_any (x y : Nat) (la lb : List Nat) (a b : Option Addr) (ca cb : Nat) (w : World) (hx : la = toB 1000000 x) (hy : lb = toB 1000000 y)
    (hla : la.length ≤ 200) (hlb : lb.length ≤ 200) (ha : CellsN .i64 w a la) (hb : CellsN .i64 w b lb) :
    Calls Tryz.prog 110 #[.slice a la.length ca, .slice b lb.length cb] w (OwnNPost .i64 3 (toB 1000000 (x * y)) w) := by
  have HA := Lib.hid ha
  have HB := Lib.hid hb
  have HX := Lib.hid hx
  have HY := Lib.hid hy
  have OA : Hid (OkB 1000000 la) := by show OkB _ _; rw [hx]; exact okB_toB (by omega) x
  have OB : Hid (OkB 1000000 lb) := by show OkB _ _; rw [hy]; exact okB_toB (by omega) y
  clear ha hb hx hy
  obtain ⟨i0, hi, hi0, hi1, hi2⟩ := info_parts infoI64
  obtain ⟨N, hN⟩ : ∃ N, N = la.length + lb.length := ⟨_, rfl⟩
  have hmk : (Instr.makeSlice 123 (.int .i64 ((la.length : Int) + (lb.length : Int))) (.int .i64 ((la.length : Int) + (lb.length : Int)))).run Tryz.prog w = .ok (.slice (some ⟨w.heap.size, 0, none⟩) N N) (w.alloc (.cells (madeCells #[.int .i64 0] N) 3)) := by
    rw [← Int.natCast_add, ← hN]
    exact run_make_row' _ _ (.int .i64 0) 8 Tryz.underlying123 infoI64 rfl _ _ N (by omega) (by omega) w
  have O0 : Hid (OwnsN .i64 3 (w.alloc (.cells (madeCells #[.int .i64 0] N) 3)) (.slice (some ⟨w.heap.size, 0, none⟩) N N) (List.replicate N 0)) := madeN _ _ _ N (by omega)
  have E0 : Ext w (w.alloc (.cells (madeCells #[.int .i64 0] N) 3)) := (Ext.refl _).alloc _
  generalize hW : w.alloc (.cells (madeCells #[.int .i64 0] N) 3) = W at hmk O0 E0
  clear hW
  obtain ⟨ob, hob⟩ : ∃ ob, ob = w.heap.size := ⟨_, rfl⟩
  rw [← hob] at hmk O0
  have HNN := Lib.hid hN
  have HOB := Lib.hid hob
  clear hN hob
  go_enter Tryz.func110, Tryz.ntmps110
  go_wp2
  clear hmk
  have HI0 : Hid (TimesI 1000000 la lb 0 (List.replicate N 0)) := by show TimesI _ _ _ _ _; rw [HNN.out]; exact TimesI.start (by omega) _ _
  go_loopw [6] (fun i wr => ∃ (k : Nat), k ≤ la.length ∧ i = .int .i64 k ∧ Hid (∃ o, TimesI 1000000 la lb k o ∧ OwnsN .i64 3 wr (.slice (some ⟨ob, 0, none⟩) N N) o) ∧ Ext w wr) (fun i _ => la.length - (intOf i).toNat)
  case atStart => exact ⟨0, by omega, rfl, ⟨_, HI0.out, O0.out⟩, E0⟩
  case round =>
    obtain ⟨k, hk, rfl, hw, he⟩ := hrel
    by_cases h1 : k < la.length
    · obtain ⟨p, hp⟩ : ∃ p, p = la.getD k 0 := ⟨_, rfl⟩
      have hpb : p < 1000000 := by rw [hp]; exact okB_getD OA.out (by omega) k
      obtain ⟨b1, o1, ha1, p1⟩ := HA.out.ext he k h1
      subst ha1
      rw [← hp] at p1
      have HPP := Lib.hid hp
      clear hp
      obtain ⟨wo, hwo⟩ : ∃ wo, wo = wr := ⟨wr, rfl⟩
      subst hwo
      obtain ⟨o0, ho1, ho2⟩ := hw.out
      have HK0 : Hid (∃ o, TimesK 1000000 la lb k 0 0 o ∧ OwnsN .i64 3 wo (.slice (some ⟨ob, 0, none⟩) N N) o) := ⟨o0, ho1.inner (by omega), ho2⟩
      clear ho1 ho2 hw
      go_wp2
      go_loopw [7, 8] (fun c i wr => ∃ (m cc : Nat), m ≤ lb.length ∧ i = .int .i64 m ∧ c = .int .i64 cc ∧ Hid (∃ o, TimesK 1000000 la lb k m cc o ∧ OwnsN .i64 3 wr (.slice (some ⟨ob, 0, none⟩) N N) o) ∧ Ext w wr) (fun _ i _ => lb.length - (intOf i).toNat)
      case atStart => exact ⟨0, 0, by omega, rfl, rfl, HK0.out, he⟩
      case round =>
        obtain ⟨m, cc, hm, rfl, rfl, hw, he⟩ := hrel
        obtain ⟨o, ho1, ho2⟩ := hw.out
        have HO := Lib.hid ho2
        have HP := Lib.hid ho1
        have HOL := Lib.hid ho1.len
        have hcc := ho1.cB
        clear ho1 ho2 hw
        by_cases h2 : m < lb.length
        · obtain ⟨q, hq⟩ : ∃ q, q = lb.getD m 0 := ⟨_, rfl⟩
          have hqb : q < 1000000 := by rw [hq]; exact okB_getD OB.out (by omega) m
          obtain ⟨b2, o2, ha2, q1⟩ := HB.out.ext he m h2
          subst ha2
          rw [← hq] at q1
          obtain ⟨b3, o3, ha3, p3⟩ := HA.out.ext he k h1
          cases ha3
          rw [← HPP.out] at p3
          have hkm : k + m < o.length := by have := HOL.out; omega
          obtain ⟨s1, s2⟩ := HO.out.at hkm
          have hnx := HP.out.next (by omega) OA.out OB.out h1 h2
          obtain ⟨s, hs⟩ : ∃ s, s = o.getD (k + m) 0 := ⟨_, rfl⟩
          have hsb : s < 1000000 := by rw [hs]; exact okB_getD HP.out.ok (by omega) _
          rw [← hs] at s1 hnx
          rw [← HPP.out, ← hq] at hnx
          have hpq : p * q ≤ 999999 * 999999 := Nat.mul_le_mul (by omega) (by omega)
          obtain ⟨z, hz⟩ : ∃ z, z = p * q := ⟨_, rfl⟩
          rw [← hz] at hpq hnx
          obtain ⟨r, hr⟩ : ∃ r, r = (cc + s + z) % 1000000 := ⟨_, rfl⟩
          obtain ⟨d, hd⟩ : ∃ d, d = (cc + s + z) / 1000000 := ⟨_, rfl⟩
          rw [← hr, ← hd] at hnx
          have HN := Lib.hid hnx.2
          have hw1 : IntKind.i64.wrap ((p : Int) * (q : Int)) = (z : Int) := by
            rw [← Int.natCast_mul, ← hz, IntKind.wrap_i64]; omega
          have hw2 : IntKind.i64.wrap ((s : Int) + (z : Int)) = (s : Int) + (z : Int) := by rw [IntKind.wrap_i64]; omega
          have hw3 : IntKind.i64.wrap ((cc : Int) + ((s : Int) + (z : Int))) = (cc : Int) + ((s : Int) + (z : Int)) := by rw [IntKind.wrap_i64]; omega
          have ht1 : ((cc : Int) + ((s : Int) + (z : Int))).tmod 1000000 = (r : Int) := by rw [Int.tmod_eq_emod_of_nonneg (by omega)]; omega
          have ht2 : ((cc : Int) + ((s : Int) + (z : Int))).tdiv 1000000 = (d : Int) := by rw [Int.tdiv_eq_ediv_of_nonneg (by omega)]; omega
          have hw4 : IntKind.i64.wrap (d : Int) = (d : Int) := by rw [IntKind.wrap_i64]; omega
          have HO2 := Lib.hid (fun n : Nat => (HO.out.ext ((Ext.refl wr).drewN n)).set (k + m) r)
          have E2 : ∀ n : Nat, Ext w ((wr.drewN n).setCell ⟨ob, k + m, none⟩ (.int .i64 (r : Int))) := fun n => Ext.set (he.drewN n) (by rw [HOB.out]; exact Nat.le_refl _) _
          have hkN : k + m < N := by have := HNN.out; omega
          clear hnx hr hd hz hs hpq hq HO HP
          go_wp2
          go_quiet (fail)
          go_wp2
          refine ⟨⟨m + 1, d, by omega, by go_num, rfl, ⟨_, HN.out, HO2.out _⟩, E2 _⟩, by simp [intOf]; omega⟩
        · have hml : m = lb.length := by omega
          have hP := HP.out
          rw [hml] at hP
          have HN := Lib.hid (hP.outer h1)
          have hkm : k + lb.length < o.length := by have := HOL.out; omega
          obtain ⟨s1, s2⟩ := HO.out.at hkm
          have HO2 := Lib.hid (HO.out.set (k + lb.length) cc)
          have E2 : Ext w (wr.setCell ⟨ob, k + lb.length, none⟩ (.int .i64 (cc : Int))) := Ext.set he (by rw [HOB.out]; exact Nat.le_refl _) _
          have hkN : k + lb.length < N := by have := HNN.out; omega
          generalize o.getD (k + lb.length) 0 = s0 at s1
          clear hP HP HO hml
          go_wp2
          refine ⟨⟨k + 1, by omega, by go_num, ⟨_, HN.out, HO2.out⟩, E2⟩, by simp [intOf]; omega⟩
    · have hkl : k = la.length := by omega
      obtain ⟨o, ho1, ho2⟩ := hw.out
      have hdone : Hid (trimL o = toB 1000000 (x * y)) := by
        have h5 := ho1
        rw [hkl] at h5
        have h6 := h5.done (by omega)
        rw [HX.out, HY.out, valB_toB (by omega), valB_toB (by omega)] at h6
        exact h6
      have hlen := ho1.len
      have HO : Hid (OwnsN .i64 3 wr (.slice (some ⟨ob, 0, none⟩) o.length N) o) := by
        show OwnsN _ _ _ _ _
        rw [show o.length = N by rw [HNN.out, hlen]]
        exact ho2
      obtain ⟨oa, oc, hov, hoc, hor, _⟩ := HO.out.reads
      obtain ⟨e1, _, e3⟩ := Value.slice.inj hov
      subst e1 e3
      have HOR := Lib.hid hor
      have HOC := Lib.hid hoc
      have hNo : N = o.length := by rw [HNN.out, hlen]
      clear hor hoc ho1 ho2 hw hov
      rw [hNo] at HO HOR
      have hT := trimR_any o (some ⟨ob, 0, none⟩) o.length wr HOR.out HOC.out
      rw [← hNo] at hT
      have HT := Lib.hid hT
      have HNO := Lib.hid hNo
      clear hT hNo hlen hkl
      go_wp2_with (go_at_call 109; refine HT.out.mono ?_; rintro e w5 ⟨rfl, hn5, hE5⟩)
      go_ret
      refine ⟨.slice (some ⟨ob, 0, none⟩) (trimL o).length N, rfl, ?_, ?_, he.trans hE5⟩
      · rw [← hdone.out, HNO.out]
        exact (HO.out.ext hE5).trim (by rw [← HNO.out]; exact hn5)
      · intro b hb
        cases hb
        rw [HOB.out]
        exact Nat.le_refl _
end Go.Proofs.YtmndcdjcodfchaaGreatDoor
namespace Go.Proofs.YtmndcdjcodfchaaGreatDoor
open Go.RowKit
set_option maxHeartbeats 4000000 in
theorem orderR_any (x y : Nat) (la lb : List Nat) (a b : Option Addr) (ca cb : Nat) (w : World) (hx : la = toB 1000000 x) (hy : lb = toB 1000000 y)
    (hla : la.length ≤ 200) (_ : lb.length ≤ 200) (ha : CellsN .i64 w a la) (hb : CellsN .i64 w b lb) :
    Calls Tryz.prog 85 #[.slice a la.length ca, .slice b lb.length cb] w fun e w' => e = .returned (.int .i64 (ordN x y)) ∧ Ext w w' := by
  have OA : OkB 1000000 la := by rw [hx]; exact okB_toB (by omega) x
  have OB : OkB 1000000 lb := by rw [hy]; exact okB_toB (by omega) y
  have TA : Trim la := hx ▸ trim_toB (by omega) x
  have TB : Trim lb := hy ▸ trim_toB (by omega) y
  have VA : valB 1000000 la = x := by rw [hx, valB_toB (by omega)]
  have VB : valB 1000000 lb = y := by rw [hy, valB_toB (by omega)]
  clear hx hy
  by_cases hlen : la.length = lb.length
  · have HA := Lib.hid ha
    have HB := Lib.hid hb
    have H := Lib.hid (And.intro OA (And.intro OB (And.intro VA VB)))
    have HL := Lib.hid hlen
    have hne : ((la.length : Int) != (lb.length : Int)) = false := by simp [hlen]
    clear ha hb OA OB TA TB VA VB hlen
    go_enter Tryz.func85, Tryz.ntmps85
    go_wp2
    go_loopw [5] (fun i wr => ∃ k : Nat, k ≤ la.length ∧ (∃ z : Int, i = .int .i64 z ∧ z = (k : Int) - 1) ∧ Hid (valB 1000000 (la.drop k) = valB 1000000 (lb.drop k)) ∧ Ext w wr) (fun i _ => (intOf i + 1).toNat)
    case atStart =>
      exact ⟨la.length, Nat.le_refl _, ⟨_, rfl, rfl⟩, by show _ = _; rw [List.drop_eq_nil_of_le (Nat.le_refl _), List.drop_eq_nil_of_le (by rw [HL.out]; exact Nat.le_refl _)], Ext.refl _⟩
    case round =>
      obtain ⟨k, hk, ⟨z, rfl, hz⟩, hv, he⟩ := hrel
      rcases k with _ | k
      · have HR : Hid (ordN x y = 0) := ordN_eq (by rw [← H.out.2.2.1, ← H.out.2.2.2]; exact hv.out)
        have hz1 : z = -1 := by omega
        subst hz1
        clear hz hv
        go_wp2
        go_ret
        exact ⟨by rw [HR.out]; rfl, he⟩
      · have hzk : z = (k : Int) := by omega
        subst hzk
        clear hz
        obtain ⟨b1, o1, ha1, p1⟩ := HA.out.ext he k (by omega)
        subst ha1
        obtain ⟨b2, o2, ha2, q1⟩ := HB.out.ext he k (by have := HL.out; omega)
        subst ha2
        have hst := ord_step H.out.1 H.out.2.1 k hv.out (by omega) (by have := HL.out; omega)
        rw [H.out.2.2.1, H.out.2.2.2] at hst
        have hk2 : k < lb.length := by have := HL.out; omega
        generalize la.getD k 0 = p at p1 hst
        generalize lb.getD k 0 = q at q1 hst
        obtain ⟨h1, h2, h3⟩ := hst
        have HS1 := Lib.hid h1
        have HS2 := Lib.hid h2
        have HS3 := Lib.hid h3
        clear h1 h2 h3 hv
        by_cases hpq : p < q
        · have HR : Hid (ordN x y = -1) := ordN_lt (HS1.out hpq)
          have hi1 : (p : Int) < (q : Int) := by omega
          go_wp2
          go_quiet (fail)
          go_wp2
          go_ret
          exact ⟨by rw [HR.out]; rfl, extA⟩
        · by_cases hqp : q < p
          · have HR : Hid (ordN x y = 1) := ordN_gt (HS2.out hqp)
            have hi1 : ¬ (p : Int) < (q : Int) := by omega
            have hi2 : (q : Int) < (p : Int) := by omega
            go_wp2
            go_quiet (fail)
            go_wp2
            go_quiet (fail)
            go_wp2
            go_ret
            exact ⟨by rw [HR.out]; rfl, extA⟩
          · have hpe : p = q := by omega
            have HV := Lib.hid (HS3.out hpe)
            subst hpe
            go_wp2
            go_quiet (fail)
            go_wp2
            go_quiet (fail)
            go_wp2
            refine ⟨⟨k, by omega, ⟨_, rfl, by first | rfl | omega | go_num⟩, HV, extA⟩, by simp [intOf]⟩
  · have hne : ((la.length : Int) != (lb.length : Int)) = true := by rw [bne_iff_ne]; omega
    by_cases hlt : la.length < lb.length
    · have HR : Hid (ordN x y = -1) := ordN_lt (by rw [← VA, ← VB]; exact ord_len (by omega) OA TB hlt)
      have hi1 : (la.length : Int) < (lb.length : Int) := by omega
      clear OA OB TA TB VA VB ha hb
      go_enter Tryz.func85, Tryz.ntmps85
      go_wp2
      all_goals go_ret
      all_goals exact ⟨by rw [HR.out]; rfl, extA⟩
    · have HR : Hid (ordN x y = 1) := ordN_gt (by rw [← VA, ← VB]; exact ord_len (by omega) OB TA (by omega))
      have hi1 : ¬ (la.length : Int) < (lb.length : Int) := by omega
      clear OA OB TA TB VA VB ha hb
      go_enter Tryz.func85, Tryz.ntmps85
      go_wp2
      all_goals go_ret
      all_goals exact ⟨by rw [HR.out]; rfl, extA⟩
end Go.Proofs.YtmndcdjcodfchaaGreatDoor
namespace Go.Proofs.YtmndcdjcodfchaaGreatDoor
open Go.RowKit
theorem src_none {P : Program} {w : World} {size : Nat} {tx e' : TypeId} (hk : P.underlying tx = some (.slice e')) (a : Option Addr) (c : Nat) : Src P size tx (.slice a 0 c) 0 [] w := by
  cases a with
  | none => exact Src.ofNil w hk c
  | some a => exact Src.ofSlice w hk a 0 c [] (by simp) (fun j u h => by simp at h) (fun u h => by cases h)
theorem wpList_appendN (n0 : Nat) (w : World) {ops : Array Oper} {rest : List Oper} {o : Oper} {a : Act} {Q : Exit → Act → World → Prop} (hgd : o.guard = none) (s x : Operand)
    (ho : o.op = .call { callee := .builtin .append, args := #[s, x], argTypes := #[123, 123] })
    (b c : Nat) (l m : List Nat) (hs : a.eval s = .slice (some ⟨b, 0, none⟩) l.length c) (hown : OwnsN .i64 3 w (.slice (some ⟨b, 0, none⟩) l.length c) l) (u : Value) (hx : a.eval x = u) (hu : SliceN .i64 w u m)
    (hn : n0 ≤ w.heap.size) (hb : n0 ≤ b) (hlen : l.length + m.length ≤ 10000)
    (h : ∀ v' w', OwnsN .i64 3 w' v' (l ++ m) → Below n0 w w' → (∀ g, v'.ownBlock = some g → n0 ≤ g) → wpList Tryz.prog ops Q rest (a.put o.dst v') w') : wpList Tryz.prog ops Q (o :: rest) a w := by
  obtain ⟨i0, hi, hi0, hi1, hi2⟩ := info_parts infoI64
  obtain ⟨ua, uc, rfl, hc, hr⟩ := hu
  rcases m with _ | ⟨y, m⟩
  · have hroom : l.length ≤ c := by
      obtain ⟨_, _, e, _, hR, _⟩ := hown.reads
      obtain ⟨_, _, e3⟩ := Value.slice.inj e
      subst e3
      exact hR.1
    refine wpList_append_room1 w hgd s x 123 123 ho 3 (.int .i64 0) 8 Tryz.underlying123 infoI64 b 0 l.length c hs _ hx 0 [] (src_none Tryz.underlying123 _ _) hroom (fun j hj => by simp at hj) (fun j hj => by simp at hj) ?_
    refine h _ _ ?_ (Below.refl _ _) (fun g hg => by cases hg; exact hb)
    rw [List.append_nil]
    exact hown
  · obtain ⟨g, off, rfl⟩ := hr.2.2 (by simp)
    refine wpList_append1 w hgd s x 123 ho 3 i0 (.int .i64 0) 1 8 Tryz.underlying123 hi hi0 hi1 hi2 rfl (by decide) _ l.length (natsV .i64 l) hs hown ⟨g, off, none⟩ (y :: m).length uc (by simp) (natsV .i64 (y :: m)) hx (by rw [natsV_len, Nat.mul_one]) ?_ ?_ (by unfold maxLen; omega) (by omega) ?_
    · intro j v hj
      have hjl : j < (y :: m).length := by rw [← natsV_len .i64]; exact (List.getElem?_eq_some_iff.1 hj).1
      rw [natsV_get hjl] at hj
      obtain ⟨b', o', e, h1⟩ := hc j hjl
      cases e
      rw [Addr.add_lit]
      exact h1.trans hj
    · intro v hv
      unfold natsV at hv
      simp only [List.mem_map] at hv
      obtain ⟨z, _, rfl⟩ := hv
      rfl
    · intro v' w' h1 h2
      refine h v' w' ?_ (h2.below hn (fun k hk => by cases hk; exact hb)) (h2.ge hn (fun k hk => by cases hk; exact hb))
      unfold OwnsN
      rw [List.length_append]
      unfold natsV at h1 ⊢
      rw [List.map_append]
      exact h1
theorem owns_one (x : Nat) (w : World) : OwnsN .i64 3 (w.alloc (.cells #[.int .i64 (x : Int)] 3)) (.slice (some ⟨w.heap.size, 0, none⟩) [x].length 1) [x] :=
  ownsN_of (l := [x]) (cur := #[.int .i64 (x : Int)]) (by show (w.heap.push _)[w.heap.size]? = _; exact Array.getElem?_push_size) (Nat.le_refl _) (by unfold maxLen; omega) rfl (fun j hj => by
    have hj0 : j = 0 := by simpa using hj
    subst hj0; rfl)
theorem cells_one' (x : Nat) (w : World) : CellsN .i64 (w.alloc (.cells #[.int .i64 (x : Int)] 3)) (some ⟨w.heap.size, 0, none⟩) [x] := by
  obtain ⟨a, cap, e, h, _⟩ := (owns_one x w).reads
  cases e
  exact h
theorem ordN_neg {a b : Nat} : ordN a b < 0 ↔ a < b := by have := ordN_ge (a := a) (b := b); omega
theorem quo_row {B : Nat} (hB : 2 ≤ B) {x r : Nat} (hx : x < B) : trimL (x :: toB B r) = toB B (x + B * r) := by
  rw [trimL_toB hB (fun z hz => by
    rcases List.mem_cons.1 hz with rfl | hz
    · exact hx
    · exact okB_toB hB r z hz)]
  show toB B (x + B * valB B (toB B r)) = _
  rw [valB_toB hB]
theorem toB_mono {B : Nat} (hB : 2 ≤ B) {x y : Nat} (h : x ≤ y) : (toB B x).length ≤ (toB B y).length :=
  valB_le_len (okB_toB hB y) (trim_toB hB x) (by rw [valB_toB hB, valB_toB hB]; exact h) (by omega)
theorem toB_mul_len {B : Nat} (hB : 2 ≤ B) (y : Nat) : (toB B (B * y)).length ≤ (toB B y).length + 1 := by
  have h := quo_row hB (x := 0) (r := y) (by omega)
  rw [Nat.zero_add] at h
  rw [← h]
  obtain ⟨k, e, _⟩ := trimL_spec (0 :: toB B y)
  have := congrArg List.length e
  rw [List.length_append, List.length_cons] at this
  omega
end Go.Proofs.YtmndcdjcodfchaaGreatDoor
namespace Go.Proofs.YtmndcdjcodfchaaGreatDoor
open Go.RowKit
set_option maxHeartbeats 8000000 in
set_option maxRecDepth 100000 in
theorem quotientR_any (x y : Nat) (la lb : List Nat) (a b : Option Addr) (ca cb : Nat) (w : World) (hx : la = toB 1000000 x) (hy : lb = toB 1000000 y) (hy0 : 0 < y)
    (hla : la.length ≤ 100) (hlb : lb.length ≤ 100) (ha : CellsN .i64 w a la) (hb : CellsN .i64 w b lb) :
    Calls Tryz.prog 108 #[.slice a la.length ca, .slice b lb.length cb] w (OwnNPost2 .i64 3 (toB 1000000 (x / y)) (toB 1000000 (x % y)) w) := by
  have HA := Lib.hid ha
  have HB := Lib.hid hb
  have HX := Lib.hid hx
  have HY := Lib.hid hy
  have OA : Hid (OkB 1000000 la) := by show OkB _ _; rw [hx]; exact okB_toB (by omega) x
  have HYL : Hid (∀ z, z ≤ 1000000 * y → (toB 1000000 z).length ≤ lb.length + 1) := fun z hz => by
    have h1 := toB_mono (B := 1000000) (by omega) hz
    have h2 := toB_mul_len (B := 1000000) (by omega) y
    rw [← hy] at h2
    omega
  clear ha hb hx hy
  obtain ⟨N, hN⟩ : ∃ N, N = la.length := ⟨_, rfl⟩
  have hmk : (Instr.makeSlice 123 (.int .i64 (la.length : Int)) (.int .i64 (la.length : Int))).run Tryz.prog w = .ok (.slice (some ⟨w.heap.size, 0, none⟩) N N) (w.alloc (.cells (madeCells #[.int .i64 0] N) 3)) := by
    rw [← hN]
    exact run_make_row' _ _ (.int .i64 0) 8 Tryz.underlying123 infoI64 rfl _ _ N (by omega) (by omega) w
  have O0 : Hid (OwnsN .i64 3 (w.alloc (.cells (madeCells #[.int .i64 0] N) 3)) (.slice (some ⟨w.heap.size, 0, none⟩) N N) (List.replicate N 0)) := madeN _ _ _ N (by omega)
  have E0 : Ext w (w.alloc (.cells (madeCells #[.int .i64 0] N) 3)) := (Ext.refl _).alloc _
  have Z0 : w.heap.size < (w.alloc (.cells (madeCells #[.int .i64 0] N) 3)).heap.size := by simp
  generalize hW : w.alloc (.cells (madeCells #[.int .i64 0] N) 3) = W at hmk O0 E0 Z0
  clear hW
  obtain ⟨ob, hob⟩ : ∃ ob, ob = w.heap.size := ⟨_, rfl⟩
  rw [← hob] at hmk O0 Z0
  have HNN := Lib.hid hN
  have HOB := Lib.hid hob
  clear hN hob
  go_enter Tryz.func108, Tryz.ntmps108
  go_wp2
  clear hmk
  have HI0 : Hid (QuoI 1000000 la y la.length 0 (List.replicate N 0)) := by show QuoI _ _ _ _ _ _; rw [HNN.out]; exact QuoI.start (by omega) _ hy0
  go_loopw [7, 8] (fun v i wr => ∃ (k : Nat) (vv : Value), k ≤ la.length ∧ i = .int .i64 ((k : Int) - 1) ∧ v = vv ∧ Hid (∃ r q, QuoI 1000000 la y k r q ∧ OwnsN .i64 3 wr (.slice (some ⟨ob, 0, none⟩) N N) q ∧ OwnsN .i64 3 wr vv (toB 1000000 r)) ∧ Hid (∀ b, vv.ownBlock = some b → ob < b) ∧ ob < wr.heap.size ∧ Ext w wr) (fun _ i _ => (intOf i + 1).toNat)
  case atStart => exact ⟨la.length, _, Nat.le_refl _, by go_num, rfl, ⟨0, _, HI0.out, O0.out, by rw [toB_zero]; exact OwnsN.nil _ _ _⟩, (fun b hb => by cases hb), Z0, E0⟩
  case round =>
    obtain ⟨k, vv, hk, rfl, hvv, hw, HN, hobz, he⟩ := hrel
    obtain rfl := hvv.symm
    obtain ⟨r, q, hI, hO, hV⟩ := hw.out
    have HI := Lib.hid hI
    have HO := Lib.hid hO
    have HV := Lib.hid hV
    have hr : r < y := hI.ov.lt
    have HQL := Lib.hid hI.ov.len
    clear hI hO hV hw
    rcases k with _ | k
    · have hdone : Hid (trimL q = toB 1000000 (x / y) ∧ r = x % y) := by
        have h := HI.out.ov.done (by omega)
        rw [HX.out, valB_toB (by omega)] at h
        exact h
      have hNq : N = q.length := by rw [HNN.out, HQL.out]
      have HO2 : Hid (OwnsN .i64 3 wr (.slice (some ⟨ob, 0, none⟩) q.length N) q) := by
        have := HO.out
        show OwnsN _ _ _ _ _
        rw [← hNq]; exact this
      obtain ⟨oa, oc, hov, hoc, hor, _⟩ := HO2.out.reads
      obtain ⟨e1, _, e3⟩ := Value.slice.inj hov
      subst e1 e3
      have HT := Lib.hid (trimR_any q (some ⟨ob, 0, none⟩) N wr hor hoc)
      clear hoc hor hov
      have HNQ := Lib.hid hNq
      clear hNq HQL
      go_wp2_with (go_at_call 109; rw [HNQ.out] at HT ⊢; refine HT.out.mono ?_; rintro e w5 ⟨rfl, hn5, hE5⟩; rw [← HNQ.out])
      have HT5 := Lib.hid ((HO2.out.ext hE5).trim hn5)
      have HV5 := Lib.hid (HV.out.ext hE5)
      have E5 := he.trans hE5
      clear hn5 hE5 HO2 HO HV HT
      go_ret2
      refine ⟨.slice (some ⟨ob, 0, none⟩) (trimL q).length N, vv, rfl, ?_, ?_, ?_, ?_, E5⟩
      · rw [← hdone.out.1]; exact HT5.out
      · rw [← hdone.out.2]; exact HV5.out
      · intro g hg; cases hg; rw [HOB.out]; exact Nat.le_refl _
      · intro g hg; have := HN.out g hg; have := HOB.out; omega
    · obtain ⟨p, hp⟩ : ∃ p, p = la.getD k 0 := ⟨_, rfl⟩
      have hpb : p < 1000000 := by rw [hp]; exact okB_getD OA.out (by omega) k
      obtain ⟨b1, o1, ha1, p1⟩ := HA.out.ext he k (by omega)
      subst ha1
      rw [← hp] at p1
      obtain ⟨s, hs⟩ : ∃ s, s = p + 1000000 * r := ⟨_, rfl⟩
      have hsy : s < 1000000 * y := by omega
      have HSKIP : Hid (s < y → QuoI 1000000 la y k s q) := fun h => by
        have h1 := HI.out.skip (by omega) OA.out (by omega) (by rw [← hp, ← hs]; exact h)
        rw [← hp, ← hs] at h1
        exact h1
      have HSTEP : Hid (∀ z, y * z ≤ s → s < y * (z + 1) → QuoI 1000000 la y k (s - y * z) (q.set k z)) := fun z h1 h2 => by
        have h3 := HI.out.step (by omega) OA.out (by omega) (x := z) (by rw [← hp, ← hs]; exact h1) (by rw [← hp, ← hs]; exact h2)
        rw [← hp, ← hs] at h3
        exact h3
      have HROW : Hid (trimL (p :: toB 1000000 r) = toB 1000000 s) := by show _ = _; rw [hs]; exact quo_row (by omega) hpb
      have hrl : (toB 1000000 r).length ≤ lb.length := by
        have := toB_mono (B := 1000000) (by omega) (Nat.le_of_lt hr)
        rw [← HY.out] at this; exact this
      have hkk : ((k + 1 : Nat) : Int) - 1 = (k : Int) := by omega
      rw [hkk]
      clear hp hs hpb HI
      go_wp2_with (at_builtin; refine wpList_appendN (ob + 1) _ rfl _ _ rfl wr.heap.size 1 [p] (toB 1000000 r) rfl (owns_one p wr) vv rfl (HV.out.slice.ext ((Ext.refl _).alloc _)) (by simp; omega) (by omega) (by simp; omega) ?_)
      all_goals
        intro v5 w5 o5 b5 n5
        obtain ⟨a5, c5, rfl, oc5, or5, _⟩ := o5.reads
        have HT5 := Lib.hid (trimR_any (p :: toB 1000000 r) a5 c5 w5 or5 oc5)
        have H5 := Lib.hid (And.intro o5 (And.intro b5 n5))
        clear o5 b5 n5 oc5 or5
        go_wp2_with (go_at_call 109; refine HT5.out.mono ?_; rintro e w6 ⟨rfl, hn6, hE6⟩; rw [HROW.out])
        have H6 : Hid (OwnsN .i64 3 w6 (.slice a5 (toB 1000000 s).length c5) (toB 1000000 s)) := by
          have h := (H5.out.1.ext hE6).trim hn6
          rw [HROW.out] at h
          exact h
        have HN6 : Hid (∀ b, (Value.slice a5 (toB 1000000 s).length c5).ownBlock = some b → ob < b) := fun b hb => H5.out.2.2 b (by cases a5 <;> exact hb)
        have B6 : Below (ob + 1) wr w6 := ((((Ext.refl _).alloc _).mono (by omega)).trans H5.out.2.1).trans (hE6.mono (by have := H5.out.2.1.size; simp at this; omega))
        have HO6 : Hid (OwnsN .i64 3 w6 (.slice (some ⟨ob, 0, none⟩) N N) q) := HO.out.same (fun g hg => by cases hg; exact Below.block B6 ob (by omega))
        have E6 : Ext w w6 := he.trans' B6 (by rw [HOB.out]; omega)
        have hz6 : ob < w6.heap.size := Nat.lt_of_lt_of_le hobz B6.size
        have hsl : (toB 1000000 s).length ≤ lb.length + 1 := HYL.out s (by omega)
        clear H5 HT5 hn6 hE6 B6 HROW HV HO HN hobz p1 he
        by_cases hc : s < y
        · have hlt : ordN s y < 0 := ordN_neg.2 hc
          go_wp2_with ((go_at_call 85; (with_reducible refine (orderR_any s y (toB 1000000 s) lb a5 b c5 cb w6 rfl HY.out (by omega) (by omega) H6.out.cells (HB.out.ext E6)).mono ?_); rintro e w1 ⟨rfl, hE⟩))
          have HS := Lib.hid (HSKIP.out hc)
          have H7 := Lib.hid (H6.out.ext hE)
          have HO7 := Lib.hid (HO6.out.ext hE)
          have E7 := E6.trans hE
          have hz7 : ob < w1.heap.size := Nat.lt_of_lt_of_le hz6 hE.size
          have hm : ((k : Int) - 1 + 1).toNat < ((k : Int) + 1).toNat := by omega
          clear H6 HO6 E6 hE hz6 HSKIP HSTEP
          go_wp2
          refine ⟨⟨k, _, by omega, by go_num, rfl, ⟨s, q, HS.out, HO7.out, H7.out⟩, HN6, hz7, E7⟩, by simp [intOf]⟩
        · have hlt : ¬ ordN s y < 0 := fun h => hc (ordN_neg.1 h)
          go_wp2_with ((go_at_call 85; (with_reducible refine (orderR_any s y (toB 1000000 s) lb a5 b c5 cb w6 rfl HY.out (by omega) (by omega) H6.out.cells (HB.out.ext E6)).mono ?_); rintro e w1 ⟨rfl, hE⟩))
          obtain ⟨wo, hwo⟩ : ∃ wo, wo = w1 := ⟨w1, rfl⟩
          subst hwo
          have H7 := Lib.hid (H6.out.ext hE)
          have HO7 := Lib.hid (HO6.out.ext hE)
          have E7 := E6.trans hE
          have hz7 : ob < wo.heap.size := Nat.lt_of_lt_of_le hz6 hE.size
          clear H6 HO6 E6 hE hz6 HSKIP hlt
          go_wp2
          go_loopw [9, 10] (fun lo hi wr => ∃ (l h : Nat), l ≤ h ∧ h ≤ 999999 ∧ lo = .int .i64 l ∧ hi = .int .i64 h ∧ Hid (y * l ≤ s ∧ s < y * (h + 1)) ∧ Ext wo wr) (fun lo hi _ => (intOf hi - intOf lo).toNat)
          case atStart => exact ⟨0, 999999, by omega, by omega, rfl, rfl, ⟨by omega, by rw [Nat.mul_comm]; omega⟩, Ext.refl _⟩
          case round =>
            obtain ⟨l, h, hlh, hh, rfl, rfl, hin, he⟩ := hrel
            by_cases hl : l < h
            · obtain ⟨m, hm⟩ : ∃ m, m = (l + h + 1) / 2 := ⟨_, rfl⟩
              have hm1 : l < m := by omega
              have hm2 : m ≤ h := by omega
              have hw1 : IntKind.i64.wrap ((l : Int) + (h : Int)) = (l : Int) + (h : Int) := by rw [IntKind.wrap_i64]; omega
              have hw2 : IntKind.i64.wrap ((l : Int) + (h : Int) + 1) = (l : Int) + (h : Int) + 1 := by rw [IntKind.wrap_i64]; omega
              have ht : ((l : Int) + (h : Int) + 1).tdiv 2 = (m : Int) := by rw [Int.tdiv_eq_ediv_of_nonneg (by omega)]; omega
              have hw3 : IntKind.i64.wrap (m : Int) = (m : Int) := by rw [IntKind.wrap_i64]; omega
              have hw4 : IntKind.i64.wrap ((m : Int) - 1) = (m : Int) - 1 := by rw [IntKind.wrap_i64]; omega
              have HM : Hid ([m] = toB 1000000 m) := (toB_one (by omega) (by omega) (by omega)).symm
              have hym : (toB 1000000 (y * m)).length ≤ lb.length + 1 := HYL.out _ (by rw [Nat.mul_comm]; exact Nat.mul_le_mul_right _ (by omega))
              clear hm
              go_wp2_with (go_at_call 110; refine (timesR_any y m lb [m] b _ cb 1 _ HY.out HM.out (by omega) (by simp) (HB.out.ext (E7.trans (he.alloc _))) (cells_one' m wr)).mono ?_; rintro e w8 ⟨v8, rfl, o8, n8, e8⟩)
              all_goals
                obtain ⟨a8, c8, rfl, oc8, _, _⟩ := o8.reads
                have E8 : Ext wo w8 := (he.alloc _).trans e8
                have OC8 := Lib.hid oc8
                clear o8 n8 e8 oc8
                by_cases hcmp : y * m ≤ s
                · have hz : ordN (y * m) s ≤ 0 := ordN_le.2 hcmp
                  go_wp2_with ((go_at_call 85; (with_reducible refine (orderR_any (y * m) s (toB 1000000 (y * m)) (toB 1000000 s) a8 a5 c8 c5 w8 rfl rfl (by omega) (by omega) OC8.out (H7.out.cells.ext E8)).mono ?_); rintro e w1 ⟨rfl, hE⟩))
                  have E9 := E8.trans hE
                  clear hE OC8 he E8
                  go_wp2
                  refine ⟨⟨m, h, hm2, hh, rfl, rfl, ⟨hcmp, hin.out.2⟩, E9⟩, by simp [intOf]; omega⟩
                · have hz : ¬ ordN (y * m) s ≤ 0 := fun h => hcmp (ordN_le.1 h)
                  go_wp2_with ((go_at_call 85; (with_reducible refine (orderR_any (y * m) s (toB 1000000 (y * m)) (toB 1000000 s) a8 a5 c8 c5 w8 rfl rfl (by omega) (by omega) OC8.out (H7.out.cells.ext E8)).mono ?_); rintro e w1 ⟨rfl, hE⟩))
                  have E9 := E8.trans hE
                  clear hE OC8 he E8
                  go_wp2
                  refine ⟨⟨l, m - 1, by omega, by omega, rfl, by go_num, ⟨hin.out.1, by rw [Nat.sub_add_cancel (by omega)]; omega⟩, E9⟩, by simp [intOf]; omega⟩
            · have hlh2 : l = h := by omega
              subst hlh2
              have hl1 : 1 ≤ l := by
                rcases Nat.eq_zero_or_pos l with h0 | h0
                · have := hin.out.2; rw [h0] at this; omega
                · exact h0
              obtain ⟨hI1, hI2⟩ := hin.out
              have HQ := Lib.hid (HSTEP.out l hI1 hI2)
              have HSET := Lib.hid (HO7.out.ext he |>.set k l)
              have HL : Hid ([l] = toB 1000000 l) := (toB_one (by omega) (by omega) (by omega)).symm
              have HTR : Hid (trimL [l] = [l]) := by
                show _ = _
                rw [trimL_toB (B := 1000000) (by omega) (fun z hz => by rw [List.mem_singleton] at hz; omega)]
                show toB 1000000 (l + 1000000 * 0) = _
                exact HL.out.symm
              have hym : (toB 1000000 (y * l)).length ≤ lb.length + 1 := HYL.out _ (by omega)
              have hkN : k < N := by have := HNN.out; omega
              obtain ⟨s1, s2⟩ := (HO7.out.ext he).at (i := k) (by have := HQL.out; omega)
              generalize q.getD k 0 = z0 at s1
              have HS5 : Hid (OwnsN .i64 3 (wr.setCell ⟨ob, k, none⟩ (.int .i64 (l : Int))) (.slice a5 (toB 1000000 s).length c5) (toB 1000000 s)) :=
                (H7.out.ext he).same (fun g hg => Below.heap_setCell _ _ _ _ (Nat.ne_of_gt (HN6.out g hg)))
              have E8 : Ext w (wr.setCell ⟨ob, k, none⟩ (.int .i64 (l : Int))) := (E7.trans he).set (by rw [HOB.out]; exact Nat.le_refl _) _
              have hz8 : ob < (wr.setCell ⟨ob, k, none⟩ (.int .i64 (l : Int))).heap.size := by have := he.size; simp [World.setCell]; omega
              have HI1 := Lib.hid hI1
              clear HSTEP HO7 H7 hz7 E7 he hI1 hI2 hin
              obtain ⟨ws, hws⟩ : ∃ ws, ws = wr.setCell ⟨ob, k, none⟩ (.int .i64 (l : Int)) := ⟨_, rfl⟩
              rw [← hws] at HSET HS5 E8 hz8
              have HSS : Hid (ws.heap.size = wr.heap.size) := by show _ = _; rw [hws]; simp [World.setCell]
              have HWS := Lib.hid hws
              clear hws
              have HR1 : Room (some ⟨ws.heap.size, 0, none⟩) [l].length 1 := ⟨by simp, by unfold maxLen; omega, fun _ => ⟨_, _, rfl⟩⟩
              have HT9 := Lib.hid (trimR_any [l] (some ⟨ws.heap.size, 0, none⟩) 1 (ws.alloc (.cells #[.int .i64 (l : Int)] 3)) HR1 (cells_one' l ws))
              clear HR1
              go_wp2_with (go_at_call 109; rw [← HWS.out, ← HSS.out]; refine HT9.out.mono ?_; rintro e w9 ⟨rfl, hn9, hE9⟩; rw [HTR.out, HSS.out])
              have C9 := Lib.hid ((cells_one' l ws).ext hE9)
              rw [HSS.out] at C9
              have E9 : Ext ws w9 := ((Ext.refl _).alloc _).trans hE9
              clear hn9 hE9 HT9
              go_wp2_with (go_at_call 110; refine (timesR_any y l lb [l] b _ cb 1 _ HY.out HL.out (by omega) (by simp) (HB.out.ext (E8.trans E9)) C9.out).mono ?_; rintro e w10 ⟨v10, rfl, o10, n10, e10⟩)
              all_goals
                obtain ⟨a10, c10, rfl, oc10, _, _⟩ := o10.reads
                have E10 : Ext ws w10 := E9.trans e10
                have OC10 := Lib.hid oc10
                clear o10 n10 e10 oc10 E9 C9
                have hsub : y * l ≤ s := HI1.out
                go_wp2_with (go_at_call 112; refine (lessR_any s (y * l) (toB 1000000 s) (toB 1000000 (y * l)) a5 a10 c5 c10 w10 rfl rfl hsub (by omega) (HS5.out.cells.ext E10) OC10.out).mono ?_; rintro e w11 ⟨v11, rfl, o11, n11, e11⟩)
                all_goals
                  have O11 := Lib.hid o11
                  have N11 : Hid (∀ b, v11.ownBlock = some b → ob < b) := fun b hb => by have h1 := n11 b hb; have h2 := E10.size; omega
                  have HSET11 := Lib.hid (HSET.out.ext (E10.trans e11))
                  have E11 := E8.trans (E10.trans e11)
                  have hz11 : ob < w11.heap.size := Nat.lt_of_lt_of_le hz8 (E10.trans e11).size
                  clear o11 n11 e11 E10 OC10 E8 hz8 HS5 HSET
                  go_wp2
                  refine ⟨⟨k, _, by omega, by go_num, rfl, ⟨s - y * l, _, HQ.out, HSET11.out, O11.out⟩, N11, hz11, E11⟩, by simp [intOf]⟩
end Go.Proofs.YtmndcdjcodfchaaGreatDoor
namespace Go.Proofs.YtmndcdjcodfchaaGreatDoor
open Go.RowKit
def natR (w : World) : Value → Nat
  | .slice a n _ => valB 1000000 (readN w a n)
  | _ => 0
theorem natR_eq {w : World} {a : Option Addr} {x c : Nat} (h : CellsN .i64 w a (toB 1000000 x)) : natR w (.slice a (toB 1000000 x).length c) = x := by
  unfold natR
  simp only
  rw [readN_eq h, valB_toB (by omega)]
def NewR (l : List Nat) (w : World) (e : Ending) (w' : World) : Prop := ∃ a c, e = .returned (.slice a l.length c) ∧ CellsN .i64 w' a l ∧ Ext w w'
theorem lenR_pos {x : Nat} (h : x ≠ 0) : 0 < (toB 1000000 x).length := by rw [toB_pos (by omega) h]; simp
theorem lenR_zero {x : Nat} (h : x = 0) : (toB 1000000 x).length = 0 := by rw [h, toB_zero]; rfl
set_option maxHeartbeats 4000000 in
set_option maxRecDepth 100000 in
theorem sharedR_any (x y : Nat) (la lb : List Nat) (a b : Option Addr) (ca cb : Nat) (w : World) (hx : la = toB 1000000 x) (hy : lb = toB 1000000 y)
    (hla : la.length ≤ 100) (hlb : lb.length ≤ 100) (ha : CellsN .i64 w a la) (hb : CellsN .i64 w b lb) :
    Calls Tryz.prog 86 #[.slice a la.length ca, .slice b lb.length cb] w (NewR (toB 1000000 (Nat.gcd x y)) w) := by
  subst hx hy
  have W0 : Hid (ShaW x y w (.slice a (toB 1000000 x).length ca) (.slice b (toB 1000000 y).length cb) x y w) := ⟨rfl, hla, hlb, ⟨_, _, rfl, ha⟩, ⟨_, _, rfl, hb⟩, Ext.refl _⟩
  clear ha hb hla hlb
  generalize Value.slice a (toB 1000000 x).length ca = va0 at W0 ⊢
  generalize Value.slice b (toB 1000000 y).length cb = vb0 at W0 ⊢
  go_enter Tryz.func86, Tryz.ntmps86
  go_wp2
  go_loopw [0, 1] (fun va vb wr => ∃ (p q : Nat), Hid (ShaW x y w va vb p q wr)) (fun _ vb wr => natR wr vb)
  case atStart => exact ⟨x, y, W0.out⟩
  case round =>
    obtain ⟨p, q, HW⟩ := hrel
    obtain ⟨hg, hpl, hql, ⟨pa, pc, rfl, hpc⟩, ⟨qa, qc, rfl, hqc⟩, he⟩ := HW.out
    have HG := Lib.hid hg
    have HP := Lib.hid hpc
    have HQ := Lib.hid hqc
    have HE := Lib.hid he
    have HM : Hid (natR wr (.slice qa (toB 1000000 q).length qc) = q) := natR_eq hqc
    clear hg hpc hqc W0 HW
    by_cases h0 : q = 0
    · have hz := lenR_zero h0
      have HD : Hid (p = Nat.gcd x y) := by show _ = _; rw [← HG.out, h0, Nat.gcd_zero_right]
      have HL : Hid (toB 1000000 p = toB 1000000 (Nat.gcd x y)) := by show _ = _; rw [← HD.out]
      clear h0 HD
      go_wp2
      go_ret
      rw [HL.out] at HP ⊢
      exact ⟨_, _, rfl, HP.out, HE.out⟩
    · have hz := lenR_pos h0
      have HT := Lib.hid (quotientR_any p q (toB 1000000 p) (toB 1000000 q) pa qa pc qc wr rfl rfl (by omega) hpl hql HP.out HQ.out)
      have HR : Hid (p % q < q ∧ Nat.gcd q (p % q) = Nat.gcd x y) := ⟨Nat.mod_lt _ (by omega), by rw [← HG.out, Nat.gcd_comm p q, Nat.gcd_rec q p, Nat.gcd_comm]⟩
      clear h0 HG
      go_wp2_with (go_at_call 108; refine HT.out.mono ?_; rintro e w5 ⟨v5, u5, rfl, o5, r5, n5, m5, e5⟩)
      obtain ⟨a5, c5, rfl, oc5, _, _⟩ := r5.reads
      have hM2 : natR w5 (.slice a5 (toB 1000000 (p % q)).length c5) = p % q := natR_eq oc5
      have hml : (toB 1000000 (p % q)).length ≤ 100 := Nat.le_trans (toB_mono (by omega) (Nat.le_of_lt HR.out.1)) hql
      have W5 : Hid (ShaW x y w (.slice qa (toB 1000000 q).length qc) (.slice a5 (toB 1000000 (p % q)).length c5) q (p % q) w5) := ⟨HR.out.2, hql, hml, ⟨_, _, rfl, HQ.out.ext e5⟩, ⟨_, _, rfl, oc5⟩, HE.out.trans e5⟩
      have HM2 := Lib.hid hM2
      clear hM2 o5 r5 n5 m5 e5 oc5
      go_wp2
      refine ⟨⟨q, _, W5⟩, ?_⟩
      rw [HM.out, HM2.out]
      exact HR.out.1
end Go.Proofs.YtmndcdjcodfchaaGreatDoor
namespace Go.Proofs.YtmndcdjcodfchaaGreatDoor
open Go.RowKit
open Go.Lib (decDigits)
theorem dig_slice {d : Nat} (hd : d < 10) : (⟨#[48, 49, 50, 51, 52, 53, 54, 55, 56, 57]⟩ : ByteArray).extract d (d + 1) = ⟨[UInt8.ofNat (48 + d)].toArray⟩ := by
  rcases d with _ | _ | _ | _ | _ | _ | _ | _ | _ | _ | d
  iterate 10 rfl
  omega
set_option maxHeartbeats 4000000 in
set_option maxRecDepth 100000 in
theorem digitsR_any (x : Nat) (la : List Nat) (a : Option Addr) (ca : Nat) (w : World) (hx : la = toB 1000000 x) (hla : la.length ≤ 110) (ha : CellsN .i64 w a la) :
    Calls Tryz.prog 115 #[.slice a la.length ca] w fun e w' => e = .returned (txt (decDigits x)) ∧ Ext w w' := by
  by_cases h0 : x = 0
  · have hz : la.length = 0 := by rw [hx, h0, toB_zero]; rfl
    have HD : Hid (decDigits x = [48]) := by show _ = _; rw [h0, digits_small (by omega)]; rfl
    clear h0 hx ha hla
    go_enter Tryz.func115, Tryz.ntmps115
    go_wp2
    go_ret
    exact ⟨by rw [HD.out]; rfl, Ext.refl _⟩
  · have hz : 0 < la.length := by rw [hx]; exact lenR_pos h0
    have hz' : ((la.length : Int) == 0) = false := by rw [beq_eq_false_iff_ne]; omega
    have HA := Lib.hid ha
    have HX := Lib.hid hx
    have HLE : Hid (∀ i, i + 1 = la.length → x / 1000000 ^ (i + 1) = 0 ∧ x / 1000000 ^ i ≠ 0) := fun i hi => by
      have h1 := len_toB (B := 1000000) (by omega) (i + 1) x
      have h2 := len_toB (B := 1000000) (by omega) i x
      rw [← hx] at h1 h2
      exact ⟨Decidable.byContradiction fun h => by have := h1.2 h; omega, h2.1 (by omega)⟩
    clear h0 hx ha
    go_enter Tryz.func115, Tryz.ntmps115
    go_wp2
    go_loopw [3, 4] (fun s i wr => ∃ (k : Nat) (l : List UInt8), k ≤ la.length ∧ i = .int .i64 k ∧ s = txt l ∧ Hid ((k < la.length → l = padD (6 * k) x) ∧ (k = la.length → l = decDigits x)) ∧ Ext w wr) (fun _ i _ => la.length - (intOf i).toNat)
    case atStart => exact ⟨0, [], by omega, rfl, rfl, ⟨fun _ => rfl, fun h => by omega⟩, Ext.refl _⟩
    case round =>
      obtain ⟨i, l, hi, rfl, rfl, hw, he⟩ := hrel
      by_cases h1 : i < la.length
      · obtain ⟨p, hp⟩ : ∃ p, p = la.getD i 0 := ⟨_, rfl⟩
        have HP : Hid (p = x / 1000000 ^ i % 1000000) := by show _ = _; rw [hp, HX.out, getD_toB (by omega)]
        obtain ⟨b1, o1, ha1, p1⟩ := HA.out.ext he i h1
        subst ha1
        rw [← hp] at p1
        have HK0 : Hid (DigK x i 0 p l (i + 1 = la.length)) := ⟨by rw [hw.out.1 h1]; rfl, by rw [HP.out, Nat.pow_zero, Nat.div_one], HLE.out i, fun _ h => by omega⟩
        have hp6 : p < 1000000 := by rw [HP.out]; exact Nat.mod_lt _ (by omega)
        clear hp hw HP
        obtain ⟨wo, hwo⟩ : ∃ wo, wo = wr := ⟨wr, rfl⟩
        subst hwo
        go_wp2
        go_loopw [3, 5, 6] (fun s n k wr => ∃ (kk m : Nat) (l : List UInt8), kk ≤ 6 ∧ k = .int .i64 kk ∧ n = .int .i64 m ∧ m < 1000000 ∧ s = txt l ∧ Hid (DigK x i kk m l (i + 1 = la.length)) ∧ Ext wo wr) (fun _ _ k _ => 6 - (intOf k).toNat)
        case atStart => exact ⟨0, p, l, by omega, rfl, rfl, hp6, rfl, HK0, Ext.refl _⟩
        case round =>
          clear HK0 p1
          obtain ⟨kk, m, l2, hk, rfl, rfl, hm6, rfl, HK, hE⟩ := hrel
          by_cases hgo : kk < 6 ∧ (i + 1 < la.length ∨ 0 < m)
          · obtain ⟨hk6, hor⟩ := hgo
            have HK2 := Lib.hid (HK.out.next hk6 (fun hl => by omega))
            obtain ⟨d, hd⟩ : ∃ d, d = m % 10 := ⟨_, rfl⟩
            obtain ⟨q, hq⟩ : ∃ q, q = m / 10 := ⟨_, rfl⟩
            rw [← hd, ← hq] at HK2
            have ht1 : (m : Int).tmod 10 = (d : Int) := by rw [Int.tmod_eq_emod_of_nonneg (by omega)]; omega
            have ht2 : (m : Int).tdiv 10 = (q : Int) := by rw [Int.tdiv_eq_ediv_of_nonneg (by omega)]; omega
            have hw1 : IntKind.i64.wrap (d : Int) = (d : Int) := by rw [IntKind.wrap_i64]; omega
            obtain ⟨f, hf⟩ : ∃ f, f = d + 1 := ⟨_, rfl⟩
            have hw2 : IntKind.i64.wrap ((d : Int) + 1) = (f : Int) := by rw [IntKind.wrap_i64]; omega
            have hf1 : (0 : Int) ≤ (f : Int) := by omega
            have hf2 : (f : Int) ≤ 10 := by omega
            have hf3 : (d : Int) ≤ (f : Int) := by omega
            have hf4 : (0 : Int) ≤ (d : Int) := by omega
            have hw3 : IntKind.i64.wrap (q : Int) = (q : Int) := by rw [IntKind.wrap_i64]; omega
            have hw4 : IntKind.i64.wrap ((i : Int) + 1) = (i : Int) + 1 := by rw [IntKind.wrap_i64]; omega
            have hsl := dig_slice (d := d) (by omega)
            rw [← hf] at hsl
            obtain ⟨c, hc⟩ : ∃ c, c = UInt8.ofNat (48 + d) := ⟨_, rfl⟩
            rw [← hc] at hsl HK2
            have hll : l2.length = 6 * i + kk := by rw [HK.out.s, padD_len]
            have hap := app_txt [c] l2
            have hi1 : (i : Int) + 1 < (la.length : Int) ∨ 0 < m := by omega
            have hq6 : q < 1000000 := by omega
            clear hd hq HK hf hc
            have hcat : ¬ 9223372036854775807 < [c].length + l2.length := by rw [List.length_singleton]; omega
            rcases hor with hor | hor
            · have hi2 : (i : Int) + 1 < (la.length : Int) := by omega
              clear hi1
              go_wp2
              refine ⟨⟨kk + 1, q, c :: l2, by omega, by go_num, rfl, hq6, rfl, HK2, hE⟩, by simp [intOf]; omega⟩
            · by_cases hi2 : (i : Int) + 1 < (la.length : Int)
              · clear hi1
                go_wp2
                refine ⟨⟨kk + 1, q, c :: l2, by omega, by go_num, rfl, hq6, rfl, HK2, hE⟩, by simp [intOf]; omega⟩
              · have hm0 : (0 : Int) < (m : Int) := by omega
                clear hi1
                go_wp2
                refine ⟨⟨kk + 1, q, c :: l2, by omega, by go_num, rfl, hq6, rfl, HK2, hE⟩, by simp [intOf]; omega⟩
          · have hw4 : IntKind.i64.wrap ((i : Int) + 1) = (i : Int) + 1 := by rw [IntKind.wrap_i64]; omega
            have hw5 : Hid ((i + 1 < la.length → l2 = padD (6 * (i + 1)) x) ∧ (i + 1 = la.length → l2 = decDigits x)) := by
              refine ⟨fun h => ?_, fun h => ?_⟩
              · have hk6 : kk = 6 := by omega
                subst hk6
                exact HK.out.outer
              · have hm0 : m = 0 := by
                  rcases Nat.eq_zero_or_pos m with h0 | h0
                  · exact h0
                  · have hk6 : kk = 6 := by omega
                    subst hk6
                    have := HK.out.n
                    rw [this]
                    exact Nat.div_eq_of_lt (Nat.mod_lt _ (by omega))
                subst hm0
                exact HK.out.done h hk
            have he2 := he.trans hE
            by_cases hk6 : kk < 6
            · have hi2 : ¬ (i : Int) + 1 < (la.length : Int) := by omega
              have hm0 : m = 0 := by omega
              subst hm0
              clear hgo HK he hE
              go_wp2
              refine ⟨⟨i + 1, l2, by omega, by go_num, rfl, hw5, he2⟩, by simp [intOf]; omega⟩
            · have hk7 : ¬ (kk : Int) < 6 := by omega
              clear hgo HK he hE
              go_wp2
              refine ⟨⟨i + 1, l2, by omega, by go_num, rfl, hw5, he2⟩, by simp [intOf]; omega⟩
      · have hil : i = la.length := by omega
        have HL := Lib.hid (hw.out.2 hil)
        clear hw
        go_wp2
        go_ret
        rw [HL.out]
        exact ⟨rfl, he⟩
end Go.Proofs.YtmndcdjcodfchaaGreatDoor
namespace Go.Proofs.YtmndcdjcodfchaaGreatDoor
open Go.RowKit
open Go.Lib (decDigits)
theorem take_drop_snoc {s : Txt} {st i : Nat} (h1 : st ≤ i) (h2 : i < s.length) : (s.take (i + 1)).drop st = (s.take i).drop st ++ [s[i]] := by
  rw [List.take_add_one, List.getElem?_eq_getElem h2, List.drop_append_of_le_length (by rw [List.length_take]; omega)]
  rfl
set_option maxHeartbeats 4000000 in
set_option maxRecDepth 100000 in
theorem readR_any (s : Txt) (w : World) (hs : DigitL s) (hl : s.length ≤ 500) :
    Calls Tryz.prog 87 #[txt s] w (OwnNPost .i64 3 (toB 1000000 (decV s)) w) := by
  obtain ⟨i0, hi, hi0, hi1, hi2⟩ := info_parts infoI64
  have HS := Lib.hid hs
  clear hs
  go_enter Tryz.func87, Tryz.ntmps87
  go_wp2
  go_loopw [3, 4] (fun v en wr => ∃ (vv : Value) (o : List Nat), v = vv ∧ en = .int .i64 ((s.length : Int) - 6 * (o.length : Int)) ∧ 6 * o.length ≤ s.length + 6 ∧ Hid (ReadI 6 s o) ∧ Hid (OwnsN .i64 3 wr vv o) ∧ Hid (∀ b, vv.ownBlock = some b → w.heap.size ≤ b) ∧ Ext w wr) (fun _ en _ => (intOf en).toNat)
  case atStart => exact ⟨_, [], rfl, by simp, by simp, ReadI.start 6 s, OwnsN.nil _ _ _, (fun b hb => by cases hb), Ext.refl _⟩
  case round =>
    obtain ⟨vv, o, hvv, rfl, hol, HR, HO, HN, he⟩ := hrel
    obtain rfl := hvv.symm
    by_cases hgt : 6 * o.length < s.length
    · obtain ⟨en, hen⟩ : ∃ en, en = s.length - 6 * o.length := ⟨_, rfl⟩
      have hee : (s.length : Int) - 6 * (o.length : Int) = (en : Int) := by omega
      have he0 : (0 : Int) < (en : Int) := by omega
      have hes : en ≤ s.length := by omega
      obtain ⟨st, hst⟩ : ∃ st, st = en - 6 := ⟨_, rfl⟩
      have hw1 : IntKind.i64.wrap ((en : Int) - 6) = (en : Int) - 6 := by rw [IntKind.wrap_i64]; omega
      have hmx : max (0 : Int) ((en : Int) - 6) = (st : Int) := by omega
      have hst1 : st ≤ en := by omega
      have hst2 : en ≤ st + 6 := by omega
      have hnx := HR.out.next (by omega) HS.out
      rw [← hen, ← hst] at hnx
      have HNX := Lib.hid hnx
      have HEN := Lib.hid hen
      rw [hee]
      have hol2 : o.length ≤ 100 := by omega
      have hEnd : Hid (∀ x : Nat, (en : Int) - 6 = (s.length : Int) - 6 * ((o ++ [x]).length : Int)) := by
        intro x
        rw [List.length_append, List.length_singleton]; omega
      have hlo : Hid (∀ x : Nat, 6 * (o ++ [x]).length ≤ s.length + 6) := by
        intro x
        rw [List.length_append, List.length_singleton]; omega
      have HMS : Hid (((en : Int) - 6).toNat < en) := by show _ < _; omega
      clear hee HEN HR hen hnx hst
      obtain ⟨wo, hwo⟩ : ∃ wo, wo = wr := ⟨wr, rfl⟩
      subst hwo
      go_wp2
      go_loop [5, 6] (fun n i => ∃ (k m : Nat), st ≤ k ∧ k ≤ en ∧ i = .int .i64 k ∧ n = .int .i64 m ∧ Hid (m = decV ((s.take k).drop st)) ∧ m < 1000000) (fun _ i => en - (intOf i).toNat)
      case atStart => exact ⟨st, 0, by omega, hst1, rfl, rfl, by show _ = _; rw [List.drop_eq_nil_of_le (by rw [List.length_take]; omega)]; rfl, by omega⟩
      case round =>
        obtain ⟨k, m, hk1, hk2, rfl, rfl, hm, hm6⟩ := hrel
        by_cases hlt : k < en
        · obtain ⟨c, hc⟩ : ∃ c, c = s[k]'(by omega) := ⟨_, rfl⟩
          have hget : ∀ h, (⟨s.toArray⟩ : ByteArray)[k]'h = c := fun h => by rw [hc]; rfl
          have hcd : 48 ≤ c.toNat ∧ c.toNat ≤ 57 := HS.out c (by rw [hc]; exact List.getElem_mem _)
          have hdl : ((s.take k).drop st).length ≤ 5 := by rw [List.length_drop, List.length_take]; omega
          have hdd : DigitL ((s.take k).drop st) := (HS.out.of_take k).of_drop st
          have hmlt : m < 100000 := by
            rw [hm.out]
            refine Nat.lt_of_lt_of_le (decV_lt hdd) ?_
            exact Nat.le_trans (Nat.pow_le_pow_right (by omega) hdl) (by decide)
          have HM2 : Hid (10 * m + (c.toNat - 48) = decV ((s.take (k + 1)).drop st)) := by
            show _ = _
            rw [take_drop_snoc hk1 (by omega), decV_snoc, ← hm.out, hc]
          obtain ⟨q, hq⟩ : ∃ q, q = 10 * m + (c.toNat - 48) := ⟨_, rfl⟩
          rw [← hq] at HM2
          have hw2 : IntKind.i64.wrap (10 * (m : Int)) = 10 * (m : Int) := by rw [IntKind.wrap_i64]; omega
          have hw3 : IntKind.u8.wrap ((c.toNat : Int) - 48) = (c.toNat : Int) - 48 := by rw [IntKind.wrap_u8]; omega
          have hw4 : IntKind.i64.wrap ((c.toNat : Int) - 48) = (c.toNat : Int) - 48 := by rw [IntKind.wrap_i64]; omega
          have hw5 : IntKind.i64.wrap (10 * (m : Int) + ((c.toNat : Int) - 48)) = (q : Int) := by rw [IntKind.wrap_i64]; omega
          have hkl : (k : Int) < (s.length : Int) := by omega
          have hq6 : q < 1000000 := by omega
          clear hc hq hdl hdd hm
          go_wp2
          refine ⟨⟨k + 1, q, by omega, by omega, by go_num, rfl, HM2, hq6⟩, by simp [intOf]; omega⟩
        · have hke : k = en := by omega
          have HX : Hid (m = decV ((s.take en).drop st)) := by show _ = _; rw [← hke]; exact hm.out
          rw [← HX.out] at HNX
          clear hm hke
          have hol3 : o.length ≤ 100 := hol2
          go_wp2_with (at_builtin; refine wpList_append1 _ rfl _ _ 123 rfl 3 i0 (.int .i64 0) 1 8 Tryz.underlying123 hi hi0 hi1 hi2 rfl (by decide) vv o.length (natsV .i64 o) rfl (HO.out.ext ((Ext.refl _).alloc _)) ⟨wo.heap.size, 0, none⟩ 1 1 (by decide) [.int .i64 (m : Int)] rfl rfl (cells_one _ _ _) (by intro u hu; simp at hu; subst hu; rfl) (by unfold maxLen; omega) (by omega) ?_)
          all_goals
            intro v' w5 hown5 hend5
            have OB5 : Hid (∀ b, v'.ownBlock = some b → w.heap.size ≤ b) := hend5.ge (n := w.heap.size) (by have := he.size; simp; omega) HN.out
            have O5 : Hid (OwnsN .i64 3 w5 v' (o ++ [m])) := ownsN_succ hown5
            have B5 : Ext w w5 := (he.trans ((Ext.refl _).alloc _)).trans' (hend5.below (n := w.heap.size) (by have := he.size; simp; omega) HN.out) (Nat.le_refl _)
            clear hown5 hend5 HO
            go_wp2
            refine ⟨⟨v', o ++ [m], rfl, by rw [← hEnd.out m], hlo.out m, HNX, O5, OB5, B5⟩, by simp [intOf]; exact HMS.out⟩
    · have he0 : ¬ (0 : Int) < (s.length : Int) - 6 * (o.length : Int) := by omega
      have hdone : trimL o = toB 1000000 (decV s) := HR.out.done (by omega) (by omega)
      obtain ⟨oa, oc, rfl, hoc, hor, _⟩ := HO.out.reads
      have HNB : Hid (∀ b, (Value.slice oa (trimL o).length oc).ownBlock = some b → w.heap.size ≤ b) := fun b hb => HN.out b (by cases oa <;> exact hb)
      have HT := Lib.hid (trimR_any o oa oc wr hor hoc)
      have HDN := Lib.hid hdone
      clear hoc hor hdone
      generalize (s.length : Int) - 6 * (o.length : Int) = z at *
      go_wp2_with (go_at_call 109; refine HT.out.mono ?_; rintro e w5 ⟨rfl, hn5, hE5⟩)
      go_ret
      refine ⟨_, rfl, ?_, HNB.out, he.trans hE5⟩
      rw [← HDN.out]
      exact (HO.out.ext hE5).trim hn5
end Go.Proofs.YtmndcdjcodfchaaGreatDoor
namespace Go.Proofs.YtmndcdjcodfchaaGreatDoor
open Go.RowKit
open Go.Lib (decDigits)
set_option maxHeartbeats 4000000 in
set_option maxRecDepth 100000 in
theorem bareR_any (s : Txt) (w : World) (hl : s.length ≤ 400) :
    Calls Tryz.prog 88 #[txt s] w fun e w' => e = .returned (txt (bareS s)) ∧ w' = w := by
  cases s with
  | nil =>
    go_enter Tryz.func88, Tryz.ntmps88
    go_wp2
    go_ret
    exact ⟨rfl, rfl⟩
  | cons c m =>
    have hl2 : m.length + 1 ≤ 400 := by simpa using hl
    have hget : ∀ h, (⟨(c :: m).toArray⟩ : ByteArray)[0]'h = c := fun _ => rfl
    have hpos : 0 < (c :: m).length := by simp
    by_cases hc : c = 45
    · subst hc
      have hb : Hid (bareS (45 :: m) = m) := by show _ = _; unfold bareS negS; rfl
      have hex := extract_txt (45 :: m) 1 (45 :: m).length
      rw [List.take_length] at hex
      have h1 : (1 : Int) ≤ ((45 :: m : Txt).length : Int) := by simp; omega
      go_enter Tryz.func88, Tryz.ntmps88
      go_wp2
      go_ret
      rw [hb.out]
      exact ⟨congrArg (fun z => Ending.returned (Value.string z)) hex, rfl⟩
    · have hb : Hid (bareS (c :: m) = c :: m) := by
        show _ = _
        unfold bareS negS
        rw [if_neg (by simpa using hc)]
      have hne : ((c.toNat : Int) == 45) = false := by
        rw [beq_eq_false_iff_ne]
        intro e
        exact hc (UInt8.toNat_inj.1 (by show c.toNat = 45; omega))
      go_enter Tryz.func88, Tryz.ntmps88
      go_wp2
      go_ret
      rw [hb.out]
      exact ⟨rfl, rfl⟩
theorem bare_le (s : Txt) : (bareS s).length ≤ s.length := by
  unfold bareS
  split
  · rw [List.length_tail]; omega
  · exact Nat.le_refl _
theorem bool_of {p : Prop} [Decidable p] {b : Bool} (h : b = true ↔ p) : decide p = b := by
  cases b with
  | true => exact decide_eq_true (h.1 rfl)
  | false => exact decide_eq_false (fun k => by cases h.2 k)
theorem digitL_succ {d : Txt} {k : Nat} (h : DigitL (d.take k)) (hk : k < d.length) (hd : 48 ≤ d[k].toNat ∧ d[k].toNat ≤ 57) : DigitL (d.take (k + 1)) := fun c hc => by
  rw [List.take_add_one, List.getElem?_eq_getElem hk] at hc
  rcases List.mem_append.1 hc with h1 | h1
  · exact h c h1
  · have : c = d[k] := by simpa using h1
    rw [this]; exact hd
set_option maxHeartbeats 4000000 in
set_option maxRecDepth 100000 in
theorem textR_any (s : Txt) (w : World) (hl : s.length ≤ 400) :
    Calls Tryz.prog 107 #[txt s] w fun e w' => e = .returned (.bool (decide (IntS s))) ∧ w' = w := by
  have HB := Lib.hid (fun W => bareR_any s W hl)
  have HI : Hid (∀ b : Bool, (b = true ↔ CanonL (bareS s) ∧ s ≠ [45, 48]) → decide (IntS s) = b) := fun b h => bool_of h
  have HN : Hid (negS s = false → bareS s = s) := fun h => bare_pos h
  have HN2 : Hid (negS s = true → s = 45 :: bareS s) := fun h => neg_cons h
  have hdl := bare_le s
  obtain ⟨f, hf⟩ : ∃ f, f = decide (IntS s) := ⟨_, rfl⟩
  rw [← hf]
  have HF := Lib.hid hf
  clear hf
  generalize bareS s = d at *
  by_cases hd : d = []
  · subst hd
    have hF : Hid (f = false) := HF.out.trans (HI.out false ⟨(fun h => by cases h), fun h => absurd rfl h.1.2.1⟩)
    clear HI HF HN HN2
    go_enter Tryz.func107, Tryz.ntmps107
    go_wp2_with (go_at_call 88; refine (HB.out _).mono ?_; rintro e w' ⟨rfl, rfl⟩)
    go_ret
    exact ⟨ret_bool hF.out.symm, rfl⟩
  · obtain ⟨c, m, rfl⟩ := List.exists_cons_of_ne_nil hd
    clear hd
    have hget : ∀ h, (⟨(c :: m).toArray⟩ : ByteArray)[0]'h = c := fun _ => rfl
    have hpos : 0 < (c :: m).length := by simp
    have hnz : (((c :: m : Txt).length : Int) == 0) = false := by rw [beq_eq_false_iff_ne]; simp; omega
    have hpos2 : 1 ≤ (c :: m).length := by simp
    have hcc : c = 48 ∨ ((c.toNat : Int) == 48) = false := by
      by_cases h : c = 48
      · exact .inl h
      · refine .inr ?_
        rw [beq_eq_false_iff_ne]
        intro e
        exact h (UInt8.toNat_inj.1 (by show c.toNat = 48; omega))
    by_cases hbad : c = 48 ∧ 1 < s.length
    · obtain ⟨rfl, hs1⟩ := hbad
      have hF : Hid (f = false) := HF.out.trans (HI.out false ⟨(fun h => by cases h), fun h => by
        exfalso
        obtain ⟨⟨_, _, h3⟩, h4⟩ := h
        rcases h3 with h3 | h3
        · exact h3 rfl
        · have hm : m = [] := by simpa using h3
          subst hm
          cases hn : negS s with
          | false => rw [← HN.out hn] at hs1; simp at hs1
          | true => exact h4 (HN2.out hn)⟩)
      have hs2 : (1 : Int) < (s.length : Int) := by omega
      clear HI HF HN HN2 hcc
      go_enter Tryz.func107, Tryz.ntmps107
      go_wp2_with (go_at_call 88; refine (HB.out _).mono ?_; rintro e w' ⟨rfl, rfl⟩)
      go_ret
      exact ⟨ret_bool hF.out.symm, rfl⟩
    · have HR : Hid (f = decide (DigitL (c :: m))) := by
        refine HF.out.trans (HI.out _ ⟨fun h => ?_, fun h => decide_eq_true h.1.1⟩)
        have hdig := of_decide_eq_true h
        refine ⟨⟨hdig, by simp, ?_⟩, ?_⟩
        · by_cases h48 : c = 48
          · subst h48
            have hs1 : s.length ≤ 1 := by
              rcases Nat.lt_or_ge 1 s.length with h5 | h5
              · exact absurd ⟨rfl, h5⟩ hbad
              · exact h5
            have hm : m = [] := List.length_eq_zero_iff.1 (by simp at hdl; omega)
            exact .inr (by rw [hm])
          · exact .inl (by simpa using h48)
        · intro e
          subst e
          have h5 := HN2.out rfl
          simp only [List.cons.injEq, true_and] at h5
          exact hbad ⟨h5.1.symm, by simp⟩
      have hs2 : c = 48 → ¬ (1 : Int) < (s.length : Int) := fun h => by
        rcases Nat.lt_or_ge 1 s.length with h5 | h5
        · exact absurd ⟨h, h5⟩ hbad
        · omega
      clear HI HF HN HN2 hbad
      have hcc2 : (((c.toNat : Int) == 48) = true ∧ ¬ (1 : Int) < (s.length : Int)) ∨ ((c.toNat : Int) == 48) = false := by
        rcases hcc with h | h
        · exact .inl ⟨by rw [h]; rfl, hs2 h⟩
        · exact .inr h
      clear hcc hs2 hpos2
      generalize hdd : (c :: m : Txt) = d at *
      clear hdd
      rcases hcc2 with ⟨hcc, hs3⟩ | hcc
      all_goals
        go_enter Tryz.func107, Tryz.ntmps107
        go_wp2_with (go_at_call 88; refine (HB.out _).mono ?_; rintro e w' ⟨rfl, rfl⟩)
        have hdl4 : d.length ≤ 400 := by omega
        go_loop [4] (fun i => ∃ k : Nat, k ≤ d.length ∧ i = .int .i64 k ∧ Hid (DigitL (d.take k))) (fun i => d.length - (intOf i).toNat)
        case atStart => exact ⟨0, by omega, rfl, (fun c hc => by simp at hc)⟩
        case round =>
          obtain ⟨k, hk, rfl, hD⟩ := hrel
          by_cases hlt : k < d.length
          · obtain ⟨x, hx⟩ : ∃ x, x = d[k]'hlt := ⟨_, rfl⟩
            have hgx : ∀ h, (⟨d.toArray⟩ : ByteArray)[k]'h = x := fun h => by rw [hx]; rfl
            have hkl : (k : Int) < (d.length : Int) := by omega
            by_cases hgd : 48 ≤ x.toNat ∧ x.toNat ≤ 57
            · have HD2 := Lib.hid (digitL_succ hD.out hlt (hx ▸ hgd))
              obtain ⟨hg1, hg2⟩ := hgd
              have hg3 : ¬ ((x.toNat : Int) < 48) := by omega
              have hg4 : ¬ (57 < (x.toNat : Int)) := by omega
              clear hx hD
              go_wp2
              refine ⟨⟨k + 1, by omega, by go_num, HD2⟩, by simp [intOf]; omega⟩
            · have hF : Hid (f = false) := by
                show _ = _
                rw [HR.out]
                exact decide_eq_false (fun h => hgd (h x (by rw [hx]; exact List.getElem_mem _)))
              clear hx hD HR
              by_cases hg1 : (x.toNat : Int) < 48
              · go_wp2
                go_ret
                exact ⟨ret_bool hF.out.symm, rfl⟩
              · have hg2 : 57 < (x.toNat : Int) := by omega
                go_wp2
                go_ret
                exact ⟨ret_bool hF.out.symm, rfl⟩
          · have hkd : k = d.length := by omega
            have hF : Hid (f = true) := by
              show _ = _
              rw [HR.out]
              have h1 := hD.out
              rw [hkd, List.take_length] at h1
              exact decide_eq_true h1
            clear hD HR hkd
            go_wp2
            go_ret
            exact ⟨ret_bool hF.out.symm, rfl⟩
set_option maxHeartbeats 4000000 in
set_option maxRecDepth 100000 in
theorem integerR_any (s : Txt) (w : World) (hl : s.length ≤ 400) :
    Calls Tryz.prog 83 #[txt s] w fun e w' => e = .returned (.int .i64 (intE s : Nat)) ∧ w' = w := by
  have HB := Lib.hid (fun W => bareR_any s W hl)
  have HT := Lib.hid (fun W => textR_any s W hl)
  have hbl := bare_le s
  by_cases h1 : IntS s
  · rw [decide_eq_true h1] at HT
    by_cases h2 : 60 < (bareS s).length
    · have hE : Hid (intE s = 11) := by show _ = _; unfold intE; rw [if_neg (not_not_intro h1), if_pos h2]
      have h3 : (60 : Int) < ((bareS s).length : Int) := by omega
      clear h1
      rw [hE.out]
      generalize bareS s = d at *
      go_enter Tryz.func83, Tryz.ntmps83
      go_wp2_with (first
        | (go_at_call 88; refine (HB.out _).mono ?_; rintro e w' ⟨rfl, rfl⟩)
        | (go_at_call 107; refine (HT.out _).mono ?_; rintro e w' ⟨rfl, rfl⟩))
      go_ret
      exact ⟨rfl, rfl⟩
    · have hE : Hid (intE s = 0) := by show _ = _; unfold intE; rw [if_neg (not_not_intro h1), if_neg h2]
      have h3 : ¬ (60 : Int) < ((bareS s).length : Int) := by omega
      clear h1
      rw [hE.out]
      generalize bareS s = d at *
      go_enter Tryz.func83, Tryz.ntmps83
      go_wp2_with (first
        | (go_at_call 88; refine (HB.out _).mono ?_; rintro e w' ⟨rfl, rfl⟩)
        | (go_at_call 107; refine (HT.out _).mono ?_; rintro e w' ⟨rfl, rfl⟩))
      go_ret
      exact ⟨rfl, rfl⟩
  · rw [decide_eq_false h1] at HT
    have hE : Hid (intE s = 3) := by show _ = _; unfold intE; rw [if_pos h1]
    clear h1
    rw [hE.out]
    go_enter Tryz.func83, Tryz.ntmps83
    go_wp2_with (go_at_call 107; refine (HT.out _).mono ?_; rintro e w' ⟨rfl, rfl⟩)
    go_ret
    exact ⟨rfl, rfl⟩
end Go.Proofs.YtmndcdjcodfchaaGreatDoor
namespace Go.Proofs.YtmndcdjcodfchaaGreatDoor
open Go.RowKit
open Go.Lib (decDigits)
set_option maxHeartbeats 4000000 in
set_option maxRecDepth 100000 in
theorem slashR_any (a : Txt) (w : World) (hl : a.length ≤ 400) :
    Calls Tryz.prog 84 #[txt a] w fun e w' => e = .returned (.int .i64 (if 47 ∈ a then ((topS a).length : Int) else -1)) ∧ w' = w := by
  obtain ⟨z, hz⟩ : ∃ z : Int, z = if 47 ∈ a then ((topS a).length : Int) else -1 := ⟨_, rfl⟩
  rw [← hz]
  have HZ := Lib.hid hz
  clear hz
  go_enter Tryz.func84, Tryz.ntmps84
  go_wp2
  go_loop [3] (fun i => ∃ k : Nat, k ≤ a.length ∧ i = .int .i64 k ∧ Hid ((47 : UInt8) ∉ a.take k)) (fun i => a.length - (intOf i).toNat)
  case atStart => exact ⟨0, by omega, rfl, by show _ ∉ _; simp⟩
  case round =>
    obtain ⟨k, hk, rfl, hD⟩ := hrel
    by_cases hlt : k < a.length
    · obtain ⟨x, hx⟩ : ∃ x, x = a[k]'hlt := ⟨_, rfl⟩
      have hgx : ∀ h, (⟨a.toArray⟩ : ByteArray)[k]'h = x := fun h => by rw [hx]; rfl
      have hkl : (k : Int) < (a.length : Int) := by omega
      have hsp : a = a.take k ++ x :: a.drop (k + 1) := by rw [hx, List.getElem_cons_drop, List.take_append_drop]
      by_cases h47 : x = 47
      · have hF : Hid (z = (k : Int)) := by
          show _ = _
          have h1 : topS a = a.take k := by
            rw [h47] at hsp
            have h2 := (split_app (a.take k) (a.drop (k + 1)) hD.out).1
            rw [← hsp] at h2
            exact h2
          have hm : (47 : UInt8) ∈ a := by rw [hsp, h47]; simp
          rw [HZ.out, if_pos hm, h1, List.length_take]; omega
        have hg : ((x.toNat : Int) == 47) = true := by rw [h47]; rfl
        clear hx hsp hD h47 HZ
        go_wp2
        go_ret
        rw [hF.out]
        exact ⟨rfl, rfl⟩
      · have hg : ((x.toNat : Int) == 47) = false := by
          rw [beq_eq_false_iff_ne]
          intro e
          exact h47 (UInt8.toNat_inj.1 (by show x.toNat = 47; omega))
        have HD2 : Hid ((47 : UInt8) ∉ a.take (k + 1)) := by
          show _ ∉ _
          rw [List.take_add_one, List.getElem?_eq_getElem hlt, ← hx]
          intro h
          rcases List.mem_append.1 h with h | h
          · exact hD.out h
          · have h9 : 47 = x := by simpa using h
            exact h47 h9.symm
        clear hx hsp hD h47
        go_wp2
        refine ⟨⟨k + 1, by omega, by go_num, HD2⟩, by simp [intOf]; omega⟩
    · have hF : Hid (z = -1) := by
        show _ = _
        have h1 := hD.out
        rw [List.take_of_length_le (by omega)] at h1
        rw [HZ.out, if_neg h1]
      clear hD HZ
      go_wp2
      go_ret
      rw [hF.out]
      exact ⟨rfl, rfl⟩
set_option maxHeartbeats 4000000 in
set_option maxRecDepth 100000 in
theorem splitR_any (a : Txt) (w : World) (hl : a.length ≤ 400) :
    Calls Tryz.prog 82 #[txt a] w fun e w' => e = .returned (.tuple #[txt (topS a), txt (lowS a)]) ∧ Ext w w' := by
  have HS := Lib.hid (fun W => slashR_any a W hl)
  by_cases h47 : (47 : UInt8) ∈ a
  · have hsp := split_some h47
    obtain ⟨t, ht⟩ : ∃ t, t = topS a := ⟨_, rfl⟩
    obtain ⟨l, hll⟩ : ∃ l, l = lowS a := ⟨_, rfl⟩
    rw [if_pos h47] at HS
    rw [← ht, ← hll] at hsp ⊢
    rw [← ht] at HS
    have hal : a.length = t.length + 1 + l.length := by rw [hsp, List.length_append, List.length_cons]; omega
    have e1 := extract_txt a 0 t.length
    have e2 := extract_txt a (t.length + 1) a.length
    have h1 : (a.take t.length).drop 0 = t := by rw [List.drop_zero, hsp, List.take_left']; rfl
    have h2 : (a.take a.length).drop (t.length + 1) = l := by rw [List.take_length, hsp, List.drop_append]; simp
    rw [h1] at e1
    rw [h2] at e2
    have hb1 : (0 : Int) ≤ (t.length : Int) := by omega
    have hb2 : (t.length : Int) ≤ (a.length : Int) := by omega
    obtain ⟨u, hu⟩ : ∃ u, u = t.length + 1 := ⟨_, rfl⟩
    have hw : IntKind.i64.wrap ((t.length : Int) + 1) = (u : Int) := by rw [IntKind.wrap_i64]; omega
    have hb3 : (u : Int) ≤ (a.length : Int) := by omega
    have hb4 : (0 : Int) ≤ (u : Int) := by omega
    have hb5 : ¬ (t.length : Int) < 0 := by omega
    rw [← hu] at e2
    clear ht hll hsp h1 h2 hu h47 hal
    go_enter Tryz.func82, Tryz.ntmps82
    go_wp2_with (go_at_call 84; refine (HS.out _).mono ?_; rintro e w' ⟨rfl, rfl⟩)
    go_quiet (fail)
    go_wp2
    go_ret2
    exact ⟨rfl, extA⟩
  · obtain ⟨h1, h2⟩ := split_none h47
    rw [if_neg h47] at HS
    rw [h1, h2]
    clear h47 h1 h2
    go_enter Tryz.func82, Tryz.ntmps82
    go_wp2_with (go_at_call 84; refine (HS.out _).mono ?_; rintro e w' ⟨rfl, rfl⟩)
    go_ret2
    exact ⟨rfl, Ext.refl _⟩
end Go.Proofs.YtmndcdjcodfchaaGreatDoor
namespace Go.Proofs.YtmndcdjcodfchaaGreatDoor
open Go.RowKit
open Go.Lib (decDigits)
theorem len_dec {s : Txt} (h : DigitL s) (hl : s.length ≤ 60) : (toB 1000000 (decV s)).length ≤ 10 :=
  toB_len (by omega) 10 (Nat.lt_of_lt_of_le (decV_lt h) (Nat.le_trans (Nat.pow_le_pow_right (by omega) hl) (by decide)))
theorem intE_ok {s : Txt} (h : intE s = 0) : CanonL (bareS s) ∧ s ≠ [45, 48] ∧ (bareS s).length ≤ 60 := by
  unfold intE at h
  split at h
  · cases h
  · rename_i h1
    split at h
    · cases h
    · rename_i h2
      have h1 := Decidable.not_not.1 h1
      exact ⟨h1.1, h1.2, by omega⟩
theorem canon_01 {d : Txt} (h : CanonL d) : (d = [48] ↔ decV d = 0) ∧ (d = [49] ↔ decV d = 1) := by
  refine ⟨⟨fun e => by rw [e]; rfl, fun e => canon_zero h e⟩, ⟨fun e => by rw [e]; rfl, fun e => ?_⟩⟩
  exact canon_inj h (by decide) (by rw [e]; rfl)
set_option maxHeartbeats 8000000 in
set_option maxRecDepth 100000 in
theorem checkR_any (a : Txt) (w : World) (hl : a.length ≤ 400) :
    Calls Tryz.prog 54 #[txt a] w fun e w' => e = .returned (.int .i64 (fracE a : Nat)) ∧ Ext w w' := by
  have htl : (topS a).length ≤ 400 := Nat.le_trans (List.takeWhile_prefix _).length_le hl
  have hll : (lowS a).length ≤ 400 := by
    unfold lowS
    split
    · rw [List.length_tail]
      have := (List.dropWhile_suffix (l := a) (· != 47)).length_le
      omega
    · simp
  have HS := Lib.hid (fun W => splitR_any a W hl)
  have HSL := Lib.hid (fun W => slashR_any a W hl)
  have HIT := Lib.hid (fun W => integerR_any (topS a) W htl)
  have HIL := Lib.hid (fun W => integerR_any (lowS a) W hll)
  have HBT := Lib.hid (fun W => bareR_any (topS a) W htl)
  obtain ⟨f, hf⟩ : ∃ f, f = fracE a := ⟨_, rfl⟩
  rw [← hf]
  unfold fracE at hf
  obtain ⟨n, hn⟩ : ∃ n, n = topS a := ⟨_, rfl⟩
  obtain ⟨d, hd⟩ : ∃ d, d = lowS a := ⟨_, rfl⟩
  rw [← hn, ← hd] at hf HS
  rw [← hn] at HIT HBT HSL htl
  rw [← hd] at HIL hll
  clear hn hd
  obtain ⟨p, hp⟩ : ∃ p, p = intE n := ⟨_, rfl⟩
  obtain ⟨q, hq⟩ : ∃ q, q = intE d := ⟨_, rfl⟩
  rw [← hp, ← hq] at hf
  rw [← hp] at HIT
  rw [← hq] at HIL
  have HP := Lib.hid hp
  have HQ := Lib.hid hq
  clear hp hq
  by_cases h3 : p = 3 ∨ q = 3
  · rw [if_pos h3] at hf
    subst hf
    clear HSL HBT HP HQ
    by_cases hp3 : p = 3
    · have h1 : ((p : Int) == 3) = true := by rw [hp3]; rfl
      clear h3 hp3
      go_enter Tryz.func54, Tryz.ntmps54
      go_wp2_with (first
        | ((go_at_call 82; (with_reducible refine (HS.out _).mono ?_); rintro e w1 ⟨rfl, hE⟩))
        | (go_at_call 83; first | (with_reducible refine (HIT.out _).mono ?_; rintro e w' ⟨rfl, rfl⟩) | (with_reducible refine (HIL.out _).mono ?_; rintro e w' ⟨rfl, rfl⟩)))
      go_ret
      exact ⟨rfl, hE⟩
    · have h1 : ((p : Int) == 3) = false := by rw [beq_eq_false_iff_ne]; omega
      have h2 : ((q : Int) == 3) = true := by rw [beq_iff_eq]; omega
      clear h3 hp3
      go_enter Tryz.func54, Tryz.ntmps54
      go_wp2_with (first
        | ((go_at_call 82; (with_reducible refine (HS.out _).mono ?_); rintro e w1 ⟨rfl, hE⟩))
        | (go_at_call 83; first | (with_reducible refine (HIT.out _).mono ?_; rintro e w' ⟨rfl, rfl⟩) | (with_reducible refine (HIL.out _).mono ?_; rintro e w' ⟨rfl, rfl⟩)))
      go_ret
      exact ⟨rfl, hE⟩
  · rw [if_neg h3] at hf
    have h1 : ((p : Int) == 3) = false := by rw [beq_eq_false_iff_ne]; omega
    have h2 : ((q : Int) == 3) = false := by rw [beq_eq_false_iff_ne]; omega
    by_cases h0 : p ≠ 0 ∨ q ≠ 0
    · rw [if_pos h0] at hf
      subst hf
      clear HSL HBT HP HQ
      by_cases hp3 : p = 0
      · have h4 : ((p : Int) == 0) = true := by rw [hp3]; rfl
        have h5 : ((q : Int) == 0) = false := by rw [beq_eq_false_iff_ne]; omega
        have h4' : ((p : Int) != 0) = false := by rw [hp3]; rfl
        have h5' : ((q : Int) != 0) = true := by rw [bne_iff_ne]; omega
        clear h3 hp3 h0
        go_enter Tryz.func54, Tryz.ntmps54
        go_wp2_with (first
          | ((go_at_call 82; (with_reducible refine (HS.out _).mono ?_); rintro e w1 ⟨rfl, hE⟩))
          | (go_at_call 83; first | (with_reducible refine (HIT.out _).mono ?_; rintro e w' ⟨rfl, rfl⟩) | (with_reducible refine (HIL.out _).mono ?_; rintro e w' ⟨rfl, rfl⟩)))
        go_ret
        exact ⟨rfl, hE⟩
      · have h4 : ((p : Int) == 0) = false := by rw [beq_eq_false_iff_ne]; omega
        have h4' : ((p : Int) != 0) = true := by rw [bne_iff_ne]; omega
        clear h3 hp3 h0
        go_enter Tryz.func54, Tryz.ntmps54
        go_wp2_with (first
          | ((go_at_call 82; (with_reducible refine (HS.out _).mono ?_); rintro e w1 ⟨rfl, hE⟩))
          | (go_at_call 83; first | (with_reducible refine (HIT.out _).mono ?_; rintro e w' ⟨rfl, rfl⟩) | (with_reducible refine (HIL.out _).mono ?_; rintro e w' ⟨rfl, rfl⟩)))
        go_ret
        exact ⟨rfl, hE⟩
    · rw [if_neg h0] at hf
      have hp0 : p = 0 := by omega
      have hq0 : q = 0 := by omega
      clear h3 h0 h1 h2
      subst hp0 hq0
      by_cases h47 : (47 : UInt8) ∈ a
      · rw [if_neg (not_not_intro h47)] at hf
        rw [if_pos h47] at HSL
        have hneg : ¬ ((n.length : Nat) : Int) < 0 := by omega
        clear h47
        obtain ⟨kt1, _, kt3⟩ := intE_ok HP.out.symm
        obtain ⟨kl1, _, kl3⟩ := intE_ok HQ.out.symm
        have hdne : d ≠ [] := fun e => kl1.2.1 (by rw [e]; rfl)
        obtain ⟨c, m, hcm⟩ := List.exists_cons_of_ne_nil hdne
        have hget : ∀ h, (⟨d.toArray⟩ : ByteArray)[0]'h = c := fun _ => by subst hcm; rfl
        have hpos : (0 : Int) < (d.length : Int) := by rw [hcm, List.length_cons]; omega
        by_cases hng : negS d = true
        · rw [if_pos (.inl hng)] at hf
          have hc : ((c.toNat : Int) == 45) = true := by
            have h1 : c = 45 := by rw [hcm] at hng; simpa [negS] using hng
            rw [h1]; rfl
          subst hf
          clear hdne hcm hng kt1 kt3 kl1 kl3 HP HQ HBT
          go_enter Tryz.func54, Tryz.ntmps54
          go_wp2_with (first
            | ((go_at_call 82; (with_reducible refine (HS.out _).mono ?_); rintro e w1 ⟨rfl, hE⟩))
            | (go_at_call 84; refine (HSL.out _).mono ?_; rintro e w' ⟨rfl, rfl⟩)
            | (go_at_call 83; first | (with_reducible refine (HIT.out _).mono ?_; rintro e w' ⟨rfl, rfl⟩) | (with_reducible refine (HIL.out _).mono ?_; rintro e w' ⟨rfl, rfl⟩)))
          go_ret
          exact ⟨rfl, hE⟩
        · have hng2 : negS d = false := by simpa using hng
          have hc : ((c.toNat : Int) == 45) = false := by
            rw [beq_eq_false_iff_ne]
            intro e
            have h1 : c = 45 := UInt8.toNat_inj.1 (by show c.toNat = 45; omega)
            exact hng (by rw [hcm, h1]; rfl)
          have hb := bare_pos hng2
          rw [hb] at kl1 kl3
          obtain ⟨k0, k1⟩ := canon_01 kl1
          by_cases h48 : d = [48]
          · rw [if_pos (.inr (.inl (by rw [k0.1 h48]; omega)))] at hf
            have h48b : (d == [48]) = true := by rw [h48]; rfl
            subst hf
            clear hdne hcm hng hng2 kt1 kt3 kl1 kl3 HP HQ HBT hb k0 k1 h48
            go_enter Tryz.func54, Tryz.ntmps54
            go_wp2_with (first
            | ((go_at_call 82; (with_reducible refine (HS.out _).mono ?_); rintro e w1 ⟨rfl, hE⟩))
            | (go_at_call 84; refine (HSL.out _).mono ?_; rintro e w' ⟨rfl, rfl⟩)
            | (go_at_call 83; first | (with_reducible refine (HIT.out _).mono ?_; rintro e w' ⟨rfl, rfl⟩) | (with_reducible refine (HIL.out _).mono ?_; rintro e w' ⟨rfl, rfl⟩)))
            go_ret
            exact ⟨rfl, hE⟩
          · have h48b : (d == [48]) = false := by rw [beq_eq_false_iff_ne]; exact h48
            by_cases h49 : d = [49]
            · rw [if_pos (.inr (.inl (by rw [k1.1 h49]; omega)))] at hf
              have h49b : (d == [49]) = true := by rw [h49]; rfl
              subst hf
              clear hdne hcm hng hng2 kt1 kt3 kl1 kl3 HP HQ HBT hb k0 k1 h48 h49
              go_enter Tryz.func54, Tryz.ntmps54
              go_wp2_with (first
            | ((go_at_call 82; (with_reducible refine (HS.out _).mono ?_); rintro e w1 ⟨rfl, hE⟩))
            | (go_at_call 84; refine (HSL.out _).mono ?_; rintro e w' ⟨rfl, rfl⟩)
            | (go_at_call 83; first | (with_reducible refine (HIT.out _).mono ?_; rintro e w' ⟨rfl, rfl⟩) | (with_reducible refine (HIL.out _).mono ?_; rintro e w' ⟨rfl, rfl⟩)))
              go_ret
              exact ⟨rfl, hE⟩
            · have h49b : (d == [49]) = false := by rw [beq_eq_false_iff_ne]; exact h49
              have hd2 : ¬ decV d ≤ 1 := fun h => by
                have h5 : decV d = 0 ∨ decV d = 1 := by omega
                rcases h5 with h5 | h5
                · exact h48 (k0.2 h5)
                · exact h49 (k1.2 h5)
              have hf2 : f = if Nat.gcd (decV (bareS n)) (decV d) ≠ 1 then 3 else 0 := by
                rw [hf]
                by_cases hg : Nat.gcd (decV (bareS n)) (decV d) ≠ 1
                · rw [if_pos (.inr (.inr hg)), if_pos hg]
                · rw [if_neg (fun h => by
                    rcases h with h | h | h
                    · exact hng h
                    · exact hd2 h
                    · exact hg h), if_neg hg]
              have HF := Lib.hid hf2
              have HRT := Lib.hid (fun W => readR_any (bareS n) W kt1.1 (by omega))
              have HRL := Lib.hid (fun W => readR_any d W kl1.1 (by omega))
              have HL1 := Lib.hid (len_dec kt1.1 kt3)
              have HL2 := Lib.hid (len_dec kl1.1 kl3)
              have HGL : Hid ((toB 1000000 (Nat.gcd (decV (bareS n)) (decV d))).length ≤ 100) := by
                have h5 := toB_mono (B := 1000000) (by omega) (Nat.gcd_le_right (decV (bareS n)) (n := decV d) (by omega))
                have h6 := HL2.out
                show _ ≤ _
                omega
              clear hf hf2 hdne hcm hng hng2 kt1 kt3 kl1 kl3 HP HQ hb k0 k1 h48 h49 hd2
              generalize bareS n = nb at *
              generalize decV nb = x at *
              generalize decV d = y at *
              go_enter Tryz.func54, Tryz.ntmps54
              go_wp2_with (first
            | ((go_at_call 82; (with_reducible refine (HS.out _).mono ?_); rintro e w1 ⟨rfl, hE⟩))
            | (go_at_call 84; refine (HSL.out _).mono ?_; rintro e w' ⟨rfl, rfl⟩)
            | (go_at_call 83; first | (with_reducible refine (HIT.out _).mono ?_; rintro e w' ⟨rfl, rfl⟩) | (with_reducible refine (HIL.out _).mono ?_; rintro e w' ⟨rfl, rfl⟩))
            | (go_at_call 88; refine (HBT.out _).mono ?_; rintro e w' ⟨rfl, rfl⟩)
            | (go_at_call 87; have hh := HRT; clear HRT; refine (hh.out _).mono ?_; clear hh; rintro e w5 ⟨v5, rfl, o5, n5, e5⟩))
              have E5 := hE.trans e5
              obtain ⟨a5, c5, rfl, oc5, _, _⟩ := o5.reads
              have C5 := Lib.hid oc5
              clear o5 n5 e5 oc5 hE
              go_wp2_with (go_at_call 87; refine (HRL.out _).mono ?_; rintro e w6 ⟨v6, rfl, o6, n6, e6⟩)
              have E6 := E5.trans e6
              obtain ⟨a6, c6, rfl, oc6, _, _⟩ := o6.reads
              have C6 := Lib.hid oc6
              replace C5 := Lib.hid (C5.out.ext e6)
              have hx100 : (toB 1000000 x).length ≤ 100 := Nat.le_trans HL1.out (by omega)
              have hy100 : (toB 1000000 y).length ≤ 100 := Nat.le_trans HL2.out (by omega)
              have HSH := Lib.hid (sharedR_any x y (toB 1000000 x) (toB 1000000 y) a5 a6 c5 c6 w6 rfl rfl hx100 hy100 C5.out C6.out)
              clear o6 n6 e6 oc6 E5 C5 C6 hx100 hy100
              go_wp2_with (go_at_call 86; refine HSH.out.mono ?_; rintro e w7 ⟨a7, c7, rfl, hc7, e7⟩)
              have E7 := E6.trans e7
              have C7 := Lib.hid hc7
              clear e7 hc7 E6 HSH
              by_cases hg : Nat.gcd x y = 1
              · have hz : (ordN (Nat.gcd x y) 1 != 0) = false := by rw [bne_eq_false_iff_eq]; exact ordN_zero.2 hg
                have HF0 : Hid (f = 0) := by show _ = _; rw [HF.out, if_neg (not_not_intro hg)]
                clear hg
                go_wp2_with (go_at_call 85; refine (orderR_any (Nat.gcd x y) 1 (toB 1000000 (Nat.gcd x y)) [1] a7 _ c7 1 _ rfl (toB_one (by omega) (by omega) (by omega)).symm (Nat.le_trans HGL.out (by omega)) (by simp) (C7.out.ext ((Ext.refl _).alloc _)) (cells_one' 1 w7)).mono ?_; rintro e w8 ⟨rfl, e8⟩)
                go_ret
                rw [HF0.out]
                exact ⟨rfl, (E7.trans ((Ext.refl _).alloc _)).trans e8⟩
              · have hz : (ordN (Nat.gcd x y) 1 != 0) = true := by rw [bne_iff_ne]; exact fun h => hg (ordN_zero.1 h)
                have HF0 : Hid (f = 3) := by show _ = _; rw [HF.out, if_pos hg]
                clear hg
                go_wp2_with (go_at_call 85; refine (orderR_any (Nat.gcd x y) 1 (toB 1000000 (Nat.gcd x y)) [1] a7 _ c7 1 _ rfl (toB_one (by omega) (by omega) (by omega)).symm (Nat.le_trans HGL.out (by omega)) (by simp) (C7.out.ext ((Ext.refl _).alloc _)) (cells_one' 1 w7)).mono ?_; rintro e w8 ⟨rfl, e8⟩)
                go_ret
                rw [HF0.out]
                exact ⟨rfl, (E7.trans ((Ext.refl _).alloc _)).trans e8⟩
      · rw [if_pos h47] at hf
        rw [if_neg h47] at HSL
        subst hf
        clear h47 HBT HP HQ
        go_enter Tryz.func54, Tryz.ntmps54
        go_wp2_with (first
          | ((go_at_call 82; (with_reducible refine (HS.out _).mono ?_); rintro e w1 ⟨rfl, hE⟩))
          | (go_at_call 84; refine (HSL.out _).mono ?_; rintro e w' ⟨rfl, rfl⟩)
          | (go_at_call 83; first | (with_reducible refine (HIT.out _).mono ?_; rintro e w' ⟨rfl, rfl⟩) | (with_reducible refine (HIL.out _).mono ?_; rintro e w' ⟨rfl, rfl⟩)))
        go_ret
        exact ⟨rfl, hE⟩
end Go.Proofs.YtmndcdjcodfchaaGreatDoor
namespace Go.Proofs.YtmndcdjcodfchaaGreatDoor
open Go.RowKit
open Go.Lib (decDigits)
theorem CellsN.three {k : IntKind} {W : World} {a : Option Addr} {l : List Nat} {b : Nat} {x y z : Value} (h : CellsN k W a l) (hn : 0 < l.length → ∀ p, a = some p → p.block ≠ b) :
    CellsN k (((W.setCell ⟨b, 0, none⟩ x).setCell ⟨b, 1, none⟩ y).setCell ⟨b, 2, none⟩ z) a l := CellsN.set2 (CellsN.set2 (CellsN.set2 h hn) hn) hn
def NumPost (x : Num) (w : World) (e : Ending) (w' : World) : Prop := ∃ v, e = .returned v ∧ NumR w' v x ∧ Ext w w'
theorem own_ne {a : Option Addr} {n c k : Nat} (h : ∀ b, (Value.slice a n c).ownBlock = some b → k ≤ b) {l : List Nat} {w : World} {kd : IntKind} {t : TypeId} (ho : OwnsN kd t w (.slice a n c) l) : 0 < l.length → ∀ p, a = some p → k ≤ p.block := fun hl p hp => by
  subst hp
  obtain ⟨a', c', e, _, _, h3⟩ := ho.reads
  obtain ⟨e1, _, _⟩ := Value.slice.inj e
  obtain ⟨b, hb, hob, _⟩ := h3 0 hl
  rw [← e1] at hb
  cases hb
  exact h b hob
theorem head_neg {n : Txt} {c : UInt8} {m : Txt} (h : n = c :: m) : ((c.toNat : Int) == 45) = negS n := by
  rw [h]
  by_cases hc : c = 45
  · rw [hc]; rfl
  · have h1 : ((c.toNat : Int) == 45) = false := by
      rw [beq_eq_false_iff_ne]
      intro e
      exact hc (UInt8.toNat_inj.1 (by show c.toNat = 45; omega))
    rw [h1]
    unfold negS
    simp [hc]
set_option maxHeartbeats 8000000 in
set_option maxRecDepth 100000 in
theorem numR_any (a : Txt) (w : World) (hf : fracE a = 0) (hl : a.length ≤ 400) :
    Calls Tryz.prog 90 #[txt a] w (NumPost (numOf a) w) := by
  obtain ⟨h1, h2, h3, h4, h5, h6, _⟩ := frac_parts hf
  have htl : (topS a).length ≤ 400 := Nat.le_trans (List.takeWhile_prefix _).length_le hl
  have hll : (lowS a).length ≤ 400 := by
    unfold lowS
    split
    · rw [List.length_tail]
      have := (List.dropWhile_suffix (l := a) (· != 47)).length_le
      omega
    · simp
  have HS := Lib.hid (fun W => splitR_any a W hl)
  have HBT := Lib.hid (fun W => bareR_any (topS a) W htl)
  have HRT := Lib.hid (fun W => readR_any (bareS (topS a)) W h1.1.1 (Nat.le_trans (bare_le _) (by omega)))
  have HRL := Lib.hid (fun W => readR_any (lowS a) W h3.1 (by omega))
  have hnum : numOf a = (negS (topS a), decV (bareS (topS a)), decV (lowS a)) := rfl
  have hne : topS a ≠ [] := fun e => h1.1.2.1 (by rw [e]; rfl)
  rw [hnum]
  clear hnum hf hll h1 h2 h3 h4 h5 h6
  generalize topS a = n at *
  generalize lowS a = d at *
  obtain ⟨c, m, hcm⟩ := List.exists_cons_of_ne_nil hne
  have hget : ∀ h, (⟨n.toArray⟩ : ByteArray)[0]'h = c := fun _ => by subst hcm; rfl
  have hpos : (0 : Int) < (n.length : Int) := by rw [hcm, List.length_cons]; omega
  have hc := head_neg hcm
  have hposn : 0 < n.length := by omega
  have hTT : True := trivial
  clear hcm hne
  generalize negS n = s at *
  generalize bareS n = nb at *
  generalize decV nb = x at *
  generalize decV d = y at *
  have E : Ext w (w.alloc (.cells #[.bool false, .slice none 0 0, .slice none 0 0] 128)) := extA
  have R : Num3 w.heap.size (w.alloc (.cells #[.bool false, .slice none 0 0, .slice none 0 0] 128)) (.bool false) (.slice none 0 0) (.slice none 0 0) := ⟨by go_simp, by go_simp, by go_simp, by go_simp, by go_simp, by go_simp⟩
  go_enter Tryz.func90, Tryz.ntmps90
  go_wp2_with fail
  generalize (w.alloc (.cells #[.bool false, .slice none 0 0, .slice none 0 0] 128)) = W at E R ⊢
  go_wp2_with ((go_at_call 82; (with_reducible refine (HS.out _).mono ?_); rintro e w1 ⟨rfl, hE⟩))
  replace R := R.ext hE
  replace E := E.trans hE
  clear hE
  have hdr : Ext w1 w1.drew := extA
  replace R := R.ext hdr
  replace E := E.trans hdr
  refine wp_region_heldE 9 (fun _ => True) (by kernel_rfl) ?_
  clear hdr
  generalize w1.drew = W1 at E R ⊢
  have hz0 : w.heap.size < W1.heap.size := cell_lt R.c0
  ((refine eTk 0 ?_); (refine eTk 1 ?_); (refine eTk 2 ?_); (refine eTk 3 ?_); (refine eTk 6 ?_))
  (refine wpAnyE_one (i := 4) (o := ?_) ?_ (by kernel_rfl) (fun K hK => ?_); rotate_left; (focus ((simp only [List.getElem?_toArray, List.getElem?_cons_succ, List.getElem?_cons_zero]; exact rfl))); go_simp; go_at_call 88; refine (HBT.out _).mono ?_; rintro e w' ⟨rfl, rfl⟩; go_wp2_with fail; refine hK.out _ _ ?_ (fun hHeld => ?_); rotate_left; clear hK K; (try simp only [Act.put, List.setIfInBounds_toArray, List.set_cons_zero, List.set_cons_succ]))
  rotate_left
  · trivial
  clear hHeld
  (refine wpAnyE_one (i := 5) (o := ?_) ?_ (by kernel_rfl) (fun K hK => ?_); rotate_left; (focus ((simp only [List.getElem?_toArray, List.getElem?_cons_succ, List.getElem?_cons_zero]; exact rfl))); go_simp; go_at_call 87; refine (HRT.out _).mono ?_; rintro e w5 ⟨v5, rfl, o5, n5, e5⟩; obtain ⟨a5, c5, rfl, oc5, _, _⟩ := o5.reads; go_wp2_with fail; refine hK.out _ _ ?_ (fun hHeld => ?_); rotate_left; clear hK K; (try simp only [Act.put, List.setIfInBounds_toArray, List.set_cons_zero, List.set_cons_succ]))
  rotate_left
  · trivial
  clear hHeld
  have N5 := own_ne n5 o5
  replace R := R.ext e5
  replace E := E.trans e5
  have C5 := Lib.hid oc5
  have hz1 := e5.size
  clear o5 n5 e5 oc5
  (refine wpAnyE_one (i := 7) (o := ?_) ?_ (by kernel_rfl) (fun K hK => ?_); rotate_left; (focus ((simp only [List.getElem?_toArray, List.getElem?_cons_succ, List.getElem?_cons_zero]; exact rfl))); go_simp; go_at_call 87; refine (HRL.out _).mono ?_; rintro e w6 ⟨v6, rfl, o6, n6, e6⟩; obtain ⟨a6, c6, rfl, oc6, _, _⟩ := o6.reads; go_wp2_with fail; refine hK.out _ _ ?_ (fun hHeld => ?_); rotate_left; clear hK K; (try simp only [Act.put, List.setIfInBounds_toArray, List.set_cons_zero, List.set_cons_succ]))
  rotate_left
  · trivial
  have N6 := own_ne n6 o6
  replace R := R.ext e6
  replace E := E.trans e6
  have C6 := Lib.hid oc6
  have hz2 := e6.size
  replace C5 := Lib.hid (C5.out.ext e6)
  have HN5 : Hid (0 < (toB 1000000 x).length → ∀ p, a5 = some p → p.block ≠ w.heap.size) := fun hl p hp => by have := N5 hl p hp; omega
  have HN6 : Hid (0 < (toB 1000000 y).length → ∀ p, a6 = some p → p.block ≠ w.heap.size) := fun hl p hp => by have := N6 hl p hp; omega
  have HR := Lib.hid R
  obtain ⟨r0, r1, r2, f0, f1, f2⟩ := R
  clear o6 n6 e6 oc6 N5 N6 hHeld
  (refine ePu 8 ?_)
  (refine wpAnyE_free (i := 9) (o := ?_) ?_ (by kernel_rfl) (by kernel_rfl) (fun K hK => ?_); rotate_left; (focus ((simp only [List.getElem?_toArray, List.getElem?_cons_succ, List.getElem?_cons_zero]; exact rfl))); go_simp; refine hK.out _ _ ?_; clear hK K; (try simp only [Act.put, List.setIfInBounds_toArray, List.set_cons_zero, List.set_cons_succ]))
  refine wpAnyE_done (by kernel_rfl) ?_ _
  go_wp2_with fail
  refine bodyPost_ret (v := .agg #[.bool s, .slice a5 (toB 1000000 x).length c5, .slice a6 (toB 1000000 y).length c6]) (by rw [results_cell1 rfl]; go_simp) rfl ?_
  refine ⟨_, rfl, ⟨a5, c5, a6, c6, rfl, C5.out.three HN5.out, C6.out.three HN6.out⟩, extA⟩
end Go.Proofs.YtmndcdjcodfchaaGreatDoor
