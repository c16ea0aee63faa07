/- Steps of the proof: QLRen, QOpen, QOpenI. No conditions. -/
import Derived.ProofKit
import Derived.OpenShut
import Derived.Lib.SmallJoins
import Derived.Deep.Slices
import Derived.Test.YtnhbogmihnnpjaaGreatZRenames1
import Derived.Test.YtnhbogmihnnpjaaGreatZRenames2
import Derived.Test.YtnhbogmihnnpjaaGreatZRenames3
import Derived.Test.YtnhbogmihnnpjaaGreatZRenames4
import Derived.Test.YtnhbogmihnnpjaaGreatZRenames5
import Derived.Test.YtnhbogmihnnpjaaGreatZRenames6
import Derived.Test.YtnhbogmihnnpjaaGreatZRenames7
import Derived.Test.YtnhbogmihnnpjaaGreatZRenames8
import Derived.Test.YtnhbogmihnnpjaaGreatZRenames9
import Derived.Test.YtnhbogmihnnpjaaGreatZRenames10
/- The law VariantRenames: its walk. -/
namespace Go.Proofs.YtnhbogmihnnpjaaGreat
open Go.RowKit

theorem StdPost.at {s : Sq} {m : List Int} {er : Int} {w : World} {e : Ending} {w' : World} (h : StdPost s m er w e w') : ∃ a cap u c, e = .returned (.tuple #[.agg #[.int .i64 s.1, .slice a s.2.length cap], .slice u m.length c, .int .i64 er]) ∧ CellsP w' a s.2 ∧ Room a s.2.length cap ∧ CellsI w' u m ∧ m.length ≤ maxLen ∧ Ext w w' := by
  obtain ⟨v, u, c, rfl, ⟨x, rfl, a, cap, rfl, hc, hm⟩, hi, hl, hE⟩ := h
  exact ⟨a, cap, u, c, rfl, hc, hm, hi, hl, hE⟩

set_option maxHeartbeats 8000000 in
set_option maxRecDepth 100000 in
theorem VariantRenames_any (n : Int) (l : List Stp) (a : Option Addr) (cap : Nat) (t : List Int) (ta : Option Addr) (tc : Nat) (w : World) (hc : CellsP w a l) (hr : Room a l.length cap) (htl : t.length ≤ tc) (htm : tc ≤ maxLen) (hct : CellsI w ta t) :
    Calls Tryz.prog 7 #[.agg #[.int .i64 n, .slice a l.length cap], .slice ta t.length tc] w fun e w' => e = .returned (.bool true) ∧ Ext w w' := by
  have HC := Lib.hid hc
  have HR := Lib.hid hr
  have HT := Lib.hid hct
  have HTL := Lib.hid (And.intro htl htm)
  clear hc hr hct htl htm
  have E0 : Ext w (w.alloc (.cells #[.int .i64 n, .slice a l.length cap] 24)) := (by repeat (first | with_reducible exact Ext.refl _ | with_reducible assumption | with_reducible apply Ext.drewN | with_reducible apply Ext.drew | with_reducible apply Ext.alloc | ((with_reducible refine Ext.set ?_ ?_ _); rotate_left; first | omega | (simp; omega)) | (with_reducible refine Ext.trans ?_ (by with_reducible assumption))))
  have c0 : ((w.alloc (.cells #[.int .i64 n, .slice a l.length cap] 24))).cell? ⟨w.heap.size, 0, none⟩ = some (.int .i64 n) := by go_simp
  have c1 : ((w.alloc (.cells #[.int .i64 n, .slice a l.length cap] 24))).cell? ⟨w.heap.size, 1, none⟩ = some (.slice a l.length cap) := by go_simp
  go_enter Tryz.func7, Tryz.ntmps7
  go_wp2_with fail
  have E1 : Ext (w.alloc (.cells #[.int .i64 n, .slice a l.length cap] 24)) (((w.alloc (.cells #[.int .i64 n, .slice a l.length cap] 24))).alloc (.cells #[.int .i64 n, .slice a l.length cap] 24)) := (by repeat (first | with_reducible exact Ext.refl _ | with_reducible assumption | with_reducible apply Ext.drewN | with_reducible apply Ext.drew | with_reducible apply Ext.alloc | ((with_reducible refine Ext.set ?_ ?_ _); rotate_left; first | omega | (simp; omega)) | (with_reducible refine Ext.trans ?_ (by with_reducible assumption))))
  have E2 := E0.trans E1
  have c0 := (E1).cell c0
  have c1 := (E1).cell c1
  have hq := cellsQ_one (n := n) (c := cap) HR.out (HC.out.ext E0)
  have HQ := Lib.hid hq
  clear hq
  refine (few_any [(n, l)] _ 1 _ (by unfold maxLen; simp) (by simpa using HQ.out)).mono ?_
  rintro e w1 ⟨rfl, hE⟩
  have F1 := E2.trans hE
  have c0 := (hE).cell c0
  have c1 := (hE).cell c1
  clear hE E1 E0 E2 HQ
  generalize hb : (!([(n, l)] : List Sq).any badQ) = fw
  clear hb
  obtain ⟨bs, hbs⟩ : ∃ bs, bs = w.heap.size := ⟨_, rfl⟩
  rw [← hbs] at c0 c1 ⊢
  clear hbs
  cases fw
  · go_wp2_with fail
    refine (awake_any _).mono ?_
    rintro e w2 ⟨rfl, hE⟩
    go_wp2
    go_ret
    exact ⟨rfl, F1.trans hE⟩
  by_cases h200 : (200 : Int) < (t.length : Int)
  · go_wp2_with fail
    refine (awake_any _).mono ?_
    rintro e w2 ⟨rfl, hE⟩
    go_wp2
    go_ret
    exact ⟨rfl, F1.trans hE⟩
  obtain ⟨re, hre⟩ : ∃ re, re = rnmE (n, l) t := ⟨_, rfl⟩
  obtain ⟨rs, hrs⟩ : ∃ rs, rs = (if rnmE (n, l) t = 0 then ren (listFn t) (n, l) else sq0) := ⟨_, rfl⟩
  obtain ⟨se, hse⟩ : ∃ se, se = ckSeq (n, l) := ⟨_, rfl⟩
  obtain ⟨ss, hss⟩ : ∃ ss, ss = (if ckSeq (n, l) = 0 then standard (n, l) else sq0) := ⟨_, rfl⟩
  obtain ⟨sl, hsl⟩ : ∃ sl, sl = (if ckSeq (n, l) = 0 then lettersOf (n, l) else []) := ⟨_, rfl⟩
  have H1 := Lib.hid (And.intro hrs hre)
  have H2 := Lib.hid (And.intro hss (And.intro hsl hse))
  clear hre hrs hse hss hsl
  go_wp2_with fail
  refine (Rename_any n l a cap t ta tc _ HR.out (HC.out.ext F1) HTL.out.1 HTL.out.2 (HT.out.ext F1)).mono ?_
  rintro e w2 h
  rw [← H1.out.1, ← H1.out.2] at h
  obtain ⟨xa, xc, rfl, hf, hfl, hE⟩ := h.at
  have X := Lib.hid hf
  have XL := Lib.hid hfl
  have F2 := F1.trans hE
  have c0 := (hE).cell c0
  have c1 := (hE).cell c1
  have z4 := cell_lt c0
  dsimp only at z4
  clear hf hfl hE F1 h
  go_wp2_with fail
  have E5 : Ext w2 (w2.alloc (.cells #[.int .i64 rs.1, .slice xa rs.2.length xc] 24)) := (by repeat (first | with_reducible exact Ext.refl _ | with_reducible assumption | with_reducible apply Ext.drewN | with_reducible apply Ext.drew | with_reducible apply Ext.alloc | ((with_reducible refine Ext.set ?_ ?_ _); rotate_left; first | omega | (simp; omega)) | (with_reducible refine Ext.trans ?_ (by with_reducible assumption))))
  have BX := Lib.hid (Box.new w2 rs.1 xa rs.2.length xc)
  have X := Lib.hid (X.out.ext E5)
  have F3 := F2.trans E5
  have c0 := (E5).cell c0
  have c1 := (E5).cell c1
  obtain ⟨b1, hb1⟩ : ∃ b, b = w2.heap.size := ⟨_, rfl⟩
  rw [← hb1] at BX z4 ⊢
  clear hb1 E5 F2 z4
  generalize (w2.alloc (.cells #[.int .i64 rs.1, .slice xa rs.2.length xc] 24)) = W3 at BX X F3 c0 c1 ⊢
  refine (RenameR_any n l a cap t ta tc _ HR.out (HC.out.ext F3) HTL.out.1 HTL.out.2 (HT.out.ext F3)).mono ?_
  rintro e w4 h
  rw [← H1.out.1, ← H1.out.2] at h
  obtain ⟨ya, yc, rfl, hf, hfl, hE⟩ := h.at
  have Y := Lib.hid hf
  have YL := Lib.hid hfl
  have X := Lib.hid (X.out.ext hE)
  have F4 := F3.trans hE
  have BX := Lib.hid (BX.out.ext hE)
  have c0 := (hE).cell c0
  have c1 := (hE).cell c1
  have z4 := cell_lt c0
  dsimp only at z4
  clear hf hfl hE F3 h
  go_wp2_with fail
  have E5 : Ext w4 (w4.alloc (.cells #[.int .i64 rs.1, .slice ya rs.2.length yc] 24)) := (by repeat (first | with_reducible exact Ext.refl _ | with_reducible assumption | with_reducible apply Ext.drewN | with_reducible apply Ext.drew | with_reducible apply Ext.alloc | ((with_reducible refine Ext.set ?_ ?_ _); rotate_left; first | omega | (simp; omega)) | (with_reducible refine Ext.trans ?_ (by with_reducible assumption))))
  have BY := Lib.hid (Box.new w4 rs.1 ya rs.2.length yc)
  have X := Lib.hid (X.out.ext E5)
  have Y := Lib.hid (Y.out.ext E5)
  have BX := Lib.hid (BX.out.ext E5)
  have F5 := F4.trans E5
  have c0 := (E5).cell c0
  have c1 := (E5).cell c1
  obtain ⟨b2, hb2⟩ : ∃ b, b = w4.heap.size := ⟨_, rfl⟩
  rw [← hb2] at BY z4 ⊢
  clear hb2 E5 F4 z4
  generalize (w4.alloc (.cells #[.int .i64 rs.1, .slice ya rs.2.length yc] 24)) = W5 at BX BY X Y F5 c0 c1 ⊢
  refine (Standard_any n l a cap _ HR.out (HC.out.ext F5)).mono ?_
  rintro e w6 h
  rw [← H2.out.1, ← H2.out.2.1, ← H2.out.2.2] at h
  obtain ⟨ua, uc, ma, mc, rfl, hf, hfl, hm, hml, hE⟩ := h.at
  have U := Lib.hid hf
  have UL := Lib.hid hfl
  have M := Lib.hid hm
  have ML := Lib.hid hml
  have X := Lib.hid (X.out.ext hE)
  have Y := Lib.hid (Y.out.ext hE)
  have F6 := F5.trans hE
  have BX := Lib.hid (BX.out.ext hE)
  have BY := Lib.hid (BY.out.ext hE)
  have c0 := (hE).cell c0
  have c1 := (hE).cell c1
  have z4 := cell_lt c0
  dsimp only at z4
  clear hf hfl hm hml hE F5 h
  go_wp2_with fail
  have E5 : Ext w6 (w6.alloc (.cells #[.int .i64 ss.1, .slice ua ss.2.length uc] 24)) := (by repeat (first | with_reducible exact Ext.refl _ | with_reducible assumption | with_reducible apply Ext.drewN | with_reducible apply Ext.drew | with_reducible apply Ext.alloc | ((with_reducible refine Ext.set ?_ ?_ _); rotate_left; first | omega | (simp; omega)) | (with_reducible refine Ext.trans ?_ (by with_reducible assumption))))
  have BU := Lib.hid (Box.new w6 ss.1 ua ss.2.length uc)
  have X := Lib.hid (X.out.ext E5)
  have Y := Lib.hid (Y.out.ext E5)
  have U := Lib.hid (U.out.ext E5)
  have M := Lib.hid (M.out.ext E5)
  have BX := Lib.hid (BX.out.ext E5)
  have BY := Lib.hid (BY.out.ext E5)
  have F7 := F6.trans E5
  have c0 := (E5).cell c0
  have c1 := (E5).cell c1
  obtain ⟨b3, hb3⟩ : ∃ b, b = w6.heap.size := ⟨_, rfl⟩
  rw [← hb3] at BU z4 ⊢
  clear hb3 E5 F6 z4
  generalize (w6.alloc (.cells #[.int .i64 ss.1, .slice ua ss.2.length uc] 24)) = W7 at BX BY BU X Y U M F7 c0 c1 ⊢
  refine (StandardR_any n l a cap _ HR.out (HC.out.ext F7)).mono ?_
  rintro e w8 h
  rw [← H2.out.1, ← H2.out.2.1, ← H2.out.2.2] at h
  obtain ⟨va, vc, qa, qc, rfl, hf, hfl, hm, hml, hE⟩ := h.at
  have V := Lib.hid hf
  have VL := Lib.hid hfl
  have Q := Lib.hid hm
  have QL := Lib.hid hml
  have X := Lib.hid (X.out.ext hE)
  have Y := Lib.hid (Y.out.ext hE)
  have U := Lib.hid (U.out.ext hE)
  have M := Lib.hid (M.out.ext hE)
  have F8 := F7.trans hE
  have BX := Lib.hid (BX.out.ext hE)
  have BY := Lib.hid (BY.out.ext hE)
  have BU := Lib.hid (BU.out.ext hE)
  clear hf hfl hm hml hE F7 h c0 c1
  have p0 := BX.out.c0
  have p1 := BX.out.c1
  have p2 := BY.out.c0
  have p3 := BY.out.c1
  have p4 := BU.out.c0
  have z1 := cell_lt p0
  have z2 := cell_lt p2
  have z3 := cell_lt p4
  dsimp only at z1 z2 z3
  clear p4
  go_wp2_with fail
  clear p0 p1 p2 p3
  have E5 : Ext w8 (w8.alloc (.cells #[.int .i64 ss.1, .slice va ss.2.length vc] 24)) := (by repeat (first | with_reducible exact Ext.refl _ | with_reducible assumption | with_reducible apply Ext.drewN | with_reducible apply Ext.drew | with_reducible apply Ext.alloc | ((with_reducible refine Ext.set ?_ ?_ _); rotate_left; first | omega | (simp; omega)) | (with_reducible refine Ext.trans ?_ (by with_reducible assumption))))
  have BV := Lib.hid (Box.new w8 ss.1 va ss.2.length vc)
  have X := Lib.hid (X.out.ext E5)
  have Y := Lib.hid (Y.out.ext E5)
  have U := Lib.hid (U.out.ext E5)
  have V := Lib.hid (V.out.ext E5)
  have M := Lib.hid (M.out.ext E5)
  have Q := Lib.hid (Q.out.ext E5)
  have BU := Lib.hid (BU.out.ext E5)
  have F9 := F8.trans E5
  obtain ⟨b4, hb4⟩ : ∃ b, b = w8.heap.size := ⟨_, rfl⟩
  rw [← hb4] at BV z1 z2 z3 ⊢
  clear hb4 E5 F8 z1 z2 z3 BX BY
  generalize (w8.alloc (.cells #[.int .i64 ss.1, .slice va ss.2.length vc] 24)) = W9 at BU BV X Y U V M Q F9 ⊢
  refine (SameQ_any rs.1 rs.1 rs.2 rs.2 xa ya xc yc _ XL.out X.out YL.out Y.out).mono ?_
  rintro e w10 ⟨rfl, hE⟩
  rw [show decide ((rs.1, rs.2) = (rs.1, rs.2)) = true from by simp]
  have U := Lib.hid (U.out.ext hE)
  have V := Lib.hid (V.out.ext hE)
  have M := Lib.hid (M.out.ext hE)
  have Q := Lib.hid (Q.out.ext hE)
  have BU := Lib.hid (BU.out.ext hE)
  have BV := Lib.hid (BV.out.ext hE)
  have FA := F9.trans hE
  have p0 := BU.out.c0
  have p1 := BU.out.c1
  have p2 := BV.out.c0
  have p3 := BV.out.c1
  clear hE F9 X Y XL YL
  go_wp2_with fail
  clear p0 p1 p2 p3
  refine (SameQ_any ss.1 ss.1 ss.2 ss.2 ua va uc vc _ UL.out U.out VL.out V.out).mono ?_
  rintro e w11 ⟨rfl, hE⟩
  rw [show decide ((ss.1, ss.2) = (ss.1, ss.2)) = true from by simp]
  have M := Lib.hid (M.out.ext hE)
  have Q := Lib.hid (Q.out.ext hE)
  have FB := FA.trans hE
  clear hE FA U V UL VL BU BV
  go_wp2_with fail
  refine (EqualInt_any sl sl ma qa mc qc _ ML.out M.out QL.out Q.out).mono ?_
  rintro e w12 ⟨rfl, hE⟩
  rw [show decide (sl = sl) = true from by simp]
  have FC := FB.trans hE
  clear hE FB
  go_wp2_with fail
  refine (awake_any _).mono ?_
  rintro e w13 ⟨rfl, hE⟩
  go_wp2
  go_ret
  exact ⟨rfl, FC.trans hE⟩
end Go.Proofs.YtnhbogmihnnpjaaGreat
/- The arguments of the laws of sequences, opened. -/
namespace Go.Proofs.YtnhbogmihnnpjaaGreat
open Go.RowKit Go.ChangeShapes Go.WideShapes Go.Joins Go.Deep

theorem list2 {α : Type} {l : List α} (h : l.length = 2) : ∃ a b, l = [a, b] := by
  match l, h with
  | [a, b], _ => exact ⟨a, b, rfl⟩
theorem laidOut : laidOutB Tryz.prog = true := by kernel_rfl
theorem cellsOfStk : Tryz.prog.cellsOf 73 = 2 := by kernel_rfl
theorem cellsOfStp : Tryz.prog.cellsOf 87 = 2 := by kernel_rfl
theorem cellsOfInt : Tryz.prog.cellsOf 3 = 1 := by kernel_rfl
theorem cellsOfBool : Tryz.prog.cellsOf 4 = 1 := by kernel_rfl
theorem cellsOfSlk : Tryz.prog.cellsOf 66 = 1 := by kernel_rfl

section
variable {H : Type} {enc : TypeId × Value → H} {w : World} {base : Nat} {spare : Nat → Bool} {held : Bool}
theorem open_stk {fuel : Nat} {cs : List Value} {x : DataW H × List MemPlace} (h : DataW.trod enc Tryz.prog w base spare held fuel 73 cs = some x) : ∃ y : Stk, cs = [.int .i64 y.1, .bool y.2] := by
  obtain ⟨y0, y1, n, _, hl, h0, h1⟩ := trod_struct2 Tryz.underlying73 h
  rw [cellsOfStk] at hl
  obtain ⟨a, b, rfl⟩ := list2 hl
  rw [cellsOfInt] at h0
  rw [cellsOfBool] at h1
  obtain ⟨i, e0, _, w0⟩ := DataW.trod_int Tryz.underlying3 h0
  obtain ⟨j, e1, _⟩ := DataW.trod_bool Tryz.underlying4 h1
  simp at e0 e1
  subst e0; subst e1
  exact ⟨(i, j), rfl⟩
theorem open_stks {a : Addr} {len : Nat} (h : ∀ i, i < len → ∃ cs' n x, w.cells? base (a.add (i * 2)) 2 = some cs' ∧ DataW.trod enc Tryz.prog w base spare held n 73 cs' = some x) : ∃ l : List Stk, l.length = len ∧ CellsK w (some a) l := by
  have key : ∀ i, i < len → ∃ y : Stk, w.cell? (a.add (i * 2)) = some (.int .i64 y.1) ∧ w.cell? ((a.add (i * 2)).add 1) = some (.bool y.2) := fun i hi => by
    obtain ⟨cs', n, x, h1, h2⟩ := h i hi
    obtain ⟨y, rfl⟩ := open_stk h2
    obtain ⟨_, _, hc⟩ := World.cells?_some h1
    have c0 := hc 0 (by omega)
    have c1 := hc 1 (by omega)
    refine ⟨y, ?_, c1⟩
    have e : (a.add (i * 2)).add 0 = a.add (i * 2) := by simp [Addr.add]
    rw [e] at c0
    exact c0
  obtain ⟨f, hf⟩ := choose_lt (α := Stk) key
  refine ⟨(List.range len).map f, by simp, fun i hi => ?_⟩
  have hi' : i < len := by simpa using hi
  obtain ⟨h1, h2⟩ := hf i hi'
  have hp : ((List.range len).map f).getD i stk0 = f i := by simp [List.getD, hi']
  rw [hp]
  obtain ⟨b, off, spot⟩ := a
  have hs : spot = none := by
    have h0 := World.cell?_spot (hf 0 (by omega)).1
    simpa [Addr.add] using h0
  subst hs
  rw [Addr.add_lit] at h1 h2
  rw [Addr.add_lit] at h2
  exact ⟨b, off, rfl, h1, h2⟩
theorem open_slk {fuel : Nat} {v : Value} {x : DataW H × List MemPlace} (h : DataW.trod enc Tryz.prog w base spare held fuel 66 [v] = some x) : ∃ l : List Stk, SliceK w v l := by
  rcases open_slice Tryz.underlying66 h with ⟨h1, _⟩ | ⟨a, len, cap, m, n, D, Pl, h1, hb, hl, hm, hmm, _, hx⟩
  · simp at h1
    exact ⟨[], none, 0, h1, fun i hi => by simp at hi, by simp⟩
  · simp at h1
    rw [cellsOfStk] at hx
    have hlm : len ≤ m := by rw [hmm]; split <;> omega
    obtain ⟨l, hll, hc⟩ := open_stks (enc := enc) (spare := spare) (held := held) (w := w) (base := base) (a := a) (len := len) (fun i hi => by
      obtain ⟨cs', h2, h3⟩ := hx i (by omega)
      exact ⟨cs', n, _, h2, h3⟩)
    exact ⟨l, some a, cap, by rw [h1, hll], hc, by rw [hll]; omega⟩
theorem open_stp {fuel : Nat} {cs : List Value} {x : DataW H × List MemPlace} (h : DataW.trod enc Tryz.prog w base spare held fuel 87 cs = some x) : ∃ (v : Value) (y : Stp), cs = [v, .int .i64 y.2] ∧ SliceK w v y.1 := by
  obtain ⟨y0, y1, n, _, hl, h0, h1⟩ := trod_struct2 Tryz.underlying87 h
  rw [cellsOfStp] at hl
  obtain ⟨a, b, rfl⟩ := list2 hl
  rw [cellsOfInt] at h1
  rw [cellsOfSlk] at h0
  obtain ⟨i, e1, _, w0⟩ := DataW.trod_int Tryz.underlying3 h1
  obtain ⟨l, hv⟩ := open_slk (v := a) (by simpa using h0)
  simp at e1
  subst e1
  exact ⟨a, (l, i), rfl, hv⟩
theorem open_stps {a : Addr} {len : Nat} (h : ∀ i, i < len → ∃ cs' n x, w.cells? base (a.add (i * 2)) 2 = some cs' ∧ DataW.trod enc Tryz.prog w base spare held n 87 cs' = some x) : ∃ l : List Stp, l.length = len ∧ CellsP w (some a) l ∧ (0 < len → a.spot = none) := by
  have key : ∀ i, i < len → ∃ y : Value × Stp, w.cell? (a.add (i * 2)) = some y.1 ∧ w.cell? ((a.add (i * 2)).add 1) = some (.int .i64 y.2.2) ∧ SliceK w y.1 y.2.1 := fun i hi => by
    obtain ⟨cs', n, x, h1, h2⟩ := h i hi
    obtain ⟨v, y, rfl, hv⟩ := open_stp h2
    obtain ⟨_, _, hc⟩ := World.cells?_some h1
    have c0 := hc 0 (by omega)
    have c1 := hc 1 (by omega)
    refine ⟨(v, y), ?_, c1, hv⟩
    have e : (a.add (i * 2)).add 0 = a.add (i * 2) := by simp [Addr.add]
    rw [e] at c0
    exact c0
  obtain ⟨f, hf⟩ := choose_lt (α := Value × Stp) key
  have hs : 0 < len → a.spot = none := fun h0 => by
    have h0 := World.cell?_spot (hf 0 h0).1
    simpa [Addr.add] using h0
  refine ⟨(List.range len).map fun i => (f i).2, by simp, fun i hi => ?_, hs⟩
  have hi' : i < len := by simpa using hi
  obtain ⟨h1, h2, h3⟩ := hf i hi'
  have hp : ((List.range len).map fun i => (f i).2).getD i stp0 = (f i).2 := by simp [List.getD, hi']
  rw [hp]
  obtain ⟨b, off, spot⟩ := a
  have hs := hs (by omega)
  dsimp only at hs
  subst hs
  rw [Addr.add_lit] at h1 h2
  rw [Addr.add_lit] at h2
  exact ⟨b, off, _, rfl, h1, h3, h2⟩
theorem open_slp {fuel : Nat} {v : Value} {x : DataW H × List MemPlace} (h : DataW.trod enc Tryz.prog w base spare held fuel 22 [v] = some x) :
    ∃ (l : List Stp) (a : Option Addr) (cap : Nat), v = .slice a l.length cap ∧ CellsP w a l ∧ l.length ≤ maxLen ∧ Room a l.length cap := by
  rcases open_slice Tryz.underlying22 h with ⟨h1, _⟩ | ⟨a, len, cap, m, n, D, Pl, h1, hb, hl, hm, hmm, _, hx⟩
  · simp at h1
    exact ⟨[], none, 0, h1, fun i hi => by simp at hi, by simp, by simp, by simp, fun h0 => by simp at h0⟩
  · simp at h1
    rw [cellsOfStp] at hx
    have hlm : len ≤ m := by rw [hmm]; split <;> omega
    obtain ⟨l, hll, hc, hs⟩ := open_stps (enc := enc) (spare := spare) (held := held) (w := w) (base := base) (a := a) (len := len) (fun i hi => by
      obtain ⟨cs', h2, h3⟩ := hx i (by omega)
      exact ⟨cs', n, _, h2, h3⟩)
    refine ⟨l, some a, cap, by rw [h1, hll], hc, by rw [hll]; omega, by rw [hll]; exact hl, hm, fun h0 => ?_⟩
    obtain ⟨b, off, spot⟩ := a
    have := hs (by omega)
    dsimp only at this
    subst this
    exact ⟨b, off, rfl⟩
set_option maxRecDepth 100000 in
theorem open_seq {r : Reach} {b0 : Nat} {v : Value} {d : DataW H} {p : List MemPlace} (hv : Value.okWide Tryz.prog w r b0 24 v) (h : DataW.Trod enc Tryz.prog w base spare held 24 v d p) :
    ∃ (n : Int) (l : List Stp) (a : Option Addr) (cap : Nat), v = .agg #[.int .i64 n, .slice a l.length cap] ∧ CellsP w a l ∧ l.length ≤ maxLen ∧ Room a l.length cap ∧ (Lit.int .i64 n).wf = true := by
  obtain ⟨c0, c1, y0, y1, n, rfl, _, _, h0, h1⟩ := open_agg2 Tryz.underlying24 (by kernel_rfl) (by kernel_rfl) hv h
  obtain ⟨i, e0, _, w0⟩ := DataW.trod_int Tryz.underlying3 h0
  obtain ⟨l, a, cap, e1, hc, hl, hr⟩ := open_slp h1
  simp at e0
  subst e0; subst e1
  exact ⟨i, l, a, cap, rfl, hc, hl, hr, w0⟩
end
end Go.Proofs.YtnhbogmihnnpjaaGreat
/- Lists of ints as arguments, opened. -/
namespace Go.Proofs.YtnhbogmihnnpjaaGreat
open Go.RowKit Go.ChangeShapes Go.WideShapes Go.Joins Go.Deep

section
variable {H : Type} {enc : TypeId × Value → H} {w : World} {base : Nat} {spare : Nat → Bool} {held : Bool}
theorem open_cellsI {a : Addr} {len : Nat} (h : ∀ i, i < len → ∃ cs' n x, w.cells? base (a.add (i * 1)) 1 = some cs' ∧ DataW.trod enc Tryz.prog w base spare held n 3 cs' = some x) : ∃ l : List Int, l.length = len ∧ CellsI w (some a) l := by
  have key : ∀ i, i < len → ∃ y : Int, w.cell? (a.add (i * 1)) = some (.int .i64 y) := fun i hi => by
    obtain ⟨cs', n, x, h1, h2⟩ := h i hi
    obtain ⟨y, rfl, _, _⟩ := DataW.trod_int Tryz.underlying3 h2
    obtain ⟨_, _, hc⟩ := World.cells?_some h1
    have c0 := hc 0 (by omega)
    refine ⟨y, ?_⟩
    have e : (a.add (i * 1)).add 0 = a.add (i * 1) := by simp [Addr.add]
    rw [e] at c0
    exact c0
  obtain ⟨f, hf⟩ := choose_lt (α := Int) key
  refine ⟨(List.range len).map f, by simp, fun i hi => ?_⟩
  have hi' : i < len := by simpa using hi
  have h1 := hf i hi'
  have hp : ((List.range len).map f).getD i 0 = f i := by simp [List.getD, hi']
  rw [hp]
  obtain ⟨b, off, spot⟩ := a
  have hs : spot = none := by
    have h0 := World.cell?_spot (hf 0 (by omega))
    simpa [Addr.add] using h0
  subst hs
  rw [Addr.add_lit, Nat.mul_one] at h1
  exact ⟨b, off, rfl, h1⟩
set_option maxRecDepth 100000 in
theorem open_ints {r : Reach} {b0 : Nat} {v : Value} {d : DataW H} {p : List MemPlace} (hv : Value.okWide Tryz.prog w r b0 27 v) (h : DataW.Trod enc Tryz.prog w base spare held 27 v d p) :
    ∃ (l : List Int) (a : Option Addr) (cap : Nat), v = .slice a l.length cap ∧ CellsI w a l ∧ l.length ≤ cap ∧ cap ≤ maxLen := by
  have key : v.cells.toList = [v] := by
    simp only [Value.okWide, Tryz.underlying27] at hv
    cases v <;> first | rfl | (simp [Cell.okWide, Cell.ok, Tryz.underlying27] at hv)
  obtain ⟨fuel, hf⟩ := h
  rw [key] at hf
  rcases open_slice Tryz.underlying27 hf with ⟨h1, _⟩ | ⟨a, len, cap, m, n, D, Pl, h1, hb, hl, hm, hmm, _, hx⟩
  · simp at h1
    exact ⟨[], none, 0, h1, fun i hi => by simp at hi, by simp, by simp⟩
  · simp at h1
    rw [cellsOfInt] at hx
    have hlm : len ≤ m := by rw [hmm]; split <;> omega
    obtain ⟨l, hll, hc⟩ := open_cellsI (enc := enc) (spare := spare) (held := held) (w := w) (base := base) (a := a) (len := len) (fun i hi => by
      obtain ⟨cs', h2, h3⟩ := hx i (by omega)
      exact ⟨cs', n, _, h2, h3⟩)
    exact ⟨l, some a, cap, by rw [h1, hll], hc, by rw [hll]; exact hl, hm⟩
end
end Go.Proofs.YtnhbogmihnnpjaaGreat
