/- Steps of the proof: QLRet, QOpen. No conditions. -/
import Derived.ProofKit
import Derived.OpenShut
import Derived.Lib.SmallJoins
import Derived.Deep.Slices
import Derived.Test.YtnhbogmihnnpjaaGreatYB1
import Derived.Test.YtnhbogmihnnpjaaGreatYB2
import Derived.Test.YtnhbogmihnnpjaaGreatYB3
import Derived.Test.YtnhbogmihnnpjaaGreatYB4
import Derived.Test.YtnhbogmihnnpjaaGreatYB5
import Derived.Test.YtnhbogmihnnpjaaGreatYB6
import Derived.Test.YtnhbogmihnnpjaaGreatYB7
import Derived.Test.YtnhbogmihnnpjaaGreatYB8
import Derived.Test.YtnhbogmihnnpjaaGreatYB9
import Derived.Test.YtnhbogmihnnpjaaGreatYB10
import Derived.Test.YtnhbogmihnnpjaaGreatYReturns1
/- The law VariantReturns: its walk. -/
namespace Go.Proofs.YtnhbogmihnnpjaaGreat
open Go.RowKit
attribute [local go_sem] Oper.semAt_some

theorem returns_plain {n : Int} {l : List Stp} (h : ckSeq (n, l) = 0) {B : List Stp} (hB : backwards (n, l) = (n, B)) : ckSeq (n, B) = 0 ∧ backwards (n, B) = (n, l) ∧ accL B (bwL (wordL l) (wordL l).length) = true ∧ B.length = l.length := by
  have hr := ckSeq_right h
  have e : B = (backwards (n, l)).2 := by rw [hB]
  have e2 : bwL (wordL l) (wordL l).length = flipAll (wordL l).reverse := by
    unfold bwL
    rw [← List.length_reverse, List.take_length]
  subst e
  exact ⟨(back_right hr).ck, back_back hr.len.1, by rw [e2]; exact accL_back (back_strokes n l), back_len n l⟩

set_option maxHeartbeats 16000000 in
set_option maxRecDepth 100000 in
theorem VariantReturns_any (n : Int) (l : List Stp) (a : Option Addr) (cap : Nat) (w : World) (hc : CellsP w a l) (hr : Room a l.length cap) :
    Calls Tryz.prog 9 #[.agg #[.int .i64 n, .slice a l.length cap]] w fun e w' => e = .returned (.bool true) ∧ Ext w w' := by
  have HC := Lib.hid hc
  have HR := Lib.hid hr
  clear hc hr
  have E0 : Ext w (w.alloc (.cells #[.int .i64 n, .slice a l.length cap] 24)) := (by repeat (first | with_reducible exact Ext.refl _ | with_reducible assumption | with_reducible apply Ext.drewN | with_reducible apply Ext.drew | with_reducible apply Ext.alloc | ((with_reducible refine Ext.set ?_ ?_ _); rotate_left; first | omega | (simp; omega)) | (with_reducible refine Ext.trans ?_ (by with_reducible assumption))))
  have c0 : ((w.alloc (.cells #[.int .i64 n, .slice a l.length cap] 24))).cell? ⟨w.heap.size, 0, none⟩ = some (.int .i64 n) := by go_simp
  have c1 : ((w.alloc (.cells #[.int .i64 n, .slice a l.length cap] 24))).cell? ⟨w.heap.size, 1, none⟩ = some (.slice a l.length cap) := by go_simp
  refine (callsIn_wide (n := 0)).1 ?_
  refine callsIn_of_wp_marks Tryz.func9 rfl trivial ?_
  simp only [Tryz.ntmps9, List.size_toArray, List.length_cons, List.length_nil, Nat.reduceAdd, Nat.reduceSub, Array.replicate_succ, Array.replicate_zero, List.push_toArray, List.append_toArray, List.nil_append, List.cons_append]
  gi_wp2_with fail
  refine ⟨trivial, rfl, ?_⟩
  gi_at_call 26
  generalize (w.alloc (.cells #[.int .i64 n, .slice a l.length cap] 24)) = W at E0 c0 c1 ⊢
  refine (callsIn_wide.2 (right_any n l a cap _ (HC.out.ext E0) HR.out)).mono ?_
  rintro e w1 ⟨rfl, hE⟩
  have F1 := E0.trans hE
  replace c0 := (hE).cell c0
  replace c1 := (hE).cell c1
  clear hE E0
  have HRB := Lib.hid (fun h => rightB_true (n := n) (l := l) h)
  generalize rightB (n, l) = fw at HRB ⊢
  obtain ⟨bs, hbs⟩ : ∃ bs, bs = w.heap.size := ⟨_, rfl⟩
  rw [← hbs] at c0 c1 ⊢
  clear hbs
  cases fw
  · gi_wp2_with fail
    refine ⟨trivial, rfl, ?_⟩
    gi_at_call 12
    refine (callsIn_wide.2 (awake_any _)).mono ?_
    rintro e w2 ⟨rfl, hE⟩
    gi_wp2
    refine leaves_marks (n := w.heap.size) (v := .bool true) (fun w => (results_tmp (t := 2) rfl _ _ _).trans rfl) _ _ (Marks.nil _ _) (fun w' hw' => ⟨rfl, (F1.trans hE).trans' hw' (Nat.le_refl _)⟩)
  have hk := (HRB.out (by first | trivial | rfl)).2
  have hrr := ckSeq_right hk
  have hl64 : l.length ≤ 64 := hrr.len.2
  obtain ⟨B, hBB⟩ : ∃ B, B = (backwards (n, l)).2 := ⟨_, rfl⟩
  have hB : backwards (n, l) = (n, B) := by rw [hBB]; rfl
  obtain ⟨p1, p2, p3, p4⟩ := returns_plain hk hB
  have HB1 := Lib.hid (fun W h => Backwards_any n l a cap W HR.out h)
  rw [hk, if_pos rfl, hB] at HB1
  have hwl := wordL_len (ckWalk_fine hrr.walk) l.length (Nat.le_refl _)
  rw [List.take_length] at hwl
  have HP1 := Lib.hid p1
  have HP2 := Lib.hid p2
  have HP3 := Lib.hid p3
  have HK := Lib.hid hk
  have hBl : B.length ≤ 64 := by omega
  clear hk hrr hBB hB p1 p2 p3 p4 HRB
  gi_wp2_with fail
  refine ⟨trivial, rfl, ?_⟩
  gi_at_call 23
  refine (callsIn_wide.2 (HB1.out _ (HC.out.ext F1))).mono ?_
  rintro e w2 h
  obtain ⟨xa, xc, rfl, hf, hfl, hE⟩ := h.at
  dsimp only at hf hfl ⊢
  have X := Lib.hid hf
  have XR := Lib.hid hfl
  have F2 := F1.trans hE
  replace c0 := (hE).cell c0
  replace c1 := (hE).cell c1
  have z4 := cell_lt c0
  dsimp only at z4
  clear hf hfl hE F1 h HB1
  gi_wp2_with fail
  refine ⟨trivial, rfl, ?_⟩
  gi_at_call 23
  have E5 : Ext w2 (w2.alloc (.cells #[.int .i64 n, .slice xa B.length xc] 24)) := (by repeat (first | with_reducible exact Ext.refl _ | with_reducible assumption | with_reducible apply Ext.drewN | with_reducible apply Ext.drew | with_reducible apply Ext.alloc | ((with_reducible refine Ext.set ?_ ?_ _); rotate_left; first | omega | (simp; omega)) | (with_reducible refine Ext.trans ?_ (by with_reducible assumption))))
  have BX := Lib.hid (Box.new w2 n xa B.length xc)
  replace X := Lib.hid (X.out.ext E5)
  have F3 := F2.trans E5
  replace c0 := (E5).cell c0
  replace c1 := (E5).cell c1
  obtain ⟨b1, hb1⟩ : ∃ b, b = w2.heap.size := ⟨_, rfl⟩
  rw [← hb1] at BX z4 ⊢
  clear hb1 E5 F2
  generalize (w2.alloc (.cells #[.int .i64 n, .slice xa B.length xc] 24)) = W3 at BX X F3 c0 c1 ⊢
  have HB2 := Lib.hid (Backwards_any n B xa xc W3 XR.out X.out)
  rw [HP1.out, if_pos rfl, HP2.out] at HB2
  refine (callsIn_wide.2 HB2.out).mono ?_
  rintro e w4 h
  obtain ⟨ya, yc, rfl, hf, hfl, hE⟩ := h.at
  dsimp only at hf hfl ⊢
  have Y := Lib.hid hf
  have YR := Lib.hid hfl
  replace X := Lib.hid (X.out.ext hE)
  replace BX := Lib.hid (BX.out.ext hE)
  have F4 := F3.trans hE
  replace c0 := (hE).cell c0
  replace c1 := (hE).cell c1
  have x0 := BX.out.c0
  have x1 := BX.out.c1
  have z5 := cell_lt c0
  have z6 := cell_lt x0
  dsimp only at z5 z6
  clear hf hfl hE F3 h HB2 z4
  gi_wp2_with fail
  refine ⟨trivial, rfl, ?_⟩
  gi_at_call 27
  have E5 : Ext w4 (w4.alloc (.cells #[.int .i64 n, .slice ya l.length yc] 24)) := (by repeat (first | with_reducible exact Ext.refl _ | with_reducible assumption | with_reducible apply Ext.drewN | with_reducible apply Ext.drew | with_reducible apply Ext.alloc | ((with_reducible refine Ext.set ?_ ?_ _); rotate_left; first | omega | (simp; omega)) | (with_reducible refine Ext.trans ?_ (by with_reducible assumption))))
  have BY := Lib.hid (Box.new w4 n ya l.length yc)
  replace X := Lib.hid (X.out.ext E5)
  replace Y := Lib.hid (Y.out.ext E5)
  replace BX := Lib.hid (BX.out.ext E5)
  have F5 := F4.trans E5
  replace c0 := (E5).cell c0
  replace c1 := (E5).cell c1
  obtain ⟨b2, hb2⟩ : ∃ b, b = w4.heap.size := ⟨_, rfl⟩
  rw [← hb2] at BY z5 z6 ⊢
  clear hb2 E5 F4 x0 x1
  generalize (w4.alloc (.cells #[.int .i64 n, .slice ya l.length yc] 24)) = W5 at BX BY X Y F5 c0 c1 ⊢
  have HCH := Lib.hid (Check_any n B xa xc W5 XR.out X.out)
  rw [HP1.out] at HCH
  refine (callsIn_wide.2 HCH.out).mono ?_
  rintro e w6 ⟨rfl, hE⟩
  replace X := Lib.hid (X.out.ext hE)
  replace Y := Lib.hid (Y.out.ext hE)
  replace BX := Lib.hid (BX.out.ext hE)
  replace BY := Lib.hid (BY.out.ext hE)
  have F6 := F5.trans hE
  replace c0 := (hE).cell c0
  replace c1 := (hE).cell c1
  have x0 := BY.out.c0
  have x1 := BY.out.c1
  clear hE F5 HCH
  gi_wp2_with fail
  refine ⟨trivial, rfl, ?_⟩
  gi_at_call 18
  clear x0 x1
  refine (callsIn_wide.2 (SameQ_any n n l l ya a yc cap _ YR.out Y.out HR.out (HC.out.ext F6))).mono ?_
  rintro e w7 ⟨rfl, hE⟩
  rw [show decide ((n, l) = (n, l)) = true from by simp]
  replace X := Lib.hid (X.out.ext hE)
  replace BX := Lib.hid (BX.out.ext hE)
  have F7 := F6.trans hE
  replace c0 := (hE).cell c0
  replace c1 := (hE).cell c1
  clear hE F6 Y YR BY z5 z6
  have HWD := Lib.hid (Word_any n l a cap w7 HR.out (HC.out.ext F7))
  rw [HK.out, if_pos rfl] at HWD
  gi_wp2_with fail
  refine ⟨trivial, rfl, ?_⟩
  gi_at_call 38
  refine (callsIn_wide.2 HWD.out).mono ?_
  rintro e w8 ⟨v, rfl, hv, hx1, hE⟩
  obtain ⟨va, vcp, rfl, hwc, hwm, hx2⟩ := hv.reads
  have WC := Lib.hid hwc
  replace X := Lib.hid (X.out.ext hE)
  replace BX := Lib.hid (BX.out.ext hE)
  have F8 := F7.trans hE
  replace c0 := (hE).cell c0
  replace c1 := (hE).cell c1
  clear hv hwc hwm hx1 hx2 hE F7 HWD
  gi_wp2_with fail
  refine ⟨trivial, rfl, ?_⟩
  gi_at_call 39
  refine (callsIn_wide.2 (Backward_any va (wordL l).length vcp (w8.alloc (.cells #[.slice none 0 0] 66)))).mono ?_
  rintro e w10 ⟨rfl, rfl⟩
  have k0 : (((w8.alloc (.cells #[.slice none 0 0] 66))).alloc (.cells #[.slice va (wordL l).length vcp] 66)).cell? ⟨w8.heap.size, 0, none⟩ = some (.slice none 0 0) := by go_simp
  have kf : (((w8.alloc (.cells #[.slice none 0 0] 66))).alloc (.cells #[.slice va (wordL l).length vcp] 66)).frozen? ⟨w8.heap.size, 0, none⟩ = false := by go_simp
  have s0 : (((w8.alloc (.cells #[.slice none 0 0] 66))).alloc (.cells #[.slice va (wordL l).length vcp] 66)).cell? ⟨w8.heap.size + 1, 0, none⟩ = some (.slice va (wordL l).length vcp) := by go_simp
  have E10 : Ext w8 (((w8.alloc (.cells #[.slice none 0 0] 66))).alloc (.cells #[.slice va (wordL l).length vcp] 66)) := (by repeat (first | with_reducible exact Ext.refl _ | with_reducible assumption | with_reducible apply Ext.drewN | with_reducible apply Ext.drew | with_reducible apply Ext.alloc | ((with_reducible refine Ext.set ?_ ?_ _); rotate_left; first | omega | (simp; omega)) | (with_reducible refine Ext.trans ?_ (by with_reducible assumption))))
  have hsb : (w8.alloc (.cells #[.slice none 0 0] 66)).heap.size = w8.heap.size + 1 := by simp
  rw [hsb]
  clear hsb
  generalize (((w8.alloc (.cells #[.slice none 0 0] 66))).alloc (.cells #[.slice va (wordL l).length vcp] 66)) = w10 at k0 kf s0 E10 ⊢
  obtain ⟨kb, hkb⟩ : ∃ kb, kb = w8.heap.size := ⟨_, rfl⟩
  rw [← hkb] at k0 kf s0 ⊢
  have HKB := Lib.hid hkb
  have hkb8 : w8.heap.size ≤ kb := Nat.le_of_eq hkb.symm
  clear hkb
  gi_wp2_with fail
  refine wpIn_wide.2 (ret_range _ _ rfl (wordL l) va vcp w8 w10 (kb + 1) kb (by omega) WC.out E10 s0 k0 kf (by omega) hkb8 _ _ _ _ _ _ _ _ _ _ _ _ _ _ _ _ _ _ _ _ _ _ _ _ _ _ _ _ _ _ _ _ _ _ _ _ _ _ _ _ _ _ _ _ _ _ _ _ _ _ _ _ _ _ _ _ _ _ _ _ _ _ _ _ _ _ _ _ _ _ _ _ _ [] _ ?_)
  intro D w11 k1 k2 hI hD
  have E11 : Ext w8 w11 := E10.trans' hI.be hkb8
  obtain ⟨bv, y0, y1, _⟩ := hI.v
  obtain ⟨ba, bc, rfl, hbc, hbm, hx2⟩ := y1.reads
  have hbr := rowRoom y1 rfl
  have HBC := Lib.hid hbc
  have HBR := Lib.hid hbr
  replace X := Lib.hid (X.out.ext E11)
  replace BX := Lib.hid (BX.out.ext E11)
  have F11 := F8.trans E11
  have x0 := BX.out.c0
  have x1 := BX.out.c1
  have HDD := Lib.hid hD
  have hz10 : w.heap.size ≤ w10.heap.size := (F8.trans E10).size
  clear hI y1 hx2 hbc hbm hbr k0 kf s0 E10 E11 F8 c0 c1 WC hD
  have HAC := Lib.hid (Accepts_any n B xa xc (bwL (wordL l) (wordL l).length) ba bc w11 XR.out X.out HBC.out ⟨HBR.out.1, HBR.out.2.1⟩)
  rw [HP1.out, HP3.out] at HAC
  generalize bwL (wordL l) (wordL l).length = BW at HAC y0 HBC HBR
  gi_wp2_with fail
  refine ⟨trivial, rfl, ?_⟩
  gi_at_call 40
  clear x0 x1 y0
  refine (callsIn_wide.2 HAC.out).mono ?_
  rintro e w12 ⟨rfl, hE⟩
  have F12 := F11.trans hE
  have HD2 : Hid (w12.heap[D]? = some (.deferred (some []))) := by show _ = _; rw [Below.block hE D k2]; exact HDD.out
  have k3 : D < w12.heap.size := Nat.lt_of_lt_of_le k2 hE.size
  clear hE F11 HAC HDD
  gi_wp2_with fail
  refine ⟨trivial, rfl, ?_⟩
  gi_at_call 12
  refine (callsIn_wide.2 (awake_any _)).mono ?_
  rintro e w13 ⟨rfl, hE⟩
  have F13 := F12.trans hE
  have HD3 : Hid (w13.heap[D]? = some (.deferred (some []))) := by show _ = _; rw [Below.block hE D k3]; exact HD2.out
  clear hE F12 HD2
  gi_wp2
  refine leaves_marks (n := w10.heap.size) (v := .bool true) (fun w => (results_tmp (t := 2) rfl _ _ _).trans rfl) _ _ (Marks.cons (A := w10) (Marks.nil _ _) k1 k1 (Marks.nil _ _) HD3.out) (fun w' hw' => ⟨rfl, F13.trans' hw' hz10⟩)
end Go.Proofs.YtnhbogmihnnpjaaGreat
/- The arguments of the laws of sequences, opened. -/
namespace Go.Proofs.YtnhbogmihnnpjaaGreat
open Go.RowKit Go.ChangeShapes Go.WideShapes Go.Joins Go.Deep

theorem list2 {α : Type} {l : List α} (h : l.length = 2) : ∃ a b, l = [a, b] := by
  match l, h with
  | [a, b], _ => exact ⟨a, b, rfl⟩
theorem laidOut : laidOutB Tryz.prog = true := by kernel_rfl
theorem cellsOfStk : Tryz.prog.cellsOf 73 = 2 := by kernel_rfl
theorem cellsOfStp : Tryz.prog.cellsOf 87 = 2 := by kernel_rfl
theorem cellsOfInt : Tryz.prog.cellsOf 3 = 1 := by kernel_rfl
theorem cellsOfBool : Tryz.prog.cellsOf 4 = 1 := by kernel_rfl
theorem cellsOfSlk : Tryz.prog.cellsOf 66 = 1 := by kernel_rfl

section
variable {H : Type} {enc : TypeId × Value → H} {w : World} {base : Nat} {spare : Nat → Bool} {held : Bool}
theorem open_stk {fuel : Nat} {cs : List Value} {x : DataW H × List MemPlace} (h : DataW.trod enc Tryz.prog w base spare held fuel 73 cs = some x) : ∃ y : Stk, cs = [.int .i64 y.1, .bool y.2] := by
  obtain ⟨y0, y1, n, _, hl, h0, h1⟩ := trod_struct2 Tryz.underlying73 h
  rw [cellsOfStk] at hl
  obtain ⟨a, b, rfl⟩ := list2 hl
  rw [cellsOfInt] at h0
  rw [cellsOfBool] at h1
  obtain ⟨i, e0, _, w0⟩ := DataW.trod_int Tryz.underlying3 h0
  obtain ⟨j, e1, _⟩ := DataW.trod_bool Tryz.underlying4 h1
  simp at e0 e1
  subst e0; subst e1
  exact ⟨(i, j), rfl⟩
theorem open_stks {a : Addr} {len : Nat} (h : ∀ i, i < len → ∃ cs' n x, w.cells? base (a.add (i * 2)) 2 = some cs' ∧ DataW.trod enc Tryz.prog w base spare held n 73 cs' = some x) : ∃ l : List Stk, l.length = len ∧ CellsK w (some a) l := by
  have key : ∀ i, i < len → ∃ y : Stk, w.cell? (a.add (i * 2)) = some (.int .i64 y.1) ∧ w.cell? ((a.add (i * 2)).add 1) = some (.bool y.2) := fun i hi => by
    obtain ⟨cs', n, x, h1, h2⟩ := h i hi
    obtain ⟨y, rfl⟩ := open_stk h2
    obtain ⟨_, _, hc⟩ := World.cells?_some h1
    have c0 := hc 0 (by omega)
    have c1 := hc 1 (by omega)
    refine ⟨y, ?_, c1⟩
    have e : (a.add (i * 2)).add 0 = a.add (i * 2) := by simp [Addr.add]
    rw [e] at c0
    exact c0
  obtain ⟨f, hf⟩ := choose_lt (α := Stk) key
  refine ⟨(List.range len).map f, by simp, fun i hi => ?_⟩
  have hi' : i < len := by simpa using hi
  obtain ⟨h1, h2⟩ := hf i hi'
  have hp : ((List.range len).map f).getD i stk0 = f i := by simp [List.getD, hi']
  rw [hp]
  obtain ⟨b, off, spot⟩ := a
  have hs : spot = none := by
    have h0 := World.cell?_spot (hf 0 (by omega)).1
    simpa [Addr.add] using h0
  subst hs
  rw [Addr.add_lit] at h1 h2
  rw [Addr.add_lit] at h2
  exact ⟨b, off, rfl, h1, h2⟩
theorem open_slk {fuel : Nat} {v : Value} {x : DataW H × List MemPlace} (h : DataW.trod enc Tryz.prog w base spare held fuel 66 [v] = some x) : ∃ l : List Stk, SliceK w v l := by
  rcases open_slice Tryz.underlying66 h with ⟨h1, _⟩ | ⟨a, len, cap, m, n, D, Pl, h1, hb, hl, hm, hmm, _, hx⟩
  · simp at h1
    exact ⟨[], none, 0, h1, fun i hi => by simp at hi, by simp⟩
  · simp at h1
    rw [cellsOfStk] at hx
    have hlm : len ≤ m := by rw [hmm]; split <;> omega
    obtain ⟨l, hll, hc⟩ := open_stks (enc := enc) (spare := spare) (held := held) (w := w) (base := base) (a := a) (len := len) (fun i hi => by
      obtain ⟨cs', h2, h3⟩ := hx i (by omega)
      exact ⟨cs', n, _, h2, h3⟩)
    exact ⟨l, some a, cap, by rw [h1, hll], hc, by rw [hll]; omega⟩
theorem open_stp {fuel : Nat} {cs : List Value} {x : DataW H × List MemPlace} (h : DataW.trod enc Tryz.prog w base spare held fuel 87 cs = some x) : ∃ (v : Value) (y : Stp), cs = [v, .int .i64 y.2] ∧ SliceK w v y.1 := by
  obtain ⟨y0, y1, n, _, hl, h0, h1⟩ := trod_struct2 Tryz.underlying87 h
  rw [cellsOfStp] at hl
  obtain ⟨a, b, rfl⟩ := list2 hl
  rw [cellsOfInt] at h1
  rw [cellsOfSlk] at h0
  obtain ⟨i, e1, _, w0⟩ := DataW.trod_int Tryz.underlying3 h1
  obtain ⟨l, hv⟩ := open_slk (v := a) (by simpa using h0)
  simp at e1
  subst e1
  exact ⟨a, (l, i), rfl, hv⟩
theorem open_stps {a : Addr} {len : Nat} (h : ∀ i, i < len → ∃ cs' n x, w.cells? base (a.add (i * 2)) 2 = some cs' ∧ DataW.trod enc Tryz.prog w base spare held n 87 cs' = some x) : ∃ l : List Stp, l.length = len ∧ CellsP w (some a) l ∧ (0 < len → a.spot = none) := by
  have key : ∀ i, i < len → ∃ y : Value × Stp, w.cell? (a.add (i * 2)) = some y.1 ∧ w.cell? ((a.add (i * 2)).add 1) = some (.int .i64 y.2.2) ∧ SliceK w y.1 y.2.1 := fun i hi => by
    obtain ⟨cs', n, x, h1, h2⟩ := h i hi
    obtain ⟨v, y, rfl, hv⟩ := open_stp h2
    obtain ⟨_, _, hc⟩ := World.cells?_some h1
    have c0 := hc 0 (by omega)
    have c1 := hc 1 (by omega)
    refine ⟨(v, y), ?_, c1, hv⟩
    have e : (a.add (i * 2)).add 0 = a.add (i * 2) := by simp [Addr.add]
    rw [e] at c0
    exact c0
  obtain ⟨f, hf⟩ := choose_lt (α := Value × Stp) key
  have hs : 0 < len → a.spot = none := fun h0 => by
    have h0 := World.cell?_spot (hf 0 h0).1
    simpa [Addr.add] using h0
  refine ⟨(List.range len).map fun i => (f i).2, by simp, fun i hi => ?_, hs⟩
  have hi' : i < len := by simpa using hi
  obtain ⟨h1, h2, h3⟩ := hf i hi'
  have hp : ((List.range len).map fun i => (f i).2).getD i stp0 = (f i).2 := by simp [List.getD, hi']
  rw [hp]
  obtain ⟨b, off, spot⟩ := a
  have hs := hs (by omega)
  dsimp only at hs
  subst hs
  rw [Addr.add_lit] at h1 h2
  rw [Addr.add_lit] at h2
  exact ⟨b, off, _, rfl, h1, h3, h2⟩
theorem open_slp {fuel : Nat} {v : Value} {x : DataW H × List MemPlace} (h : DataW.trod enc Tryz.prog w base spare held fuel 22 [v] = some x) :
    ∃ (l : List Stp) (a : Option Addr) (cap : Nat), v = .slice a l.length cap ∧ CellsP w a l ∧ l.length ≤ maxLen ∧ Room a l.length cap := by
  rcases open_slice Tryz.underlying22 h with ⟨h1, _⟩ | ⟨a, len, cap, m, n, D, Pl, h1, hb, hl, hm, hmm, _, hx⟩
  · simp at h1
    exact ⟨[], none, 0, h1, fun i hi => by simp at hi, by simp, by simp, by simp, fun h0 => by simp at h0⟩
  · simp at h1
    rw [cellsOfStp] at hx
    have hlm : len ≤ m := by rw [hmm]; split <;> omega
    obtain ⟨l, hll, hc, hs⟩ := open_stps (enc := enc) (spare := spare) (held := held) (w := w) (base := base) (a := a) (len := len) (fun i hi => by
      obtain ⟨cs', h2, h3⟩ := hx i (by omega)
      exact ⟨cs', n, _, h2, h3⟩)
    refine ⟨l, some a, cap, by rw [h1, hll], hc, by rw [hll]; omega, by rw [hll]; exact hl, hm, fun h0 => ?_⟩
    obtain ⟨b, off, spot⟩ := a
    have := hs (by omega)
    dsimp only at this
    subst this
    exact ⟨b, off, rfl⟩
set_option maxRecDepth 100000 in
theorem open_seq {r : Reach} {b0 : Nat} {v : Value} {d : DataW H} {p : List MemPlace} (hv : Value.okWide Tryz.prog w r b0 24 v) (h : DataW.Trod enc Tryz.prog w base spare held 24 v d p) :
    ∃ (n : Int) (l : List Stp) (a : Option Addr) (cap : Nat), v = .agg #[.int .i64 n, .slice a l.length cap] ∧ CellsP w a l ∧ l.length ≤ maxLen ∧ Room a l.length cap ∧ (Lit.int .i64 n).wf = true := by
  obtain ⟨c0, c1, y0, y1, n, rfl, _, _, h0, h1⟩ := open_agg2 Tryz.underlying24 (by kernel_rfl) (by kernel_rfl) hv h
  obtain ⟨i, e0, _, w0⟩ := DataW.trod_int Tryz.underlying3 h0
  obtain ⟨l, a, cap, e1, hc, hl, hr⟩ := open_slp h1
  simp at e0
  subst e0; subst e1
  exact ⟨i, l, a, cap, rfl, hc, hl, hr, w0⟩
end
end Go.Proofs.YtnhbogmihnnpjaaGreat
