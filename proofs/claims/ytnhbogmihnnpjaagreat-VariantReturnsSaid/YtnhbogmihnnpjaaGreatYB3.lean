/- Steps of the proof: QAlong, QEnds, QPauses, QCut, QOwnK, QTextS, RegE, QMapped, QMap, QCopied. No conditions. -/
import Derived.OwnWalk
import Derived.Lib.SliceRun
import Derived.Test.YtnhbogmihnnpjaaGreatYB1
import Derived.Test.YtnhbogmihnnpjaaGreatYB2
/- The ends behind each step, one after the other. -/
namespace Go.Proofs.YtnhbogmihnnpjaaGreat
open Go.RowKit
attribute [local go_sem] Oper.semAt_some

theorem Kept.cell {Kd : Nat → Prop} {n : Nat} {A B : World} (h : Kept Kd n A B) {p : Addr} {v : Value} (hk : Kd p.block) (hc : A.cell? p = some v) : B.cell? p = some v := by
  have hlt := cell_lt hc
  obtain ⟨o, ho⟩ : ∃ o, A.heap[p.block]? = some o := ⟨_, Array.getElem?_eq_getElem hlt⟩
  have hr : isRec o = false := by
    cases o <;> simp [World.cell?, ho] at hc <;> rfl
  exact (World.cell?_of_block (w := A) ((h.2 _ _ hk ho (.inl hr)).trans ho.symm)).trans hc
theorem Kept.frozen {X : Nat → Prop} {n : Nat} {A B : World} (h : Kept X n A B) {p : Addr} {v : Value} (hk : X p.block) (hc : A.cell? p = some v) : B.frozen? p = A.frozen? p := by
  have hlt := cell_lt hc
  obtain ⟨o, ho⟩ : ∃ o, A.heap[p.block]? = some o := ⟨_, Array.getElem?_eq_getElem hlt⟩
  have hr : isRec o = false := by
    cases o <;> simp [World.cell?, ho] at hc <;> rfl
  exact World.frozen?_of_block (w := A) ((h.2 _ _ hk ho (.inl hr)).trans ho.symm)
theorem EndsAt.kept {Kd : Nat → Prop} {n p : Nat} {A B : World} {e : Int → Bool} (h : EndsAt A p e) (k : Kept Kd n A B) (hk : Kd p) : EndsAt B p e := fun i hi =>
  ⟨k.cell (p := ⟨p, i, none⟩) hk (h i hi).1, (k.frozen (p := ⟨p, i, none⟩) hk (h i hi).1).trans (h i hi).2⟩

theorem along_any (n : Int) (v : Value) (w : World) :
    Calls Tryz.prog 82 #[.agg #[.int .i64 n, v]] w fun e w' => e = .returned (.func (.func 111) #[] #[.pointer (some ⟨w.heap.size, 0, none⟩)]) ∧ w.alloc (.cells #[.int .i64 n, v] 24) = w' := by
  go_enter Tryz.func82, Tryz.ntmps82
  go_wp2
  go_ret
  exact ⟨rfl, rfl⟩

def alongEnc (l : List Stp) (k : Nat) : Array Value := #[.int .i64 (k : Int), endsV (behAll none6 (l.take k))]
/-- the blocks that the iterator wants kept -/
def AlK (Md : Nat → Prop) (n k : Nat) : Prop := (k < n ∧ ¬ Md k) ∨ n ≤ k
theorem range_prefix {k m : Nat} (h : k < m) : List.range k ++ [k] <+: List.range m := by
  rw [← List.range_succ]
  have : List.range m = List.range (k + 1) ++ (List.range (m - (k + 1))).map (k + 1 + ·) := by
    rw [← List.range_add]; congr 1; omega
  rw [this]
  exact List.prefix_append _ _

/-- what lay in A lies in B, but for the book-keeping of loops -/
def Old (A B : World) : Prop := ∀ (k : Nat) (o : Obj), A.heap[k]? = some o → isRec o = false → B.heap[k]? = some o
theorem Old.refl (A : World) : Old A A := fun _ _ h _ => h
theorem Old.ext {A B : World} (h : Ext A B) : Old A B := fun k o hk _ => by rw [Below.block h k (Array.getElem?_eq_some_iff.1 hk).1]; exact hk
theorem Old.trans {A B C : World} (h : Old A B) (k : Old B C) : Old A C := fun i o hi ho => k i o (h i o hi ho) ho
theorem Old.below {A B C : World} (h : Old A B) {n : Nat} (k : Below n B C) (hn : A.heap.size ≤ n) : Old A C := fun i o hi ho => by
  rw [Below.block k i (by have := (Array.getElem?_eq_some_iff.1 hi).1; omega)]; exact h i o hi ho
theorem Old.kept {A B C : World} {Md : Nat → Prop} {n : Nat} (h : Old A B) (k : Kept (AlK Md n) n B C) (hn : A.heap.size ≤ n) (hm : ∀ k, Md k → A.heap.size ≤ k) : Old A C := fun i o hi ho => by
  have hlt := (Array.getElem?_eq_some_iff.1 hi).1
  exact k.2 i o (.inl ⟨by omega, fun c => by have := hm i c; omega⟩) (h i o hi ho) (.inl ho)
theorem Old.cell {A B : World} (h : Old A B) {p : Addr} {v : Value} (hc : A.cell? p = some v) : B.cell? p = some v := by
  have hlt := cell_lt hc
  obtain ⟨o, ho⟩ : ∃ o, A.heap[p.block]? = some o := ⟨_, Array.getElem?_eq_getElem hlt⟩
  have hr : isRec o = false := by
    cases o <;> simp [World.cell?, ho] at hc <;> rfl
  exact (World.cell?_of_block (w := A) ((h _ _ ho hr).trans ho.symm)).trans hc
theorem CellsK.old {A B : World} {a : Option Addr} {l : List Stk} (h : CellsK A a l) (k : Old A B) : CellsK B a l := fun i hi => by
  obtain ⟨b, off, h1, h2, h3⟩ := h i hi
  exact ⟨b, off, h1, k.cell h2, k.cell h3⟩
theorem SliceK.old {A B : World} {v : Value} {l : List Stk} (h : SliceK A v l) (k : Old A B) : SliceK B v l := by
  obtain ⟨a, cap, h1, h2, h3⟩ := h
  exact ⟨a, cap, h1, h2.old k, h3⟩
theorem CellsP.old {A B : World} {a : Option Addr} {l : List Stp} (h : CellsP A a l) (k : Old A B) : CellsP B a l := fun i hi => by
  obtain ⟨b, off, v, h1, h2, h3, h4⟩ := h i hi
  exact ⟨b, off, v, h1, k.cell h2, h3.old k, k.cell h4⟩

/-- only block n, and nothing below, is turned -/
def Own1 (n : Nat) (A B : World) : Prop := Below n A B ∧ ∀ k, k < A.heap.size → k ≠ n → B.heap[k]? = A.heap[k]?
theorem Own1.ext {n : Nat} {A B : World} (h : Ext A B) (hn : n ≤ A.heap.size) : Own1 n A B := ⟨h.mono hn, fun k hk _ => Below.block h k hk⟩
theorem Own1.six (n : Nat) (A : World) (f : Int → Bool) : Own1 n A ((((((A.setCell ⟨n, 0, none⟩ (.bool (f 0))).setCell ⟨n, 1, none⟩ (.bool (f 1))).setCell ⟨n, 2, none⟩ (.bool (f 2))).setCell ⟨n, 3, none⟩ (.bool (f 3))).setCell ⟨n, 4, none⟩ (.bool (f 4))).setCell ⟨n, 5, none⟩ (.bool (f 5))) :=
  ⟨((((((Below.refl _ _).setCell (p := ⟨n, 0, none⟩) (Nat.le_refl _) _).setCell (p := ⟨n, 1, none⟩) (Nat.le_refl _) _).setCell (p := ⟨n, 2, none⟩) (Nat.le_refl _) _).setCell (p := ⟨n, 3, none⟩) (Nat.le_refl _) _).setCell (p := ⟨n, 4, none⟩) (Nat.le_refl _) _).setCell (p := ⟨n, 5, none⟩) (Nat.le_refl _) _,
   fun k _ hne => by
    rw [Below.heap_setCell _ _ _ _ hne, Below.heap_setCell _ _ _ _ hne, Below.heap_setCell _ _ _ _ hne, Below.heap_setCell _ _ _ _ hne, Below.heap_setCell _ _ _ _ hne, Below.heap_setCell _ _ _ _ hne]⟩

set_option maxHeartbeats 4000000 in
set_option maxRecDepth 100000 in
theorem along1_iter (n : Int) (l : List Stp) (a : Option Addr) (cap : Nat) (w0 w : World) (sb : Nat) (Md : Nat → Prop) (hl : l.length ≤ 64) (hf : Fine n l)
    (hc : CellsP w0 a l) (E0 : Ext w0 w) (s2 : w.cell? ⟨sb, 1, none⟩ = some (.slice a l.length cap))
    (m1 : ¬ Md sb) (m2 : ∀ k, Md k → w0.heap.size ≤ k) :
    Iter Tryz.prog 111 #[.pointer (some ⟨sb, 0, none⟩)] (alongEnc l) (List.range (l.length + 1)) Own1 (AlK Md) 1 w := by
  intro y J Jx W hW hJ hJx hY h0
  have HF := Lib.hid hf
  have HC := Lib.hid hc
  have s2 := hW.cell s2
  have HY := Lib.hid hY
  have HJ := Lib.hid hJ
  have HM := Lib.hid m2
  have O0 := Lib.hid (Old.ext (E0.trans hW))
  have hsz : w0.heap.size ≤ W.heap.size := (E0.trans hW).size
  have zs : sb < W.heap.size := cell_lt s2
  clear hf hc hY hJ hJx hW m2 E0
  refine callsIn_of_wp Tryz.func111 rfl trivial ?_ rfl
  simp only [Tryz.ntmps111, List.size_toArray, List.length_cons, List.length_nil, Nat.reduceAdd, Nat.reduceSub, Array.replicate_succ, Array.replicate_zero, List.push_toArray, List.append_toArray, List.nil_append, List.cons_append]
  gi_wp2
  have E1 : Ext W (W.alloc (.cells #[.bool false, .bool false, .bool false, .bool false, .bool false, .bool false] 101)) := (by repeat (first | with_reducible exact Ext.refl _ | with_reducible assumption | with_reducible apply Ext.drewN | with_reducible apply Ext.drew | with_reducible apply Ext.alloc | ((with_reducible refine Ext.set ?_ ?_ _); rotate_left; first | omega | (simp; omega)) | (with_reducible refine Ext.trans ?_ (by with_reducible assumption))))
  have D0 : EndsAt (W.alloc (.cells #[.bool false, .bool false, .bool false, .bool false, .bool false, .bool false] 101)) W.heap.size none6 := ends_new rfl none6
  have Z0 : W.heap.size + 1 ≤ (W.alloc (.cells #[.bool false, .bool false, .bool false, .bool false, .bool false, .bool false] 101)).heap.size := by simp
  generalize W.alloc (.cells #[.bool false, .bool false, .bool false, .bool false, .bool false, .bool false] 101) = W1 at E1 D0 Z0 ⊢
  have HD0 := Lib.hid D0
  have t2 := E1.cell s2
  have O1 := Lib.hid (O0.out.trans (Old.ext E1))
  clear D0 O0
  gi_loopw [9] (fun i wr => ∃ k : Nat, k ≤ l.length ∧ i = .int .i64 k ∧ Hid (J (List.range k) wr) ∧ W.heap.size + 1 ≤ wr.heap.size ∧ wr.cell? ⟨sb, 1, none⟩ = some (.slice a l.length cap) ∧ Hid (EndsAt wr W.heap.size (behAll none6 (l.take k))) ∧ Hid (Old w0 wr)) (fun i _ => l.length - (intOf i).toNat)
  case atStart => exact ⟨0, by omega, rfl, HJ.out _ _ _ h0 (Own1.ext E1 (Nat.le_refl _)), Z0, t2, HD0, O1⟩
  case round =>
    clear s2 t2 E1 Z0 h0 HD0 O1
    obtain ⟨k, hk, rfl, hj, hz, s2, D, O⟩ := hrel
    obtain ⟨⟨x0, x1, x2, x3, x4, x5⟩, g0, g1, g2, g3, g4, g5⟩ := D.out.six
    have zs' : sb < wr.heap.size := by omega
    have zn' : W.heap.size < wr.heap.size := by omega
    by_cases hlt : k < l.length
    · obtain ⟨b, off, v, ha, p1, hv, p2⟩ := HC.out k hlt
      subst ha
      obtain ⟨sa, sc, rfl, hcs, hls⟩ := hv
      have p1 := O.out.cell p1
      have p2 := O.out.cell p2
      have HFK := Lib.hid (HF.out k hlt)
      have HT := Lib.hid (behAll_take none6 l hlt)
      have HCS := Lib.hid hcs
      have HLS := Lib.hid hls
      have HENC : Hid (alongEnc l k = #[.int .i64 (k : Int), endsV (behAll none6 (l.take k))]) := by show _ = _; rfl
      have HPRE : Hid (List.range k ++ [k] <+: List.range (l.length + 1)) := range_prefix (by omega)
      clear hcs hls
      generalize l.getD k stp0 = x at p1 p2 HCS HLS HFK HT
      obtain ⟨st, wait⟩ := x
      dsimp only at p1 p2 HCS HLS HFK HT
      have z1 := cell_lt p1
      dsimp only at z1
      gi_wp2_with fail
      have E2 : Ext wr (wr.alloc (.cells #[.slice sa st.length sc, .int .i64 wait] 87)) := (by repeat (first | with_reducible exact Ext.refl _ | with_reducible assumption | with_reducible apply Ext.drewN | with_reducible apply Ext.drew | with_reducible apply Ext.alloc | ((with_reducible refine Ext.set ?_ ?_ _); rotate_left; first | omega | (simp; omega)) | (with_reducible refine Ext.trans ?_ (by with_reducible assumption))))
      have f1 : (wr.alloc (.cells #[.slice sa st.length sc, .int .i64 wait] 87)).cell? ⟨wr.heap.size, 0, none⟩ = some (.slice sa st.length sc) := by go_simp
      have f2 : (wr.alloc (.cells #[.slice sa st.length sc, .int .i64 wait] 87)).cell? ⟨wr.heap.size, 1, none⟩ = some (.int .i64 wait) := by go_simp
      have D2 := Lib.hid (D.out.ext E2)
      have s2 := E2.cell s2
      have ON2 := Lib.hid (O.out.trans (Old.ext E2))
      have hz2 : W.heap.size + 1 ≤ (wr.alloc (.cells #[.slice sa st.length sc, .int .i64 wait] 87)).heap.size := by simp; omega
      have hbx : wr.heap.size < (wr.alloc (.cells #[.slice sa st.length sc, .int .i64 wait] 87)).heap.size := by simp
      have hj2 : Hid (J (List.range k) (wr.alloc (.cells #[.slice sa st.length sc, .int .i64 wait] 87))) := HJ.out _ _ _ hj.out (Own1.ext E2 (by omega))
      clear hj
      generalize wr.alloc (.cells #[.slice sa st.length sc, .int .i64 wait] 87) = w2 at E2 f1 f2 D2 s2 ON2 hz2 hbx hj2 ⊢
      have hyy := HY.out (List.range k) k w2 HPRE.out hz2 hj2.out
      unfold alongEnc endsV at hyy
      obtain ⟨fn, tmps, assign, body, hy, hR⟩ := hyy
      clear D O x0 x1 x2 x3 x4 x5 g0 g1 g2 g3 g4 g5 HENC
      rw [hy]
      gi_wp2
      refine ⟨rfl, hR.mono ?_⟩
      clear hy hR
      rintro e w3 (⟨rfl, hj3, hk3⟩ | ⟨rfl, hj3, hk3⟩)
      · have HJ3 := Lib.hid hj3
        have HK3 := Lib.hid hk3
        have O3 : Hid (Old w0 w3) := ON2.out.kept hk3 hsz HM.out
        have D3 : Hid (EndsAt w3 W.heap.size (behAll none6 (l.take k))) := D2.out.kept hk3 (.inr (Nat.le_refl _))
        have s3 := hk3.cell (p := ⟨sb, 1, none⟩) (.inl ⟨zs, m1⟩) s2
        have f1 := hk3.cell (p := ⟨wr.heap.size, 0, none⟩) (.inr (by show W.heap.size ≤ wr.heap.size; omega)) f1
        have f2 := hk3.cell (p := ⟨wr.heap.size, 1, none⟩) (.inr (by show W.heap.size ≤ wr.heap.size; omega)) f2
        have hz3 : W.heap.size + 1 ≤ w3.heap.size := by have := hk3.1; omega
        have hb3 : wr.heap.size < w3.heap.size := by have := hk3.1; omega
        obtain ⟨⟨x0, x1, x2, x3, x4, x5⟩, g0, g1, g2, g3, g4, g5⟩ := D3.out.six
        clear hj3 hk3 D2 s2 ON2
        gi_wp2_with fail
        refine ⟨trivial, rfl, ?_⟩
        gi_at_call 66
        refine (callsIn_wide.2 (behind_any st wait sa sc (behAll none6 (l.take k)) _ HLS.out (HCS.out.old O3.out) (ckStep_known HFK.out.1))).mono ?_
        rintro e w4 ⟨rfl, hE4⟩
        rw [← HT.out]
        have HJ4 : Hid (J (List.range k ++ [k]) w4) := HJ.out _ _ _ HJ3.out (Own1.ext hE4 (by omega))
        have s4 := hE4.cell s3
        have D4 := Lib.hid (D3.out.ext hE4)
        have O4 := Lib.hid (O3.out.trans (Old.ext hE4))
        have hz4 : W.heap.size + 1 ≤ w4.heap.size := by have := hE4.size; omega
        clear x0 x1 x2 x3 x4 x5 g0 g1 g2 g3 g4 g5 f1 f2 s3 D3 O3 HJ3
        obtain ⟨⟨x0, x1, x2, x3, x4, x5⟩, g0, g1, g2, g3, g4, g5⟩ := D4.out.six
        generalize hff : behAll none6 (l.take (k + 1)) = ff at HT ⊢
        have HFF := Lib.hid hff
        clear hff
        unfold endsV
        have B5 : Below W.heap.size w4 ((((((w4.setCell ⟨W.heap.size, 0, none⟩ (.bool (ff 0))).setCell ⟨W.heap.size, 1, none⟩ (.bool (ff 1))).setCell ⟨W.heap.size, 2, none⟩ (.bool (ff 2))).setCell ⟨W.heap.size, 3, none⟩ (.bool (ff 3))).setCell ⟨W.heap.size, 4, none⟩ (.bool (ff 4))).setCell ⟨W.heap.size, 5, none⟩ (.bool (ff 5))) :=
          ((((((Below.refl _ _).setCell (p := ⟨W.heap.size, 0, none⟩) (Nat.le_refl _) _).setCell (p := ⟨W.heap.size, 1, none⟩) (Nat.le_refl _) _).setCell (p := ⟨W.heap.size, 2, none⟩) (Nat.le_refl _) _).setCell (p := ⟨W.heap.size, 3, none⟩) (Nat.le_refl _) _).setCell (p := ⟨W.heap.size, 4, none⟩) (Nat.le_refl _) _).setCell (p := ⟨W.heap.size, 5, none⟩) (Nat.le_refl _) _
        have D5 := Lib.hid (D4.out.store6 ff)
        have O5 := Lib.hid (O4.out.below B5 hsz)
        have J5 := Lib.hid (HJ.out _ _ _ HJ4.out (Own1.six _ _ ff))
        have s5 := cellB B5 (p := ⟨sb, 1, none⟩) zs s4
        have hz5 := B5.size
        gi_wp2
        refine ⟨⟨k + 1, by omega, by go_num, ?_, by omega, s5, ?_, O5⟩, by simp [intOf]; omega⟩
        · show J _ _
          rw [List.range_succ]; exact J5.out
        · show EndsAt _ _ _
          rw [HFF.out]; exact D5.out
      · gi_wp2
        refine bodyPost_ret (results_none rfl _ _ _) rfl ?_
        exact ⟨⟨_, rfl⟩, .inr ⟨_, HPRE.out, hj3⟩⟩
    · have hk' : k = l.length := by omega
      subst hk'
      have HPRE : Hid (List.range l.length ++ [l.length] <+: List.range (l.length + 1)) := range_prefix (by omega)
      have hyy := HY.out (List.range l.length) l.length wr HPRE.out hz hj.out
      unfold alongEnc endsV at hyy
      rw [List.take_of_length_le (Nat.le_refl _)] at hyy
      obtain ⟨fn, tmps, assign, body, hy, hR⟩ := hyy
      rw [List.take_of_length_le (Nat.le_refl _)] at x0 x1 x2 x3 x4 x5
      gi_wp2
      refine ⟨rfl, hR.mono ?_⟩
      clear hy hR
      rintro e w3 (⟨rfl, hj3, hk3⟩ | ⟨rfl, hj3, hk3⟩)
      · gi_wp2
        go_end0
        refine ⟨⟨_, rfl⟩, .inl ?_⟩
        rw [List.range_succ]
        exact hj3
      · gi_wp2
        go_end0
        exact ⟨⟨_, rfl⟩, .inr ⟨_, HPRE.out, hj3⟩⟩
end Go.Proofs.YtnhbogmihnnpjaaGreat
/- sequence.Ends. -/
namespace Go.Proofs.YtnhbogmihnnpjaaGreat
open Go.RowKit
attribute [local go_sem] Oper.semAt_some

set_option maxHeartbeats 2000000 in
set_option maxRecDepth 100000 in
theorem CloneB_any (n : Nat) (f : Int → Bool) (eb eo ec : Nat) (w : World) (hn : n ≤ 6) (h0 : 0 < n) (he : CellsB w (some ⟨eb, eo, none⟩) n f) :
    Calls Tryz.prog 83 #[.slice (some ⟨eb, eo, none⟩) n ec] w (BoolsPost n f w) := by
  have HE := Lib.hid he
  clear he
  obtain ⟨i0, hi, hi0, hi1, hi2⟩ := info_parts infoBool
  have heq : ∀ w' : World, (binOp .eql 79 (.slice (some ⟨eb, eo, none⟩) n ec) (.slice none 0 0)).run Tryz.prog w' = .ok (.bool false) w' := fun w' => Lib.run_eql_slice_nil (P := Tryz.prog) w' 79 4 (some ⟨eb, eo, none⟩) n ec 0 0 Tryz.underlying79
  go_enter Tryz.func83, Tryz.ntmps83
  have E1 : Ext w (w.alloc (.cells #[] 4)) := (by repeat (first | with_reducible exact Ext.refl _ | with_reducible assumption | with_reducible apply Ext.drewN | with_reducible apply Ext.drew | with_reducible apply Ext.alloc | ((with_reducible refine Ext.set ?_ ?_ _); rotate_left; first | omega | (simp; omega)) | (with_reducible refine Ext.trans ?_ (by with_reducible assumption))))
  have hown : (w.alloc (.cells #[] 4)).ownsRow 0 4 1 (.slice (some ⟨w.heap.size, 0, none⟩) 0 0) 0 [] :=
    World.ownsRow_made (w := w) (base := 0) (e := 4) (size := 1) #[] 0 (Nat.zero_le _) (Nat.zero_le _) rfl
  have ez : (w.alloc (.cells #[] 4)).heap.size = w.heap.size + 1 := by simp
  go_wp2_with (at_builtin; refine wpList_append1 _ rfl _ _ 79 rfl 4 i0 (.bool false) 1 1 Tryz.underlying79 hi hi0 hi1 hi2 rfl (by decide) (.slice (some ⟨w.heap.size, 0, none⟩) 0 0) 0 [] rfl hown ⟨eb, eo, none⟩ n ec h0 (boolsL n f) rfl ?c0 ?c1 ?c2 ?c3 ?c4 ?c5)
  case c0 => simp [boolsL]
  case c1 =>
    intro j u hu
    obtain ⟨hj, rfl⟩ := boolsL_get hu
    obtain ⟨b, off, hb, hcell⟩ := HE.out.ext E1 j hj
    cases hb
    rw [Addr.add_lit]; exact hcell
  case c2 => intro u hu; unfold boolsL at hu; simp at hu; obtain ⟨i, _, rfl⟩ := hu; rfl
  case c3 => unfold maxLen; omega
  case c4 => omega
  case c5 =>
    intro v' w5 hown5 hend5
    obtain ⟨g, c, rfl, hg, hb⟩ := rowBools h0 hown5
    have B5 : Below w.heap.size _ w5 := hend5.below (n := w.heap.size) (by rw [ez]; omega) (fun b hb => by cases hb; exact Nat.le_refl _)
    have G5 := hend5.ge (n := w.heap.size) (by rw [ez]; omega) (fun b hb => by cases hb; exact Nat.le_refl _) g hg
    have F5 : Ext w w5 := E1.trans' B5 (Nat.le_refl _)
    have HB := Lib.hid hb
    clear hown5 hend5 hg hb hown B5 E1 ez
    go_wp2
    go_ret
    exact ⟨g, c, rfl, HB.out, G5, F5⟩

theorem results_cell_cell {fn : Func} {p q : Tmp} {t u : TypeId} (h : fn.results = #[.cell p t, .cell q u]) (tmps : Array Value) (P : Program) (w : World) :
    (results fn tmps).run P w =
      ((asAddr (tmps.getD p undef)).run P w).andThen fun a w₁ => ((loadVar t a).run P w₁).andThen fun x w₂ => ((asAddr (tmps.getD q undef)).run P w₂).andThen fun b w₃ => ((loadVar u b).run P w₃).andThen fun y w₄ => .ok (.tuple #[x, y]) w₄ := by
  simp only [results, h]
  simp [Sem.run_bind, Result.andThen]
/-- a frame with marks leaves; its results lie in memory -/
theorem leaves_cells {P : Program} {fn : Func} {tmps : Array Value} {R : Ending → World → Prop} {m n : Nat} {v : Value} :
    ∀ (ds : List Deferred) (w : World), Marks n ds w → (∀ w', Keep n w w' → (results fn tmps).run P w' = .ok v w' ∧ R (.returned v) w') → LeavesInM Fence.wide m P fn tmps R ds .returning w := by
  intro ds
  induction ds with
  | nil => intro w _ hR; exact ⟨v, (hR w (Keep.refl _ _)).1, (hR w (Keep.refl _ _)).2⟩
  | cons d ds ih =>
    intro w hm hR
    obtain ⟨Ds, h1, h2, h3⟩ := hm
    cases Ds with
    | nil => cases h1
    | cons D Ds =>
      simp only [List.map_cons, List.cons.injEq] at h1
      obtain ⟨rfl, rfl⟩ := h1
      have hD := h3 D (List.mem_cons_self ..)
      have hb : Keep n w (w.putObj D (.deferred none)) := Keep.turn hD.1 hD.2 rfl
      refine ⟨(by simp), .inl ⟨D, _, rfl, run_takeDeferred hD.2, ih _ ⟨Ds, rfl, (List.nodup_cons.1 h2).2, fun E hE => ⟨(h3 E (List.mem_cons_of_mem _ hE)).1, ?_⟩⟩ (fun w' hw' => hR w' (hb.trans hw'))⟩⟩
      have hne : E ≠ D := fun e => (List.nodup_cons.1 h2).1 (e ▸ hE)
      rw [World.putObj_heap_other hne]
      exact (h3 E (List.mem_cons_of_mem _ hE)).2
theorem Keep.cell {m : Nat} {A B : World} (h : Keep m A B) {p : Addr} {v : Value} (hc : A.cell? p = some v) : B.cell? p = some v := by
  have hlt := cell_lt hc
  obtain ⟨o, ho⟩ : ∃ o, A.heap[p.block]? = some o := ⟨_, Array.getElem?_eq_getElem hlt⟩
  have hr : isRec o = false := by
    cases o <;> simp [World.cell?, ho] at hc <;> rfl
  exact (World.cell?_of_block (w := A) ((h.2 _ _ ho hr).trans ho.symm)).trans hc
theorem Keep.frozen {m : Nat} {A B : World} (h : Keep m A B) {p : Addr} {v : Value} (hc : A.cell? p = some v) : B.frozen? p = A.frozen? p := by
  have hlt := cell_lt hc
  obtain ⟨o, ho⟩ : ∃ o, A.heap[p.block]? = some o := ⟨_, Array.getElem?_eq_getElem hlt⟩
  have hr : isRec o = false := by
    cases o <;> simp [World.cell?, ho] at hc <;> rfl
  exact World.frozen?_of_block (w := A) ((h.2 _ _ ho hr).trans ho.symm)
theorem BoolsAt.keep {m p n : Nat} {A B : World} {e : Int → Bool} (h : BoolsAt A p n e) (k : Keep m A B) : BoolsAt B p n e := fun i hi =>
  ⟨k.cell (h i hi).1, (k.frozen (h i hi).1).trans (h i hi).2⟩
theorem BoolsAt.own1 {m p n : Nat} {A B : World} {e : Int → Bool} (h : BoolsAt A p n e) (k : Own1 m A B) (hp : p ≠ m) : BoolsAt B p n e := fun i hi =>
  ⟨(World.cell?_of_block (w := A) (a := ⟨p, i, none⟩) (k.2 p (cell_lt (h i hi).1) hp)).trans (h i hi).1, (World.frozen?_of_block (w := A) (a := ⟨p, i, none⟩) (k.2 p (cell_lt (h i hi).1) hp)).trans (h i hi).2⟩

def Chg (B : Nat → Prop) (A C : World) : Prop := A.heap.size ≤ C.heap.size ∧ ∀ k, k < A.heap.size → ¬ B k → C.heap[k]? = A.heap[k]?
theorem Chg.refl (B : Nat → Prop) (A : World) : Chg B A A := ⟨Nat.le_refl _, fun _ _ _ => rfl⟩
theorem Chg.trans {B : Nat → Prop} {A C D : World} (h : Chg B A C) (k : Chg B C D) : Chg B A D :=
  ⟨Nat.le_trans h.1 k.1, fun i hi hb => (k.2 i (Nat.lt_of_lt_of_le hi h.1) hb).trans (h.2 i hi hb)⟩
theorem Chg.ext {B : Nat → Prop} {A C : World} (h : Ext A C) : Chg B A C := ⟨h.size, fun k hk _ => Below.block h k hk⟩
theorem Chg.setCell {B : Nat → Prop} {A : World} (p : Addr) (v : Value) (hb : B p.block) : Chg B A (A.setCell p v) :=
  ⟨by simp [World.setCell], fun k _ hk => Below.heap_setCell _ _ _ _ (fun e => hk (e ▸ hb))⟩
theorem Chg.app {B : Nat → Prop} {A C : World} {v v' : Value} (h : AppEnd A C v v') (hb : ∀ b, v.ownBlock = some b → B b) : Chg B A C := by
  rcases h with ⟨_, _, hg⟩ | ⟨_, he⟩
  · exact ⟨hg.size, fun k hk hn => hg.block k hk (fun e => hn (hb k e.symm))⟩
  · exact Chg.ext he
theorem Chg.kept {B X : Nat → Prop} {n : Nat} {A C : World} (h : Chg B A C) (hx : ∀ k, X k → k < A.heap.size → ¬ B k) : Kept X n A C :=
  ⟨h.1, fun k o hk ho _ => by
    have hl := (Array.getElem?_eq_some_iff.1 ho).1
    rw [h.2 k hl (hx k hk hl)]; exact ho⟩
theorem Chg.others {B : Nat → Prop} {A C : World} (h : Chg B A C) (hb : ∀ k, B k → ∀ o, A.heap[k]? = some o → o.isCells = true) : KeepsOthers A C :=
  ⟨h.1, fun k o ho hc => by
    have hl := (Array.getElem?_eq_some_iff.1 ho).1
    rw [h.2 k hl (fun hk => by rw [hb k hk o ho] at hc; cases hc)]; exact ho⟩
theorem isCells_of_cell {A : World} {p : Addr} {v : Value} (h : A.cell? p = some v) {o : Obj} (ho : A.heap[p.block]? = some o) : o.isCells = true := by
  cases o <;> simp [World.cell?, ho] at h <;> rfl
/-- the results of Ends lie in their cells -/
structure EndsOut (N : Nat) (f : Int → Bool) (rb eb m n0 : Nat) (w W : World) : Prop where
  be : Ext w W
  r : ∃ g c, W.cell? ⟨rb, 0, none⟩ = some (.slice (some ⟨g, 0, none⟩) N c) ∧ BoolsAt W g N f ∧ g ≠ m ∧ n0 ≤ g
  e : W.cell? ⟨eb, 0, none⟩ = some (.int .i64 0)
theorem ckSeq_zero {n : Int} {l : List Stp} (h : ckSeq (n, l) = 0) : 1 ≤ n ∧ n ≤ 6 ∧ 0 < l.length ∧ l.length ≤ 64 ∧ ckWalk n none6 l = 0 ∧ (ints n).any (behAll none6 l) = false ∧ (ints n).any (fun a => !movedIn a l) = false := by
  unfold ckSeq at h
  by_cases h1 : n < 1 ∨ 6 < n
  · rw [if_pos h1] at h; cases h
  · rw [if_neg h1] at h
    by_cases h2 : l.length = 0
    · rw [if_pos h2] at h; cases h
    · rw [if_neg h2] at h
      by_cases h3 : 64 < l.length
      · rw [if_pos h3] at h; cases h
      · rw [if_neg h3] at h
        dsimp only at h
        by_cases h4 : ckWalk n none6 l ≠ 0
        · rw [if_pos h4] at h; exact absurd h h4
        · rw [if_neg h4] at h
          cases h5 : (ints n).any (behAll none6 l)
          · rw [h5] at h
            cases h6 : (ints n).any (fun a => !movedIn a l)
            · refine ⟨by omega, by omega, by omega, by omega, by omega, rfl, rfl⟩
            · rw [h6] at h; cases h
          · rw [h5] at h; cases h

set_option maxHeartbeats 4000000 in
set_option maxRecDepth 100000 in
theorem Ends_any (N : Nat) (l : List Stp) (q : Nat) (a : Option Addr) (cap : Nat) (w : World) (hl : l.length ≤ maxLen) (hc : CellsP w a l) (hk : ckSeq ((N : Int), l) = 0) (hq : q ≤ l.length) :
    Calls Tryz.prog 46 #[.agg #[.int .i64 (N : Int), .slice a l.length cap], .int .i64 (q : Int)] w fun r w' => ∃ v, r = .returned (.tuple #[v, .int .i64 0]) ∧ BoolsPost N (behAll none6 (l.take q)) w (.returned v) w' := by
  have HC := Lib.hid hc
  have HL := Lib.hid hl
  have HCK := Lib.hid hk
  clear hc hk hl
  refine (callsIn_wide (n := 0)).1 ?_
  refine callsIn_of_wp_marks Tryz.func46 rfl trivial ?_
  simp only [Tryz.ntmps46, List.size_toArray, List.length_cons, List.length_nil, Nat.reduceAdd, Nat.reduceSub, Array.replicate_succ, Array.replicate_zero, List.push_toArray, List.append_toArray, List.nil_append, List.cons_append]
  gi_wp2_with fail
  refine ⟨trivial, rfl, ?_⟩
  gi_at_call 27
  have E1 : Ext w ((((w.alloc (.cells #[.int .i64 (N : Int), .slice a l.length cap] 24)).alloc (.cells #[.int .i64 (q : Int)] 3)).alloc (.cells #[.slice none 0 0] 79)).alloc (.cells #[.int .i64 0] 28)) := (by repeat (first | with_reducible exact Ext.refl _ | with_reducible assumption | with_reducible apply Ext.drewN | with_reducible apply Ext.drew | with_reducible apply Ext.alloc | ((with_reducible refine Ext.set ?_ ?_ _); rotate_left; first | omega | (simp; omega)) | (with_reducible refine Ext.trans ?_ (by with_reducible assumption))))
  have c0 : ((((w.alloc (.cells #[.int .i64 (N : Int), .slice a l.length cap] 24)).alloc (.cells #[.int .i64 (q : Int)] 3)).alloc (.cells #[.slice none 0 0] 79)).alloc (.cells #[.int .i64 0] 28)).cell? ⟨w.heap.size, 0, none⟩ = some (.int .i64 (N : Int)) := by go_simp
  have c1 : ((((w.alloc (.cells #[.int .i64 (N : Int), .slice a l.length cap] 24)).alloc (.cells #[.int .i64 (q : Int)] 3)).alloc (.cells #[.slice none 0 0] 79)).alloc (.cells #[.int .i64 0] 28)).cell? ⟨w.heap.size, 1, none⟩ = some (.slice a l.length cap) := by go_simp
  have c2 : ((((w.alloc (.cells #[.int .i64 (N : Int), .slice a l.length cap] 24)).alloc (.cells #[.int .i64 (q : Int)] 3)).alloc (.cells #[.slice none 0 0] 79)).alloc (.cells #[.int .i64 0] 28)).cell? ⟨w.heap.size + 1, 0, none⟩ = some (.int .i64 (q : Int)) := by go_simp
  have c3 : ((((w.alloc (.cells #[.int .i64 (N : Int), .slice a l.length cap] 24)).alloc (.cells #[.int .i64 (q : Int)] 3)).alloc (.cells #[.slice none 0 0] 79)).alloc (.cells #[.int .i64 0] 28)).cell? ⟨w.heap.size + 1 + 1, 0, none⟩ = some (.slice none 0 0) := by go_simp
  have c4 : ((((w.alloc (.cells #[.int .i64 (N : Int), .slice a l.length cap] 24)).alloc (.cells #[.int .i64 (q : Int)] 3)).alloc (.cells #[.slice none 0 0] 79)).alloc (.cells #[.int .i64 0] 28)).cell? ⟨w.heap.size + 1 + 1 + 1, 0, none⟩ = some (.int .i64 0) := by go_simp
  have d3 : ((((w.alloc (.cells #[.int .i64 (N : Int), .slice a l.length cap] 24)).alloc (.cells #[.int .i64 (q : Int)] 3)).alloc (.cells #[.slice none 0 0] 79)).alloc (.cells #[.int .i64 0] 28)).frozen? ⟨w.heap.size + 1 + 1, 0, none⟩ = false := by go_simp
  have d4 : ((((w.alloc (.cells #[.int .i64 (N : Int), .slice a l.length cap] 24)).alloc (.cells #[.int .i64 (q : Int)] 3)).alloc (.cells #[.slice none 0 0] 79)).alloc (.cells #[.int .i64 0] 28)).frozen? ⟨w.heap.size + 1 + 1 + 1, 0, none⟩ = false := by go_simp
  generalize ((((w.alloc (.cells #[.int .i64 (N : Int), .slice a l.length cap] 24)).alloc (.cells #[.int .i64 (q : Int)] 3)).alloc (.cells #[.slice none 0 0] 79)).alloc (.cells #[.int .i64 0] 28)) = W at E1 c0 c1 c2 c3 c4 d3 d4 ⊢
  refine (callsIn_wide.2 (Check_any (N : Int) l a cap _ HL.out (HC.out.ext E1))).mono ?_
  rintro e w1 ⟨rfl, hE⟩
  rw [HCK.out]
  have E2 := E1.trans hE
  have d3 := (Below.frozen (p := ⟨w.heap.size + 1 + 1, 0, none⟩) hE (cell_lt c3)).trans d3
  have d4 := (Below.frozen (p := ⟨w.heap.size + 1 + 1 + 1, 0, none⟩) hE (cell_lt c4)).trans d4
  have c0 := hE.cell c0
  have c1 := hE.cell c1
  have c2 := hE.cell c2
  have c3 := hE.cell c3
  have c4 := hE.cell c4
  clear hE E1
  gi_wp2_with fail
  refine ⟨trivial, rfl, ?_⟩
  gi_at_call 82
  refine (callsIn_wide.2 (along_any (N : Int) (.slice a l.length cap) _)).mono ?_
  rintro e w2 ⟨rfl, rfl⟩
  obtain ⟨hN1, hN6, hl0, hl64, hwk, _, _⟩ := ckSeq_zero HCK.out
  have hFine := ckWalk_fine hwk
  have E3 : Ext w1 (w1.alloc (.cells #[.int .i64 (N : Int), .slice a l.length cap] 24)) := (by repeat (first | with_reducible exact Ext.refl _ | with_reducible assumption | with_reducible apply Ext.drewN | with_reducible apply Ext.drew | with_reducible apply Ext.alloc | ((with_reducible refine Ext.set ?_ ?_ _); rotate_left; first | omega | (simp; omega)) | (with_reducible refine Ext.trans ?_ (by with_reducible assumption))))
  have s2 : (w1.alloc (.cells #[.int .i64 (N : Int), .slice a l.length cap] 24)).cell? ⟨w1.heap.size, 1, none⟩ = some (.slice a l.length cap) := by go_simp
  have d3 := (Below.frozen (p := ⟨w.heap.size + 1 + 1, 0, none⟩) E3 (cell_lt c3)).trans d3
  have d4 := (Below.frozen (p := ⟨w.heap.size + 1 + 1 + 1, 0, none⟩) E3 (cell_lt c4)).trans d4
  have z4 := cell_lt c4
  dsimp only at z4
  have c0 := E3.cell c0
  have c1 := E3.cell c1
  have c2 := E3.cell c2
  have c3 := E3.cell c3
  have c4 := E3.cell c4
  have E4 := E2.trans E3
  have zs := cell_lt s2
  dsimp only at zs
  gi_wp2
  obtain ⟨sb, hsb⟩ : ∃ sb, sb = w1.heap.size := ⟨_, rfl⟩
  rw [← hsb] at s2 zs z4 ⊢
  generalize w1.alloc (.cells #[.int .i64 (N : Int), .slice a l.length cap] 24) = w2 at *
  clear E3 E2 hsb
  refine wpIn_wide.2 ?_
  refine wp_range (n := 0) (gf := 111) (lb := #[.pointer (some ⟨sb, 0, none⟩)]) rfl (enters_of Tryz.func111 (by kernel_rfl) rfl)
    (along1_iter (N : Int) l a cap w w2 sb (fun k => k = w.heap.size + 1 + 1 ∨ k = w.heap.size + 1 + 1 + 1) hl64 hFine HC.out E4 s2 (by omega) (fun k hk => by omega)) (fun q => rfl)
    (fun A B h k o hk ho => by rw [Below.block h.1 k hk]; exact ho)
    (fun pre W => q ∉ pre ∧ Ext w2 W) (fun c pre W => c = .ret ∧ EndsOut N (behAll none6 (l.take q)) (w.heap.size + 1 + 1) (w.heap.size + 1 + 1 + 1) (w2.heap.size + 2) w.heap.size w W)
    (fun pre A B h k => ⟨h.1, h.2.trans' k.1 (by omega)⟩) ?hixr
    (fun pre A B h k => ⟨h.1, h.2.trans' k.1 (Nat.le_refl _)⟩) ?hixk
    ⟨by simp, Ext.refl _⟩
    (fun (x : Nat) a' W => ∃ qb, w2.heap.size + 2 ≤ qb ∧ EndsAt W qb (behAll none6 (l.take x)) ∧ a' = { tmps := #[.agg #[.int .i64 (N : Int), .slice a l.length cap], .int .i64 (q : Int), .pointer (some ⟨w.heap.size, 0, none⟩), .pointer (some ⟨w.heap.size + 1, 0, none⟩), .pointer (some ⟨w.heap.size + 1 + 1, 0, none⟩), .pointer (some ⟨w.heap.size + 1 + 1 + 1, 0, none⟩), .int .i64 0, .int .i64 (x : Int), .pointer (some ⟨qb, 0, none⟩), .agg #[.int .i64 (N : Int), .slice a l.length cap], .int .i64 0, .int .i64 0, .bool false, undef, .agg #[.int .i64 (N : Int), .slice a l.length cap], .func (.func 111) #[] #[.pointer (some ⟨sb, 0, none⟩)], .int .i64 (x : Int), endsV (behAll none6 (l.take x)), undef, undef, undef, undef, undef, undef, undef], defers := [] })
    ?hax ?assign ?body (fun pre A B h k => ⟨h.1, h.2.trans k⟩) ?done ?stop
  case hixr =>
    rintro c pre A B ⟨rfl, hbe, ⟨g, cc, r1, r2, r3, r4⟩, he⟩ k
    refine ⟨rfl, hbe.trans' k.1 (by omega), ⟨g, cc, (Below.cell k.1 (p := ⟨w.heap.size + 1 + 1, 0, none⟩) (by show w.heap.size + 1 + 1 < _; omega)).trans r1, r2.own1 k r3, r3, r4⟩, (Below.cell k.1 (p := ⟨w.heap.size + 1 + 1 + 1, 0, none⟩) (by show w.heap.size + 1 + 1 + 1 < _; omega)).trans he⟩
  case hixk =>
    rintro c pre A B ⟨rfl, hbe, ⟨g, cc, r1, r2, r3, r4⟩, he⟩ k
    exact ⟨rfl, hbe.trans' k.1 E4.size, ⟨g, cc, k.cell r1, r2.keep k, r3, r4⟩, k.cell he⟩
  case hax =>
    rintro x a' A B ⟨qb, h1, h2, h3⟩ k
    exact ⟨qb, h1, fun i hi => ⟨k.cell (h2 i hi).1, (k.frozen (h2 i hi).1).trans (h2 i hi).2⟩, h3⟩
  case assign =>
    intro y pre x W' K hm hI hK
    unfold alongEnc endsV
    gi_wp2
    exact hK _ _ ((Ext.refl _).alloc _) ⟨W'.heap.size, by omega, ends_new rfl _, rfl⟩
  case body =>
    rintro y pre x a' W' hpre hm hI ⟨qb, hqb, hEb, rfl⟩
    obtain ⟨hnin, EW⟩ := hI
    unfold endsV
    have c0 := EW.cell c0
    have c2 := EW.cell c2
    have c3 := EW.cell c3
    have c4 := EW.cell c4
    have d3 := (Below.frozen (p := ⟨w.heap.size + 1 + 1, 0, none⟩) EW (by show w.heap.size + 1 + 1 < _; omega)).trans d3
    have d4 := (Below.frozen (p := ⟨w.heap.size + 1 + 1 + 1, 0, none⟩) EW (by show w.heap.size + 1 + 1 + 1 < _; omega)).trans d4
    have HEB := Lib.hid hEb
    have HNI := Lib.hid hnin
    have HPRE := Lib.hid hpre
    have zqb : qb < W'.heap.size := cell_lt (hEb 0 (by omega)).1
    clear hEb hnin hpre hFine hwk s2 c1
    by_cases hx : x = q
    · subst hx
      have hxx : ((x : Int) == (x : Int)) = true := by simp
      have hsl := fun w' => sliceEnds qb (N : Int) (by omega) hN6 w'
      rw [Int.toNat_natCast] at hsl
      gi_wp2_with fail
      refine ⟨trivial, rfl, ?_⟩
      gi_at_call 83
      refine (callsIn_wide.2 (CloneB_any N (behAll none6 (l.take x)) qb 0 6 _ (by omega) (by omega) (HEB.out.cells (by omega)))).mono ?_
      rintro e w5 ⟨g, cc, rfl, hb, hg, hE⟩
      have F3 := hE.cell c3
      have F4 := hE.cell c4
      have G3 := (Below.frozen (p := ⟨w.heap.size + 1 + 1, 0, none⟩) hE (cell_lt c3)).trans d3
      have G4 := (Below.frozen (p := ⟨w.heap.size + 1 + 1 + 1, 0, none⟩) hE (cell_lt c4)).trans d4
      have HC3 := Lib.hid c3
      have HC4 := Lib.hid c4
      clear c0 c2 c3 c4 d3 d4
      have HBO := Lib.hid hb
      have hzg := hE.size
      have C : Chg (fun k => k = w.heap.size + 1 + 1 ∨ k = w.heap.size + 1 + 1 + 1) W' ((w5.setCell ⟨w.heap.size + 1 + 1, 0, none⟩ (.slice (some ⟨g, 0, none⟩) N cc)).setCell ⟨w.heap.size + 1 + 1 + 1, 0, none⟩ (.int .i64 0)) :=
        (Chg.ext hE).trans ((Chg.setCell (B := fun k => k = w.heap.size + 1 + 1 ∨ k = w.heap.size + 1 + 1 + 1) ⟨w.heap.size + 1 + 1, 0, none⟩ _ (.inl rfl)).trans (Chg.setCell (B := fun k => k = w.heap.size + 1 + 1 ∨ k = w.heap.size + 1 + 1 + 1) ⟨w.heap.size + 1 + 1 + 1, 0, none⟩ _ (.inr rfl)))
      have X1 : ((w5.setCell ⟨w.heap.size + 1 + 1, 0, none⟩ (.slice (some ⟨g, 0, none⟩) N cc)).setCell ⟨w.heap.size + 1 + 1 + 1, 0, none⟩ (.int .i64 0)).cell? ⟨w.heap.size + 1 + 1, 0, none⟩ = some (.slice (some ⟨g, 0, none⟩) N cc) := by
        rw [World.cell?_setCell_other _ _ _ _ (fun h => by simp only [Addr.mk.injEq] at h; omega), World.cell?_setCell_same _ _ _ F3]
      have X2 : ((w5.setCell ⟨w.heap.size + 1 + 1, 0, none⟩ (.slice (some ⟨g, 0, none⟩) N cc)).setCell ⟨w.heap.size + 1 + 1 + 1, 0, none⟩ (.int .i64 0)).cell? ⟨w.heap.size + 1 + 1 + 1, 0, none⟩ = some (.int .i64 0) := by
        rw [World.cell?_setCell_same _ _ (.int .i64 0) (by rw [World.cell?_setCell_other _ _ _ _ (fun h => by simp only [Addr.mk.injEq] at h; omega)]; exact F4)]
      have hw2 := EW.size
      have hw5 := E4.size
      have X3 : BoolsAt ((w5.setCell ⟨w.heap.size + 1 + 1, 0, none⟩ (.slice (some ⟨g, 0, none⟩) N cc)).setCell ⟨w.heap.size + 1 + 1 + 1, 0, none⟩ (.int .i64 0)) g N (behAll none6 (l.take x)) := fun i hi => by
        refine ⟨?_, by rw [World.frozen?_setCell, World.frozen?_setCell]; exact (HBO.out i hi).2⟩
        rw [World.cell?_setCell_other _ _ _ _ (fun h => by simp only [Addr.mk.injEq] at h; omega), World.cell?_setCell_other _ _ _ _ (fun h => by simp only [Addr.mk.injEq] at h; omega)]
        exact (HBO.out i hi).1
      have X4 : Ext w ((w5.setCell ⟨w.heap.size + 1 + 1, 0, none⟩ (.slice (some ⟨g, 0, none⟩) N cc)).setCell ⟨w.heap.size + 1 + 1 + 1, 0, none⟩ (.int .i64 0)) := ((((E4.trans EW).trans hE).set (b := w.heap.size + 1 + 1) (by omega) _).set (b := w.heap.size + 1 + 1 + 1) (by omega) _)
      have HC2 := Lib.hid C
      have HX1 := Lib.hid X1
      have HX2 := Lib.hid X2
      have HX3 := Lib.hid X3
      have HX4 := Lib.hid X4
      clear C X1 X2 X3 X4
      gi_wp2
      refine ⟨HC2.out.kept ?_, (HC2.out.others ?_).from _, rfl, HX4.out, ⟨g, cc, HX1.out, HX3.out, by omega, by omega⟩, HX2.out⟩
      · rintro k (⟨h1, h2⟩ | h1) _ hB
        · exact h2 hB
        · omega
      · rintro k (rfl | rfl) o ho
        · exact isCells_of_cell (p := ⟨w.heap.size + 1 + 1, 0, none⟩) HC3.out ho
        · exact isCells_of_cell (p := ⟨w.heap.size + 1 + 1 + 1, 0, none⟩) HC4.out ho
    · have hxx : ((x : Int) == (q : Int)) = false := by simp; omega
      have HX := Lib.hid hx
      clear hx
      gi_wp2
      refine ⟨Kept.refl _ _ _, (KeepsOthers.refl _).from _, ?_, EW⟩
      intro hmem
      rcases List.mem_append.1 hmem with h | h
      · exact HNI.out h
      · simp at h; exact HX.out h.symm
  case done =>
    rintro D W' h1 h2 ⟨h3, h4⟩ h5
    exact absurd (List.mem_range.2 (by omega)) h3
  case stop =>
    rintro D c pre W' h1 h2 hpre ⟨rfl, hbe, ⟨g, cc, r1, r2, r3, r4⟩, he⟩ hD
    refine (wpIn_wide (n := 0)).1 ?_
    gi_wp2
    refine leaves_cells (v := .tuple #[.slice (some ⟨g, 0, none⟩) N cc, .int .i64 0]) (n := w.heap.size) [mark D] W' ⟨[D], rfl, by simp, fun E hE => by simp at hE; subst hE; exact ⟨by have := E4.size; omega, hD⟩⟩ (fun W6 hk => ?_)
    have r1 := hk.cell r1
    have he := hk.cell he
    refine ⟨by rw [results_cell_cell rfl]; go_simp, _, rfl, g, cc, rfl, r2.keep hk, r4, hbe.trans' hk.1 (Nat.le_refl _)⟩
end Go.Proofs.YtnhbogmihnnpjaaGreat
/- variant.Pauses. -/
namespace Go.Proofs.YtnhbogmihnnpjaaGreat
open Go.RowKit

theorem infoInt : (Tryz.prog.info? 3).map (fun i => (i.zero, i.size, i.bytes)) = some (some (.int .i64 0), 1, 8) := by kernel_rfl
def OwnsI (w : World) (v : Value) (l : List Int) : Prop := w.ownsRow 0 3 1 v l.length (l.map (Value.int .i64))
theorem OwnsI.nil (w : World) : OwnsI w (.slice none 0 0) [] := World.ownsRow_nil w 0 _ _
theorem OwnsI.ext {A B : World} {v : Value} {l : List Int} (h : OwnsI A v l) (k : Ext A B) : OwnsI B v l := rowExt h k
theorem OwnsI.reads {A : World} {v : Value} {l : List Int} (h : OwnsI A v l) : ∃ a cap, v = .slice a l.length cap ∧ CellsI A a l ∧ l.length ≤ maxLen := by
  obtain ⟨a, cap, hv, hm, hr⟩ := rowReads h
  refine ⟨a, cap, hv, fun i hi => ?_, hm⟩
  obtain ⟨b, hb, _, h1, _⟩ := hr i (.int .i64 (l.getD i 0)) (by rw [List.getElem?_map, List.getElem?_eq_getElem hi, List.getD_eq_getElem?_getD, List.getElem?_eq_getElem hi]; rfl)
  exact ⟨b, 0, hb, by rw [Nat.zero_add]; exact h1⟩
theorem ownsI_succ {w : World} {v : Value} {l : List Int} {x : Int} (h : w.ownsRow 0 3 1 v (l.length + 1) (l.map (Value.int .i64) ++ [.int .i64 x])) : OwnsI w v (l ++ [x]) := by
  unfold OwnsI
  rw [List.length_append, List.length_singleton, List.map_append]
  exact h
/-- a list of ints and an error are returned -/
def IntsPost (l : List Int) (err : Int) (w : World) (e : Ending) (w' : World) : Prop := ∃ a cap, e = .returned (.tuple #[.slice a l.length cap, .int .i64 err]) ∧ CellsI w' a l ∧ l.length ≤ maxLen ∧ Ext w w'
theorem rests_hasB (N : Nat) (l : List Stp) (k : Nat) : hasB N (behAll none6 (l.take k)) true = !restsAt ((N : Int), l) k := by
  unfold hasB restsAt ints
  rw [List.all_map, List.not_all_eq_any_not]
  show _ = (List.range (Int.toNat (N : Int))).any _
  rw [Int.toNat_natCast]
  congr 1
  funext i
  show (_ == true) = !!_
  simp
def pausesK (s : Sq) (k : Nat) : List Int := (ints k).filter fun k => restsAt s k.toNat
theorem ints_succ (k : Nat) : ints ((k + 1 : Nat) : Int) = ints (k : Int) ++ [(k : Int)] := by
  unfold ints
  rw [Int.toNat_natCast, Int.toNat_natCast, List.range_succ, List.map_append]; rfl
theorem pausesK_succ (s : Sq) (k : Nat) : pausesK s (k + 1) = pausesK s k ++ if restsAt s k then [(k : Int)] else [] := by
  unfold pausesK
  rw [ints_succ, List.filter_append]
  congr 1
  cases h : restsAt s k <;> simp [h]
theorem pausesK_len (s : Sq) (k : Nat) : (pausesK s k).length ≤ k := by
  unfold pausesK
  refine Nat.le_trans (List.length_filter_le _ _) ?_
  simp [ints]

set_option maxHeartbeats 4000000 in
set_option maxRecDepth 100000 in
theorem Pauses_any (n : Int) (l : List Stp) (a : Option Addr) (cap : Nat) (w : World) (hl : l.length ≤ maxLen) (hc : CellsP w a l) :
    Calls Tryz.prog 13 #[.agg #[.int .i64 n, .slice a l.length cap]] w (IntsPost (if ckSeq (n, l) = 0 then pauses (n, l) else []) (ckSeq (n, l)) w) := by
  have HC := Lib.hid hc
  have HL := Lib.hid hl
  clear hc hl
  by_cases hk : ckSeq (n, l) = 0
  · obtain ⟨hN1, hN6, hl0, hl64, hwk, _, _⟩ := ckSeq_zero hk
    obtain ⟨N, rfl⟩ := Int.eq_ofNat_of_zero_le (show 0 ≤ n by omega)
    rw [if_pos hk]
    have HCK := Lib.hid hk
    clear hk hwk
    obtain ⟨i0, hi, hi0, hi1, hi2⟩ := info_parts infoInt
    go_enter Tryz.func13, Tryz.ntmps13
    go_wp2_with fail
    have E1 : Ext w (w.alloc (.cells #[.int .i64 (N : Int), .slice a l.length cap] 24)) := (by repeat (first | with_reducible exact Ext.refl _ | with_reducible assumption | with_reducible apply Ext.drewN | with_reducible apply Ext.drew | with_reducible apply Ext.alloc | ((with_reducible refine Ext.set ?_ ?_ _); rotate_left; first | omega | (simp; omega)) | (with_reducible refine Ext.trans ?_ (by with_reducible assumption))))
    have c0 : (w.alloc (.cells #[.int .i64 (N : Int), .slice a l.length cap] 24)).cell? ⟨w.heap.size, 0, none⟩ = some (.int .i64 (N : Int)) := by go_simp
    have c1 : (w.alloc (.cells #[.int .i64 (N : Int), .slice a l.length cap] 24)).cell? ⟨w.heap.size, 1, none⟩ = some (.slice a l.length cap) := by go_simp
    generalize w.alloc (.cells #[.int .i64 (N : Int), .slice a l.length cap] 24) = W at E1 c0 c1 ⊢
    refine (Check_any (N : Int) l a cap _ HL.out (HC.out.ext E1)).mono ?_
    rintro e w1 ⟨rfl, hE⟩
    rw [HCK.out]
    have E2 := E1.trans hE
    have c0 := hE.cell c0
    have c1 := hE.cell c1
    clear hE E1
    go_wp2
    have zw : w.heap.size < w1.heap.size := cell_lt c0
    go_loopw [17, 5] (fun i v wr => ∃ k : Nat, k ≤ l.length ∧ i = .int .i64 k ∧ (∃ vv, v = vv ∧ Hid (OwnsI wr vv (pausesK ((N : Int), l) k) ∧ ∀ b, vv.ownBlock = some b → w1.heap.size ≤ b)) ∧ Ext w1 wr) (fun i _ _ => l.length - (intOf i).toNat)
    case atStart => exact ⟨0, Nat.zero_le _, rfl, ⟨_, rfl, OwnsI.nil _, fun b hb => by cases hb⟩, Ext.refl _⟩
    case round =>
      obtain ⟨k, hkl, rfl, ⟨vv, hvv, hO⟩, he⟩ := hrel
      obtain rfl := hvv.symm
      have d0 := he.cell c0
      have d1 := he.cell c1
      by_cases hlt : k < l.length
      · have hq := pausesK_len ((N : Int), l) k
        have hsz := he.size
        go_wp2_with fail
        refine (Ends_any N l k a cap _ HL.out (HC.out.ext (E2.trans he)) HCK.out hkl).mono ?_
        rintro e w2 ⟨_, rfl, g, cc, hv, hb, hg, hE2⟩
        injection hv with hv
        subst hv
        have F2 := he.trans hE2
        have O2 := Lib.hid (hO.out.1.ext hE2)
        have OB := Lib.hid hO.out.2
        have HBO := Lib.hid hb.cells
        have hsz2 := hE2.size
        clear hb hO
        cases hr : restsAt ((N : Int), l) k
        · have HR : Hid (pausesK ((N : Int), l) (k + 1) = pausesK ((N : Int), l) k) := by show _ = _; rw [pausesK_succ, hr]; simp
          have HH : Hid (hasB N (behAll none6 (l.take k)) true = true) := by show _ = _; rw [rests_hasB, hr]; rfl
          clear hr
          go_wp2_with fail
          refine (ContainsB_any N (behAll none6 (l.take k)) true _ cc _ (by unfold maxLen; omega) HBO.out).mono ?_
          rintro e w3 ⟨rfl, rfl⟩
          rw [HH.out]
          go_wp2
          refine ⟨⟨k + 1, by omega, by go_num, ⟨vv, rfl, by rw [HR.out]; exact O2.out, OB.out⟩, F2⟩, by simp [intOf]; omega⟩
        · have HR : Hid (pausesK ((N : Int), l) (k + 1) = pausesK ((N : Int), l) k ++ [(k : Int)]) := by show _ = _; rw [pausesK_succ, hr]; simp
          have HH : Hid (hasB N (behAll none6 (l.take k)) true = false) := by show _ = _; rw [rests_hasB, hr]; rfl
          clear hr
          generalize hP : pausesK ((N : Int), l) k = P at HR O2 hq
          clear hP
          go_wp2_with fail
          refine (ContainsB_any N (behAll none6 (l.take k)) true _ cc _ (by unfold maxLen; omega) HBO.out).mono ?_
          rintro e w3 ⟨rfl, rfl⟩
          rw [HH.out]
          go_wp2_with (at_builtin; refine wpList_append1 _ rfl _ _ 27 rfl 3 i0 (.int .i64 0) 1 8 Tryz.underlying27 hi hi0 hi1 hi2 rfl (by decide) vv P.length (P.map (Value.int .i64)) rfl ?ho ⟨w2.heap.size, 0, none⟩ 1 1 (by decide) [.int .i64 (k : Int)] rfl rfl ?hn ?c1 ?c2 ?c3 ?c4)
          case ho => exact O2.out.ext ((Ext.refl _).alloc _)
          case hn => exact cells_one _ _ _
          case c1 => intro u hu; simp at hu; subst hu; rfl
          case c2 => unfold maxLen; omega
          case c3 => omega
          case c4 =>
            intro v' w5 hown5 hend5
            have O5 : Hid (OwnsI w5 v' (pausesK ((N : Int), l) (k + 1))) := by show OwnsI _ _ _; rw [HR.out]; exact ownsI_succ hown5
            have B5 : Ext w1 w5 := (F2.trans ((Ext.refl _).alloc _)).trans' (hend5.below (n := w1.heap.size) (by simp; omega) OB.out) (Nat.le_refl _)
            have OB5 : Hid (∀ b, v'.ownBlock = some b → w1.heap.size ≤ b) := hend5.ge (n := w1.heap.size) (by simp; omega) OB.out
            clear hown5 hend5 O2 OB
            go_wp2
            refine ⟨⟨k + 1, by omega, by go_num, ⟨v', rfl, O5.out, OB5.out⟩, B5⟩, by simp [intOf]; omega⟩
      · have hke : k = l.length := by omega
        subst hke
        go_wp2
        go_ret2
        obtain ⟨ra, rc, hrv, hrc, hrl⟩ := hO.out.1.reads
        rw [HCK.out]
        exact ⟨ra, rc, by rw [hrv]; rfl, hrc, hrl, E2.trans he⟩
  · rw [if_neg hk]
    have hk' : (ckSeq (n, l) != 0) = true := by simp [hk]
    clear hk
    generalize hx : ckSeq (n, l) = x at hk'
    have HX := Lib.hid hx
    clear hx
    go_enter Tryz.func13, Tryz.ntmps13
    go_wp2_with fail
    have E1 : Ext w (w.alloc (.cells #[.int .i64 n, .slice a l.length cap] 24)) := (by repeat (first | with_reducible exact Ext.refl _ | with_reducible assumption | with_reducible apply Ext.drewN | with_reducible apply Ext.drew | with_reducible apply Ext.alloc | ((with_reducible refine Ext.set ?_ ?_ _); rotate_left; first | omega | (simp; omega)) | (with_reducible refine Ext.trans ?_ (by with_reducible assumption))))
    refine (Check_any n l a cap _ HL.out (HC.out.ext E1)).mono ?_
    rintro e w1 ⟨rfl, hE⟩
    rw [HX.out]
    go_wp2
    go_ret2
    exact ⟨none, 0, rfl, CellsI.nil _ _, by simp, E1.trans hE⟩
end Go.Proofs.YtnhbogmihnnpjaaGreat
/- The reference's Cut: the pieces of a text. -/
namespace Go.Proofs.YtnhbogmihnnpjaaGreat
open Go.RowKit

/-- the pieces of s between by, from offset i on; the piece at hand begins at f -/
def cutGo (s by' : ByteArray) : Nat → Nat → Nat → List ByteArray
  | 0, _, f => [s.extract f s.size]
  | n + 1, i, f => if i + by'.size ≤ s.size then
      (if f ≤ i then (if (s.extract i (i + by'.size)).toList == by'.toList then s.extract f i :: cutGo s by' n (i + 1) (i + by'.size) else cutGo s by' n (i + 1) f) else cutGo s by' n (i + 1) f)
      else [s.extract f s.size]
def cutS (s by' : ByteArray) : List ByteArray := cutGo s by' (s.size + 1) 0 0
theorem infoStr : (Tryz.prog.info? 9).map (fun i => (i.zero, i.size, i.bytes)) = some (some (.string ByteArray.empty), 1, 16) := by kernel_rfl
def OwnsS (w : World) (v : Value) (l : List ByteArray) : Prop := w.ownsRow 0 9 1 v l.length (l.map Value.string)
theorem OwnsS.nil (w : World) : OwnsS w (.slice none 0 0) [] := World.ownsRow_nil w 0 _ _
theorem OwnsS.ext {A B : World} {v : Value} {l : List ByteArray} (h : OwnsS A v l) (k : Ext A B) : OwnsS B v l := rowExt h k
def str0 : ByteArray := ByteArray.empty
/-- texts in memory -/
def CellsS (w : World) (a : Option Addr) (l : List ByteArray) : Prop := ∀ i, i < l.length → ∃ b off, a = some ⟨b, off, none⟩ ∧ w.cell? ⟨b, off + i, none⟩ = some (.string (l.getD i str0))
theorem CellsS.ext {w w' : World} {a : Option Addr} {l : List ByteArray} (h : CellsS w a l) (he : Ext w w') : CellsS w' a l := fun i hi => by
  obtain ⟨b, off, h1, h2⟩ := h i hi
  exact ⟨b, off, h1, he.cell h2⟩
theorem OwnsS.reads {A : World} {v : Value} {l : List ByteArray} (h : OwnsS A v l) : ∃ a cap, v = .slice a l.length cap ∧ CellsS A a l ∧ l.length ≤ maxLen ∧ ∀ b off, a = some ⟨b, off, none⟩ → l ≠ [] → v.ownBlock = some b := by
  obtain ⟨a, cap, hv, hm, hr⟩ := rowReads h
  refine ⟨a, cap, hv, fun i hi => ?_, hm, fun b off hb hne => ?_⟩
  rotate_left
  · have h0 : 0 < l.length := List.length_pos_iff.2 hne
    obtain ⟨b', hb', h3, _, _⟩ := hr 0 (.string (l.getD 0 str0)) (by rw [List.getElem?_map, List.getD_eq_getElem?_getD, List.getElem?_eq_getElem h0]; rfl)
    rw [hb] at hb'
    cases hb'
    exact h3
  obtain ⟨b, hb, _, h1, _⟩ := hr i (.string (l.getD i str0)) (by rw [List.getElem?_map, List.getD_eq_getElem?_getD, List.getElem?_eq_getElem hi]; rfl)
  exact ⟨b, 0, hb, by rw [Nat.zero_add]; exact h1⟩
theorem ownsS_succ {w : World} {v : Value} {l : List ByteArray} {x : ByteArray} (h : w.ownsRow 0 9 1 v (l.length + 1) (l.map Value.string ++ [.string x])) : OwnsS w v (l ++ [x]) := by
  unfold OwnsS
  rw [List.length_append, List.map_append]; exact h
/-- a list of texts of the call's own is returned -/
def StrsPost (l : List ByteArray) (w : World) (e : Ending) (w' : World) : Prop := ∃ a c, e = .returned (.slice a l.length c) ∧ CellsS w' a l ∧ l.length ≤ maxLen ∧ (∀ b off, a = some ⟨b, off, none⟩ → l ≠ [] → w.heap.size ≤ b) ∧ Ext w w'

set_option maxHeartbeats 4000000 in
set_option maxRecDepth 100000 in
theorem Cut_any (s by' : ByteArray) (w : World) (hs : s.size ≤ 5000) (h0 : 0 < by'.size) (hb : by'.size ≤ 10) :
    Calls Tryz.prog 123 #[.string s, .string by'] w (StrsPost (cutS s by') w) := by
  obtain ⟨L, hL⟩ : ∃ L, L = cutS s by' := ⟨_, rfl⟩
  rw [← hL]
  have HL : Hid (cutGo s by' (s.size + 1) 0 0 = L) := hL.symm
  clear hL
  obtain ⟨i0, hi, hi0, hi1, hi2⟩ := info_parts infoStr
  go_enter Tryz.func123, Tryz.ntmps123
  go_wp2
  go_loopw [7, 5, 6] (fun i v fr wr => ∃ k f : Nat, k ≤ s.size ∧ f ≤ s.size ∧ i = .int .i64 k ∧ fr = .int .i64 f ∧ (∃ vv, v = vv ∧ ∃ P : List ByteArray, P.length ≤ k ∧ Hid (P ++ cutGo s by' (s.size - k + 1) k f = L) ∧ Hid (OwnsS wr vv P ∧ ∀ b, vv.ownBlock = some b → w.heap.size ≤ b)) ∧ Ext w wr) (fun i _ _ _ => s.size + 1 - (intOf i).toNat)
  case atStart => exact ⟨0, 0, by omega, by omega, rfl, rfl, ⟨_, rfl, [], by simp, HL, OwnsS.nil _, fun b hb => by cases hb⟩, Ext.refl _⟩
  case round =>
    obtain ⟨k, f, hk, hf, rfl, rfl, ⟨vv, hvv, P, hP, hz, hO⟩, he⟩ := hrel
    obtain rfl := hvv.symm
    have hsz := he.size
    have hz1 := hz.out
    unfold cutGo at hz1
    clear hz HL
    have hw1 : IntKind.i64.wrap ((k : Int) + (by'.size : Int)) = (k : Int) + (by'.size : Int) := IntWalk.i64_in _ (by omega)
    have hf2 : (f : Int) ≤ (s.size : Int) := by omega
    have hf3 : (0 : Int) ≤ (f : Int) := by omega
    have O2 := Lib.hid hO.out.1
    have OB := Lib.hid hO.out.2
    clear hO
    by_cases hle : k + by'.size ≤ s.size
    · have hle2 : (k : Int) + (by'.size : Int) ≤ (s.size : Int) := by omega
      have hfu : s.size - k = s.size - (k + 1) + 1 := by omega
      rw [if_pos hle, hfu] at hz1
      have ht2 : ((k : Int) + (by'.size : Int)).toNat = k + by'.size := by omega
      have hp2 : (0 : Int) ≤ (k : Int) + (by'.size : Int) := by omega
      have hp3 : (k : Int) ≤ (k : Int) + (by'.size : Int) := by omega
      by_cases hfk : f ≤ k
      · have hfk2 : (f : Int) ≤ (k : Int) := by omega
        rw [if_pos hfk] at hz1
        cases hq : ((s.extract k (k + by'.size)).toList == by'.toList)
        · rw [hq] at hz1
          simp only [Bool.false_eq_true, if_false] at hz1
          have HZ := Lib.hid hz1
          clear hz1
          go_wp2
          refine ⟨⟨k + 1, f, by omega, hf, by go_num, rfl, ⟨_, rfl, P, by omega, HZ, ⟨O2.out, OB.out⟩⟩, he⟩, by simp [intOf]; omega⟩
        · rw [hq] at hz1
          simp only [if_true] at hz1
          have HZ : Hid ((P ++ [s.extract f k]) ++ cutGo s by' (s.size - (k + 1) + 1) (k + 1) (k + by'.size) = L) := by show _ = _; rw [List.append_assoc]; exact hz1
          clear hz1
          have hks : (k : Int) ≤ (s.size : Int) := by omega
          go_wp2_with (at_builtin; refine wpList_append1 _ rfl _ _ 152 rfl 9 i0 (.string ByteArray.empty) 1 16 Tryz.underlying152 hi hi0 hi1 hi2 rfl (by decide) vv P.length (P.map Value.string) rfl ?ho ⟨wr.heap.size, 0, none⟩ 1 1 (by decide) [.string (s.extract f k)] rfl rfl ?hn ?c1 ?c2 ?c3 ?c4)
          case ho => exact O2.out.ext ((Ext.refl _).alloc _)
          case c1 => rfl
          case c2 => unfold maxLen; omega
          case c3 => omega
          case c4 =>
            intro v' w5 hown5 hend5
            have O5 : Hid (OwnsS w5 v' (P ++ [s.extract f k])) := ownsS_succ hown5
            have B5 : Ext w w5 := (he.trans ((Ext.refl _).alloc _)).trans' (hend5.below (n := w.heap.size) (by simp; omega) OB.out) (Nat.le_refl _)
            have OB5 : Hid (∀ b, v'.ownBlock = some b → w.heap.size ≤ b) := hend5.ge (n := w.heap.size) (by simp; omega) OB.out
            clear hown5 hend5 O2 OB
            go_wp2
            refine ⟨⟨k + 1, k + by'.size, by omega, by omega, by go_num, by go_num, ⟨v', rfl, P ++ [s.extract f k], by rw [List.length_append]; simp; omega, HZ, ⟨O5.out, OB5.out⟩⟩, B5⟩, by simp [intOf]; omega⟩
      · have hfk2 : ¬ ((f : Int) ≤ (k : Int)) := by omega
        rw [if_neg hfk] at hz1
        have HZ := Lib.hid hz1
        clear hz1
        go_wp2
        refine ⟨⟨k + 1, f, by omega, hf, by go_num, rfl, ⟨_, rfl, P, by omega, HZ, ⟨O2.out, OB.out⟩⟩, he⟩, by simp [intOf]; omega⟩
    · have hle2 : ¬ ((k : Int) + (by'.size : Int) ≤ (s.size : Int)) := by omega
      rw [if_neg hle] at hz1
      have HZ := Lib.hid hz1
      clear hz1
      go_wp2_with (at_builtin; refine wpList_append1 _ rfl _ _ 152 rfl 9 i0 (.string ByteArray.empty) 1 16 Tryz.underlying152 hi hi0 hi1 hi2 rfl (by decide) vv P.length (P.map Value.string) rfl ?ko ⟨wr.heap.size, 0, none⟩ 1 1 (by decide) [.string (s.extract f s.size)] rfl rfl ?kn ?k1 ?k2 ?k3 ?k4)
      case ko => exact O2.out.ext ((Ext.refl _).alloc _)
      case k1 => rfl
      case k2 => unfold maxLen; omega
      case k3 => omega
      case k4 =>
        intro v' w5 hown5 hend5
        have O5 : Hid (OwnsS w5 v' L) := by show OwnsS _ _ _; rw [← HZ.out]; exact ownsS_succ hown5
        have B5 : Ext w w5 := (he.trans ((Ext.refl _).alloc _)).trans' (hend5.below (n := w.heap.size) (by simp; omega) OB.out) (Nat.le_refl _)
        have OB5 : Hid (∀ b, v'.ownBlock = some b → w.heap.size ≤ b) := hend5.ge (n := w.heap.size) (by simp; omega) OB.out
        clear hown5 hend5 O2 OB
        obtain ⟨ra, rc, rfl, hrc, hrl, hrb⟩ := O5.out.reads
        have HRC := Lib.hid hrc
        have HRB := Lib.hid hrb
        clear hrc hrb
        go_wp2
        go_ret
        exact ⟨ra, rc, rfl, HRC.out, hrl, (fun b off hb hne => OB5.out b (HRB.out b off hb hne)), B5⟩
end Go.Proofs.YtnhbogmihnnpjaaGreat
/- Strokes in slices of one's own. -/
namespace Go.Proofs.YtnhbogmihnnpjaaGreat
open Go.RowKit

theorem infoStk : (Tryz.prog.info? 73).map (fun i => (i.zero, i.size, i.bytes)) = some (some (.agg #[.int .i64 0, .bool false]), 2, 16) := by kernel_rfl
theorem infoStp : (Tryz.prog.info? 87).map (fun i => (i.zero, i.size, i.bytes)) = some (some (.agg #[.slice none 0 0, .int .i64 0]), 2, 32) := by kernel_rfl
def pairK (l : List Stk) : List (Value × Value) := l.map fun y => (.int .i64 y.1, .bool y.2)
def flatK (l : List Stk) : List Value := flat2 (pairK l)
theorem flatK_length (l : List Stk) : (flatK l).length = l.length * 2 := by unfold flatK; rw [flat2_length]; simp [pairK]
theorem flatK_append (l m : List Stk) : flatK (l ++ m) = flatK l ++ flatK m := by unfold flatK pairK; rw [List.map_append, flat2_append]
theorem flatK_get (l : List Stk) (i : Nat) (h : i < l.length) : (flatK l)[i * 2]? = some (.int .i64 (l.getD i stk0).1) ∧ (flatK l)[i * 2 + 1]? = some (.bool (l.getD i stk0).2) := by
  have := flat2_get (pairK l) i (by simpa [pairK] using h)
  unfold flatK
  rw [this.1, this.2]
  simp [pairK, List.getD, h]
theorem flat2_two {l : List (Value × Value)} {j : Nat} {u : Value} (h : (flat2 l)[j]? = some u) : ∃ i, ∃ hi : i < l.length, (j = i * 2 ∧ u = l[i].1) ∨ (j = i * 2 + 1 ∧ u = l[i].2) := by
  have hj := (List.getElem?_eq_some_iff.1 h).1
  rw [flat2_length] at hj
  have hi : j / 2 < l.length := by omega
  have hg := flat2_get l (j / 2) hi
  refine ⟨j / 2, hi, ?_⟩
  rcases Nat.mod_two_eq_zero_or_one j with h0 | h0
  · have e : j / 2 * 2 = j := by omega
    rw [e] at hg
    exact .inl ⟨e.symm, by rw [hg.1] at h; exact (Option.some.inj h).symm⟩
  · have e : j / 2 * 2 + 1 = j := by omega
    rw [e] at hg
    exact .inr ⟨e.symm, by rw [hg.2] at h; exact (Option.some.inj h).symm⟩
theorem flatK_one (l : List Stk) : ∀ u ∈ flatK l, u.oneCell' = true := by
  intro u hu
  obtain ⟨j, hj, e⟩ := List.mem_iff_getElem.1 hu
  obtain ⟨i, hi, ⟨_, h⟩ | ⟨_, h⟩⟩ := flat2_two (l := pairK l) (j := j) (u := u) (by rw [← e]; exact List.getElem?_eq_getElem hj)
  · rw [h]; simp only [pairK, List.getElem_map]; rfl
  · rw [h]; simp only [pairK, List.getElem_map]; rfl
theorem CellsK.flat {w : World} {b off : Nat} {l : List Stk} (h : CellsK w (some ⟨b, off, none⟩) l) (j : Nat) (u : Value) (hu : (flatK l)[j]? = some u) : w.cell? ((⟨b, off, none⟩ : Addr).add j) = some u := by
  obtain ⟨i, hi, hh⟩ := flat2_two hu
  have hi' : i < l.length := by simpa [pairK] using hi
  obtain ⟨b', off', hb, h1, h2⟩ := h i hi'
  cases hb
  rw [Addr.add_lit]
  rcases hh with ⟨rfl, rfl⟩ | ⟨rfl, rfl⟩
  · rw [h1]; simp [pairK, List.getD, hi']
  · rw [← Nat.add_assoc, h2]; simp [pairK, List.getD, hi']
/-- the slice value v owns the strokes l -/
def OwnsK (w : World) (v : Value) (l : List Stk) : Prop := w.ownsRow 0 73 2 v l.length (flatK l)
theorem OwnsK.nil (w : World) : OwnsK w (.slice none 0 0) [] := World.ownsRow_nil w 0 _ _
theorem OwnsK.ext {A B : World} {v : Value} {l : List Stk} (h : OwnsK A v l) (k : Ext A B) : OwnsK B v l := rowExt h k
theorem OwnsK.reads {A : World} {v : Value} {l : List Stk} (h : OwnsK A v l) : ∃ a cap, v = .slice a l.length cap ∧ CellsK A a l ∧ l.length ≤ maxLen ∧ (∀ b off, a = some ⟨b, off, none⟩ → l ≠ [] → off = 0 ∧ v.ownBlock = some b ∧ ∀ i, i < l.length → A.frozen? ⟨b, i * 2, none⟩ = false ∧ A.frozen? ⟨b, i * 2 + 1, none⟩ = false) := by
  obtain ⟨a, cap, hv, hm, hr⟩ := rowReads h
  refine ⟨a, cap, hv, fun i hi => ?_, hm, fun b off hb hne => ?_⟩
  · obtain ⟨b, hb, _, h1, _⟩ := hr _ _ (flatK_get l i hi).1
    obtain ⟨b', hb', _, h2, _⟩ := hr _ _ (flatK_get l i hi).2
    rw [hb] at hb'
    cases hb'
    exact ⟨b, 0, hb, by rw [Nat.zero_add]; exact h1, by rw [Nat.zero_add]; exact h2⟩
  · have h0 : 0 < l.length := List.length_pos_iff.2 hne
    obtain ⟨b', hb', h3, _, _⟩ := hr _ _ (flatK_get l 0 h0).1
    rw [hb] at hb'
    cases hb'
    refine ⟨rfl, h3, fun i hi => ?_⟩
    obtain ⟨b1, e1, _, _, f1⟩ := hr _ _ (flatK_get l i hi).1
    obtain ⟨b2, e2, _, _, f2⟩ := hr _ _ (flatK_get l i hi).2
    rw [hb] at e1 e2
    cases e1
    cases e2
    exact ⟨f1, f2⟩
theorem OwnsK.slice {A : World} {v : Value} {l : List Stk} (h : OwnsK A v l) : SliceK A v l := by
  obtain ⟨a, cap, h1, h2, h3, _⟩ := h.reads
  exact ⟨a, cap, h1, h2, h3⟩
/-- strokes of the call's own are returned -/
def StksPost (l : List Stk) (w : World) (e : Ending) (w' : World) : Prop := ∃ v, e = .returned v ∧ OwnsK w' v l ∧ (∀ b, v.ownBlock = some b → w.heap.size ≤ b) ∧ Ext w w'

set_option maxHeartbeats 2000000 in
set_option maxRecDepth 100000 in
theorem CloneK_any (l : List Stk) (eb eo ec : Nat) (w : World) (hn : l.length ≤ 40) (h0 : 0 < l.length) (he : CellsK w (some ⟨eb, eo, none⟩) l) :
    Calls Tryz.prog 99 #[.slice (some ⟨eb, eo, none⟩) l.length ec] w (StksPost l w) := by
  have HE := Lib.hid he
  clear he
  obtain ⟨i0, hi, hi0, hi1, hi2⟩ := info_parts infoStk
  have heq : ∀ w' : World, (binOp .eql 66 (.slice (some ⟨eb, eo, none⟩) l.length ec) (.slice none 0 0)).run Tryz.prog w' = .ok (.bool false) w' := fun w' => Lib.run_eql_slice_nil (P := Tryz.prog) w' 66 73 (some ⟨eb, eo, none⟩) l.length ec 0 0 Tryz.underlying66
  go_enter Tryz.func99, Tryz.ntmps99
  have E1 : Ext w (w.alloc (.cells #[] 73)) := (by repeat (first | with_reducible exact Ext.refl _ | with_reducible assumption | with_reducible apply Ext.drewN | with_reducible apply Ext.drew | with_reducible apply Ext.alloc | ((with_reducible refine Ext.set ?_ ?_ _); rotate_left; first | omega | (simp; omega)) | (with_reducible refine Ext.trans ?_ (by with_reducible assumption))))
  have hown : (w.alloc (.cells #[] 73)).ownsRow 0 73 2 (.slice (some ⟨w.heap.size, 0, none⟩) 0 0) 0 [] :=
    World.ownsRow_made (w := w) (base := 0) (e := 73) (size := 2) #[] 0 (Nat.zero_le _) (Nat.zero_le _) rfl
  have ez : (w.alloc (.cells #[] 73)).heap.size = w.heap.size + 1 := by simp
  go_wp2_with (at_builtin; refine wpList_append1 _ rfl _ _ 66 rfl 73 i0 (.agg #[.int .i64 0, .bool false]) 2 16 Tryz.underlying66 hi hi0 hi1 hi2 rfl (by decide) (.slice (some ⟨w.heap.size, 0, none⟩) 0 0) 0 [] rfl hown ⟨eb, eo, none⟩ l.length ec h0 (flatK l) rfl ?c0 ?c1 ?c2 ?c3 ?c4 ?c5)
  case c0 => exact flatK_length l
  case c1 => exact (HE.out.ext E1).flat
  case c2 => exact flatK_one l
  case c3 => unfold maxLen; omega
  case c4 => omega
  case c5 =>
    intro v' w5 hown5 hend5
    have O5 : Hid (OwnsK w5 v' l) := by
      show OwnsK _ _ _
      unfold OwnsK
      simpa using hown5
    have F5 : Ext w w5 := E1.trans' (hend5.below (n := w.heap.size) (by rw [ez]; omega) (fun b hb => by cases hb; exact Nat.le_refl _)) (Nat.le_refl _)
    have G5 : Hid (∀ b, v'.ownBlock = some b → w.heap.size ≤ b) := hend5.ge (n := w.heap.size) (by rw [ez]; omega) (fun b hb => by cases hb; exact Nat.le_refl _)
    clear hown5 hend5 hown E1 ez
    go_wp2
    go_ret
    exact ⟨_, rfl, O5.out, G5.out, F5⟩
end Go.Proofs.YtnhbogmihnnpjaaGreat
/- The texts of sequences in plain terms: Cut, read, Number, Step, Parse, Of. -/
namespace Go.Proofs.YtnhbogmihnnpjaaGreat
open Go.RowKit

abbrev Bts := List UInt8
/-- the text of a stroke -/
def wrB (x : Int) (o : Bool) : Bts := [(65 + x.toNat).toUInt8, if o then 43 else 45]
def allStk : List Stk := [(0, false), (0, true), (1, false), (1, true), (2, false), (2, true), (3, false), (3, true), (4, false), (4, true), (5, false), (5, true)]
/-- the stroke of a word -/
def readL (s : Bts) : Option Stk := allStk.find? fun x => wrB x.1 x.2 == s
def numGo : Bts → Int → Option Int
  | [], n => some n
  | c :: l, n => if c < 48 ∨ 57 < c then none else numGo l (10 * n + ((c.toNat : Int) - 48))
/-- a number of at least two digits (the examples have no other) -/
def numL (s : Bts) : Option Int := if s.length < 2 ∨ 7 < s.length ∨ s.getD 0 0 = 48 then none else numGo s 0
/-- the step of words; the strokes before -/
def stepW : List Bts → List Stk → Option Stp
  | [], P => some (P, 0)
  | y :: ys, P => match readL y with
    | some x => stepW ys (P ++ [x])
    | none => if ys.length = 0 ∧ P.length ≠ 0 then (match numL y with | some n => if n = 0 then none else some (P, n) | none => none) else none
def cutL (s b : Bts) : Nat → Nat → Nat → List Bts
  | 0, _, f => [(s.drop f).take (s.length - f)]
  | n + 1, i, f => if i + b.length ≤ s.length then
      (if f ≤ i then (if ((s.drop i).take b.length == b) then (s.drop f).take (i - f) :: cutL s b n (i + 1) (i + b.length) else cutL s b n (i + 1) f) else cutL s b n (i + 1) f)
      else [(s.drop f).take (s.length - f)]
def cutB (s b : Bts) : List Bts := cutL s b (s.length + 1) 0 0
def stepL (s : Bts) : Option Stp := (stepW (cutB s [32]) []).filter fun x => ckStep x = 0
def allSome {α : Type} : List (Option α) → Option (List α)
  | [] => some []
  | none :: _ => none
  | some x :: l => (allSome l).map (x :: ·)
def stepsL (l : List Bts) : Option (List Stp) := allSome (l.map stepL)
/-- the steps of a text that is not empty -/
def parseL (s : Bts) : Option (List Stp) := (stepsL (cutB s [59, 32])).filter fun l => l.length ≤ 64 ∧ s.length ≤ 4096 ∧ s.length ≠ 0
def ofGo (l : List Stp) (m : Int) : Int := l.foldl (fun m x => x.1.foldl (fun m y => max m (y.1 + 1)) m) m
def ofS (l : List Stp) : Sq := (ofGo l 0, l)
def sqL (s : Bts) : Option Sq := ((parseL s).map ofS).filter fun q => ckSeq q = 0

theorem toL_len (s : ByteArray) : s.toList.length = s.size := by rw [ByteArray.toList_eq]; rfl
theorem toL_extract (s : ByteArray) (i j : Nat) : (s.extract i j).toList = (s.toList.drop i).take (j - i) := by
  rw [ByteArray.toList_eq, ByteArray.toList_eq]
  simp [ByteArray.data_extract, Array.toList_extract]
theorem cutGo_map (s b : ByteArray) (n i f : Nat) : (cutGo s b n i f).map ByteArray.toList = cutL s.toList b.toList n i f := by
  induction n generalizing i f with
  | zero => simp [cutGo, cutL, toL_extract, toL_len]
  | succ n ih =>
    unfold cutGo cutL
    rw [toL_len, toL_len]
    by_cases h1 : i + b.size ≤ s.size
    · rw [if_pos h1, if_pos h1]
      by_cases h2 : f ≤ i
      · rw [if_pos h2, if_pos h2, toL_extract, show i + b.size - i = b.size by omega]
        cases h3 : ((s.toList.drop i).take b.size == b.toList)
        · simp only [Bool.false_eq_true, if_false]; exact ih _ _
        · simp only [if_true, List.map_cons, toL_extract]; rw [ih]
      · rw [if_neg h2, if_neg h2]; exact ih _ _
    · rw [if_neg h1, if_neg h1]; simp [toL_extract]
theorem cutS_map (s b : ByteArray) : (cutS s b).map ByteArray.toList = cutB s.toList b.toList := by
  unfold cutS cutB; rw [cutGo_map, toL_len]
def rdGo (s : Bts) (n : Nat) : Option Stk := (allStk.drop n).find? fun x => wrB x.1 x.2 == s
theorem rd_step (s : Bts) (k j : Nat) (hk : k < 6) (hj : j < 2) : rdGo s (2 * k + j) = if (wrB k (decide (j = 1)) == s) = true then some ((k : Int), decide (j = 1)) else rdGo s (2 * k + j + 1) := by
  have hk' : k = 0 ∨ k = 1 ∨ k = 2 ∨ k = 3 ∨ k = 4 ∨ k = 5 := by omega
  have hj' : j = 0 ∨ j = 1 := by omega
  rcases hk' with rfl | rfl | rfl | rfl | rfl | rfl <;> rcases hj' with rfl | rfl <;>
  · show List.find? _ (_ :: _) = _
    rw [List.find?_cons]
    split
    · next h => exact (if_pos h).symm
    · next h => exact (if_neg (fun e => Bool.false_ne_true (h.symm.trans e))).symm
theorem rd_end (s : Bts) : rdGo s 12 = none := rfl
theorem stepW_len {ws : List Bts} {P : List Stk} {x : Stp} (h : stepW ws P = some x) : P.length ≤ x.1.length ∧ x.1.length ≤ P.length + ws.length := by
  induction ws generalizing P with
  | nil => simp only [stepW, Option.some.injEq] at h; subst h; simp
  | cons y ys ih =>
    unfold stepW at h
    split at h
    · have := ih h; simp at this ⊢; omega
    · split at h
      · split at h
        · split at h
          · cases h
          · cases h; simp
        · cases h
      · cases h
theorem allSome_get {α : Type} {l : List (Option α)} {m : List α} (h : allSome l = some m) : l = m.map some := by
  induction l generalizing m with
  | nil => simp only [allSome, Option.some.injEq] at h; subst h; rfl
  | cons x l ih =>
    cases x with
    | none => cases h
    | some x =>
      unfold allSome at h
      cases h2 : allSome l with
      | none => rw [h2] at h; cases h
      | some m' => rw [h2] at h; cases h; rw [List.map_cons, ih h2]
theorem numGo_nonneg {s : Bts} {n r : Int} (h : numGo s n = some r) (hn : 0 ≤ n) : n ≤ r := by
  induction s generalizing n with
  | nil => simp only [numGo, Option.some.injEq] at h; omega
  | cons c l ih =>
    unfold numGo at h
    split at h
    · cases h
    · next hc =>
      have h48 : 48 ≤ c.toNat := by
        have : ¬ c < 48 := fun e => hc (.inl e)
        rw [UInt8.lt_iff_toNat_lt] at this
        simpa using this
      have := ih h (by omega)
      omega
end Go.Proofs.YtnhbogmihnnpjaaGreat
/- Regions that draw their order, of which one operation may write what the others read: S is asked only while it is still to come. -/
namespace Go.Proofs.YtnhbogmihnnpjaaGreat
open Go Go.RowKit
variable {P : Program} {md : Region.Mode} {ops : Array Oper} {Q : Exit → Act → World → Prop} {S : World → Prop} {f : Nat}

/-- as wpAnyH, but S is asked only while operation f is still to come -/
def wpAnyE (P : Program) (md : Region.Mode) (ops : Array Oper) (Q : Exit → Act → World → Prop) (S : World → Prop) (f : Nat) : Nat → Array Bool → Act → World → Prop
  | 0, listed, a, w => Region.ready md ops listed = [] ∧ Q .normal a w
  | fuel + 1, listed, a, w =>
    (Region.ready md ops listed = [] → Q .normal a w) ∧
    ∀ i ∈ Region.ready md ops listed, wpOp P ops Q i (fun a' w' => ((listed.setIfInBounds i true).getD f false = false → S w') ∧ wpAnyE P md ops Q S f fuel (listed.setIfInBounds i true) a' w') a w
theorem wpAny_of_heldE : ∀ (fuel : Nat) (listed : Array Bool) (a : Act) (w : World), wpAnyE P md ops Q S f fuel listed a w → wpAny P md ops Q fuel listed a w
  | 0, _, _, _, h => h
  | fuel + 1, _, _, _, h => ⟨h.1, fun i hi => wpOp_mono (fun a' w' h' => wpAny_of_heldE fuel _ a' w' h'.2) (h.2 i hi)⟩
/-- operation f waits for operation i -/
def waitsFor (md : Region.Mode) (ops : Array Oper) (f i : Nat) : Bool := match ops[f]? with
  | some o => o.after.any fun e => Region.binds md e && e.on == i
  | none => true
theorem pend_set {listed : Array Bool} {f i : Nat} (h : f ≠ i) : (listed.setIfInBounds i true).getD f false = listed.getD f false := getD_set_ne false (Ne.symm h)
/-- an operation that yields the same in every world that meets S (b: it needs S; then f waits for it) -/
theorem wpAnyE_first (b : Bool) {i : Nat} {oi : Oper} {v : Value} (hi : ops[i]? = some oi) (hif : f ≠ i) (hsel : ∀ (j : Nat) (o : Oper) cs b, ops[j]? = some o → o.op ≠ .select cs b)
    (hQ : ∀ c a w, Q (.panic c) (a.put oi.dst v) w → Q (.panic c) a w) (hfi : b = true → waitsFor md ops f i = true) :
    ∀ (fuel : Nat) (listed : Array Bool) (a : Act) (w : World),
      (∀ j oj, ops[j]? = some oj → j ≠ i → listed.getD j true = false → (∀ e ∈ oj.after, Region.binds md e = true → e.on ≠ i) → oi.apart ops oj = true) →
      i ∈ Region.ready md ops listed → YieldsIf P ops (fun w => b = true → S w) oi v a → (b = true → listed.getD f false = false) → (listed.getD f false = false → S w) →
      wpAnyE P md ops Q S f fuel (listed.setIfInBounds i true) (a.put oi.dst v) w → wpAnyE P md ops Q S f (fuel + 1) listed a w := by
  intro fuel
  induction fuel with
  | zero =>
    intro listed a w _ hr hy hb hS H
    refine ⟨fun h => (by rw [h] at hr; cases hr), fun j hj => ?_⟩
    by_cases hji : j = i
    · subst hji; exact hy.wpOp hi (fun h => hS (hb h)) ⟨fun h => hS (by rw [pend_set hif] at h; exact h), H⟩
    · have := ready_mono hj hji
      rw [H.1] at this
      cases this
  | succ fuel ih =>
    intro listed a w hfree hr hy hb hS H
    refine ⟨fun h => (by rw [h] at hr; cases hr), fun j hj => ?_⟩
    by_cases hji : j = i
    · subst hji; exact hy.wpOp hi (fun h => hS (hb h)) ⟨fun h => hS (by rw [pend_set hif] at h; exact h), H⟩
    · have h1 := H.2 j (ready_mono hj hji)
      obtain ⟨hjun, oj, hoj, hall⟩ := mem_ready.1 hj
      have hnot : ∀ e ∈ oj.after, Region.binds md e = true → e.on ≠ i := fun e he hb heq => by
        have h1 := hall e he hb
        have h0 := (mem_ready.1 hr).1
        rw [heq] at h1
        rcases Nat.lt_or_ge i listed.size with h' | h'
        · simp [h'] at h0 h1; rw [h0] at h1; cases h1
        · simp [Array.getElem?_eq_none h'] at h1
      have hjf : b = true → f ≠ j := fun hbt hf => by
        subst hf
        have hfi := hfi hbt
        unfold waitsFor at hfi
        rw [hoj] at hfi
        obtain ⟨e, he, h2⟩ := Array.any_eq_true'.1 hfi
        simp only [Bool.and_eq_true, beq_iff_eq] at h2
        exact hnot e he h2.1 h2.2
      have h2 := wpOp_putIf hoj (hfree j oj hoj hji hjun hnot) (fun cs b => hsel i oi cs b hi) (fun cs b => hsel j oj cs b hoj) hQ hy h1
      have hfree' : ∀ k ok, ops[k]? = some ok → k ≠ i → (listed.setIfInBounds j true).getD k true = false →
          (∀ e ∈ ok.after, Region.binds md e = true → e.on ≠ i) → oi.apart ops ok = true := fun k ok hk hki hun hno => by
        refine hfree k ok hk hki ?_ hno
        by_cases hjk : j = k
        · subst hjk; exact hjun
        · rw [getD_set_ne true hjk] at hun; exact hun
      refine wpOp_mono (fun a' w' h3 => ?_) h2
      have hc : (listed.setIfInBounds j true).getD f false = false → S w' := fun h => h3.2.1 (by rw [Array.setIfInBounds_comm _ _ (Ne.symm hji), pend_set hif]; exact h)
      refine ⟨hc, ih (listed.setIfInBounds j true) a' w' hfree' (ready_mono hr (Ne.symm hji)) h3.1 (fun h => by rw [pend_set (hjf h)]; exact hb h) hc ?_⟩
      rw [Array.setIfInBounds_comm _ _ hji]
      exact h3.2.2
theorem wpAnyE_take {i : Nat} {oi : Oper} {v : Value} {fuel : Nat} {listed : Array Bool} {a : Act} {w : World} (hi : ops[i]? = some oi)
    (hs : (Region.noSelect ops && Region.free md ops listed i && (Region.ready md ops listed).contains i && waitsFor md ops f i && (f != i) && !listed.getD f false) = true)
    (hQ : ∀ c a w, Q (.panic c) (a.put oi.dst v) w → Q (.panic c) a w) (hy : YieldsIf P ops S oi v a) (hS : S w)
    (h : wpAnyE P md ops Q S f fuel (listed.setIfInBounds i true) (a.put oi.dst v) w) : wpAnyE P md ops Q S f (fuel + 1) listed a w := by
  simp only [Bool.and_eq_true, bne_iff_ne, Bool.not_eq_true'] at hs
  refine wpAnyE_first true hi hs.1.2 (Region.noSelect_spec hs.1.1.1.1.1) hQ (fun _ => hs.1.1.2) fuel listed a w (Region.free_spec hi hs.1.1.1.1.2) (by simpa using hs.1.1.1.2) ?_ (fun _ => hs.2) (fun _ => hS) h
  rcases hy with ⟨h1, h2⟩ | h1
  · exact .inl ⟨h1, fun w hw => h2 w (hw rfl)⟩
  · exact .inr h1
/-- an operation that reads no memory -/
theorem wpAnyE_pure {i : Nat} {oi : Oper} {v : Value} {fuel : Nat} {listed : Array Bool} {a : Act} {w : World} (hi : ops[i]? = some oi)
    (hs : (Region.noSelect ops && Region.free md ops listed i && (Region.ready md ops listed).contains i && (f != i)) = true)
    (hQ : ∀ c a w, Q (.panic c) (a.put oi.dst v) w → Q (.panic c) a w) (hy : YieldsIf P ops (fun _ => True) oi v a) (hS : listed.getD f false = false → S w)
    (h : wpAnyE P md ops Q S f fuel (listed.setIfInBounds i true) (a.put oi.dst v) w) : wpAnyE P md ops Q S f (fuel + 1) listed a w := by
  simp only [Bool.and_eq_true, bne_iff_ne] at hs
  refine wpAnyE_first false hi hs.2 (Region.noSelect_spec hs.1.1.1) hQ (fun h => by cases h) fuel listed a w (Region.free_spec hi hs.1.1.2) (by simpa using hs.1.2) ?_ (fun h => by cases h) hS h
  rcases hy with ⟨h1, h2⟩ | h1
  · exact .inl ⟨h1, fun w _ => h2 w trivial⟩
  · exact .inr h1
theorem ready_wp {i : Nat} {o : Oper} {K : Act → World → Prop} {a : Act} {w : World} (ho : ops[i]? = some o)
    (h : ∀ K' : Act → World → Prop, Shut (∀ a w, K a w → K' a w) → if Region.wanted o (yielded ops a.tmps) = true then Oper.wp P o a w K' Q else K' (a.put o.dst undef) w) : wpOp P ops Q i K a w :=
  wpOp_step ho (fun K' hK => h K' hK)
/-- the one operation that may come up now -/
theorem wpAnyE_one {i : Nat} {o : Oper} {fuel : Nat} {listed : Array Bool} {a : Act} {w : World} (ho : ops[i]? = some o) (hr : Region.ready md ops listed = [i])
    (h : ∀ K' : Act → World → Prop, Shut (∀ a w, S w → (S w → wpAnyE P md ops Q S f fuel (listed.setIfInBounds i true) a w) → K' a w) → if Region.wanted o (yielded ops a.tmps) = true then Oper.wp P o a w K' Q else K' (a.put o.dst undef) w) :
    wpAnyE P md ops Q S f (fuel + 1) listed a w := by
  refine ⟨fun h0 => (by rw [hr] at h0; cases h0), fun j hj => ?_⟩
  rw [hr] at hj
  rcases List.mem_singleton.1 hj with rfl
  exact wpOp_step ho (fun K' hK => h K' (fun a w hS hW => hK a w ⟨fun _ => hS, hW hS⟩))
/-- two operations may come up now -/
theorem wpAnyE_two {i j : Nat} {o p : Oper} {fuel : Nat} {listed : Array Bool} {a : Act} {w : World} (ho : ops[i]? = some o) (hp : ops[j]? = some p) (hr : Region.ready md ops listed = [i, j])
    (h : ∀ K' : Act → World → Prop, Shut (∀ a w, S w → (S w → wpAnyE P md ops Q S f fuel (listed.setIfInBounds i true) a w) → K' a w) → if Region.wanted o (yielded ops a.tmps) = true then Oper.wp P o a w K' Q else K' (a.put o.dst undef) w)
    (h2 : ∀ K' : Act → World → Prop, Shut (∀ a w, S w → (S w → wpAnyE P md ops Q S f fuel (listed.setIfInBounds j true) a w) → K' a w) → if Region.wanted p (yielded ops a.tmps) = true then Oper.wp P p a w K' Q else K' (a.put p.dst undef) w) :
    wpAnyE P md ops Q S f (fuel + 1) listed a w := by
  refine ⟨fun h0 => (by rw [hr] at h0; cases h0), fun k hk => ?_⟩
  rw [hr] at hk
  rcases List.mem_cons.1 hk with rfl | hk
  · exact wpOp_step ho (fun K' hK => h K' (fun a w hS hW => hK a w ⟨fun _ => hS, hW hS⟩))
  · rcases List.mem_singleton.1 hk with rfl
    exact wpOp_step hp (fun K' hK => h2 K' (fun a w hS hW => hK a w ⟨fun _ => hS, hW hS⟩))
/-- the operation that may write what the others read, and whatever comes behind it -/
theorem wpAnyE_free {i : Nat} {o : Oper} {fuel : Nat} {listed : Array Bool} {a : Act} {w : World} (ho : ops[i]? = some o) (hr : Region.ready md ops listed = [i]) (hl : (listed.setIfInBounds i true).getD f false = true)
    (h : ∀ K' : Act → World → Prop, Shut (∀ a w, wpAnyE P md ops Q S f fuel (listed.setIfInBounds i true) a w → K' a w) → if Region.wanted o (yielded ops a.tmps) = true then Oper.wp P o a w K' Q else K' (a.put o.dst undef) w) :
    wpAnyE P md ops Q S f (fuel + 1) listed a w := by
  refine ⟨fun h0 => (by rw [hr] at h0; cases h0), fun j hj => ?_⟩
  rw [hr] at hj
  rcases List.mem_singleton.1 hj with rfl
  exact wpOp_step ho (fun K' hK => h K' (fun a w hW => hK a w ⟨fun h => (by rw [hl] at h; cases h), hW⟩))
theorem wpAnyE_done {listed : Array Bool} {a : Act} {w : World} (hr : Region.ready md ops listed = []) (h : Q .normal a w) :
    ∀ fuel, wpAnyE P md ops Q S f fuel listed a w
  | 0 => ⟨hr, h⟩
  | _ + 1 => ⟨fun _ => h, by rw [hr]; simp⟩
theorem wp_region_heldE (f : Nat) (S : World → Prop) {id : Nat} {a : Act} {w : World} (hm : P.follows .mixedOrders = true)
    (h : wpAnyE P .any ops Q S f ops.size (Array.replicate ops.size false) a w.drew) : (Code.region id ops true).wp P Q a w :=
  wp_region_any hm (wpAny_of_heldE _ _ _ _ h)
end Go.Proofs.YtnhbogmihnnpjaaGreat
/- variant.mapped. -/
namespace Go.Proofs.YtnhbogmihnnpjaaGreat
open Go.RowKit

theorem step_append1 {P : Program} {ops : Array Oper} {o : Oper} {a : Act} {w : World} {K : Act → World → Prop} {Q : Exit → Act → World → Prop} {E : Prop} (hgd : o.guard = none) (s x : Operand) (t : TypeId)
    (ho : o.op = .call { callee := .builtin .append, args := #[s, x], argTypes := #[t, t] })
    (e : TypeId) (i : TypeInfo) (z : Value) (size bytes : Nat) (ht : P.underlying t = some (.slice e)) (hi : P.info? e = some i) (hz : i.zero = some z)
    (hsize : i.size = size) (hby : i.bytes = bytes) (hzs : z.cells.size = size) (hsz : 0 < size)
    (v : Value) (n : Nat) (xs : List Value) (hs : a.eval s = v) (hown : w.ownsRow 0 e size v n xs)
    (ad : Addr) (m c : Nat) (hm : 0 < m) (news : List Value) (hx : a.eval x = .slice (some ad) m c) (hl : news.length = m * size) (hnews : ∀ j u, news[j]? = some u → w.cell? (ad.add j) = some u) (h1 : ∀ u ∈ news, u.oneCell' = true)
    (h63 : n + m ≤ maxLen) (hbytes : (n + m) * bytes ≤ 140737488355328)
    (h : ∀ v' w', w'.ownsRow 0 e size v' (n + m) (xs ++ news) → AppEnd w w' v v' → K (a.put o.dst v') w') :
    if Region.wanted o (yielded ops a.tmps) = true then Oper.wp P o a w K Q else E := by
  have hw : Region.wanted o (yielded ops a.tmps) = true := by simp [Region.wanted, hgd]
  rw [if_pos hw]
  obtain ⟨v', w', hr, h2, h3⟩ := run_append1 (P := P) w t o.type e i z size bytes ht hi hz hsize hby hzs hsz v n xs hown ad m c hm news hl hnews h1 h63 hbytes
  unfold Oper.wp execOp
  simp only [ho, resolve, invoke, builtin, Sem.run_bind, Sem.run_pure, Result.andThen_ok, List.map_toArray, List.map_cons, List.map_nil, hs, hx, hr]
  exact h v' w' h2 h3
/-- a slice value that reads as strokes and lies in none of the blocks X -/
def SliceKX (X : Nat → Prop) (w : World) (v : Value) (l : List Stk) : Prop := ∃ a cap, v = .slice a l.length cap ∧ CellsK w a l ∧ l.length ≤ maxLen ∧ ∀ b off, a = some ⟨b, off, none⟩ → l ≠ [] → ¬ X b
theorem SliceKX.slice {X : Nat → Prop} {w : World} {v : Value} {l : List Stk} (h : SliceKX X w v l) : SliceK w v l := by
  obtain ⟨a, cap, h1, h2, h3, _⟩ := h
  exact ⟨a, cap, h1, h2, h3⟩
theorem SliceKX.chg {X : Nat → Prop} {A B : World} {v : Value} {l : List Stk} (h : SliceKX X A v l) (c : Chg X A B) : SliceK B v l := by
  obtain ⟨a, cap, h1, h2, h3, h4⟩ := h
  refine ⟨a, cap, h1, fun i hi => ?_, h3⟩
  obtain ⟨b, off, e1, e2, e3⟩ := h2 i hi
  have hb := h4 b off e1 (by intro h; simp [h] at hi)
  exact ⟨b, off, e1, (World.cell?_of_block (w := A) (a := ⟨b, _, none⟩) (c.2 b (cell_lt e2) hb)).trans e2, (World.cell?_of_block (w := A) (a := ⟨b, _, none⟩) (c.2 b (cell_lt e3) hb)).trans e3⟩
theorem SliceKX.chgX {X Y : Nat → Prop} {A B : World} {v : Value} {l : List Stk} (h : SliceKX X A v l) (c : Chg X A B) (hy : ∀ b, b < A.heap.size → Y b → X b) : SliceKX Y B v l := by
  have h' := h
  obtain ⟨a, cap, h1, h2, h3, h4⟩ := h
  obtain ⟨a', cap', e1, e2, e3⟩ := h'.chg c
  rw [h1] at e1
  cases e1
  refine ⟨a, cap, h1, e2, h3, fun b off hb hne hY => ?_⟩
  obtain ⟨b1, o1, f1, f2, _⟩ := h2 0 (List.length_pos_iff.2 hne)
  rw [hb] at f1
  cases f1
  exact h4 b off hb hne (hy b (cell_lt f2) hY)
def pairP (ps : List (Value × Stp)) : List (Value × Value) := ps.map fun p => (p.1, .int .i64 p.2.2)
/-- the slice value v owns the steps ys; their strokes lie outside of X and of v's own block -/
def OwnsP (X : Nat → Prop) (w : World) (v : Value) (ys : List Stp) : Prop :=
  ∃ ps : List (Value × Stp), ps.map (·.2) = ys ∧ w.ownsRow 0 87 2 v ys.length (flat2 (pairP ps)) ∧ ∀ p ∈ ps, SliceKX (fun b => X b ∨ v.ownBlock = some b) w p.1 p.2.1
theorem OwnsP.nil (X : Nat → Prop) (w : World) : OwnsP X w (.slice none 0 0) [] := ⟨[], rfl, World.ownsRow_nil w 0 _ _, fun p hp => by cases hp⟩
theorem OwnsP.chg {X : Nat → Prop} {A B : World} {v : Value} {ys : List Stp} (h : OwnsP X A v ys) (c : Chg X A B) (hv : ∀ b, v.ownBlock = some b → ¬ X b) : OwnsP X B v ys := by
  obtain ⟨ps, h1, h2, h3⟩ := h
  refine ⟨ps, h1, rowSame h2 (fun b hb => c.2 b (rowLt h2 hb) (hv b hb)), fun p hp => ?_⟩
  exact (h3 p hp).chgX ⟨c.1, fun k hk hn => c.2 k hk (fun hx => hn (.inl hx))⟩ (fun b _ hy => hy)
theorem OwnsP.reads {X : Nat → Prop} {A : World} {v : Value} {ys : List Stp} (h : OwnsP X A v ys) : SliceP A v ys := by
  obtain ⟨ps, h1, h2, h3⟩ := h
  obtain ⟨a, cap, hv, hm, hr⟩ := rowReads h2
  refine ⟨a, cap, hv, fun i hi => ?_, rowRoom h2 hv⟩
  have hl : ps.length = ys.length := by rw [← h1]; simp
  have hi' : i < (pairP ps).length := by simp [pairP]; omega
  have hip : i < ps.length := by omega
  have hg := flat2_get (pairP ps) i hi'
  have e1 : (pairP ps)[i].1 = ps[i].1 := by simp [pairP]
  have e2 : (pairP ps)[i].2 = .int .i64 ps[i].2.2 := by simp [pairP]
  rw [e1, e2] at hg
  have ey : ys.getD i stp0 = ps[i].2 := by rw [← h1]; simp [List.getD, hip]
  obtain ⟨b, hb, _, g1, _⟩ := hr _ _ hg.1
  obtain ⟨b', hb', _, g2, _⟩ := hr _ _ hg.2
  rw [hb] at hb'
  cases hb'
  refine ⟨b, 0, ps[i].1, hb, by rw [Nat.zero_add]; exact g1, ?_, ?_⟩
  · rw [ey]; exact (h3 _ (List.getElem_mem hip)).slice
  · rw [ey, Nat.zero_add]; exact g2
/-- one step more -/
theorem OwnsP.app {X : Nat → Prop} {A B : World} {v v' : Value} {ys : List Stp} {u : Value} {y : Stp} (h : OwnsP X A v ys) (hu : SliceKX (fun b => X b ∨ v.ownBlock = some b) A u y.1) (_hX : ∀ b, X b → b < A.heap.size)
    (hown : B.ownsRow 0 87 2 v' (ys.length + 1) (flat2 (pairP (Classical.choose h)) ++ [u, .int .i64 y.2])) (he : AppEnd A B v v') : OwnsP X B v' (ys ++ [y]) := by
  obtain ⟨h1, h2, h3⟩ := Classical.choose_spec h
  refine ⟨Classical.choose h ++ [(u, y)], by rw [List.map_append, h1]; rfl, ?_, ?_⟩
  · unfold pairP at hown ⊢
    rw [List.length_append, List.map_append, flat2_append]
    exact hown
  · have c : Chg (fun b => X b ∨ v.ownBlock = some b) A B := by
      rcases he with ⟨_, _, hg⟩ | ⟨_, hx⟩
      · exact ⟨hg.size, fun k hk hn => hg.block k hk (fun e => hn (.inr e.symm))⟩
      · exact Chg.ext hx
    have hy : ∀ b, b < A.heap.size → (X b ∨ v'.ownBlock = some b) → (X b ∨ v.ownBlock = some b) := fun b hb hh => by
      rcases hh with hh | hh
      · exact .inl hh
      · rcases he with ⟨hv, _, _⟩ | ⟨hv, _⟩
        · exact .inr (hv ▸ hh)
        · rw [hv] at hh; cases hh; omega
    intro p hp
    rcases List.mem_append.1 hp with hp | hp
    · exact (h3 p hp).chgX c hy
    · rcases List.mem_singleton.1 hp with rfl
      exact hu.chgX c hy
/-- a sequence of the call's own is returned: it outlives whatever befalls older memory -/
theorem Chg.mono {B C : Nat → Prop} {A D : World} (h : Chg B A D) (k : ∀ b, B b → C b) : Chg C A D := ⟨h.1, fun i hi hn => h.2 i hi (fun hb => hn (k i hb))⟩
def SeqPost (s : Sq) (w : World) (e : Ending) (w' : World) : Prop := ∃ v, e = .returned v ∧ (∀ B, Chg (fun b => b < w.heap.size) w' B → SeqV B v s) ∧ Ext w w'
theorem SliceKX.monoX {X Y : Nat → Prop} {A : World} {v : Value} {l : List Stk} (h : SliceKX X A v l) (hy : ∀ b, Y b → X b) : SliceKX Y A v l := h.chgX (Chg.refl X A) (fun b _ hb => hy b hb)
theorem OwnsP.mono {X Y : Nat → Prop} {A : World} {v : Value} {ys : List Stp} (h : OwnsP X A v ys) (hy : ∀ b, Y b → X b) : OwnsP Y A v ys := by
  obtain ⟨ps, h1, h2, h3⟩ := h
  exact ⟨ps, h1, h2, fun p hp => (h3 p hp).monoX (fun b hb => hb.imp (hy b) id)⟩
/-- a sequence of the call's own is returned: its steps lie in a block of its own -/
def OwnPost (s : Sq) (w : World) (e : Ending) (w' : World) : Prop := ∃ o v, w.heap.size ≤ o ∧ e = .returned (.agg #[.int .i64 s.1, v]) ∧ OwnsP (fun b => b ≤ o) w' v s.2 ∧ (∀ b, v.ownBlock = some b → o < b) ∧ Ext w w'
theorem OwnPost.seq {s : Sq} {w : World} {e : Ending} {w' : World} (h : OwnPost s w e w') : SeqPost s w e w' := by
  obtain ⟨o, v, ho, he, h1, h2, h3⟩ := h
  refine ⟨_, he, fun B hB => ⟨v, rfl, ?_⟩, h3⟩
  exact (OwnsP.chg (h1.mono (Y := fun b => b < w.heap.size) (fun b hb => by omega)) hB (fun b hb e => by have := h2 b hb; omega)).reads
end Go.Proofs.YtnhbogmihnnpjaaGreat
/- variant.mapped, the walk. -/
namespace Go.Proofs.YtnhbogmihnnpjaaGreat
open Go.RowKit

/-- what a changing function returns: a step whose strokes lie in a block of the call's own -/
def ChPost (y : Stp) (v : Value) (w : World) (e : Ending) (w' : World) : Prop :=
  ∃ u, e = .returned (.agg #[u, .int .i64 y.2]) ∧ SliceK w' u y.1 ∧ (∀ b, u.ownBlock = some b → v.ownBlock = some b ∨ w.heap.size ≤ b) ∧ (∃ a, ∃ c, u = .slice a y.1.length c ∧ ∀ b off, a = some ⟨b, off, none⟩ → off = 0) ∧ ∀ n, n ≤ w.heap.size → (∀ b, v.ownBlock = some b → n ≤ b) → Below n w w'
/-- the memory of mapped between two rounds -/
structure MpSt (o : Nat) (W0 wr : World) (n : Int) (ys : List Stp) : Prop where
  be : Below o W0 wr
  c0 : wr.cell? ⟨o, 0, none⟩ = some (.int .i64 n)
  f1 : wr.frozen? ⟨o, 1, none⟩ = false
  v : ∃ v, wr.cell? ⟨o, 1, none⟩ = some v ∧ OwnsP (fun b => b ≤ o) wr v ys ∧ ∀ b, v.ownBlock = some b → o < b
def mapK (ch : Nat → Stp → Stp) (l : List Stp) (k : Nat) : List Stp := (List.range k).map fun i => ch i (l.getD i stp0)
theorem mapK_succ (ch : Nat → Stp → Stp) (l : List Stp) (k : Nat) : mapK ch l (k + 1) = mapK ch l k ++ [ch k (l.getD k stp0)] := by
  unfold mapK; rw [List.range_succ, List.map_append]; rfl
theorem mapK_len (ch : Nat → Stp → Stp) (l : List Stp) (k : Nat) : (mapK ch l k).length = k := by simp [mapK]
/-- all steps have strokes, and not too many -/
def Full (l : List Stp) : Prop := ∀ k, k < l.length → 0 < (l.getD k stp0).1.length ∧ (l.getD k stp0).1.length ≤ 40

set_option maxHeartbeats 8000000 in
set_option maxRecDepth 100000 in
theorem mapped_own (n : Int) (l : List Stp) (a : Option Addr) (cap : Nat) (w : World) (g : Nat) (cb : Array Value) (ch : Nat → Stp → Stp) (hl : l.length ≤ 200) (hf : Full l) (hc : CellsP w a l)
    (heg : ∀ args w, (callFunc g args).run Tryz.prog w = .ok (.enter g args) w)
    (hch : ∀ (k : Nat) (v : Value) (w' : World), k < l.length → Ext w w' → OwnsK w' v (l.getD k stp0).1 → (∀ b, v.ownBlock = some b → w.heap.size ≤ b) → Calls Tryz.prog g (#[.int .i64 (k : Int), .agg #[v, .int .i64 (l.getD k stp0).2]] ++ cb) w' (ChPost (ch k (l.getD k stp0)) v w')) :
    Calls Tryz.prog 62 #[.agg #[.int .i64 n, .slice a l.length cap], .func (.func g) #[] cb] w (OwnPost (n, mapK ch l l.length) w) := by
  have HC := Lib.hid hc
  have HF := Lib.hid hf
  have HCH := Lib.hid hch
  clear hc hf hch
  obtain ⟨i0, hi, hi0, hi1, hi2⟩ := info_parts infoStp
  have hz : ∀ w, (zeroValue 87).run Tryz.prog w = .ok (.agg #[.slice none 0 0, .int .i64 0]) w := fun _ => by kernel_rfl
  go_enter Tryz.func62, Tryz.ntmps62
  go_wp2
  have E1 : Ext w (((w.alloc (.cells #[.int .i64 n, .slice a l.length cap] 24)).alloc (.cells #[.int .i64 0, .slice none 0 0] 24)).alloc (.cells #[.int .i64 n, .slice none 0 0] 24)) := (by repeat (first | with_reducible exact Ext.refl _ | with_reducible assumption | with_reducible apply Ext.drewN | with_reducible apply Ext.drew | with_reducible apply Ext.alloc | ((with_reducible refine Ext.set ?_ ?_ _); rotate_left; first | omega | (simp; omega)) | (with_reducible refine Ext.trans ?_ (by with_reducible assumption))))
  have c1 : (((w.alloc (.cells #[.int .i64 n, .slice a l.length cap] 24)).alloc (.cells #[.int .i64 0, .slice none 0 0] 24)).alloc (.cells #[.int .i64 n, .slice none 0 0] 24)).cell? ⟨w.heap.size + 1, 0, none⟩ = some (.int .i64 0) := by go_simp
  have c2 : (((w.alloc (.cells #[.int .i64 n, .slice a l.length cap] 24)).alloc (.cells #[.int .i64 0, .slice none 0 0] 24)).alloc (.cells #[.int .i64 n, .slice none 0 0] 24)).cell? ⟨w.heap.size + 1, 1, none⟩ = some (.slice none 0 0) := by go_simp
  have c3 : (((w.alloc (.cells #[.int .i64 n, .slice a l.length cap] 24)).alloc (.cells #[.int .i64 0, .slice none 0 0] 24)).alloc (.cells #[.int .i64 n, .slice none 0 0] 24)).cell? ⟨w.heap.size + 1 + 1, 0, none⟩ = some (.int .i64 n) := by go_simp
  have c4 : (((w.alloc (.cells #[.int .i64 n, .slice a l.length cap] 24)).alloc (.cells #[.int .i64 0, .slice none 0 0] 24)).alloc (.cells #[.int .i64 n, .slice none 0 0] 24)).cell? ⟨w.heap.size + 1 + 1, 1, none⟩ = some (.slice none 0 0) := by go_simp
  have f1 : (((w.alloc (.cells #[.int .i64 n, .slice a l.length cap] 24)).alloc (.cells #[.int .i64 0, .slice none 0 0] 24)).alloc (.cells #[.int .i64 n, .slice none 0 0] 24)).frozen? ⟨w.heap.size + 1, 0, none⟩ = false := by go_simp
  have f2 : (((w.alloc (.cells #[.int .i64 n, .slice a l.length cap] 24)).alloc (.cells #[.int .i64 0, .slice none 0 0] 24)).alloc (.cells #[.int .i64 n, .slice none 0 0] 24)).frozen? ⟨w.heap.size + 1, 1, none⟩ = false := by go_simp
  have f4 : (((w.alloc (.cells #[.int .i64 n, .slice a l.length cap] 24)).alloc (.cells #[.int .i64 0, .slice none 0 0] 24)).alloc (.cells #[.int .i64 n, .slice none 0 0] 24)).frozen? ⟨w.heap.size + 1 + 1, 1, none⟩ = false := by go_simp
  generalize (((w.alloc (.cells #[.int .i64 n, .slice a l.length cap] 24)).alloc (.cells #[.int .i64 0, .slice none 0 0] 24)).alloc (.cells #[.int .i64 n, .slice none 0 0] 24)) = W at E1 c1 c2 c3 c4 f1 f2 f4 ⊢
  obtain ⟨o, ho⟩ : ∃ o, o = w.heap.size + 1 + 1 := ⟨_, rfl⟩
  have ho1 : w.heap.size + 1 < o := by omega
  have hoW : o < W.heap.size := by rw [ho]; exact cell_lt c3
  rw [← ho] at c3 c4 f4 ⊢
  have M0 : Hid (MpSt o W W n (mapK ch l 0)) := ⟨Below.refl _ _, c3, f4, _, c4, OwnsP.nil _ _, fun b hb => by cases hb⟩
  clear c3 c4 f4 ho
  go_loopw [14] (fun i wr => ∃ k : Nat, k ≤ l.length ∧ i = .int .i64 k ∧ Hid (MpSt o W wr n (mapK ch l k))) (fun i _ => l.length - (intOf i).toNat)
  case atStart => exact ⟨0, Nat.zero_le _, rfl, M0⟩
  case round =>
    obtain ⟨k, hk, rfl, M⟩ := hrel
    clear M0
    have hbe := M.out.be
    have E2 : Ext w wr := E1.trans' hbe (by omega)
    have hsz := hbe.size
    have how : o < wr.heap.size := by omega
    by_cases hlt : k < l.length
    · obtain ⟨b, off, v, ha, p1, hv, p2⟩ := HC.out k hlt
      subst ha
      obtain ⟨sa, sc, rfl, hcs, hls⟩ := hv
      have p1 := E2.cell p1
      have p2 := E2.cell p2
      have hfu := HF.out k hlt
      have HCK := Lib.hid (fun (v : Value) (w' : World) => HCH.out k v w' hlt)
      have HMS := Lib.hid (mapK_succ ch l k)
      have hmk := mapK_len ch l k
      obtain ⟨sb, so, hsa, _, _⟩ := hcs 0 hfu.1
      subst hsa
      have HCS := Lib.hid hcs
      clear hcs hls
      generalize l.getD k stp0 = x at p1 p2 HCS hfu HCK HMS
      obtain ⟨st, wait⟩ := x
      dsimp only at p1 p2 HCS hfu HCK HMS
      obtain ⟨hfu1, hfu2⟩ := hfu
      have z1 := cell_lt p1
      dsimp only at z1
      obtain ⟨ov, m1, m2, m3⟩ := M.out.v
      have m0 := M.out.c0
      have mf := M.out.f1
      have HM2 := Lib.hid m2
      have HM3 := Lib.hid m3
      clear m2 m3 M
      have EX : Ext wr (wr.alloc (.cells #[.slice (some ⟨sb, so, none⟩) st.length sc, .int .i64 wait] 87)).drew := (by repeat (first | with_reducible exact Ext.refl _ | with_reducible assumption | with_reducible apply Ext.drewN | with_reducible apply Ext.drew | with_reducible apply Ext.alloc | ((with_reducible refine Ext.set ?_ ?_ _); rotate_left; first | omega | (simp; omega)) | (with_reducible refine Ext.trans ?_ (by with_reducible assumption))))
      have x0 : (wr.alloc (.cells #[.slice (some ⟨sb, so, none⟩) st.length sc, .int .i64 wait] 87)).drew.cell? ⟨wr.heap.size, 0, none⟩ = some (.slice (some ⟨sb, so, none⟩) st.length sc) := by go_simp
      have x1 : (wr.alloc (.cells #[.slice (some ⟨sb, so, none⟩) st.length sc, .int .i64 wait] 87)).drew.cell? ⟨wr.heap.size, 1, none⟩ = some (.int .i64 wait) := by go_simp
      have xz : wr.heap.size < (wr.alloc (.cells #[.slice (some ⟨sb, so, none⟩) st.length sc, .int .i64 wait] 87)).drew.heap.size := by simp
      go_wp2
      obtain ⟨xb, hxb⟩ : ∃ xb, xb = wr.heap.size := ⟨_, rfl⟩
      rw [← hxb] at x0 x1 xz how ⊢
      have HXB := Lib.hid hxb
      clear hxb
      refine wp_region_heldE 14 (fun w' => w'.cell? ⟨o, 1, none⟩ = some ov ∧ w'.cell? ⟨xb, 0, none⟩ = some (.slice (some ⟨sb, so, none⟩) st.length sc) ∧ w'.cell? ⟨xb, 1, none⟩ = some (.int .i64 wait)) (by kernel_rfl) ?_
      generalize (wr.alloc (.cells #[.slice (some ⟨sb, so, none⟩) st.length sc, .int .i64 wait] 87)).drew = W2 at EX x0 x1 xz ⊢
      have q1 := EX.cell m1
      have q0 := EX.cell m0
      have qf := (Below.frozen (p := ⟨o, 1, none⟩) EX (cell_lt m1)).trans mf
      have hS : W2.cell? ⟨o, 1, none⟩ = some ov ∧ W2.cell? ⟨xb, 0, none⟩ = some (.slice (some ⟨sb, so, none⟩) st.length sc) ∧ W2.cell? ⟨xb, 1, none⟩ = some (.int .i64 wait) := ⟨q1, x0, x1⟩
      ((refine wpAnyE_take (i := 0) (oi := ?_) (v := ?_) ?_ (by kernel_rfl) ?_ ?_ (by assumption) ?_; rotate_left 2; (focus ((simp only [List.getElem?_toArray, List.getElem?_cons_zero]; exact rfl))); (focus (exact fun _ _ _ h => h)); (focus (refine Or.inl ⟨by rfl, ?_⟩; intro w hSw; (try dsimp only at hSw); (first | (go_simp; done) | (go_simp; with_reducible rfl)))); (try simp only [Act.put, List.setIfInBounds_toArray, List.set_cons_zero, List.set_cons_succ])); (refine wpAnyE_take (i := 1) (oi := ?_) (v := ?_) ?_ (by kernel_rfl) ?_ ?_ (by assumption) ?_; rotate_left 2; (focus ((simp only [List.getElem?_toArray, List.getElem?_cons_succ, List.getElem?_cons_zero]; exact rfl))); (focus (exact fun _ _ _ h => h)); (focus (refine Or.inl ⟨by rfl, ?_⟩; intro w hSw; (try dsimp only at hSw); (first | (go_simp; done) | (go_simp; with_reducible rfl)))); (try simp only [Act.put, List.setIfInBounds_toArray, List.set_cons_zero, List.set_cons_succ])); (refine wpAnyE_take (i := 2) (oi := ?_) (v := ?_) ?_ (by kernel_rfl) ?_ ?_ (by assumption) ?_; rotate_left 2; (focus ((simp only [List.getElem?_toArray, List.getElem?_cons_succ, List.getElem?_cons_zero]; exact rfl))); (focus (exact fun _ _ _ h => h)); (focus (refine Or.inl ⟨by rfl, ?_⟩; intro w hSw; (try dsimp only at hSw); (first | (go_simp; done) | (go_simp; with_reducible rfl)))); (try simp only [Act.put, List.setIfInBounds_toArray, List.set_cons_zero, List.set_cons_succ])); (refine wpAnyE_take (i := 3) (oi := ?_) (v := ?_) ?_ (by kernel_rfl) ?_ ?_ (by assumption) ?_; rotate_left 2; (focus ((simp only [List.getElem?_toArray, List.getElem?_cons_succ, List.getElem?_cons_zero]; exact rfl))); (focus (exact fun _ _ _ h => h)); (focus (refine Or.inl ⟨by rfl, ?_⟩; intro w hSw; (try dsimp only at hSw); (first | (go_simp; done) | (go_simp; with_reducible rfl)))); (try simp only [Act.put, List.setIfInBounds_toArray, List.set_cons_zero, List.set_cons_succ])); (refine wpAnyE_take (i := 4) (oi := ?_) (v := ?_) ?_ (by kernel_rfl) ?_ ?_ (by assumption) ?_; rotate_left 2; (focus ((simp only [List.getElem?_toArray, List.getElem?_cons_succ, List.getElem?_cons_zero]; exact rfl))); (focus (exact fun _ _ _ h => h)); (focus (refine Or.inl ⟨by rfl, ?_⟩; intro w hSw; (try dsimp only at hSw); (first | (go_simp; done) | (go_simp; with_reducible rfl)))); (try simp only [Act.put, List.setIfInBounds_toArray, List.set_cons_zero, List.set_cons_succ])); (refine wpAnyE_take (i := 5) (oi := ?_) (v := ?_) ?_ (by kernel_rfl) ?_ ?_ (by assumption) ?_; rotate_left 2; (focus ((simp only [List.getElem?_toArray, List.getElem?_cons_succ, List.getElem?_cons_zero]; exact rfl))); (focus (exact fun _ _ _ h => h)); (focus (refine Or.inl ⟨by rfl, ?_⟩; intro w hSw; (try dsimp only at hSw); (first | (go_simp; done) | (go_simp; with_reducible rfl)))); (try simp only [Act.put, List.setIfInBounds_toArray, List.set_cons_zero, List.set_cons_succ])); (refine wpAnyE_take (i := 7) (oi := ?_) (v := ?_) ?_ (by kernel_rfl) ?_ ?_ (by assumption) ?_; rotate_left 2; (focus ((simp only [List.getElem?_toArray, List.getElem?_cons_succ, List.getElem?_cons_zero]; exact rfl))); (focus (exact fun _ _ _ h => h)); (focus (refine Or.inl ⟨by rfl, ?_⟩; intro w hSw; (try dsimp only at hSw); (first | (go_simp; done) | (go_simp; with_reducible rfl)))); (try simp only [Act.put, List.setIfInBounds_toArray, List.set_cons_zero, List.set_cons_succ])); (refine wpAnyE_take (i := 8) (oi := ?_) (v := ?_) ?_ (by kernel_rfl) ?_ ?_ (by assumption) ?_; rotate_left 2; (focus ((simp only [List.getElem?_toArray, List.getElem?_cons_succ, List.getElem?_cons_zero]; exact rfl))); (focus (exact fun _ _ _ h => h)); (focus (refine Or.inl ⟨by rfl, ?_⟩; intro w hSw; (try dsimp only at hSw); (first | (go_simp; done) | (go_simp; with_reducible rfl)))); (try simp only [Act.put, List.setIfInBounds_toArray, List.set_cons_zero, List.set_cons_succ])))
      (refine wpAnyE_one (i := 6) (o := ?_) ?_ (by kernel_rfl) (fun K hK => ?_); rotate_left; (focus ((simp only [List.getElem?_toArray, List.getElem?_cons_succ, List.getElem?_cons_zero]; exact rfl))); go_simp; go_at_call 99; refine (CloneK_any st sb so sc _ hfu2 hfu1 (HCS.out.ext (E2.trans EX))).mono ?_; rintro e w4 ⟨cv, rfl, hO4, hb4, hE4⟩; have HO4 := Lib.hid hO4; have HB4 := Lib.hid hb4; obtain ⟨ca, cc, rfl, _⟩ := hO4.reads; clear hO4 hb4; go_wp2_with fail; refine hK.out _ _ ?_ (fun hHeld => ?_); rotate_left; clear hK K; (try simp only [Act.put, List.setIfInBounds_toArray, List.set_cons_zero, List.set_cons_succ]))
      rotate_left
      · exact ⟨hE4.cell q1, hE4.cell x0, hE4.cell x1⟩
      (refine wpAnyE_take (i := 9) (oi := ?_) (v := ?_) ?_ (by kernel_rfl) ?_ ?_ (by assumption) ?_; rotate_left 2; (focus ((simp only [List.getElem?_toArray, List.getElem?_cons_succ, List.getElem?_cons_zero]; exact rfl))); (focus (exact fun _ _ _ h => h)); (focus (refine Or.inl ⟨by rfl, ?_⟩; intro w hSw; (try dsimp only at hSw); (first | (go_simp; done) | (go_simp; with_reducible rfl)))); (try simp only [Act.put, List.setIfInBounds_toArray, List.set_cons_zero, List.set_cons_succ]))
      (refine wpAnyE_one (i := 10) (o := ?_) ?_ (by kernel_rfl) (fun K hK => ?_); rotate_left; (focus ((simp only [List.getElem?_toArray, List.getElem?_cons_succ, List.getElem?_cons_zero]; exact rfl))); go_simp; refine (HCK.out _ _ ((E2.trans EX).trans hE4) HO4.out (fun b hb => Nat.le_trans (E2.trans EX).size (HB4.out b hb))).mono ?_; rintro e w5 ⟨u, rfl, hsu, hub, hua, hbel⟩; have B5 := hbel W2.heap.size hE4.size HB4.out; have HSU := Lib.hid hsu; have HUB := Lib.hid hub; have HUA := Lib.hid hua; obtain ⟨ua, uc, rfl, _, _⟩ := hsu; clear hub hua hbel; go_wp2_with fail; refine hK.out _ _ ?_ (fun hHeld => ?_); rotate_left; clear hK K; (try simp only [Act.put, List.setIfInBounds_toArray, List.set_cons_zero, List.set_cons_succ]))
      rotate_left
      · exact ⟨cellB B5 (by show o < _; omega) hHeld.1, cellB B5 xz hHeld.2.1, cellB B5 xz hHeld.2.2⟩
      generalize ch k (st, wait) = y at HSU HUB HUA HMS ⊢
      obtain ⟨yst, ywait⟩ := y
      dsimp only at HSU HUB HUA HMS ⊢
      have E25 : Ext W2 w5 := hE4.trans' B5 (Nat.le_refl _)
      have E6 : Ext w5 (w5.alloc (.cells #[.slice ua yst.length uc, .int .i64 ywait] 87)) := (by repeat (first | with_reducible exact Ext.refl _ | with_reducible assumption | with_reducible apply Ext.drewN | with_reducible apply Ext.drew | with_reducible apply Ext.alloc | ((with_reducible refine Ext.set ?_ ?_ _); rotate_left; first | omega | (simp; omega)) | (with_reducible refine Ext.trans ?_ (by with_reducible assumption))))
      (refine wpAnyE_one (i := 11) (o := ?_) ?_ (by kernel_rfl) (fun K hK => ?_); rotate_left; (focus ((simp only [List.getElem?_toArray, List.getElem?_cons_succ, List.getElem?_cons_zero]; exact rfl))); go_simp; refine hK.out _ _ ?_ (fun hHeld => ?_); rotate_left; clear hK K; (try simp only [Act.put, List.setIfInBounds_toArray, List.set_cons_zero, List.set_cons_succ]))
      rotate_left
      · exact ⟨E6.cell hHeld.1, E6.cell hHeld.2.1, E6.cell hHeld.2.2⟩
      have ho6 : OwnsP (fun b => b ≤ o) (w5.alloc (.cells #[.slice ua yst.length uc, .int .i64 ywait] 87)) ov (mapK ch l k) := HM2.out.chg (Chg.ext ((EX.trans E25).trans E6)) (fun b hb e => by have := HM3.out b hb; omega)
      have HO6 := Lib.hid ho6
      clear ho6
      have hl6 : (mapK ch l k).length = k := mapK_len ch l k
      refine wpAnyE_one (i := 12) (o := ?_) ?_ (by kernel_rfl) (fun K hK => ?_)
      rotate_left
      · simp only [List.getElem?_toArray, List.getElem?_cons_succ, List.getElem?_cons_zero]; exact rfl
      refine step_append1 rfl _ _ 22 rfl 87 i0 (.agg #[.slice none 0 0, .int .i64 0]) 2 32 Tryz.underlying22 hi hi0 hi1 hi2 rfl (by decide) ov (mapK ch l k).length _ rfl (Classical.choose_spec HO6.out).2.1 ⟨w5.heap.size, 0, none⟩ 1 1 (by decide) [.slice ua yst.length uc, .int .i64 ywait] rfl rfl (cells_one _ _ _) (by intro u hu; simp at hu; rcases hu with rfl | rfl <;> rfl) (by unfold maxLen; omega) (by omega) (fun v' w7 hown7 hend7 => ?_)
      have O7 : OwnsP (fun b => b ≤ o) w7 v' (mapK ch l k ++ [(yst, ywait)]) := by
        refine OwnsP.app HO6.out ?_ (fun b hb => by have := E6.size; have := E25.size; omega) hown7 hend7
        obtain ⟨ua', uc', hu1, hu2, hu3⟩ := HSU.out.ext E6
        refine ⟨ua', uc', hu1, hu2, hu3, fun b1 o1 hb1 hne hx => ?_⟩
        subst hb1
        have hb2 : W2.heap.size ≤ b1 := by
          rcases HUB.out b1 (by rw [hu1]; obtain ⟨_, _, hq, hq2⟩ := HUA.out; rw [hu1] at hq; cases hq; have := hq2 b1 o1 rfl; subst this; rfl) with h | h
          · exact HB4.out b1 h
          · exact Nat.le_trans hE4.size h
        rcases hx with hx | hx
        · omega
        · have := rowLt (Classical.choose_spec HM2.out).2.1 hx
          have h9 := HXB.out
          omega
      have hgr := hend7.chg
      have hov : ∀ b, ov.ownBlock = some b → b < xb := fun b hb => by rw [HXB.out]; exact rowLt (Classical.choose_spec HM2.out).2.1 hb
      have B7 : Below o (w5.alloc (.cells #[.slice ua yst.length uc, .int .i64 ywait] 87)) w7 := hend7.below (n := o) (by have := E6.size; have := E25.size; omega) (fun b hb => by have := HM3.out b hb; omega)
      have V7 := hend7.ge (n := o + 1) (by have := E6.size; have := E25.size; omega) (fun b hb => HM3.out b hb)
      have same7 : ∀ (p : Addr) (v : Value), p.block = o ∨ p.block = xb → (w5.alloc (.cells #[.slice ua yst.length uc, .int .i64 ywait] 87)).cell? p = some v → w7.cell? p = some v ∧ w7.frozen? p = (w5.alloc (.cells #[.slice ua yst.length uc, .int .i64 ywait] 87)).frozen? p := fun p v hp hc => by
        have h1 := hgr.1 p.block (cell_lt hc) (fun e => by
          rcases hp with hp | hp
          · have := HM3.out _ e; omega
          · have := hov _ e; omega)
        exact ⟨(World.cell?_of_block (w := w5.alloc (.cells #[.slice ua yst.length uc, .int .i64 ywait] 87)) h1).trans hc, World.frozen?_of_block (w := w5.alloc (.cells #[.slice ua yst.length uc, .int .i64 ywait] 87)) h1⟩
      refine hK.out _ _ ⟨(same7 ⟨o, 1, none⟩ _ (.inl rfl) hHeld.1).1, (same7 ⟨xb, 0, none⟩ _ (.inr rfl) hHeld.2.1).1, (same7 ⟨xb, 1, none⟩ _ (.inr rfl) hHeld.2.2).1⟩ (fun hHeld => ?_)
      clear hK K
      (try simp only [Act.put, List.setIfInBounds_toArray, List.set_cons_zero, List.set_cons_succ])
      (refine wpAnyE_take (i := 13) (oi := ?_) (v := ?_) ?_ (by kernel_rfl) ?_ ?_ (by assumption) ?_; rotate_left 2; (focus ((simp only [List.getElem?_toArray, List.getElem?_cons_succ, List.getElem?_cons_zero]; exact rfl))); (focus (exact fun _ _ _ h => h)); (focus (refine Or.inl ⟨by rfl, ?_⟩; intro w hSw; (try dsimp only at hSw); (first | (go_simp; done) | (go_simp; with_reducible rfl)))); (try simp only [Act.put, List.setIfInBounds_toArray, List.set_cons_zero, List.set_cons_succ]))
      have HO7 := Lib.hid O7
      have HV7 := Lib.hid V7
      obtain ⟨va, vc, hvv, _, _⟩ := O7.reads
      have hlen : (mapK ch l k ++ [(yst, ywait)]).length = k + 1 := by rw [List.length_append, hl6]; rfl
      rw [hlen] at hvv
      subst hvv
      clear O7 V7 hown7 hend7 hgr hlen
      have r0 := (same7 ⟨o, 0, none⟩ _ (.inl rfl) (E6.cell (E25.cell q0))).1
      obtain ⟨r1, rf0⟩ := same7 ⟨o, 1, none⟩ _ (.inl rfl) (E6.cell (E25.cell q1))
      have rf := (rf0.trans (Below.frozen (p := ⟨o, 1, none⟩) E6 (cell_lt (E25.cell q1)))).trans ((Below.frozen (p := ⟨o, 1, none⟩) E25 (cell_lt q1)).trans qf)
      clear rf0
      clear hHeld same7
      (refine wpAnyE_free (i := 14) (o := ?_) ?_ (by kernel_rfl) (by kernel_rfl) (fun K hK => ?_); rotate_left; (focus ((simp only [List.getElem?_toArray, List.getElem?_cons_succ, List.getElem?_cons_zero]; exact rfl))); go_simp; refine hK.out _ _ ?_; clear hK K; (try simp only [Act.put, List.setIfInBounds_toArray, List.set_cons_zero, List.set_cons_succ]))
      refine wpAnyE_done (by kernel_rfl) ?_ _
      have MN : Hid (MpSt o W (w7.setCell ⟨o, 1, none⟩ (.slice va (k + 1) vc)) n (mapK ch l (k + 1))) := by
        show MpSt _ _ _ _ _
        rw [HMS.out]
        have BB : Below o W w7 := (hbe.trans (((EX.trans E25).trans E6).mono (by have := HXB.out; omega))).trans B7
        refine ⟨BB.setCell (p := ⟨o, 1, none⟩) (Nat.le_refl _) _, ?_, by rw [World.frozen?_setCell]; exact rf, _, World.cell?_setCell_same _ _ _ r1, HO7.out.chg (Chg.setCell (B := fun b => b ≤ o) ⟨o, 1, none⟩ _ (Nat.le_refl _)) (fun b hb e => by have := HV7.out b hb; omega), fun b hb => by have := HV7.out b hb; omega⟩
        rw [World.cell?_setCell_other _ _ _ _ (fun h => by simp only [Addr.mk.injEq] at h; omega)]
        exact r0
      generalize w7.setCell ⟨o, 1, none⟩ (.slice va (k + 1) vc) = w8 at MN ⊢
      go_wp2
      refine ⟨⟨k + 1, by omega, by go_num, MN⟩, by simp [intOf]; omega⟩
    · have hke : k = l.length := by omega
      subst hke
      obtain ⟨v, m1, m2, m3⟩ := M.out.v
      have m0 := M.out.c0
      have hr := m2.reads
      obtain ⟨va, vc, rfl, hva, hvl⟩ := hr
      have HVA := Lib.hid hva
      have HVL := Lib.hid hvl
      have d1 := cellB hbe (p := ⟨w.heap.size + 1, 0, none⟩) ho1 c1
      have d2 := cellB hbe (p := ⟨w.heap.size + 1, 1, none⟩) ho1 c2
      have g1 := (Below.frozen (p := ⟨w.heap.size + 1, 0, none⟩) hbe ho1).trans f1
      have g2 := (Below.frozen (p := ⟨w.heap.size + 1, 1, none⟩) hbe ho1).trans f2
      have hcc : Chg (fun b => b ≤ o) wr ((wr.setCell ⟨w.heap.size + 1, 0, none⟩ (.int .i64 n)).setCell ⟨w.heap.size + 1, 1, none⟩ (.slice va (mapK ch l l.length).length vc)) :=
        (Chg.setCell (B := fun b => b ≤ o) ⟨w.heap.size + 1, 0, none⟩ _ (by show w.heap.size + 1 ≤ o; omega)).trans (Chg.setCell (B := fun b => b ≤ o) ⟨w.heap.size + 1, 1, none⟩ _ (by show w.heap.size + 1 ≤ o; omega))
      have HFIN : Hid (OwnsP (fun b => b ≤ o) ((wr.setCell ⟨w.heap.size + 1, 0, none⟩ (.int .i64 n)).setCell ⟨w.heap.size + 1, 1, none⟩ (.slice va (mapK ch l l.length).length vc)) (.slice va (mapK ch l l.length).length vc) (mapK ch l l.length)) := m2.chg hcc (fun b hb e => by have := m3 b hb; omega)
      have HOB : Hid (∀ b, (Value.slice va (mapK ch l l.length).length vc).ownBlock = some b → o < b) := m3
      have how : w.heap.size ≤ o := by omega
      clear hcc
      clear hva hvl m2 m3 M
      have EF : Ext w ((wr.setCell ⟨w.heap.size + 1, 0, none⟩ (.int .i64 n)).setCell ⟨w.heap.size + 1, 1, none⟩ (.slice va (mapK ch l l.length).length vc)) := (by repeat (first | with_reducible exact Ext.refl _ | with_reducible assumption | with_reducible apply Ext.drewN | with_reducible apply Ext.drew | with_reducible apply Ext.alloc | ((with_reducible refine Ext.set ?_ ?_ _); rotate_left; first | omega | (simp; omega)) | (with_reducible refine Ext.trans ?_ (by with_reducible assumption))))
      go_wp2
      refine bodyPost_ret (v := .agg #[.int .i64 n, .slice va (mapK ch l l.length).length vc]) (by rw [results_cell1 rfl]; go_simp) rfl ⟨o, _, how, rfl, HFIN.out, HOB.out, EF⟩
theorem mapped_any (n : Int) (l : List Stp) (a : Option Addr) (cap : Nat) (w : World) (g : Nat) (cb : Array Value) (ch : Nat → Stp → Stp) (hl : l.length ≤ 200) (hf : Full l) (hc : CellsP w a l)
    (heg : ∀ args w, (callFunc g args).run Tryz.prog w = .ok (.enter g args) w)
    (hch : ∀ (k : Nat) (v : Value) (w' : World), k < l.length → Ext w w' → OwnsK w' v (l.getD k stp0).1 → (∀ b, v.ownBlock = some b → w.heap.size ≤ b) → Calls Tryz.prog g (#[.int .i64 (k : Int), .agg #[v, .int .i64 (l.getD k stp0).2]] ++ cb) w' (ChPost (ch k (l.getD k stp0)) v w')) :
    Calls Tryz.prog 62 #[.agg #[.int .i64 n, .slice a l.length cap], .func (.func g) #[] cb] w (SeqPost (n, mapK ch l l.length) w) :=
  (mapped_own n l a cap w g cb ch hl hf hc heg hch).mono fun _ _ h => h.seq
end Go.Proofs.YtnhbogmihnnpjaaGreat
/- variant.copied. -/
namespace Go.Proofs.YtnhbogmihnnpjaaGreat
open Go.RowKit

set_option maxHeartbeats 2000000 in
theorem copied1_any (st : List Stk) (wait : Int) (k : Nat) (v : Value) (w : World) (ho : OwnsK w v st) :
    Calls Tryz.prog 88 #[.int .i64 (k : Int), .agg #[v, .int .i64 wait]] w (ChPost (st, wait) v w) := by
  have HO := Lib.hid ho
  obtain ⟨a, c, rfl, _, _, hb⟩ := ho.reads
  have HB := Lib.hid hb
  clear ho hb
  go_enter Tryz.func88, Tryz.ntmps88
  go_wp2
  have E : Ext w ((w.alloc (.cells #[.slice a st.length c, .int .i64 wait] 87)).alloc (.cells #[.slice a st.length c, .int .i64 wait] 87)) := (by repeat (first | with_reducible exact Ext.refl _ | with_reducible assumption | with_reducible apply Ext.drewN | with_reducible apply Ext.drew | with_reducible apply Ext.alloc | ((with_reducible refine Ext.set ?_ ?_ _); rotate_left; first | omega | (simp; omega)) | (with_reducible refine Ext.trans ?_ (by with_reducible assumption))))
  refine bodyPost_ret (v := .agg #[.slice a st.length c, .int .i64 wait]) (by rw [results_cell1 rfl]; go_simp) rfl ⟨_, rfl, (HO.out.ext E).slice, fun b hb => .inl hb, ⟨a, c, rfl, fun b off h => ?_⟩, fun n hn _ => E.mono hn⟩
  subst h
  by_cases hne : st = []
  · have := HO.out.2
    subst hne
    rcases this with ⟨h1, _⟩ | ⟨g, cap, cur, h1, _⟩
    · cases h1
    · cases h1; rfl
  · exact (HB.out b off rfl hne).1
theorem mapK_id (l : List Stp) : mapK (fun _ x => x) l l.length = l := by
  unfold mapK
  apply list_ext_getD stp0 (by simp)
  intro j hj
  have : j < l.length := by simpa using hj
  simp [List.getD, this]
theorem copied_own (n : Int) (l : List Stp) (a : Option Addr) (cap : Nat) (w : World) (hl : l.length ≤ 200) (hf : Full l) (hc : CellsP w a l) :
    Calls Tryz.prog 50 #[.agg #[.int .i64 n, .slice a l.length cap]] w (OwnPost (n, l) w) := by
  have HC := Lib.hid hc
  have HF := Lib.hid hf
  have HL := Lib.hid hl
  clear hc hf hl
  go_enter Tryz.func50, Tryz.ntmps50
  go_wp2_with fail
  have E1 : Ext w ((w.alloc (.cells #[.int .i64 n, .slice a l.length cap] 24)).alloc (.cells #[.int .i64 0, .slice none 0 0] 24)) := (by repeat (first | with_reducible exact Ext.refl _ | with_reducible assumption | with_reducible apply Ext.drewN | with_reducible apply Ext.drew | with_reducible apply Ext.alloc | ((with_reducible refine Ext.set ?_ ?_ _); rotate_left; first | omega | (simp; omega)) | (with_reducible refine Ext.trans ?_ (by with_reducible assumption))))
  have c1 : ((w.alloc (.cells #[.int .i64 n, .slice a l.length cap] 24)).alloc (.cells #[.int .i64 0, .slice none 0 0] 24)).cell? ⟨w.heap.size + 1, 0, none⟩ = some (.int .i64 0) := by go_simp
  have c2 : ((w.alloc (.cells #[.int .i64 n, .slice a l.length cap] 24)).alloc (.cells #[.int .i64 0, .slice none 0 0] 24)).cell? ⟨w.heap.size + 1, 1, none⟩ = some (.slice none 0 0) := by go_simp
  have f1 : ((w.alloc (.cells #[.int .i64 n, .slice a l.length cap] 24)).alloc (.cells #[.int .i64 0, .slice none 0 0] 24)).frozen? ⟨w.heap.size + 1, 0, none⟩ = false := by go_simp
  have f2 : ((w.alloc (.cells #[.int .i64 n, .slice a l.length cap] 24)).alloc (.cells #[.int .i64 0, .slice none 0 0] 24)).frozen? ⟨w.heap.size + 1, 1, none⟩ = false := by go_simp
  generalize ((w.alloc (.cells #[.int .i64 n, .slice a l.length cap] 24)).alloc (.cells #[.int .i64 0, .slice none 0 0] 24)) = W at E1 c1 c2 f1 f2 ⊢
  refine (mapped_own n l a cap W 88 #[] (fun _ x => x) HL.out HF.out (HC.out.ext E1) (enters_of Tryz.func88 (by kernel_rfl) rfl) (fun k v w' _ _ ho _ => copied1_any _ _ k v w' ho)).mono ?_
  rintro e w2 ⟨o, v, ho, rfl, hv, hob, hE⟩
  rw [mapK_id] at hv
  have HV := Lib.hid hv
  have HOB := Lib.hid hob
  have hz1 : w.heap.size + 1 < W.heap.size := cell_lt c1
  obtain ⟨ua, uc, rfl, _, _⟩ := hv.reads
  have g1 := (Below.frozen (p := ⟨w.heap.size + 1, 0, none⟩) hE (cell_lt c1)).trans f1
  have g2 := (Below.frozen (p := ⟨w.heap.size + 1, 1, none⟩) hE (cell_lt c2)).trans f2
  have c1 := hE.cell c1
  have c2 := hE.cell c2
  clear hv hob
  dsimp only
  go_wp2
  have EF : Ext w ((w2.setCell ⟨w.heap.size + 1, 0, none⟩ (.int .i64 n)).setCell ⟨w.heap.size + 1, 1, none⟩ (.slice ua l.length uc)) := (by repeat (first | with_reducible exact Ext.refl _ | with_reducible assumption | with_reducible apply Ext.drewN | with_reducible apply Ext.drew | with_reducible apply Ext.alloc | ((with_reducible refine Ext.set ?_ ?_ _); rotate_left; first | omega | (simp; omega)) | (with_reducible refine Ext.trans ?_ (by with_reducible assumption))))
  have hc : Chg (fun b => b ≤ o) w2 ((w2.setCell ⟨w.heap.size + 1, 0, none⟩ (.int .i64 n)).setCell ⟨w.heap.size + 1, 1, none⟩ (.slice ua l.length uc)) :=
    (Chg.setCell (B := fun b => b ≤ o) ⟨w.heap.size + 1, 0, none⟩ _ (by show w.heap.size + 1 ≤ o; omega)).trans (Chg.setCell (B := fun b => b ≤ o) ⟨w.heap.size + 1, 1, none⟩ _ (by show w.heap.size + 1 ≤ o; omega))
  exact bodyPost_ret (v := .agg #[.int .i64 n, .slice ua l.length uc]) (by rw [results_cell1 rfl]; go_simp) rfl ⟨o, _, by omega, rfl, HV.out.chg hc (fun b hb e => by have := HOB.out b hb; omega), HOB.out, EF⟩
theorem copied_any (n : Int) (l : List Stp) (a : Option Addr) (cap : Nat) (w : World) (hl : l.length ≤ 200) (hf : Full l) (hc : CellsP w a l) :
    Calls Tryz.prog 50 #[.agg #[.int .i64 n, .slice a l.length cap]] w (SeqPost (n, l) w) := (copied_own n l a cap w hl hf hc).mono fun _ _ h => h.seq
end Go.Proofs.YtnhbogmihnnpjaaGreat
