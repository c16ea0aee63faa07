/- Steps of the proof: Joined, Verify, TurnS, OpenS, Near, OwnI, Far, Few. No conditions. -/
import Derived.BigRegion
import Derived.Test.YtfigooilhnahfaaZOpens1
import Derived.Test.YtfigooilhnahfaaZOpens2
import Derived.Test.YtfigooilhnahfaaZOpens3
/- Whether cells are a route. -/
namespace Go.Proofs.Ytfigooilhnahfaa
open Go.RowKit Go.Maps

/-- from the k-th cell on -/
def jFrom (l : List Pt) : Nat → Nat → Bool
  | 0, _ => true
  | n + 1, k => if pt l k ∈ l.take k then false else if k ≠ 0 ∧ awayI (pt l (k - 1)) (pt l k) ≠ 1 then false else jFrom l n (k + 1)
def joinedB (l : List Pt) : Bool := jFrom l l.length 0

theorem setStep {l : List Pt} {k : Nat} (hk : k < l.length) {S : List Pt} (h : ∀ x, x ∈ S ↔ x ∈ l.take k) : ∀ x, x ∈ (if pt l k ∈ S then S else pt l k :: S) ↔ x ∈ l.take (k + 1) := by
  intro x
  have e : l.take (k + 1) = l.take k ++ [pt l k] := by
    rw [List.take_succ_eq_append_getElem hk]
    congr 2
    unfold pt
    rw [List.getD_eq_getElem?_getD, List.getElem?_eq_getElem hk]; simp
  rw [e, List.mem_append, ← h x]
  by_cases hm : pt l k ∈ S
  · rw [if_pos hm]
    constructor
    · exact .inl
    · rintro (h1 | h1)
      · exact h1
      · simp at h1; subst h1; exact hm
  · rw [if_neg hm, List.mem_cons]
    constructor
    · rintro (h1 | h1)
      · exact .inr (by simp [h1])
      · exact .inl h1
    · rintro (h1 | h1)
      · exact .inr h1
      · simp at h1; exact .inl h1

set_option maxHeartbeats 2000000 in
set_option maxRecDepth 100000 in
theorem joined_any (l : List Pt) (a : Option Addr) (cap : Nat) (w : World) (hl : l.length ≤ 4096) (hin : ∀ i, i < l.length → InG (pt l i)) (hcl : Cells2 w a l) :
    Calls Try.prog 68 #[.slice a l.length cap] w fun e w' => e = .returned (.bool (joinedB l)) ∧ Ext w w' := by
  have HL : Hid (Cells2 w a l) := hcl
  have HIN := Lib.hid hin
  have hmm := @run_makeMap Try.prog
  clear hcl hin
  go_enter Try.func68, Try.ntmps68
  go_wp2
  have H : Ext w (w.alloc (.map #[] 0)) := (Ext.refl _).alloc _
  have M0 : Hid (SetAt Try.prog 26 4 evPl (w.alloc (.map #[] 0)) w.heap.size 0 ([] : List Pt)) := SetAt.made _ _ _ _ _
  clear hmm
  go_loopw [9] (fun i wr => ∃ k : Nat, k ≤ l.length ∧ i = .int .i64 k ∧ Hid (joinedB l = jFrom l (l.length - k) k) ∧ Ext w wr ∧ Hid (∃ S, SetAt Try.prog 26 4 evPl wr w.heap.size k S ∧ ∀ x, x ∈ S ↔ x ∈ l.take k)) (fun i _ => l.length - (intOf i).toNat)
  case atStart => exact ⟨0, Nat.zero_le _, rfl, by show _ = _; rw [Nat.sub_zero]; rfl, H, ⟨[], M0.out, fun x => by simp⟩⟩
  case round =>
    obtain ⟨k, hk, rfl, hn, he, hs⟩ := hrel
    by_cases hlt : k < l.length
    · obtain ⟨b, off, ha, e1, e2⟩ := HL.out.ext he k hlt
      subst ha
      obtain ⟨S, hS1, hS2⟩ := hs.out
      have z3 := cell_lt e1
      dsimp only at z3
      by_cases hmem : pt l k ∈ l.take k
      · go_wp2
        have E4 : Ext wr ((( wr).alloc (.cells #[.int .i64 (pt l k).1, .int .i64 (pt l k).2] 26))) := (Ext.refl _).alloc _
        have c1 : ((( wr).alloc (.cells #[.int .i64 (pt l k).1, .int .i64 (pt l k).2] 26))).cell? ⟨wr.heap.size, 0, none⟩ = some (.int .i64 (pt l k).1) := by go_simp
        have c2 : ((( wr).alloc (.cells #[.int .i64 (pt l k).1, .int .i64 (pt l k).2] 26))).cell? ⟨wr.heap.size, 1, none⟩ = some (.int .i64 (pt l k).2) := by go_simp
        have e3 := E4.cell e1
        have e4 := E4.cell e2
        have S4 := hS1.ext E4
        obtain ⟨kl, hkl⟩ := keyPl (wf_inG (HIN.out k hlt)).1 (wf_inG (HIN.out k hlt)).2
        have hlook : ∀ n, (Instr.lookup 98 (.map (some w.heap.size)) (.agg #[.int .i64 ((pt l k)).1, .int .i64 ((pt l k)).2]) false).run Try.prog (((( wr).alloc (.cells #[.int .i64 (pt l k).1, .int .i64 (pt l k).2] 26))).drewN n) = .ok (.bool true) (((( wr).alloc (.cells #[.int .i64 (pt l k).1, .int .i64 (pt l k).2] 26))).drewN n) := fun n => by
          have := (S4.ext ((Ext.refl _).drewN n)).lookup lawPl Try.underlying98 Try.underlying4 (by kernel_rfl) hkl
          have hm : pt l k ∈ S := (hS2 _).2 hmem
          simp only [hm, decide_true] at this
          exact this
        have HE4 := Lib.hid (he.trans E4)
        have HM := Lib.hid hmem
        clear hmem S4 hS1 hS2 hkl hs e1 e2
        generalize ((( wr).alloc (.cells #[.int .i64 (pt l k).1, .int .i64 (pt l k).2] 26))) = W at hlook c1 c2 e3 e4 E4 HE4 ⊢
        go_quiet (fail)
        go_wp2
        go_ret
        refine ⟨ret_bool ?_, HE4.out.drewN _⟩
        rw [hn.out, show l.length - k = (l.length - (k + 1)) + 1 from by omega]
        unfold jFrom
        rw [if_pos HM.out]
      · have E4 : Ext wr ((( wr).alloc (.cells #[.int .i64 (pt l k).1, .int .i64 (pt l k).2] 26))) := (Ext.refl _).alloc _
        have c1 : ((( wr).alloc (.cells #[.int .i64 (pt l k).1, .int .i64 (pt l k).2] 26))).cell? ⟨wr.heap.size, 0, none⟩ = some (.int .i64 (pt l k).1) := by go_simp
        have c2 : ((( wr).alloc (.cells #[.int .i64 (pt l k).1, .int .i64 (pt l k).2] 26))).cell? ⟨wr.heap.size, 1, none⟩ = some (.int .i64 (pt l k).2) := by go_simp
        have e3 := E4.cell e1
        have e4 := E4.cell e2
        have S4 := hS1.ext E4
        obtain ⟨kl, hkl⟩ := keyPl (wf_inG (HIN.out k hlt)).1 (wf_inG (HIN.out k hlt)).2
        have hlook0 : ∀ w', Ext ((( wr).alloc (.cells #[.int .i64 (pt l k).1, .int .i64 (pt l k).2] 26))) w' → (Instr.lookup 98 (.map (some w.heap.size)) (.agg #[.int .i64 ((pt l k)).1, .int .i64 ((pt l k)).2]) false).run Try.prog w' = .ok (.bool false) w' := fun w' hw' => by
          have := (S4.ext hw').lookup lawPl Try.underlying98 Try.underlying4 (by kernel_rfl) hkl
          have hm : ¬ pt l k ∈ S := fun h => hmem ((hS2 _).1 h)
          simp only [hm, decide_false] at this
          exact this
        have HLK := Lib.hid hlook0
        have HE4 := Lib.hid (he.trans E4)
        have HM := Lib.hid hmem
        have HS4 := Lib.hid S4
        have HS2 := Lib.hid hS2
        have HKL := Lib.hid hkl
        clear hmem S4 hS1 hS2 hkl hs hlook0
        by_cases hk0 : k = 0
        · have hd : decide (0 < k) = false := by simp; omega
          have HK0 := Lib.hid hk0
          clear hk0
          go_wp2_with fail
          generalize ((( wr).alloc (.cells #[.int .i64 (pt l k).1, .int .i64 (pt l k).2] 26))) = W at HLK c1 c2 e3 e4 E4 HE4 HS4 ⊢
          have hlook : ∀ n, (Instr.lookup 98 (.map (some w.heap.size)) (.agg #[.int .i64 ((pt l k)).1, .int .i64 ((pt l k)).2]) false).run Try.prog (W.drewN n) = .ok (.bool false) (W.drewN n) := fun n => HLK.out _ ((Ext.refl _).drewN n)
          go_quiet (fail)
          clear hlook
          have EN : Ext W (W.drewN nq) := (Ext.refl _).drewN _
          have c1 := EN.cell c1
          have c2 := EN.cell c2
          have S5 := Lib.hid (HS4.out.ext EN)
          have HE5 := Lib.hid (HE4.out.trans EN)
          generalize W.drewN nq = W5 at EN c1 c2 S5 HE5 ⊢
          obtain ⟨S5a, hS5, hS5b⟩ := (show ∃ S, SetAt Try.prog 26 4 evPl W5 w.heap.size k S ∧ ∀ x, x ∈ S ↔ x ∈ l.take k from ⟨_, S5.out, HS2.out⟩)
          obtain ⟨w6, hup, hS6, hg6⟩ := hS5.update (t := 98) lawPl Try.underlying98 Try.underlying4 (by unfold maxLen; omega) evPl_inj HKL.out
          have HS6 : Hid (∃ S, SetAt Try.prog 26 4 evPl w6 w.heap.size (k + 1) S ∧ ∀ x, x ∈ S ↔ x ∈ l.take (k + 1)) := ⟨_, hS6, fun x => by have h0 := setStep hlt hS5b x; split at h0 <;> split <;> first | exact h0 | contradiction⟩
          have HG6 := Lib.hid hg6
          unfold evPl at hup
          clear hS5 hS5b hS6 hg6
          go_wp2
          refine ⟨⟨k + 1, by omega, by go_num, ?_, HE5.out.grown HG6.out HE5.out.size (fun j hj => by cases hj; exact Nat.le_refl _), HS6⟩, by simp [intOf]; omega⟩
          show _ = _
          rw [hn.out, show l.length - k = (l.length - (k + 1)) + 1 from by omega]
          conv => lhs; unfold jFrom
          rw [if_neg HM.out, if_neg (fun h => h.1 HK0.out)]
        · have hd : decide (0 < k) = true := by simp; omega
          obtain ⟨b', off', ha', f1, f2⟩ := HL.out.ext (he.trans E4) (k - 1) (by omega)
          cases ha'
          have hk1 : 0 < k := by omega
          have q1 : ((k : Int) - 1).toNat = k - 1 := by omega
          have q2 : (1 : Int) ≤ (k : Int) := by omega
          have q3 : 1 ≤ k := by omega
          have q4 : (k : Int) - 1 < (l.length : Int) := by omega
          have q5 : 0 ≤ (k : Int) - 1 := by omega
          have q6 : IntKind.i64.wrap ((k : Int) - 1) = (k : Int) - 1 := IntWalk.i64_in _ (by omega)
          have i1 := Lib.hid (HIN.out (k - 1) (by omega))
          have i2 := Lib.hid (HIN.out k hlt)
          have HK0 := Lib.hid hk0
          clear hk0
          go_wp2_with fail
          have zW : wr.heap.size < ((( wr).alloc (.cells #[.int .i64 (pt l k).1, .int .i64 (pt l k).2] 26))).heap.size := by simp
          generalize ((( wr).alloc (.cells #[.int .i64 (pt l k).1, .int .i64 (pt l k).2] 26))) = W at HLK c1 c2 e3 e4 E4 HE4 HS4 f1 f2 zW ⊢
          have zb := cell_lt f1
          dsimp only at zb
          have hlook : (Instr.lookup 98 (.map (some w.heap.size)) (.agg #[.int .i64 ((pt l k)).1, .int .i64 ((pt l k)).2]) false).run Try.prog W.drew = .ok (.bool false) W.drew := HLK.out _ (Ext.refl _).drew
          by_cases hdist : awayI (pt l (k - 1)) (pt l k) = 1
          · have HD := Lib.hid hdist
            go_region_held3 (fun w' => Sees W w') ((repeat (first | exact Sees.refl _ | assumption | apply Sees.drew | apply Sees.alloc | (refine Sees.ext ?_ (by assumption))))) (first | (go_at_call 81; refine (away_any (pt l (k - 1)) (pt l k) _ i1.out i2.out).mono ?_; rintro e w' ⟨rfl, hE2⟩))
            have hSS := (show Sees W _ by assumption).2.2
            have c1 := hSS.cell c1
            have c2 := hSS.cell c2
            have S5 := Lib.hid (HS4.out.ext hSS)
            have HE5 := Lib.hid (HE4.out.trans hSS)
            clear hlook
            clear e3 e4 f1 f2 hSS
            generalize w' = W5 at c1 c2 S5 HE5 ⊢
            obtain ⟨S5a, hS5, hS5b⟩ := (show ∃ S, SetAt Try.prog 26 4 evPl W5 w.heap.size k S ∧ ∀ x, x ∈ S ↔ x ∈ l.take k from ⟨_, S5.out, HS2.out⟩)
            obtain ⟨w6, hup, hS6, hg6⟩ := hS5.update (t := 98) lawPl Try.underlying98 Try.underlying4 (by unfold maxLen; omega) evPl_inj HKL.out
            have HS6 : Hid (∃ S, SetAt Try.prog 26 4 evPl w6 w.heap.size (k + 1) S ∧ ∀ x, x ∈ S ↔ x ∈ l.take (k + 1)) := ⟨_, hS6, fun x => by have h0 := setStep hlt hS5b x; split at h0 <;> split <;> first | exact h0 | contradiction⟩
            have HG6 := Lib.hid hg6
            unfold evPl at hup
            clear hS5 hS5b hS6 hg6
            go_wp2
            refine ⟨⟨k + 1, by omega, by go_num, ?_, HE5.out.grown HG6.out HE5.out.size (fun j hj => by cases hj; exact Nat.le_refl _), HS6⟩, by simp [intOf]; omega⟩
            show _ = _
            rw [hn.out, show l.length - k = (l.length - (k + 1)) + 1 from by omega]
            conv => lhs; unfold jFrom
            rw [if_neg HM.out, if_neg (fun h => h.2 HD.out)]
          · have hd1 : (awayI (pt l (k - 1)) (pt l k) == 1) = false := by simpa using hdist
            have HD := Lib.hid hdist
            clear hdist
            go_region_held3 (fun w' => Sees W w') ((repeat (first | exact Sees.refl _ | assumption | apply Sees.drew | apply Sees.alloc | (refine Sees.ext ?_ (by assumption))))) (first | (go_at_call 81; refine (away_any (pt l (k - 1)) (pt l k) _ i1.out i2.out).mono ?_; rintro e w' ⟨rfl, hE2⟩))
            have hSS := (show Sees W _ by assumption).2.2
            go_wp2
            go_ret
            refine ⟨ret_bool ?_, HE4.out.trans hSS⟩
            rw [hn.out, show l.length - k = (l.length - (k + 1)) + 1 from by omega]
            unfold jFrom
            rw [if_neg HM.out, if_pos ⟨HK0.out, HD.out⟩]
    · go_wp2
      go_ret
      exact ⟨ret_bool (by rw [hn.out, show l.length - k = 0 from by omega]; rfl), he⟩
end Go.Proofs.Ytfigooilhnahfaa
/- Verify. -/
namespace Go.Proofs.Ytfigooilhnahfaa
open Go.RowKit Go.Maps

theorem listed_ok {g : Gr} {l : List Pt} (h : listedErr g l = 0) : Right g ∧ l ≠ [] ∧ l.length ≤ 4096 ∧ ∀ p ∈ l, opn g p = true := by
  unfold listedErr at h
  split at h
  · rename_i h1; exact absurd h h1
  · rename_i h1
    split at h
    · omega
    · rename_i h2
      split at h
      · omega
      · rename_i h3
        exact ⟨right_of_chk (by simpa using h1), h2, by omega, cells_ok h⟩
theorem pt_mem {l : List Pt} {i : Nat} (h : i < l.length) : pt l i ∈ l := by
  unfold pt; rw [List.getD_eq_getElem?_getD, List.getElem?_eq_getElem h]; simp
def verV (g : Gr) (l : List Pt) : Bool := if listedErr g l ≠ 0 then false else joinedB l && decide (dst g (pt l (l.length - 1)) (pt l 0) = (l.length : Int) - 1)

set_option maxHeartbeats 1000000 in
set_option maxRecDepth 100000 in
theorem Verify_any (g : Gr) (l : List Pt) (ga : Option Addr) (gc : Nat) (a : Option Addr) (cap : Nat) (w : World) (hg : g.bl.length ≤ maxLen) (hc : Cells2 w ga g.bl) (hl : l.length ≤ maxLen) (hcl : Cells2 w a l) :
    Calls Try.prog 32 #[.agg #[.int .i64 g.rows, .int .i64 g.cols, .slice ga g.bl.length gc], .slice a l.length cap] w fun e w' => e = .returned (.tuple #[.bool (verV g l), .int .i64 (listedErr g l)]) ∧ Ext w w' := by
  have HC : Hid (Cells2 w ga g.bl) := hc
  have HL : Hid (Cells2 w a l) := hcl
  have HG := Lib.hid hg
  have HM := Lib.hid hl
  clear hc hcl hg hl
  have E0 : Ext w (((w).alloc (.cells #[.int .i64 g.rows, .int .i64 g.cols, .slice ga g.bl.length gc] 33))) := (Ext.refl _).alloc _
  have a1 : (((w).alloc (.cells #[.int .i64 g.rows, .int .i64 g.cols, .slice ga g.bl.length gc] 33))).cell? ⟨w.heap.size, 0, none⟩ = some (.int .i64 g.rows) := by go_simp
  have a2 : (((w).alloc (.cells #[.int .i64 g.rows, .int .i64 g.cols, .slice ga g.bl.length gc] 33))).cell? ⟨w.heap.size, 1, none⟩ = some (.int .i64 g.cols) := by go_simp
  have a3 : (((w).alloc (.cells #[.int .i64 g.rows, .int .i64 g.cols, .slice ga g.bl.length gc] 33))).cell? ⟨w.heap.size, 2, none⟩ = some (.slice ga g.bl.length gc) := by go_simp
  by_cases h0 : listedErr g l = 0
  · obtain ⟨hr, hne, hlen, ho⟩ := listed_ok h0
    have HR := Lib.hid hr
    have HIN : Hid (∀ i, i < l.length → inside g (pt l i) = true) := fun i hi => opn_inside (ho _ (pt_mem hi))
    have hpos : 0 < l.length := List.length_pos_iff.2 hne
    have hv : Hid (verV g l = (joinedB l && decide (dst g (pt l (l.length - 1)) (pt l 0) = (l.length : Int) - 1))) := by
      show _ = _
      unfold verV
      rw [if_neg (by simp [h0])]
    have H0 := Lib.hid h0
    have HLEN := Lib.hid hlen
    clear hr ho h0 hne
    rw [H0.out]
    go_enter Try.func32, Try.ntmps32
    go_wp2_with fail
    refine (listed_any g l ga gc a cap _ HG.out (HC.out.ext E0) HM.out (HL.out.ext E0)).mono ?_
    rintro e w1 ⟨rfl, hE⟩
    rw [H0.out]
    have b1 := hE.cell a1
    have b2 := hE.cell a2
    have b3 := hE.cell a3
    have E1 : Ext w w1 := E0.trans hE
    clear hE E0 a1 a2 a3
    go_wp2_with fail
    refine (joined_any l a cap _ HLEN.out (fun i hi => inG_of HR.out (HIN.out i hi)) (HL.out.ext E1)).mono ?_
    rintro e w2 ⟨rfl, hE⟩
    have d1 := hE.cell b1
    have d2 := hE.cell b2
    have d3 := hE.cell b3
    have E2 : Ext w w2 := E1.trans hE
    clear hE E1 b1 b2 b3
    cases hj : joinedB l
    · have HJ := Lib.hid hj
      clear hj
      go_wp2
      go_ret2
      refine ⟨?_, E2⟩
      rw [hv.out, HJ.out]
      rfl
    · have HJ := Lib.hid hj
      clear hj
      obtain ⟨b, off, ha, e1, e2⟩ := HL.out.ext E2 0 hpos
      obtain ⟨b', off', ha', f1, f2⟩ := HL.out.ext E2 (l.length - 1) (by omega)
      subst ha
      cases ha'
      simp only [Nat.zero_mul, Nat.add_zero] at e1 e2
      have q0 : IntKind.i64.wrap ((l.length : Int) - 1) = (l.length : Int) - 1 := IntWalk.i64_in _ (by have := HLEN.out; omega)
      have q1 : ((l.length : Int) - 1).toNat = l.length - 1 := by omega
      have q2 : 0 ≤ (l.length : Int) - 1 := by omega
      have q3 : (1 : Int) ≤ (l.length : Int) := by omega
      have q4 : 1 ≤ l.length := by omega
      have q5 : (0 : Int) < (l.length : Int) := by omega
      go_wp2_with fail
      have zb := cell_lt f1
      dsimp only at zb
      have HLAST : Hid (inside g (pt l (l.length - 1)) = true) := HIN.out _ (by omega)
      obtain ⟨r1, r2, r3, r4⟩ := inG_of HR.out (HIN.out 0 hpos)
      go_region
      · have E3 : Ext w2 (((w2.alloc (.cells #[.int .i64 (pt l 0).1, .int .i64 (pt l 0).2] 26)).alloc (.cells #[.int .i64 (pt l (l.length - 1)).1, .int .i64 (pt l (l.length - 1)).2] 26)).drew) := (((Ext.refl _).alloc _).alloc _).drew
        have g1 := E3.cell d1
        have g2 := E3.cell d2
        have g3 := E3.cell d3
        have p1 : (((w2.alloc (.cells #[.int .i64 (pt l 0).1, .int .i64 (pt l 0).2] 26)).alloc (.cells #[.int .i64 (pt l (l.length - 1)).1, .int .i64 (pt l (l.length - 1)).2] 26)).drew).cell? ⟨w2.heap.size, 0, none⟩ = some (.int .i64 (pt l 0).1) := by go_simp
        have p2 : (((w2.alloc (.cells #[.int .i64 (pt l 0).1, .int .i64 (pt l 0).2] 26)).alloc (.cells #[.int .i64 (pt l (l.length - 1)).1, .int .i64 (pt l (l.length - 1)).2] 26)).drew).cell? ⟨w2.heap.size, 1, none⟩ = some (.int .i64 (pt l 0).2) := by go_simp
        have p3 : (((w2.alloc (.cells #[.int .i64 (pt l 0).1, .int .i64 (pt l 0).2] 26)).alloc (.cells #[.int .i64 (pt l (l.length - 1)).1, .int .i64 (pt l (l.length - 1)).2] 26)).drew).cell? ⟨w2.heap.size + 1, 0, none⟩ = some (.int .i64 (pt l (l.length - 1)).1) := by go_simp
        have p4 : (((w2.alloc (.cells #[.int .i64 (pt l 0).1, .int .i64 (pt l 0).2] 26)).alloc (.cells #[.int .i64 (pt l (l.length - 1)).1, .int .i64 (pt l (l.length - 1)).2] 26)).drew).cell? ⟨w2.heap.size + 1, 1, none⟩ = some (.int .i64 (pt l (l.length - 1)).2) := by go_simp
        have E4 := E2.trans E3
        clear d1 d2 d3 E3 E2 e1 e2 f1 f2
        generalize (((w2.alloc (.cells #[.int .i64 (pt l 0).1, .int .i64 (pt l 0).2] 26)).alloc (.cells #[.int .i64 (pt l (l.length - 1)).1, .int .i64 (pt l (l.length - 1)).2] 26)).drew) = W at g1 g2 g3 p1 p2 p3 p4 E4 ⊢
        have z1 := cell_lt g1
        have z2 := cell_lt p1
        have z3 := cell_lt p3
        dsimp only at z1 z2 z3
        go_wp2_with fail
        refine wp_region_held_drew (S := fun w' => Sees W w') (by kernel_rfl) (by repeat (first | exact Sees.refl _ | assumption | apply Sees.drew)) (fun hHeld => ?_)
        ((refine wpAnyH_take (i := 0) (oi := ?_) (v := ?_) ?_ (by kernel_rfl) (by kernel_rfl) (by kernel_rfl) ?_ ?_ (by assumption) ?_; rotate_left 2; (focus ((simp only [List.getElem?_toArray, List.getElem?_cons_zero]; exact rfl))); (focus (exact fun _ _ _ h => h)); (focus (refine Or.inl ⟨by rfl, ?_⟩; intro w hSw; (try dsimp only at hSw); (first | (go_simp; done) | (go_simp; with_reducible rfl)))); (try simp only [Act.put, List.setIfInBounds_toArray, List.set_cons_zero, List.set_cons_succ])); (refine wpAnyH_take (i := 1) (oi := ?_) (v := ?_) ?_ (by kernel_rfl) (by kernel_rfl) (by kernel_rfl) ?_ ?_ (by assumption) ?_; rotate_left 2; (focus ((simp only [List.getElem?_toArray, List.getElem?_cons_succ, List.getElem?_cons_zero]; exact rfl))); (focus (exact fun _ _ _ h => h)); (focus (refine Or.inl ⟨by rfl, ?_⟩; intro w hSw; (try dsimp only at hSw); (first | (go_simp; done) | (go_simp; with_reducible rfl)))); (try simp only [Act.put, List.setIfInBounds_toArray, List.set_cons_zero, List.set_cons_succ])); (refine wpAnyH_take (i := 3) (oi := ?_) (v := ?_) ?_ (by kernel_rfl) (by kernel_rfl) (by kernel_rfl) ?_ ?_ (by assumption) ?_; rotate_left 2; (focus ((simp only [List.getElem?_toArray, List.getElem?_cons_succ, List.getElem?_cons_zero]; exact rfl))); (focus (exact fun _ _ _ h => h)); (focus (refine Or.inl ⟨by rfl, ?_⟩; intro w hSw; (try dsimp only at hSw); (first | (go_simp; done) | (go_simp; with_reducible rfl)))); (try simp only [Act.put, List.setIfInBounds_toArray, List.set_cons_zero, List.set_cons_succ])); (refine wpAnyH_take (i := 4) (oi := ?_) (v := ?_) ?_ (by kernel_rfl) (by kernel_rfl) (by kernel_rfl) ?_ ?_ (by assumption) ?_; rotate_left 2; (focus ((simp only [List.getElem?_toArray, List.getElem?_cons_succ, List.getElem?_cons_zero]; exact rfl))); (focus (exact fun _ _ _ h => h)); (focus (refine Or.inl ⟨by rfl, ?_⟩; intro w hSw; (try dsimp only at hSw); (first | (go_simp; done) | (go_simp; with_reducible rfl)))); (try simp only [Act.put, List.setIfInBounds_toArray, List.set_cons_zero, List.set_cons_succ])); (refine wpAnyH_take (i := 5) (oi := ?_) (v := ?_) ?_ (by kernel_rfl) (by kernel_rfl) (by kernel_rfl) ?_ ?_ (by assumption) ?_; rotate_left 2; (focus ((simp only [List.getElem?_toArray, List.getElem?_cons_succ, List.getElem?_cons_zero]; exact rfl))); (focus (exact fun _ _ _ h => h)); (focus (refine Or.inl ⟨by rfl, ?_⟩; intro w hSw; (try dsimp only at hSw); (first | (go_simp; done) | (go_simp; with_reducible rfl)))); (try simp only [Act.put, List.setIfInBounds_toArray, List.set_cons_zero, List.set_cons_succ])); (refine wpAnyH_take (i := 6) (oi := ?_) (v := ?_) ?_ (by kernel_rfl) (by kernel_rfl) (by kernel_rfl) ?_ ?_ (by assumption) ?_; rotate_left 2; (focus ((simp only [List.getElem?_toArray, List.getElem?_cons_succ, List.getElem?_cons_zero]; exact rfl))); (focus (exact fun _ _ _ h => h)); (focus (refine Or.inl ⟨by rfl, ?_⟩; intro w hSw; (try dsimp only at hSw); (first | (go_simp; done) | (go_simp; with_reducible rfl)))); (try simp only [Act.put, List.setIfInBounds_toArray, List.set_cons_zero, List.set_cons_succ])); (refine wpAnyH_take (i := 11) (oi := ?_) (v := ?_) ?_ (by kernel_rfl) (by kernel_rfl) (by kernel_rfl) ?_ ?_ (by assumption) ?_; rotate_left 2; (focus ((simp only [List.getElem?_toArray, List.getElem?_cons_succ, List.getElem?_cons_zero]; exact rfl))); (focus (exact fun _ _ _ h => h)); (focus (refine Or.inl ⟨by rfl, ?_⟩; intro w hSw; (try dsimp only at hSw); (first | (go_simp; done) | (go_simp; with_reducible rfl)))); (try simp only [Act.put, List.setIfInBounds_toArray, List.set_cons_zero, List.set_cons_succ])); (refine wpAnyH_take (i := 12) (oi := ?_) (v := ?_) ?_ (by kernel_rfl) (by kernel_rfl) (by kernel_rfl) ?_ ?_ (by assumption) ?_; rotate_left 2; (focus ((simp only [List.getElem?_toArray, List.getElem?_cons_succ, List.getElem?_cons_zero]; exact rfl))); (focus (exact fun _ _ _ h => h)); (focus (refine Or.inl ⟨by rfl, ?_⟩; intro w hSw; (try dsimp only at hSw); (first | (go_simp; done) | (go_simp; with_reducible rfl)))); (try simp only [Act.put, List.setIfInBounds_toArray, List.set_cons_zero, List.set_cons_succ])); (refine wpAnyH_take (i := 13) (oi := ?_) (v := ?_) ?_ (by kernel_rfl) (by kernel_rfl) (by kernel_rfl) ?_ ?_ (by assumption) ?_; rotate_left 2; (focus ((simp only [List.getElem?_toArray, List.getElem?_cons_succ, List.getElem?_cons_zero]; exact rfl))); (focus (exact fun _ _ _ h => h)); (focus (refine Or.inl ⟨by rfl, ?_⟩; intro w hSw; (try dsimp only at hSw); (first | (go_simp; done) | (go_simp; with_reducible rfl)))); (try simp only [Act.put, List.setIfInBounds_toArray, List.set_cons_zero, List.set_cons_succ])))
        (refine wpAnyH_ready (rs := [2]) (by kernel_rfl) (by simp) ?_; refine AllReadyH.cons (o := ?_) ?_ (fun K hK => ?_) AllReadyH.nil; rotate_left; (focus ((simp only [List.getElem?_toArray, List.getElem?_cons_succ, List.getElem?_cons_zero]; exact rfl))); go_simp; go_at_call 49; refine (distances_any g (pt l (l.length - 1)) ga gc _ HR.out HLAST.out (HC.out.ext (E4.trans (by exact (show Sees W _ by assumption).2.2)))).mono ?_; rintro e w' ⟨tb, rfl, hT, hE2⟩; have c1 := (hT (pt l 0) ⟨r1, r2, r3, r4⟩).1; go_wp2_with fail; refine hK.out _ _ (by repeat (first | exact Sees.refl _ | assumption | apply Sees.drew | (refine Sees.ext ?_ (by assumption)))) (fun hHeld => ?_); clear hK K; (try simp only [Act.put, List.setIfInBounds_toArray, List.set_cons_zero, List.set_cons_succ]))
        ((refine wpAnyH_take (i := 7) (oi := ?_) (v := ?_) ?_ (by kernel_rfl) (by kernel_rfl) (by kernel_rfl) ?_ ?_ (by assumption) ?_; rotate_left 2; (focus ((simp only [List.getElem?_toArray, List.getElem?_cons_succ, List.getElem?_cons_zero]; exact rfl))); (focus (exact fun _ _ _ h => h)); (focus (refine Or.inl ⟨by rfl, ?_⟩; intro w hSw; (try dsimp only at hSw); (first | (go_simp; done) | (go_simp; with_reducible rfl)))); (try simp only [Act.put, List.setIfInBounds_toArray, List.set_cons_zero, List.set_cons_succ])); (refine wpAnyH_take (i := 8) (oi := ?_) (v := ?_) ?_ (by kernel_rfl) (by kernel_rfl) (by kernel_rfl) ?_ ?_ (by assumption) ?_; rotate_left 2; (focus ((simp only [List.getElem?_toArray, List.getElem?_cons_succ, List.getElem?_cons_zero]; exact rfl))); (focus (exact fun _ _ _ h => h)); (focus (refine Or.inl ⟨by rfl, ?_⟩; intro w hSw; (try dsimp only at hSw); (first | (go_simp; done) | (go_simp; with_reducible rfl)))); (try simp only [Act.put, List.setIfInBounds_toArray, List.set_cons_zero, List.set_cons_succ])); (refine wpAnyH_take (i := 9) (oi := ?_) (v := ?_) ?_ (by kernel_rfl) (by kernel_rfl) (by kernel_rfl) ?_ ?_ (by assumption) ?_; rotate_left 2; (focus ((simp only [List.getElem?_toArray, List.getElem?_cons_succ, List.getElem?_cons_zero]; exact rfl))); (focus (exact fun _ _ _ h => h)); (focus (refine Or.inl ⟨by rfl, ?_⟩; intro w hSw; (try dsimp only at hSw); (first | (go_simp; done) | (go_simp; with_reducible rfl)))); (try simp only [Act.put, List.setIfInBounds_toArray, List.set_cons_zero, List.set_cons_succ])))
        (refine wpAnyH_ready (rs := [10]) (by kernel_rfl) (by simp) ?_; refine AllReadyH.cons (o := ?_) ?_ (fun K hK => ?_) AllReadyH.nil; rotate_left; (focus ((simp only [List.getElem?_toArray, List.getElem?_cons_succ, List.getElem?_cons_zero]; exact rfl))); go_simp; refine hK.out _ _ (by repeat (first | exact Sees.refl _ | assumption | apply Sees.drew | (refine Sees.ext ?_ (by assumption)))) (fun hHeld => ?_); clear hK K; (try simp only [Act.put, List.setIfInBounds_toArray, List.set_cons_zero, List.set_cons_succ]))
        ((refine wpAnyH_take (i := 14) (oi := ?_) (v := ?_) ?_ (by kernel_rfl) (by kernel_rfl) (by kernel_rfl) ?_ ?_ (by assumption) ?_; rotate_left 2; (focus ((simp only [List.getElem?_toArray, List.getElem?_cons_succ, List.getElem?_cons_zero]; exact rfl))); (focus (exact fun _ _ _ h => h)); (focus (refine Or.inl ⟨by rfl, ?_⟩; intro w hSw; (try dsimp only at hSw); (first | (go_simp; done) | (go_simp; with_reducible rfl)))); (try simp only [Act.put, List.setIfInBounds_toArray, List.set_cons_zero, List.set_cons_succ])); (refine wpAnyH_take (i := 15) (oi := ?_) (v := ?_) ?_ (by kernel_rfl) (by kernel_rfl) (by kernel_rfl) ?_ ?_ (by assumption) ?_; rotate_left 2; (focus ((simp only [List.getElem?_toArray, List.getElem?_cons_succ, List.getElem?_cons_zero]; exact rfl))); (focus (exact fun _ _ _ h => h)); (focus (refine Or.inl ⟨by rfl, ?_⟩; intro w hSw; (try dsimp only at hSw); (first | (go_simp; done) | (go_simp; with_reducible rfl)))); (try simp only [Act.put, List.setIfInBounds_toArray, List.set_cons_zero, List.set_cons_succ])); (refine wpAnyH_take (i := 16) (oi := ?_) (v := ?_) ?_ (by kernel_rfl) (by kernel_rfl) (by kernel_rfl) ?_ ?_ (by assumption) ?_; rotate_left 2; (focus ((simp only [List.getElem?_toArray, List.getElem?_cons_succ, List.getElem?_cons_zero]; exact rfl))); (focus (exact fun _ _ _ h => h)); (focus (refine Or.inl ⟨by rfl, ?_⟩; intro w hSw; (try dsimp only at hSw); (first | (go_simp; done) | (go_simp; with_reducible rfl)))); (try simp only [Act.put, List.setIfInBounds_toArray, List.set_cons_zero, List.set_cons_succ])))
        refine wpAnyH_done (by kernel_rfl) ?_ _
        have hS := (show Sees W _ by assumption).2.2
        go_wp2
        go_ret2
        refine ⟨?_, E4.trans hS⟩
        rw [hv.out, HJ.out]
        rfl
      · have E3 : Ext w2 (((w2.alloc (.cells #[.int .i64 (pt l (l.length - 1)).1, .int .i64 (pt l (l.length - 1)).2] 26)).alloc (.cells #[.int .i64 (pt l 0).1, .int .i64 (pt l 0).2] 26)).drew) := (((Ext.refl _).alloc _).alloc _).drew
        have g1 := E3.cell d1
        have g2 := E3.cell d2
        have g3 := E3.cell d3
        have p1 : (((w2.alloc (.cells #[.int .i64 (pt l (l.length - 1)).1, .int .i64 (pt l (l.length - 1)).2] 26)).alloc (.cells #[.int .i64 (pt l 0).1, .int .i64 (pt l 0).2] 26)).drew).cell? ⟨w2.heap.size + 1, 0, none⟩ = some (.int .i64 (pt l 0).1) := by go_simp
        have p2 : (((w2.alloc (.cells #[.int .i64 (pt l (l.length - 1)).1, .int .i64 (pt l (l.length - 1)).2] 26)).alloc (.cells #[.int .i64 (pt l 0).1, .int .i64 (pt l 0).2] 26)).drew).cell? ⟨w2.heap.size + 1, 1, none⟩ = some (.int .i64 (pt l 0).2) := by go_simp
        have p3 : (((w2.alloc (.cells #[.int .i64 (pt l (l.length - 1)).1, .int .i64 (pt l (l.length - 1)).2] 26)).alloc (.cells #[.int .i64 (pt l 0).1, .int .i64 (pt l 0).2] 26)).drew).cell? ⟨w2.heap.size, 0, none⟩ = some (.int .i64 (pt l (l.length - 1)).1) := by go_simp
        have p4 : (((w2.alloc (.cells #[.int .i64 (pt l (l.length - 1)).1, .int .i64 (pt l (l.length - 1)).2] 26)).alloc (.cells #[.int .i64 (pt l 0).1, .int .i64 (pt l 0).2] 26)).drew).cell? ⟨w2.heap.size, 1, none⟩ = some (.int .i64 (pt l (l.length - 1)).2) := by go_simp
        have E4 := E2.trans E3
        clear d1 d2 d3 E3 E2 e1 e2 f1 f2
        generalize (((w2.alloc (.cells #[.int .i64 (pt l (l.length - 1)).1, .int .i64 (pt l (l.length - 1)).2] 26)).alloc (.cells #[.int .i64 (pt l 0).1, .int .i64 (pt l 0).2] 26)).drew) = W at g1 g2 g3 p1 p2 p3 p4 E4 ⊢
        have z1 := cell_lt g1
        have z2 := cell_lt p1
        have z3 := cell_lt p3
        dsimp only at z1 z2 z3
        go_wp2_with fail
        refine wp_region_held_drew (S := fun w' => Sees W w') (by kernel_rfl) (by repeat (first | exact Sees.refl _ | assumption | apply Sees.drew)) (fun hHeld => ?_)
        ((refine wpAnyH_take (i := 0) (oi := ?_) (v := ?_) ?_ (by kernel_rfl) (by kernel_rfl) (by kernel_rfl) ?_ ?_ (by assumption) ?_; rotate_left 2; (focus ((simp only [List.getElem?_toArray, List.getElem?_cons_zero]; exact rfl))); (focus (exact fun _ _ _ h => h)); (focus (refine Or.inl ⟨by rfl, ?_⟩; intro w hSw; (try dsimp only at hSw); (first | (go_simp; done) | (go_simp; with_reducible rfl)))); (try simp only [Act.put, List.setIfInBounds_toArray, List.set_cons_zero, List.set_cons_succ])); (refine wpAnyH_take (i := 1) (oi := ?_) (v := ?_) ?_ (by kernel_rfl) (by kernel_rfl) (by kernel_rfl) ?_ ?_ (by assumption) ?_; rotate_left 2; (focus ((simp only [List.getElem?_toArray, List.getElem?_cons_succ, List.getElem?_cons_zero]; exact rfl))); (focus (exact fun _ _ _ h => h)); (focus (refine Or.inl ⟨by rfl, ?_⟩; intro w hSw; (try dsimp only at hSw); (first | (go_simp; done) | (go_simp; with_reducible rfl)))); (try simp only [Act.put, List.setIfInBounds_toArray, List.set_cons_zero, List.set_cons_succ])); (refine wpAnyH_take (i := 3) (oi := ?_) (v := ?_) ?_ (by kernel_rfl) (by kernel_rfl) (by kernel_rfl) ?_ ?_ (by assumption) ?_; rotate_left 2; (focus ((simp only [List.getElem?_toArray, List.getElem?_cons_succ, List.getElem?_cons_zero]; exact rfl))); (focus (exact fun _ _ _ h => h)); (focus (refine Or.inl ⟨by rfl, ?_⟩; intro w hSw; (try dsimp only at hSw); (first | (go_simp; done) | (go_simp; with_reducible rfl)))); (try simp only [Act.put, List.setIfInBounds_toArray, List.set_cons_zero, List.set_cons_succ])); (refine wpAnyH_take (i := 4) (oi := ?_) (v := ?_) ?_ (by kernel_rfl) (by kernel_rfl) (by kernel_rfl) ?_ ?_ (by assumption) ?_; rotate_left 2; (focus ((simp only [List.getElem?_toArray, List.getElem?_cons_succ, List.getElem?_cons_zero]; exact rfl))); (focus (exact fun _ _ _ h => h)); (focus (refine Or.inl ⟨by rfl, ?_⟩; intro w hSw; (try dsimp only at hSw); (first | (go_simp; done) | (go_simp; with_reducible rfl)))); (try simp only [Act.put, List.setIfInBounds_toArray, List.set_cons_zero, List.set_cons_succ])); (refine wpAnyH_take (i := 5) (oi := ?_) (v := ?_) ?_ (by kernel_rfl) (by kernel_rfl) (by kernel_rfl) ?_ ?_ (by assumption) ?_; rotate_left 2; (focus ((simp only [List.getElem?_toArray, List.getElem?_cons_succ, List.getElem?_cons_zero]; exact rfl))); (focus (exact fun _ _ _ h => h)); (focus (refine Or.inl ⟨by rfl, ?_⟩; intro w hSw; (try dsimp only at hSw); (first | (go_simp; done) | (go_simp; with_reducible rfl)))); (try simp only [Act.put, List.setIfInBounds_toArray, List.set_cons_zero, List.set_cons_succ])); (refine wpAnyH_take (i := 6) (oi := ?_) (v := ?_) ?_ (by kernel_rfl) (by kernel_rfl) (by kernel_rfl) ?_ ?_ (by assumption) ?_; rotate_left 2; (focus ((simp only [List.getElem?_toArray, List.getElem?_cons_succ, List.getElem?_cons_zero]; exact rfl))); (focus (exact fun _ _ _ h => h)); (focus (refine Or.inl ⟨by rfl, ?_⟩; intro w hSw; (try dsimp only at hSw); (first | (go_simp; done) | (go_simp; with_reducible rfl)))); (try simp only [Act.put, List.setIfInBounds_toArray, List.set_cons_zero, List.set_cons_succ])); (refine wpAnyH_take (i := 11) (oi := ?_) (v := ?_) ?_ (by kernel_rfl) (by kernel_rfl) (by kernel_rfl) ?_ ?_ (by assumption) ?_; rotate_left 2; (focus ((simp only [List.getElem?_toArray, List.getElem?_cons_succ, List.getElem?_cons_zero]; exact rfl))); (focus (exact fun _ _ _ h => h)); (focus (refine Or.inl ⟨by rfl, ?_⟩; intro w hSw; (try dsimp only at hSw); (first | (go_simp; done) | (go_simp; with_reducible rfl)))); (try simp only [Act.put, List.setIfInBounds_toArray, List.set_cons_zero, List.set_cons_succ])); (refine wpAnyH_take (i := 12) (oi := ?_) (v := ?_) ?_ (by kernel_rfl) (by kernel_rfl) (by kernel_rfl) ?_ ?_ (by assumption) ?_; rotate_left 2; (focus ((simp only [List.getElem?_toArray, List.getElem?_cons_succ, List.getElem?_cons_zero]; exact rfl))); (focus (exact fun _ _ _ h => h)); (focus (refine Or.inl ⟨by rfl, ?_⟩; intro w hSw; (try dsimp only at hSw); (first | (go_simp; done) | (go_simp; with_reducible rfl)))); (try simp only [Act.put, List.setIfInBounds_toArray, List.set_cons_zero, List.set_cons_succ])); (refine wpAnyH_take (i := 13) (oi := ?_) (v := ?_) ?_ (by kernel_rfl) (by kernel_rfl) (by kernel_rfl) ?_ ?_ (by assumption) ?_; rotate_left 2; (focus ((simp only [List.getElem?_toArray, List.getElem?_cons_succ, List.getElem?_cons_zero]; exact rfl))); (focus (exact fun _ _ _ h => h)); (focus (refine Or.inl ⟨by rfl, ?_⟩; intro w hSw; (try dsimp only at hSw); (first | (go_simp; done) | (go_simp; with_reducible rfl)))); (try simp only [Act.put, List.setIfInBounds_toArray, List.set_cons_zero, List.set_cons_succ])))
        (refine wpAnyH_ready (rs := [2]) (by kernel_rfl) (by simp) ?_; refine AllReadyH.cons (o := ?_) ?_ (fun K hK => ?_) AllReadyH.nil; rotate_left; (focus ((simp only [List.getElem?_toArray, List.getElem?_cons_succ, List.getElem?_cons_zero]; exact rfl))); go_simp; go_at_call 49; refine (distances_any g (pt l (l.length - 1)) ga gc _ HR.out HLAST.out (HC.out.ext (E4.trans (by exact (show Sees W _ by assumption).2.2)))).mono ?_; rintro e w' ⟨tb, rfl, hT, hE2⟩; have c1 := (hT (pt l 0) ⟨r1, r2, r3, r4⟩).1; go_wp2_with fail; refine hK.out _ _ (by repeat (first | exact Sees.refl _ | assumption | apply Sees.drew | (refine Sees.ext ?_ (by assumption)))) (fun hHeld => ?_); clear hK K; (try simp only [Act.put, List.setIfInBounds_toArray, List.set_cons_zero, List.set_cons_succ]))
        ((refine wpAnyH_take (i := 7) (oi := ?_) (v := ?_) ?_ (by kernel_rfl) (by kernel_rfl) (by kernel_rfl) ?_ ?_ (by assumption) ?_; rotate_left 2; (focus ((simp only [List.getElem?_toArray, List.getElem?_cons_succ, List.getElem?_cons_zero]; exact rfl))); (focus (exact fun _ _ _ h => h)); (focus (refine Or.inl ⟨by rfl, ?_⟩; intro w hSw; (try dsimp only at hSw); (first | (go_simp; done) | (go_simp; with_reducible rfl)))); (try simp only [Act.put, List.setIfInBounds_toArray, List.set_cons_zero, List.set_cons_succ])); (refine wpAnyH_take (i := 8) (oi := ?_) (v := ?_) ?_ (by kernel_rfl) (by kernel_rfl) (by kernel_rfl) ?_ ?_ (by assumption) ?_; rotate_left 2; (focus ((simp only [List.getElem?_toArray, List.getElem?_cons_succ, List.getElem?_cons_zero]; exact rfl))); (focus (exact fun _ _ _ h => h)); (focus (refine Or.inl ⟨by rfl, ?_⟩; intro w hSw; (try dsimp only at hSw); (first | (go_simp; done) | (go_simp; with_reducible rfl)))); (try simp only [Act.put, List.setIfInBounds_toArray, List.set_cons_zero, List.set_cons_succ])); (refine wpAnyH_take (i := 9) (oi := ?_) (v := ?_) ?_ (by kernel_rfl) (by kernel_rfl) (by kernel_rfl) ?_ ?_ (by assumption) ?_; rotate_left 2; (focus ((simp only [List.getElem?_toArray, List.getElem?_cons_succ, List.getElem?_cons_zero]; exact rfl))); (focus (exact fun _ _ _ h => h)); (focus (refine Or.inl ⟨by rfl, ?_⟩; intro w hSw; (try dsimp only at hSw); (first | (go_simp; done) | (go_simp; with_reducible rfl)))); (try simp only [Act.put, List.setIfInBounds_toArray, List.set_cons_zero, List.set_cons_succ])))
        (refine wpAnyH_ready (rs := [10]) (by kernel_rfl) (by simp) ?_; refine AllReadyH.cons (o := ?_) ?_ (fun K hK => ?_) AllReadyH.nil; rotate_left; (focus ((simp only [List.getElem?_toArray, List.getElem?_cons_succ, List.getElem?_cons_zero]; exact rfl))); go_simp; refine hK.out _ _ (by repeat (first | exact Sees.refl _ | assumption | apply Sees.drew | (refine Sees.ext ?_ (by assumption)))) (fun hHeld => ?_); clear hK K; (try simp only [Act.put, List.setIfInBounds_toArray, List.set_cons_zero, List.set_cons_succ]))
        ((refine wpAnyH_take (i := 14) (oi := ?_) (v := ?_) ?_ (by kernel_rfl) (by kernel_rfl) (by kernel_rfl) ?_ ?_ (by assumption) ?_; rotate_left 2; (focus ((simp only [List.getElem?_toArray, List.getElem?_cons_succ, List.getElem?_cons_zero]; exact rfl))); (focus (exact fun _ _ _ h => h)); (focus (refine Or.inl ⟨by rfl, ?_⟩; intro w hSw; (try dsimp only at hSw); (first | (go_simp; done) | (go_simp; with_reducible rfl)))); (try simp only [Act.put, List.setIfInBounds_toArray, List.set_cons_zero, List.set_cons_succ])); (refine wpAnyH_take (i := 15) (oi := ?_) (v := ?_) ?_ (by kernel_rfl) (by kernel_rfl) (by kernel_rfl) ?_ ?_ (by assumption) ?_; rotate_left 2; (focus ((simp only [List.getElem?_toArray, List.getElem?_cons_succ, List.getElem?_cons_zero]; exact rfl))); (focus (exact fun _ _ _ h => h)); (focus (refine Or.inl ⟨by rfl, ?_⟩; intro w hSw; (try dsimp only at hSw); (first | (go_simp; done) | (go_simp; with_reducible rfl)))); (try simp only [Act.put, List.setIfInBounds_toArray, List.set_cons_zero, List.set_cons_succ])); (refine wpAnyH_take (i := 16) (oi := ?_) (v := ?_) ?_ (by kernel_rfl) (by kernel_rfl) (by kernel_rfl) ?_ ?_ (by assumption) ?_; rotate_left 2; (focus ((simp only [List.getElem?_toArray, List.getElem?_cons_succ, List.getElem?_cons_zero]; exact rfl))); (focus (exact fun _ _ _ h => h)); (focus (refine Or.inl ⟨by rfl, ?_⟩; intro w hSw; (try dsimp only at hSw); (first | (go_simp; done) | (go_simp; with_reducible rfl)))); (try simp only [Act.put, List.setIfInBounds_toArray, List.set_cons_zero, List.set_cons_succ])))
        refine wpAnyH_done (by kernel_rfl) ?_ _
        have hS := (show Sees W _ by assumption).2.2
        go_wp2
        go_ret2
        refine ⟨?_, E4.trans hS⟩
        rw [hv.out, HJ.out]
        rfl
  · have hv : Hid (verV g l = false) := by
      show _ = _
      unfold verV
      rw [if_pos h0]
    have hb : (listedErr g l != 0) = true := by simp [h0]
    have hb2 : (listedErr g l == 0) = false := by simp [h0]
    clear h0
    go_enter Try.func32, Try.ntmps32
    go_wp2_with fail
    refine (listed_any g l ga gc a cap _ HG.out (HC.out.ext E0) HM.out (HL.out.ext E0)).mono ?_
    rintro e w1 ⟨rfl, hE⟩
    go_wp2
    go_ret2
    rw [hv.out]
    exact ⟨rfl, E0.trans hE⟩
end Go.Proofs.Ytfigooilhnahfaa
/- What the law TubingTurns asks of routes, in plain Lean. -/
namespace Go.Proofs.Ytfigooilhnahfaa

def rightB (g : Gr) : Bool := decide (g.rows ≤ 9) && (decide (g.cols ≤ 9) && decide (chk g = 0))
theorem rightB_ok {g : Gr} (h : rightB g = true) : g.rows ≤ 9 ∧ g.cols ≤ 9 ∧ chk g = 0 := by
  unfold rightB at h
  simp only [Bool.and_eq_true, decide_eq_true_eq] at h
  exact ⟨h.1, h.2.1, h.2.2⟩
theorem nbs_one {p q : Pt} : q ∈ nbs p ↔ awayI p q = 1 := by
  unfold nbs awayI
  simp only [List.mem_cons, List.not_mem_nil, or_false, Prod.ext_iff]
  omega
theorem near_one {g : Gr} {p q : Pt} (h : q ∈ near g p) : awayI p q = 1 := nbs_one.1 (List.mem_filter.1 h).1
theorem walk_away {g : Gr} {p q : Pt} {n : Nat} (h : Walk g p n q) : awayI p q ≤ n ∧ ((n : Int) - awayI p q) % 2 = 0 := by
  induction h with
  | nil => unfold awayI; omega
  | cons _ h2 ih =>
    have := near_one h2
    unfold awayI at *
    omega
theorem jFrom_iff {l : List Pt} : ∀ (n k : Nat), jFrom l n k = true ↔ ∀ i, k ≤ i → i < k + n → pt l i ∉ l.take i ∧ (i ≠ 0 → awayI (pt l (i - 1)) (pt l i) = 1) := by
  intro n
  induction n with
  | zero => intro k; simp only [jFrom, true_iff]; intro i h1 h2; omega
  | succ n ih =>
    intro k
    unfold jFrom
    by_cases h1 : pt l k ∈ l.take k
    · rw [if_pos h1]
      constructor
      · intro h; cases h
      · intro h; exact absurd h1 (h k (Nat.le_refl _) (by omega)).1
    · rw [if_neg h1]
      by_cases h2 : k ≠ 0 ∧ awayI (pt l (k - 1)) (pt l k) ≠ 1
      · rw [if_pos h2]
        constructor
        · intro h; cases h
        · intro h; exact absurd ((h k (Nat.le_refl _) (by omega)).2 h2.1) h2.2
      · rw [if_neg h2, ih]
        constructor
        · intro h i hi hj
          by_cases e : i = k
          · subst e
            exact ⟨h1, fun h0 => Decidable.byContradiction fun hc => h2 ⟨h0, hc⟩⟩
          · exact h i (by omega) (by omega)
        · intro h i hi hj
          exact h i (by omega) (by omega)
theorem pt_cons (a : Pt) (l : List Pt) (i : Nat) : pt (a :: l) (i + 1) = pt l i := by simp [pt, List.getD]
theorem pt_mem_take {l : List Pt} {k : Nat} {x : Pt} (h : x ∈ l.take k) : ∃ i, i < k ∧ i < l.length ∧ pt l i = x := by
  obtain ⟨i, hi, e⟩ := List.mem_iff_getElem.1 h
  rw [List.length_take] at hi
  refine ⟨i, by omega, by omega, ?_⟩
  rw [List.getElem_take] at e
  unfold pt
  rw [List.getD_eq_getElem?_getD, List.getElem?_eq_getElem (by omega)]
  simpa using e
theorem wayGo_spec {g : Gr} (hr : Right g) {q : Pt} (hq : opn g q = true) : ∀ (n : Nat) (a : Pt), opn g a = true → IsD g q a n →
    (∀ i, i ≤ n → dst g q (pt (a :: wayGo g (dst g q) n a) i) = (n : Int) - i) ∧ (∀ i, i < n → pt (a :: wayGo g (dst g q) n a) (i + 1) ∈ near g (pt (a :: wayGo g (dst g q) n a) i)) := by
  intro n
  induction n with
  | zero =>
    intro a _ hd
    refine ⟨fun i hi => ?_, fun i hi => by omega⟩
    obtain rfl : i = 0 := by omega
    show dst g q a = _
    rw [dst_of hr (opn_inside hq) hd]
    omega
  | succ n ih =>
    intro a ha hd
    have hda : dst g q a = (n : Int) + 1 := by have := dst_of hr (opn_inside hq) hd; rw [this]; omega
    obtain ⟨y, hy1, hy2⟩ := stepTo_ex hr hq ha hd
    have hs : stepTo g (dst g q) a ∈ near g a ∧ dst g q (stepTo g (dst g q) a) = dst g q a - 1 := by
      unfold stepTo
      cases hf : (near g a).find? (fun x => decide (dst g q x = dst g q a - 1)) with
      | none =>
        have := List.find?_eq_none.1 hf y hy1
        simp at this
        omega
      | some z =>
        have h1 := List.find?_some hf
        have h2 := List.mem_of_find?_eq_some hf
        simp at h1
        exact ⟨h2, h1⟩
    obtain ⟨i1, i2⟩ := ih (stepTo g (dst g q) a) (near_opn hs.1) (stepTo_isD hr hq hd hs.1 (by rw [hs.2, hda]; omega))
    refine ⟨fun i hi => ?_, fun i hi => ?_⟩
    · cases i with
      | zero => show dst g q a = _; rw [hda]; omega
      | succ i =>
        show dst g q (pt (a :: stepTo g (dst g q) a :: wayGo g (dst g q) n (stepTo g (dst g q) a)) (i + 1)) = _
        rw [pt_cons, i1 i (by omega)]; omega
    · cases i with
      | zero => exact hs.1
      | succ i =>
        show pt (a :: stepTo g (dst g q) a :: wayGo g (dst g q) n (stepTo g (dst g q) a)) (i + 1 + 1) ∈ near g (pt (a :: stepTo g (dst g q) a :: wayGo g (dst g q) n (stepTo g (dst g q) a)) (i + 1))
        rw [pt_cons, pt_cons]
        exact i2 i (by omega)

/-- what the law TubingTurns asks of a route -/
structure TurnFacts (g : Gr) (p q : Pt) (l : List Pt) : Prop where
  len : (l.length : Int) = lenN g p q + 1
  le : l.length ≤ 576
  hd : pt l 0 = p
  last : pt l (l.length - 1) = q
  step : ∀ i, i + 1 < l.length → awayI (pt l i) (pt l (i + 1)) = 1
  free : ∀ i, i < l.length → pt l i ∉ g.bl
  cell : ∀ i, i < l.length → inside g (pt l i) = true
  ok : verV g l = true
  err : listedErr g l = 0
  ok2 : verV g (l ++ [p]) = false
  err2 : listedErr g (l ++ [p]) = 0
  d1 : awayI p q ≤ lenN g p q
  d2 : (lenN g p q - awayI p q) % 2 = 0
theorem listed_of {g : Gr} {l : List Pt} (hk : chk g = 0) (hne : l ≠ []) (hl : l.length ≤ 4096) (h : ∀ p ∈ l, opn g p = true) : listedErr g l = 0 := by
  unfold listedErr
  rw [if_neg (by simp [hk]), if_neg hne, if_neg (by omega)]
  exact cells_of h
theorem pt_app1 {l m : List Pt} {i : Nat} (h : i < l.length) : pt (l ++ m) i = pt l i := by
  unfold pt; rw [List.getD_eq_getElem?_getD, List.getD_eq_getElem?_getD, List.getElem?_append_left h]
theorem pt_app2 {l : List Pt} {p : Pt} : pt (l ++ [p]) l.length = p := by
  unfold pt; rw [List.getD_eq_getElem?_getD, List.getElem?_append_right (Nat.le_refl _)]; simp
theorem turn_facts {g : Gr} {p q : Pt} (hb : rightB g = true) (h : lenE g p q = 0) : TurnFacts g p q (routeV g p q) := by
  obtain ⟨c1, c2, hk⟩ := rightB_ok hb
  obtain ⟨_, hp, hq, hd, hn⟩ := len_is h
  have hr := right_of_chk hk
  have hip := opn_inside hp
  have hiq := opn_inside hq
  have e0 : routeV g p q = way g p q := by
    unfold routeV routeL
    rw [if_neg (by simp [given_of hk (l := [p, q]) (by simp [hp, hq])]), if_neg (by omega)]
  rw [e0]
  clear e0
  have hD : IsD g q p (dst g q p).toNat := by
    rcases dst_cases hr hiq p with ⟨k, h1, h2⟩ | ⟨_, h2⟩
    · rw [h2]; exact h1
    · omega
  obtain ⟨w1, w2⟩ := wayGo_spec hr hq _ p hp hD
  have hw : p :: wayGo g (dst g q) (dst g q p).toNat p = way g p q := rfl
  rw [hw] at w1 w2
  have hlen : (way g p q).length = (dst g q p).toNat + 1 := by unfold way; simp [wayGo_len]
  have hopn : ∀ i, i < (way g p q).length → opn g (pt (way g p q) i) = true := by
    intro i
    induction i with
    | zero => intro _; exact hp
    | succ i ih => intro hi; exact near_opn (w2 i (by omega))
  have hmem : ∀ x ∈ way g p q, opn g x = true := by
    intro x hx
    obtain ⟨i, hi, e⟩ := List.mem_iff_getElem.1 hx
    have := hopn i hi
    unfold pt at this
    rw [List.getD_eq_getElem?_getD, List.getElem?_eq_getElem hi] at this
    simp at this
    rw [← e]; exact this
  have hdis : ∀ i, i < (way g p q).length → pt (way g p q) i ∉ (way g p q).take i := by
    intro i hi hx
    obtain ⟨j, hj, hj2, e⟩ := pt_mem_take hx
    have a1 := w1 i (by omega)
    have a2 := w1 j (by omega)
    rw [e] at a2
    omega
  have hstep : ∀ i, i + 1 < (way g p q).length → awayI (pt (way g p q) i) (pt (way g p q) (i + 1)) = 1 := fun i hi => near_one (w2 i (by omega))
  have hjoin : joinedB (way g p q) = true := by
    unfold joinedB
    rw [jFrom_iff]
    intro i _ hi
    refine ⟨hdis i (by omega), fun h0 => ?_⟩
    obtain ⟨j, rfl⟩ : ∃ j, i = j + 1 := ⟨i - 1, by omega⟩
    exact hstep j (by omega)
  have hlast : pt (way g p q) ((way g p q).length - 1) = q := by
    have := w1 (dst g q p).toNat (Nat.le_refl _)
    rw [hlen]
    have h0 : dst g q (pt (way g p q) (dst g q p).toNat) = 0 := by omega
    have hwk := dst_walk hr hiq (q := pt (way g p q) (dst g q p).toNat) (by omega)
    rw [h0] at hwk
    exact hwk.zero
  have hnd : (way g p q).Nodup := by
    unfold List.Nodup
    rw [List.pairwise_iff_getElem]
    intro i j hi hj hij e
    have h1 := hdis j hj
    apply h1
    unfold pt
    rw [List.getD_eq_getElem?_getD, List.getElem?_eq_getElem hj, Option.getD_some, ← e]
    rw [List.mem_take_iff_getElem]
    exact ⟨i, by omega, rfl⟩
  have hsmall : (way g p q).length ≤ 576 := by
    rw [← List.length_map (f := idx)]
    refine nodup_lt 576 _ ?_ ?_
    · unfold List.Nodup at *
      rw [List.pairwise_map]
      refine List.Pairwise.imp_of_mem ?_ hnd
      intro a b ha hb hab e
      exact hab (idx_inj (inG_of hr (opn_inside (hmem a ha))) (inG_of hr (opn_inside (hmem b hb))) e)
    · intro x hx
      obtain ⟨y, hy, rfl⟩ := List.mem_map.1 hx
      have := opn_inside (hmem y hy)
      unfold inside at this
      simp only [Bool.and_eq_true, decide_eq_true_eq] at this
      unfold idx
      omega
  have hw2 := (dst_walk hr hiq hd).symm hq
  obtain ⟨g1, g2⟩ := walk_away hw2
  have hne : way g p q ≠ [] := by unfold way; simp
  have herr2 : listedErr g (way g p q ++ [p]) = 0 := listed_of hk (by simp) (by simp; omega) (fun x hx => by
    rcases List.mem_append.1 hx with hx | hx
    · exact hmem x hx
    · simp at hx; subst hx; exact hp)
  have herr : listedErr g (way g p q) = 0 := listed_of hk hne (by omega) hmem
  refine ⟨by rw [hlen, hn]; omega, hsmall, rfl, hlast, hstep, fun i hi hx => ?_, fun i hi => opn_inside (hopn i hi), ?_, herr, ?_, herr2, by rw [hn]; omega, by rw [hn]; omega⟩
  · have := hopn i hi
    unfold opn blk at this
    simp only [Bool.and_eq_true, Bool.not_eq_true', decide_eq_false_iff_not] at this
    exact this.2 hx
  · unfold verV
    rw [if_neg (by simp [herr]), hjoin, hlast]
    show decide (dst g q p = _) = true
    rw [hlen]
    simp
    omega
  · unfold verV
    rw [if_neg (by simp [herr2])]
    have hj : joinedB (way g p q ++ [p]) = false := by
      cases hc : joinedB (way g p q ++ [p])
      · rfl
      · exfalso
        unfold joinedB at hc
        rw [jFrom_iff] at hc
        have := (hc (way g p q).length (Nat.zero_le _) (by simp)).1
        rw [pt_app2] at this
        apply this
        rw [List.take_append_of_le_length (Nat.le_refl _), List.take_length]
        exact List.mem_cons_self ..
    rw [hj]; rfl
end Go.Proofs.Ytfigooilhnahfaa
/- A grid with one blocked cell less, in plain Lean: its parts together, its lengths. -/
namespace Go.Proofs.Ytfigooilhnahfaa

theorem chkFrom_of {g : Gr} : ∀ (n k : Nat), (∀ i, k ≤ i → i < k + n → inside g (pt g.bl i) = true ∧ (i ≠ 0 → bef (pt g.bl (i - 1)) (pt g.bl i) = true)) → chkFrom g n k = 0 := by
  intro n
  induction n with
  | zero => intro k _; rfl
  | succ n ih =>
    intro k h
    obtain ⟨h1, h2⟩ := h k (Nat.le_refl _) (by omega)
    unfold chkFrom
    rw [if_neg (by simp [h1]), if_neg (fun h3 => by rw [h2 h3.1] at h3; exact absurd h3.2 (by decide))]
    exact ih _ (fun i hi hj => h i (by omega) (by omega))
theorem chk_of_right {g : Gr} (h : Right g) : chk g = 0 := by
  have h1 := h.r1; have h2 := h.r2; have h3 := h.c1; have h4 := h.c2; have h5 := h.few
  unfold chk
  rw [if_neg (by omega), if_neg (by omega), if_neg (by omega)]
  refine chkFrom_of _ _ (fun i _ hi => ⟨h.ins i (by omega), fun h0 => ?_⟩)
  have := h.asc (i - 1) (by omega)
  rwa [show i - 1 + 1 = i by omega] at this
def less (g : Gr) (k : Nat) : Gr := ⟨g.rows, g.cols, g.bl.eraseIdx k⟩
theorem pt_era {l : List Pt} {i k : Nat} : pt (l.eraseIdx i) k = if k < i then pt l k else pt l (k + 1) := by
  unfold pt
  rw [List.getD_eq_getElem?_getD, List.getElem?_eraseIdx]
  split <;> rw [List.getD_eq_getElem?_getD]
theorem right_less {g : Gr} (h : Right g) {k : Nat} (hk : k < g.bl.length) : Right (less g k) := by
  have hl : (less g k).bl.length = g.bl.length - 1 := by
    show (g.bl.eraseIdx k).length = _
    rw [List.length_eraseIdx, if_pos hk]
  refine ⟨h.r1, h.r2, h.c1, h.c2, by have := h.few; omega, fun i hi => ?_, fun i hi => ?_⟩
  · show inside g (pt (g.bl.eraseIdx k) i) = true
    rw [pt_era]
    split
    · exact h.ins i (by omega)
    · exact h.ins (i + 1) (by omega)
  · show bef (pt (g.bl.eraseIdx k) i) (pt (g.bl.eraseIdx k) (i + 1)) = true
    rw [pt_era, pt_era]
    split
    · split
      · exact h.asc i (by omega)
      · exact h.asc.lt (by omega) (by omega)
    · rw [if_neg (by omega)]
      exact h.asc (i + 1) (by omega)
theorem opn_less {g : Gr} {k : Nat} {p : Pt} (h : opn g p = true) : opn (less g k) p = true := by
  unfold opn blk at *
  simp only [Bool.and_eq_true, Bool.not_eq_true', decide_eq_false_iff_not] at *
  exact ⟨h.1, fun hm => h.2 ((List.eraseIdx_sublist g.bl k).subset hm)⟩
theorem walk_less {g : Gr} {k : Nat} {p q : Pt} {n : Nat} (h : Walk g p n q) : Walk (less g k) p n q := by
  induction h with
  | nil => exact .nil
  | cons _ h2 ih =>
    refine .cons ih ?_
    unfold near at *
    rw [List.mem_filter] at *
    exact ⟨h2.1, opn_less h2.2⟩
theorem len_less {g : Gr} {k : Nat} (hk : k < g.bl.length) {p q : Pt} (h : lenE g p q = 0) : lenE (less g k) p q = 0 ∧ lenN (less g k) p q ≤ lenN g p q := by
  obtain ⟨hc, hp, hq, hd, hn⟩ := len_is h
  have hr := right_of_chk hc
  have hr2 := right_less hr hk
  have hw := walk_less (k := k) (dst_walk hr (opn_inside hq) hd)
  obtain ⟨h1, h2⟩ := walk_dst hr2 (opn_inside (opn_less hq)) hw
  obtain ⟨h3, h4⟩ := len_of (chk_of_right hr2) (opn_less hp) (opn_less hq) h1
  exact ⟨h3, by rw [h4, hn]; omega⟩

/-! ### Sums -/
def sumT (l : List Int) : Nat → Int
  | 0 => 0
  | k + 1 => sumT l k + l.getD k 0
def sumI (l : List Int) : Int := sumT l l.length
theorem sumT_cons (a : Int) (l : List Int) : ∀ k, sumT (a :: l) (k + 1) = a + sumT l k := by
  intro k
  induction k with
  | zero => simp [sumT]
  | succ k ih =>
    show sumT (a :: l) (k + 1) + (a :: l).getD (k + 1) 0 = a + (sumT l k + l.getD k 0)
    rw [ih]
    have : (a :: l).getD (k + 1) 0 = l.getD k 0 := by simp [List.getD]
    rw [this]; omega
theorem sumI_cons (a : Int) (l : List Int) : sumI (a :: l) = a + sumI l := sumT_cons a l l.length
theorem sumI_append (l m : List Int) : sumI (l ++ m) = sumI l + sumI m := by
  induction l with
  | nil => simp [sumI, sumT]
  | cons a l ih => rw [List.cons_append, sumI_cons, sumI_cons, ih]; omega
theorem sumI_perm {l m : List Int} (h : l.Perm m) : sumI l = sumI m := by
  induction h with
  | nil => rfl
  | cons x _ ih => rw [sumI_cons, sumI_cons, ih]
  | swap x y l => rw [sumI_cons, sumI_cons, sumI_cons, sumI_cons]; omega
  | trans _ _ h1 h2 => rw [h1, h2]
theorem ins_nodup {S : List Pt} (h : S.Nodup) {a : Pt} (ha : a ∉ S) : (ins S a).Nodup ∧ (ins S a).length = S.length + 1 := by
  unfold ins
  rw [if_neg ha]
  exact ⟨List.nodup_cons.2 ⟨ha, h⟩, rfl⟩
theorem insAll_nodup : ∀ {l S : List Pt}, S.Nodup → l.Nodup → (∀ x ∈ l, x ∉ S) → (insAll S l).Nodup ∧ (insAll S l).length = S.length + l.length := by
  intro l
  induction l with
  | nil => intro S h _ _; exact ⟨h, rfl⟩
  | cons a l ih =>
    intro S h hl hd
    obtain ⟨h1, h2⟩ := List.nodup_cons.1 hl
    obtain ⟨h3, h4⟩ := ins_nodup h (hd a (List.mem_cons_self ..))
    obtain ⟨h5, h6⟩ := ih h3 h2 (fun x hx hm => by
      rcases (ins_mem S a x).1 hm with h | rfl
      · exact hd x (List.mem_cons_of_mem _ hx) h
      · exact h1 hx)
    show (insAll (ins S a) l).Nodup ∧ _
    exact ⟨h5, by show (insAll (ins S a) l).length = _; rw [h6, h4]; simp; omega⟩
structure PK (g : Gr) (k : Nat) : Prop where
  mem : ∀ x, x ∈ (partK g k).1 ↔ ∃ j, j < k ∧ opn g (cellAt g j) = true ∧ 0 ≤ dst g (cellAt g j) x
  nd : (partK g k).1.Nodup
  sum : sumI (partK g k).2 = ((partK g k).1.length : Int)
theorem pk_all {g : Gr} (hr : Right g) : ∀ k, k ≤ g.rows.toNat * g.cols.toNat → PK g k := by
  intro k
  induction k with
  | zero => intro _; exact ⟨fun x => by simp [partK], List.nodup_nil, rfl⟩
  | succ k ih =>
    intro hk
    have ⟨h1, h2, h3⟩ := ih (by omega)
    have hin := cellAt_inside hr (k := k) (by omega)
    have he : partK g (k + 1) = partStep g (partK g k) (cellAt g k) := rfl
    unfold partStep at he
    by_cases hs : cellAt g k ∈ (partK g k).1
    · rw [if_pos hs] at he
      refine ⟨fun x => ?_, by rw [he]; exact h2, by rw [he]; exact h3⟩
      rw [he, h1]
      constructor
      · rintro ⟨j, a, b⟩; exact ⟨j, by omega, b⟩
      · rintro ⟨j, a, b, c⟩
        by_cases e : j = k
        · subst e
          obtain ⟨j', a', b', c'⟩ := (h1 _).1 hs
          exact ⟨j', a', b', (dst_tri hr (opn_inside b') hin c' c).1⟩
        · exact ⟨j, by omega, b, c⟩
    · rw [if_neg hs] at he
      by_cases hb : blk g (cellAt g k) = true
      · rw [if_pos hb] at he
        refine ⟨fun x => ?_, by rw [he]; exact h2, by rw [he]; exact h3⟩
        rw [he, h1]
        constructor
        · rintro ⟨j, a, b⟩; exact ⟨j, by omega, b⟩
        · rintro ⟨j, a, b, c⟩
          by_cases e : j = k
          · subst e
            unfold opn at b
            rw [hb] at b
            simp at b
          · exact ⟨j, by omega, b, c⟩
      · rw [if_neg hb] at he
        have hop : opn g (cellAt g k) = true := by unfold opn; simp [hin, hb]
        have hdis : ∀ x ∈ (wave g (cellAt g k)).map (·.1), x ∉ (partK g k).1 := fun x hx hm => by
          have hx := (mem_wave hr hin x).1 hx
          obtain ⟨j, a, b, c⟩ := (h1 x).1 hm
          have ho := dst_opn hr hop hx
          have hs2 : dst g x (cellAt g k) = dst g (cellAt g k) x := (dst_symm hr hop ho).symm
          exact hs ((h1 _).2 ⟨j, a, b, (dst_tri hr (opn_inside b) (opn_inside ho) c (by omega)).1⟩)
        obtain ⟨h4, h5⟩ := insAll_nodup h2 (wave_nodup g (cellAt g k)) hdis
        refine ⟨fun x => ?_, by rw [he]; exact h4, ?_⟩
        · rw [he]
          show x ∈ insAll _ _ ↔ _
          rw [insAll_mem, h1, mem_wave hr hin]
          constructor
          · rintro (⟨j, a, b⟩ | h)
            · exact ⟨j, by omega, b⟩
            · exact ⟨k, by omega, hop, h⟩
          · rintro ⟨j, a, b, c⟩
            by_cases e : j = k
            · subst e; exact .inr c
            · exact .inl ⟨j, by omega, b, c⟩
        · rw [he]
          show sumI ((partK g k).2 ++ [((wave g (cellAt g k)).length : Int)]) = _
          rw [sumI_append, h3, h5]
          simp [sumI, sumT]
theorem filter_two (p : Pt → Bool) : ∀ l : List Pt, (l.filter p).length + (l.filter fun x => !p x).length = l.length := by
  intro l
  induction l with
  | nil => rfl
  | cons a l ih =>
    simp only [List.filter_cons]
    cases h : p a
    · simp; omega
    · simp; omega
theorem bl_nodup {g : Gr} (hr : Right g) : g.bl.Nodup := by
  unfold List.Nodup
  rw [List.pairwise_iff_getElem]
  intro i j hi hj hij e
  have := hr.asc.lt hij hj
  have e2 : pt g.bl i = pt g.bl j := by
    unfold pt
    rw [List.getD_eq_getElem?_getD, List.getD_eq_getElem?_getD, List.getElem?_eq_getElem hi, List.getElem?_eq_getElem hj, e]
  rw [e2, bef_irrefl] at this
  cases this
theorem parts_sum {g : Gr} (hr : Right g) : sumI (partsL g) = ((g.rows.toNat * g.cols.toNat : Nat) : Int) - g.bl.length := by
  have hk := chk_of_right hr
  have h1 := pk_all hr _ (Nat.le_refl _)
  have e0 : sumI (partsL g) = sumI (partsU g) := by
    unfold partsL
    rw [if_neg (by simp [hk])]
    exact sumI_perm (List.mergeSort_perm _ _)
  have e1 : sumI (partsU g) = ((partK g (g.rows.toNat * g.cols.toNat)).1.length : Int) := h1.sum
  have hall := allCells_nodup hr (g.rows.toNat * g.cols.toNat)
  have e2 : (partK g (g.rows.toNat * g.cols.toNat)).1.length = (((List.range (g.rows.toNat * g.cols.toNat)).map (cellAt g)).filter (opn g)).length := by
    refine List.Perm.length_eq ((List.perm_ext_iff_of_nodup h1.nd (hall.filter _)).2 fun x => ?_)
    rw [h1.mem, List.mem_filter]
    constructor
    · rintro ⟨j, a, b, c⟩
      have ho := dst_opn hr b c
      obtain ⟨i, hi, e⟩ := inside_at (opn_inside ho)
      exact ⟨List.mem_map.2 ⟨i, List.mem_range.2 hi, e⟩, ho⟩
    · rintro ⟨a, b⟩
      obtain ⟨i, hi, rfl⟩ := List.mem_map.1 a
      exact ⟨i, List.mem_range.1 hi, b, by rw [dst_self hr (opn_inside b)]; exact Int.le_refl _⟩
  have e3 : (((List.range (g.rows.toNat * g.cols.toNat)).map (cellAt g)).filter fun x => !opn g x).length = g.bl.length := by
    refine List.Perm.length_eq ((List.perm_ext_iff_of_nodup (hall.filter _) (bl_nodup hr)).2 fun x => ?_)
    rw [List.mem_filter]
    constructor
    · rintro ⟨a, b⟩
      obtain ⟨i, hi, rfl⟩ := List.mem_map.1 a
      have hin := cellAt_inside hr (List.mem_range.1 hi)
      unfold opn blk at b
      rw [hin] at b
      simpa using b
    · intro hx
      obtain ⟨i, hi, e⟩ := List.mem_iff_getElem.1 hx
      have hin := hr.ins i hi
      have e4 : pt g.bl i = x := by unfold pt; rw [List.getD_eq_getElem?_getD, List.getElem?_eq_getElem hi, e]; rfl
      rw [e4] at hin
      obtain ⟨j, hj, e5⟩ := inside_at hin
      refine ⟨List.mem_map.2 ⟨j, List.mem_range.2 hj, e5⟩, ?_⟩
      unfold opn blk
      simp [hx]
  have e6 := filter_two (opn g) ((List.range (g.rows.toNat * g.cols.toNat)).map (cellAt g))
  rw [List.length_map, List.length_range] at e6
  rw [e0, e1, e2]
  omega
theorem partsL_desc (g : Gr) : Desc (partsL g) := by
  by_cases h : chk g = 0
  · unfold partsL
    rw [if_neg (by simp [h]), ← isortD_is]
    exact (isortD_spec _).1
  · unfold partsL
    rw [if_pos h]
    exact List.Pairwise.nil
theorem partsL_bd (g : Gr) : (∀ x ∈ partsL g, 0 ≤ x ∧ x ≤ 4096) ∧ (partsL g).length ≤ 4096 := by
  by_cases h : chk g = 0
  · have hr := right_of_chk h
    unfold partsL
    rw [if_neg (by simp [h])]
    refine ⟨fun x hx => ?_, ?_⟩
    · exact partK_bd hr _ (Nat.le_refl _) x ((List.mergeSort_perm _ _).mem_iff.1 hx)
    · rw [List.length_mergeSort]
      have h1 := partK_len g (g.rows.toNat * g.cols.toNat)
      have h2 : g.rows.toNat * g.cols.toNat ≤ 64 * 64 := Nat.mul_le_mul (by have := hr.r2; omega) (by have := hr.c2; omega)
      unfold partsU
      omega
  · unfold partsL
    rw [if_pos h]
    exact ⟨fun x hx => (by cases hx), by simp⟩
theorem sumT_bd {l : List Int} (h : ∀ x ∈ l, 0 ≤ x ∧ x ≤ 4096) : ∀ k, 0 ≤ sumT l k ∧ sumT l k ≤ 4096 * k := by
  intro k
  induction k with
  | zero => simp [sumT]
  | succ k ih =>
    have : 0 ≤ l.getD k 0 ∧ l.getD k 0 ≤ 4096 := by
      by_cases hk : k < l.length
      · refine h _ ?_
        rw [List.getD_eq_getElem?_getD, List.getElem?_eq_getElem hk]; simp
      · rw [List.getD_eq_getElem?_getD, List.getElem?_eq_none (by omega)]; simp
    unfold sumT
    omega
theorem less_sum {g : Gr} (hr : Right g) {k : Nat} (hk : k < g.bl.length) : 1 + sumI (partsL g) - sumI (partsL (less g k)) = 0 := by
  rw [parts_sum hr, parts_sum (right_less hr hk)]
  have : (less g k).bl.length = g.bl.length - 1 := by
    show (g.bl.eraseIdx k).length = _
    rw [List.length_eraseIdx, if_pos hk]
  rw [this]
  show _ - (((g.rows.toNat * g.cols.toNat : Nat) : Int) - _) = 0
  omega
end Go.Proofs.Ytfigooilhnahfaa
/- The reference's neighbours. -/
namespace Go.Proofs.Ytfigooilhnahfaa
open Go.RowKit

theorem near_step {g : Gr} {p : Pt} {k : Nat} (hk : k < 4) : ((nbs p).take (k + 1)).filter (opn g) = ((nbs p).take k).filter (opn g) ++ (if opn g (pt (nbs p) k) = true then [pt (nbs p) k] else []) := by
  have hl : k < (nbs p).length := hk
  rw [List.take_succ_eq_append_getElem hl, List.filter_append]
  congr 1
  have e : (nbs p)[k] = pt (nbs p) k := by unfold pt; rw [List.getD_eq_getElem?_getD, List.getElem?_eq_getElem hl]; simp
  rw [e]
  by_cases h : opn g (pt (nbs p) k) = true <;> simp [h]

set_option maxHeartbeats 2000000 in
set_option maxRecDepth 100000 in
theorem Near_any (g : Gr) (p : Pt) (ga : Option Addr) (gc : Nat) (w : World) (hg : g.bl.length ≤ maxLen) (hp : InG p) (hc : Cells2 w ga g.bl) :
    Calls Try.prog 73 #[.agg #[.int .i64 g.rows, .int .i64 g.cols, .slice ga g.bl.length gc], .agg #[.int .i64 p.1, .int .i64 p.2]] w fun e w' => ∃ v, e = .returned v ∧ Owns w' v (near g p) ∧ (∀ b, v.ownBlock = some b → w.heap.size ≤ b) ∧ Ext w w' := by
  have HC : Hid (Cells2 w ga g.bl) := hc
  have HG := Lib.hid hg
  have HP := Lib.hid hp
  obtain ⟨p1, p2, p3, p4⟩ := hp
  have x1 : IntKind.i64.wrap (p.1 - 1) = p.1 - 1 := IntWalk.i64_in _ (by omega)
  have x2 : IntKind.i64.wrap (p.2 - 1) = p.2 - 1 := IntWalk.i64_in _ (by omega)
  have x3 : IntKind.i64.wrap (p.1 + 1) = p.1 + 1 := IntWalk.i64_in _ (by omega)
  have x4 : IntKind.i64.wrap (p.2 + 1) = p.2 + 1 := IntWalk.i64_in _ (by omega)
  clear hc hg
  go_enter Try.func73, Try.ntmps73
  go_wp2
  obtain ⟨n, hn⟩ : ∃ n, n = w.heap.size := ⟨_, rfl⟩
  have E0 : Ext w (((( ((w).alloc (.cells #[.int .i64 g.rows, .int .i64 g.cols, .slice ga g.bl.length gc] 24))).alloc (.cells #[.int .i64 p.1, .int .i64 p.2] 26))).alloc (.cells #[.int .i64 (p.1 - 1), .int .i64 p.2, .int .i64 p.1, .int .i64 (p.2 - 1), .int .i64 p.1, .int .i64 (p.2 + 1), .int .i64 (p.1 + 1), .int .i64 p.2] 26)) := (((Ext.refl _).alloc _).alloc _).alloc _
  have g1 : (((( ((w).alloc (.cells #[.int .i64 g.rows, .int .i64 g.cols, .slice ga g.bl.length gc] 24))).alloc (.cells #[.int .i64 p.1, .int .i64 p.2] 26))).alloc (.cells #[.int .i64 (p.1 - 1), .int .i64 p.2, .int .i64 p.1, .int .i64 (p.2 - 1), .int .i64 p.1, .int .i64 (p.2 + 1), .int .i64 (p.1 + 1), .int .i64 p.2] 26)).cell? ⟨w.heap.size, 0, none⟩ = some (.int .i64 g.rows) := by clear hn; go_simp
  have g2 : (((( ((w).alloc (.cells #[.int .i64 g.rows, .int .i64 g.cols, .slice ga g.bl.length gc] 24))).alloc (.cells #[.int .i64 p.1, .int .i64 p.2] 26))).alloc (.cells #[.int .i64 (p.1 - 1), .int .i64 p.2, .int .i64 p.1, .int .i64 (p.2 - 1), .int .i64 p.1, .int .i64 (p.2 + 1), .int .i64 (p.1 + 1), .int .i64 p.2] 26)).cell? ⟨w.heap.size, 1, none⟩ = some (.int .i64 g.cols) := by clear hn; go_simp
  have g3 : (((( ((w).alloc (.cells #[.int .i64 g.rows, .int .i64 g.cols, .slice ga g.bl.length gc] 24))).alloc (.cells #[.int .i64 p.1, .int .i64 p.2] 26))).alloc (.cells #[.int .i64 (p.1 - 1), .int .i64 p.2, .int .i64 p.1, .int .i64 (p.2 - 1), .int .i64 p.1, .int .i64 (p.2 + 1), .int .i64 (p.1 + 1), .int .i64 p.2] 26)).cell? ⟨w.heap.size, 2, none⟩ = some (.slice ga g.bl.length gc) := by clear hn; go_simp
  have zW : (((( ((w).alloc (.cells #[.int .i64 g.rows, .int .i64 g.cols, .slice ga g.bl.length gc] 24))).alloc (.cells #[.int .i64 p.1, .int .i64 p.2] 26))).alloc (.cells #[.int .i64 (p.1 - 1), .int .i64 p.2, .int .i64 p.1, .int .i64 (p.2 - 1), .int .i64 p.1, .int .i64 (p.2 + 1), .int .i64 (p.1 + 1), .int .i64 p.2] 26)).heap.size = n + 3 := by rw [hn]; simp
  have HN : Hid (Cells2 (((( ((w).alloc (.cells #[.int .i64 g.rows, .int .i64 g.cols, .slice ga g.bl.length gc] 24))).alloc (.cells #[.int .i64 p.1, .int .i64 p.2] 26))).alloc (.cells #[.int .i64 (p.1 - 1), .int .i64 p.2, .int .i64 p.1, .int .i64 (p.2 - 1), .int .i64 p.1, .int .i64 (p.2 + 1), .int .i64 (p.1 + 1), .int .i64 p.2] 26)) (some ⟨w.heap.size + 1 + 1, 0, none⟩) (nbs p)) := fun i hi => by
    have : i = 0 ∨ i = 1 ∨ i = 2 ∨ i = 3 := by simp [nbs] at hi; omega
    clear hn zW
    rcases this with rfl | rfl | rfl | rfl <;> exact ⟨_, 0, rfl, by simp only [nbs, pt]; go_simp, by simp only [nbs, pt]; go_simp⟩
  rw [← hn] at g1 g2 g3 HN ⊢
  have z0 : w.heap.size ≤ n := by omega
  clear hn
  generalize (((( ((w).alloc (.cells #[.int .i64 g.rows, .int .i64 g.cols, .slice ga g.bl.length gc] 24))).alloc (.cells #[.int .i64 p.1, .int .i64 p.2] 26))).alloc (.cells #[.int .i64 (p.1 - 1), .int .i64 p.2, .int .i64 p.1, .int .i64 (p.2 - 1), .int .i64 p.1, .int .i64 (p.2 + 1), .int .i64 (p.1 + 1), .int .i64 p.2] 26)) = W at E0 g1 g2 g3 zW HN ⊢
  have HCW := Lib.hid (HC.out.ext E0)
  have HBL : Hid (g.bl ≠ [] → ∀ b off, ga = some ⟨b, off, none⟩ → b < W.heap.size) := fun hne b off hb => HCW.out.lt hne hb
  clear HC x1 x2 x3 x4
  go_loopw [5, 34] (fun v i wr => ∃ (k : Nat) (N : List Pt) (av : Option Addr) (cv : Nat), k ≤ 4 ∧ i = .int .i64 k ∧ v = .slice av N.length cv ∧ Hid (N = ((nbs p).take k).filter (opn g)) ∧ Hid (Owns wr (.slice av N.length cv) N) ∧ Hid (∀ b, (Value.slice av N.length cv).ownBlock = some b → W.heap.size ≤ b) ∧ Hid (Below W.heap.size W wr)) (fun _ i _ => 4 - (intOf i).toNat)
  case atStart => exact ⟨0, [], none, 0, by omega, rfl, rfl, rfl, Owns.nil _, fun b hb => (by cases hb), Below.refl _ _⟩
  case round =>
    obtain ⟨k, N, av, cv, hk, rfl, rfl, hN, hO, hV, hB⟩ := hrel
    have zwr : W.heap.size ≤ wr.heap.size := hB.out.size
    by_cases hlt : k < 4
    · have hlt' : (k : Int) < 4 := by omega
      have d1 : wr.cell? ⟨n, 0, none⟩ = some (.int .i64 g.rows) := (hB.out.cell (p := ⟨n, 0, none⟩) (by show n < _; omega)).trans g1
      have d2 : wr.cell? ⟨n, 1, none⟩ = some (.int .i64 g.cols) := (hB.out.cell (p := ⟨n, 1, none⟩) (by show n < _; omega)).trans g2
      have d3 : wr.cell? ⟨n, 2, none⟩ = some (.slice ga g.bl.length gc) := (hB.out.cell (p := ⟨n, 2, none⟩) (by show n < _; omega)).trans g3
      obtain ⟨nb, no, hnb, e1, e2⟩ := HN.out k hlt
      cases hnb
      simp only [Nat.zero_add] at e1 e2
      have e1 : wr.cell? ⟨n + 1 + 1, k * 2, none⟩ = some (.int .i64 (pt (nbs p) k).1) := (hB.out.cell (p := ⟨n + 1 + 1, k * 2, none⟩) (by show n + 1 + 1 < _; omega)).trans e1
      have e2 : wr.cell? ⟨n + 1 + 1, k * 2 + 1, none⟩ = some (.int .i64 (pt (nbs p) k).2) := (hB.out.cell (p := ⟨n + 1 + 1, k * 2 + 1, none⟩) (by show n + 1 + 1 < _; omega)).trans e2
      have HCr : Hid (Cells2 wr ga g.bl) := Cells2.kept (Kd := fun k => k < W.heap.size) (n := 0) ⟨hB.out.size, fun k o hk ho _ => by rw [hB.out.block k hk]; exact ho⟩ (fun b off hb hne => HBL.out hne b off hb) HCW.out
      have hst := near_step (g := g) (p := p) hlt
      generalize pt (nbs p) k = q at e1 e2 hst
      have HST := Lib.hid hst
      clear hst
      have zn : n < wr.heap.size := by omega
      go_wp2_with fail
      refine (Cell_any g q _ _).mono ?_
      rintro e w1 ⟨rfl, hE⟩
      have EE : Ext wr w1 := ((Ext.refl _).alloc _).trans hE
      have q1 : w1.cell? ⟨wr.heap.size, 0, none⟩ = some (.int .i64 q.1) := hE.cell (by go_simp)
      have q2 : w1.cell? ⟨wr.heap.size, 1, none⟩ = some (.int .i64 q.2) := hE.cell (by go_simp)
      have d1 := EE.cell d1
      have d2 := EE.cell d2
      have d3 := EE.cell d3
      have HC1 := Lib.hid (HCr.out.ext EE)
      have HO1 := Lib.hid (hO.out.ext EE)
      have HB1 := Lib.hid (hB.out.trans (EE.mono zwr))
      have z1 : wr.heap.size < w1.heap.size := cell_lt q1
      have zn1 : n < w1.heap.size := by omega
      clear hE EE hO hB HCr e1 e2
      have hlenN : N.length ≤ 4 := by
        rw [hN.out]
        refine Nat.le_trans (List.length_filter_le _ _) ?_
        simp; omega
      cases hin : inside g q
      · have HST2 : Hid (((nbs p).take (k + 1)).filter (opn g) = ((nbs p).take k).filter (opn g)) := by
          show _ = _
          rw [HST.out, if_neg (by unfold opn; rw [hin]; simp), List.append_nil]
        have HIN := Lib.hid hin
        clear hin
        go_wp2
        exact ⟨⟨k + 1, N, av, cv, by omega, by go_num, rfl, by show _ = _; rw [HST2.out]; exact hN.out, HO1.out, hV.out, HB1.out⟩, by simp [intOf]; omega⟩
      · have HIN := Lib.hid hin
        clear hin
        go_wp2_with fail
        refine (Has_any g.bl q ga gc _ HG.out HC1.out).mono ?_
        rintro e w2 ⟨rfl, hE⟩
        have q1 := hE.cell q1
        have q2 := hE.cell q2
        have HO2 := Lib.hid (HO1.out.ext hE)
        have zh2 : w1.heap.size ≤ w2.heap.size := hE.size
        have HB2 := Lib.hid (HB1.out.trans (hE.mono (by omega)))
        clear hE HO1 HB1 d1 d2 d3
        by_cases hm : q ∈ g.bl
        · have HST2 : Hid (((nbs p).take (k + 1)).filter (opn g) = ((nbs p).take k).filter (opn g)) := by
            show _ = _
            rw [HST.out, if_neg (by unfold opn blk; simp [hm]), List.append_nil]
          have hd : decide (q ∈ g.bl) = true := by simp [hm]
          rw [hd]
          clear hm hd
          go_wp2
          exact ⟨⟨k + 1, N, av, cv, by omega, by go_num, rfl, by show _ = _; rw [HST2.out]; exact hN.out, HO2.out, hV.out, HB2.out⟩, by simp [intOf]; omega⟩
        · have HST2 : Hid (((nbs p).take (k + 1)).filter (opn g) = ((nbs p).take k).filter (opn g) ++ [q]) := by
            show _ = _
            rw [HST.out, if_pos (by unfold opn blk; simp [hm, HIN.out])]
          have hd : decide (q ∈ g.bl) = false := by simp [hm]
          rw [hd]
          clear hm hd
          obtain ⟨i0, hi, hi0, hi1, hi2⟩ := info_parts infoPl
          go_wp2_with (at_builtin; refine wpList_append1 _ rfl _ _ 22 rfl 26 i0 (.agg #[.int .i64 0, .int .i64 0]) 2 16 Try.underlying22 hi hi0 hi1 hi2 rfl (by decide) (.slice av N.length cv) _ _ rfl (HO2.out.ext ((Ext.refl _).alloc _)) ⟨w2.heap.size, 0, none⟩ 1 1 (by decide) [.int .i64 q.1, .int .i64 q.2] rfl rfl (cell_two_new _ _ _ _) ?c1 ?c2 ?c3 ?c4)
          case c1 => intro u hu; simp at hu; rcases hu with rfl | rfl <;> rfl
          case c2 => unfold maxLen; omega
          case c3 => omega
          case c4 =>
            intro v' w5 hown5 hend5
            have O5 := owns_succ hown5
            obtain ⟨av', cv', rfl, _, hbk⟩ := O5.reads
            have HO5 := Lib.hid O5
            have HEND := Lib.hid hend5
            clear hown5 hend5 O5 hbk
            go_wp2
            refine ⟨⟨k + 1, N ++ [q], av', cv', by omega, by go_num, by first | rfl | (rw [List.length_append, List.length_singleton]), by show _ = _; rw [HST2.out, hN.out], HO5.out, fun b hb => ?_, (HB2.out.alloc (by omega) _).trans (HEND.out.below (by simp; omega) (fun b hb => hV.out b hb))⟩, by simp [intOf]; omega⟩
            rcases HEND.out with ⟨h1, _, _⟩ | ⟨h1, _⟩
            · rw [h1] at hb; exact hV.out b hb
            · rw [h1] at hb
              have hb' : b = (w2.alloc (.cells #[.int .i64 q.1, .int .i64 q.2] 26)).heap.size := by cases hb; rfl
              simp at hb'
              omega
    · have hk4 : k = 4 := by omega
      subst hk4
      go_wp2
      go_ret
      have hNN : N = near g p := hN.out
      refine ⟨_, rfl, by rw [← hNN]; exact hO.out, fun b hb => Nat.le_trans E0.size (hV.out b hb), Below.trans E0 (hB.out.mono (by omega))⟩
end Go.Proofs.Ytfigooilhnahfaa
/- Slices of numbers of one's own. -/
namespace Go.Proofs.Ytfigooilhnahfaa
open Go.RowKit

def CellsI (w : World) (a : Option Addr) (l : List Int) : Prop := ∀ i, i < l.length → ∃ b off, a = some ⟨b, off, none⟩ ∧ w.cell? ⟨b, off + i, none⟩ = some (.int .i64 (l.getD i 0))
theorem CellsI.ext {w w' : World} {a : Option Addr} {l : List Int} (h : CellsI w a l) (he : Ext w w') : CellsI w' a l := fun i hi => by
  obtain ⟨b, off, h1, h2⟩ := h i hi
  exact ⟨b, off, h1, he.cell h2⟩
theorem CellsI.nil (w : World) (a : Option Addr) : CellsI w a [] := fun i hi => by simp at hi

def vals (l : List Int) : List Value := l.map (Value.int .i64)
/-- the slice value v owns the numbers l -/
def OwnsI (w : World) (v : Value) (l : List Int) : Prop := w.ownsRow 0 3 1 v l.length (vals l)
theorem OwnsI.nil (w : World) : OwnsI w (.slice none 0 0) [] := World.ownsRow_nil w 0 _ _
theorem OwnsI.kept {X : Nat → Prop} {n : Nat} {A B : World} {v : Value} {N : List Int} (ho : OwnsI A v N) (h : Kept X n A B) (hk : ∀ b, v.ownBlock = some b → X b) : OwnsI B v N := by
  obtain ⟨h1, h2⟩ := ho
  refine ⟨h1, ?_⟩
  rcases h2 with h2 | ⟨g, cap, cur, hv, hg, hh, r⟩
  · exact .inl h2
  · exact .inr ⟨g, cap, cur, hv, hg, h.2 g _ (hk g (by rw [hv]; rfl)) hh (.inl rfl), r⟩
theorem OwnsI.ext {A B : World} {v : Value} {N : List Int} (ho : OwnsI A v N) (h : Ext A B) : OwnsI B v N := ho.kept (Kept.ext h (fun _ => True) 0) (fun _ _ => trivial)
theorem OwnsI.lt {A : World} {v : Value} {N : List Int} (ho : OwnsI A v N) {b : Nat} (hb : v.ownBlock = some b) : b < A.heap.size := (World.ownsRow.lt ho b hb).2
theorem OwnsI.keep {m : Nat} {A B : World} {v : Value} {N : List Int} (ho : OwnsI A v N) (h : Keep m A B) : OwnsI B v N := by
  obtain ⟨h1, h2⟩ := ho
  refine ⟨h1, ?_⟩
  rcases h2 with h2 | ⟨g, cap, cur, hv, hg, hh, r⟩
  · exact .inl h2
  · exact .inr ⟨g, cap, cur, hv, hg, h.2 g _ hh rfl, r⟩
theorem OwnsI.reads {A : World} {v : Value} {N : List Int} (ho : OwnsI A v N) : ∃ a cap, v = .slice a N.length cap ∧ CellsI A a N ∧ (N = [] ∨ ∃ b, a = some ⟨b, 0, none⟩ ∧ v.ownBlock = some b ∧ ∀ i, i < N.length → A.cell? ⟨b, i, none⟩ = some (.int .i64 (N.getD i 0)) ∧ A.frozen? ⟨b, i, none⟩ = false) := by
  rcases ho.2 with ⟨hv, hn⟩ | ⟨g, cap, cur, hv, hg, hh, hnc, hm, hcs, ht⟩
  · have : N = [] := List.eq_nil_of_length_eq_zero hn
    subst this
    exact ⟨none, 0, hv, CellsI.nil _ _, .inl rfl⟩
  · have key : ∀ i, i < N.length → A.cell? ⟨g, i, none⟩ = some (.int .i64 (N.getD i 0)) := fun i hi => by
      have hc := World.ownsRow.cells ho (g := g) (by rw [hv]; rfl)
      have := hc i (.int .i64 (N.getD i 0)) (by simp [vals, List.getD, hi])
      rwa [Addr.add_lit, Nat.zero_add] at this
    refine ⟨some ⟨g, 0, none⟩, cap, hv, fun i hi => ⟨g, 0, rfl, by rw [Nat.zero_add]; exact key i hi⟩, .inr ⟨g, rfl, by rw [hv]; rfl, fun i hi => ⟨key i hi, ?_⟩⟩⟩
    have ho' : A.ownsRow 0 3 1 (.slice (some ⟨g, 0, none⟩) N.length cap) N.length (vals N) := by have h9 := ho; unfold OwnsI at h9; rw [hv] at h9; exact h9
    exact ho'.frozenAt i
theorem OwnsI.isCells {A : World} {v : Value} {N : List Int} (h : OwnsI A v N) {b : Nat} (hb : v.ownBlock = some b) {o : Obj} (ho : A.heap[b]? = some o) : o.isCells = true := by
  rcases h.2 with ⟨hv, _⟩ | ⟨g, cap, cur, hv, _, hh, _⟩
  · rw [hv] at hb; cases hb
  · rw [hv] at hb; cases hb
    rw [hh] at ho; cases ho; rfl
theorem ownsI_succ {w : World} {v : Value} {N : List Int} {x : Int} (h : w.ownsRow 0 3 1 v (N.length + 1) (vals N ++ [.int .i64 x])) : OwnsI w v (N ++ [x]) := by
  unfold OwnsI vals
  rw [List.length_append, List.length_singleton, List.map_append]
  exact h
theorem infoInt : (Try.prog.info? 3).map (fun i => (i.zero, i.size, i.bytes)) = some (some (.int .i64 0), 1, 8) := by kernel_rfl
theorem cell_one_int (w : World) (a : Value) (t : TypeId) : ∀ j u, ([a] : List Value)[j]? = some u → (w.alloc (.cells #[a] t)).cell? ((⟨w.heap.size, 0, none⟩ : Addr).add j) = some u := by
  intro j u h
  match j, h with
  | 0, h => simp at h; subst h; rw [Addr.add_lit, World.cell?_alloc_new]; rfl
end Go.Proofs.Ytfigooilhnahfaa
/- The reference's lengths from a cell. -/
namespace Go.Proofs.Ytfigooilhnahfaa
open Go.RowKit

def kx (g : Gr) (q : Pt) : Nat := q.1.toNat * g.cols.toNat + q.2.toNat
theorem kx_lt {g : Gr} {q : Pt} (h : inside g q = true) : kx g q < g.rows.toNat * g.cols.toNat := by
  unfold inside at h
  simp only [Bool.and_eq_true, decide_eq_true_eq] at h
  have h1 : (q.1.toNat + 1) * g.cols.toNat ≤ g.rows.toNat * g.cols.toNat := Nat.mul_le_mul_right _ (by omega)
  rw [Nat.add_mul, Nat.one_mul] at h1
  unfold kx
  omega
theorem kx_cellAt {g : Gr} (k : Nat) : kx g (cellAt g k) = k := by
  unfold kx cellAt
  simp only [Int.toNat_natCast]
  rw [Nat.mul_comm]
  exact Nat.div_add_mod k _
theorem cellAt_kx {g : Gr} {q : Pt} (h : inside g q = true) : cellAt g (kx g q) = q := by
  unfold inside at h
  simp only [Bool.and_eq_true, decide_eq_true_eq] at h
  unfold kx
  rw [cellAt_mk (by omega)]
  exact Prod.ext (by show ((q.1.toNat : Nat) : Int) = q.1; omega) (by show ((q.2.toNat : Nat) : Int) = q.2; omega)
theorem kxF {g : Gr} (hr : Right g) {q : Pt} (h : inside g q = true) : ∃ a : Nat, IntKind.i64.wrap (q.1 * g.cols) = (a : Int) ∧ IntKind.i64.wrap ((a : Int) + q.2) = (kx g q : Int) ∧ kx g q < g.rows.toNat * g.cols.toNat := by
  have h0 := h
  unfold inside at h
  simp only [Bool.and_eq_true, decide_eq_true_eq] at h
  have c1 := hr.c1; have c2 := hr.c2; have r2 := hr.r2
  have e : q.1 * g.cols = ((q.1.toNat * g.cols.toNat : Nat) : Int) := by
    rw [Int.natCast_mul, Int.toNat_of_nonneg (by omega), Int.toNat_of_nonneg (by omega)]
  have b : q.1.toNat * g.cols.toNat ≤ 64 * 64 := Nat.mul_le_mul (by omega) (by omega)
  refine ⟨q.1.toNat * g.cols.toNat, ?_, ?_, kx_lt h0⟩
  · rw [e]; exact IntWalk.i64_in _ (by omega)
  · unfold kx
    generalize q.1.toNat * g.cols.toNat = a at b ⊢
    rw [IntWalk.i64_in _ (by omega)]
    omega
def tabL (g : Gr) (D : Pt → Int) : List Int := (List.range (g.rows.toNat * g.cols.toNat)).map fun k => D (cellAt g k)
theorem tabL_len (g : Gr) (D : Pt → Int) : (tabL g D).length = g.rows.toNat * g.cols.toNat := by simp [tabL]
theorem tabL_get {g : Gr} {D : Pt → Int} {k : Nat} (h : k < g.rows.toNat * g.cols.toNat) : (tabL g D).getD k 0 = D (cellAt g k) := by simp [tabL, List.getD, h]

/-- the numbers of the array ob -/
def OutN (w : World) (ob n : Nat) (L : Nat → Int) : Prop := ∀ k, k < n → w.cell? ⟨ob, k, none⟩ = some (.int .i64 (L k)) ∧ w.frozen? ⟨ob, k, none⟩ = false
theorem OutN.set {w : World} {ob n : Nat} {L : Nat → Int} (h : OutN w ob n L) {i : Nat} (hi : i < n) (x : Int) : OutN (w.setCell ⟨ob, i, none⟩ (.int .i64 x)) ob n (fun k => if k = i then x else L k) := fun k hk => by
  refine ⟨?_, by rw [World.frozen?_setCell]; exact (h k hk).2⟩
  by_cases e : k = i
  · subst e
    rw [World.cell?_setCell_same _ _ _ (h k hk).1]; simp
  · rw [World.cell?_setCell_other _ _ _ _ (fun h => by simp only [Addr.mk.injEq] at h; omega), (h k hk).1]; simp [e]
theorem OutN.congr {w : World} {ob n : Nat} {L M : Nat → Int} (h : OutN w ob n L) (e : ∀ k, k < n → L k = M k) : OutN w ob n M := fun k hk => by rw [← e k hk]; exact h k hk
theorem OutN.kept {X : Nat → Prop} {m ob n : Nat} {L : Nat → Int} {A B : World} (h : OutN A ob n L) (k : Kept X m A B) (hx : X ob) : OutN B ob n L := fun i hi =>
  ⟨k.cell (p := ⟨ob, i, none⟩) hx (h i hi).1, (k.frozen (p := ⟨ob, i, none⟩) hx (h i hi).1).trans (h i hi).2⟩
theorem OutN.ext {ob n : Nat} {L : Nat → Int} {A B : World} (h : OutN A ob n L) (x : Ext A B) : OutN B ob n L := h.kept (Kept.ext x (fun _ => True) 0) trivial

/-- the array says of each cell seen how far it is -/
def OutD (g : Gr) (p : Pt) (w : World) (ob : Nat) (sn : List Pt) : Prop := OutN w ob (g.rows.toNat * g.cols.toNat) (fun k => if cellAt g k ∈ sn then dst g p (cellAt g k) else -1)

structure FrL (g : Gr) (p : Pt) (W : World) (ob : Nat) (i : Nat) (Wv sn : List Pt) (v : Value) (w : World) : Prop where
  q : QInv g p i Wv sn
  o : OutD g p w ob sn
  own : Owns w v Wv
  vb : ∀ b, v.ownBlock = some b → W.heap.size ≤ b
  be : Below ob W w

structure FiL (g : Gr) (p c : Pt) (w1 : World) (ob bb : Nat) (Wv sn : List Pt) (nv : Value) (j : Nat) (sj Nv : List Pt) (v : Value) (w : World) : Prop where
  e : addN sn [] ((near g c).take j) = (sj, Nv)
  o : OutD g p w ob sj
  own : Owns w v (Wv ++ Nv)
  vb : ∀ b, v.ownBlock = some b → w1.heap.size ≤ b ∧ nv.ownBlock ≠ some b ∧ b ≠ bb
  be : Below ob w1 w
  nn : Owns w nv (near g c)
  b1 : w.cell? ⟨bb, 0, none⟩ = some (.int .i64 c.1)
  b2 : w.cell? ⟨bb, 1, none⟩ = some (.int .i64 c.2)
theorem FiL.ext {g : Gr} {p c : Pt} {w1 : World} {ob bb : Nat} {Wv sn : List Pt} {nv : Value} {j : Nat} {sj Nv : List Pt} {v : Value} {A B : World} (h : FiL g p c w1 ob bb Wv sn nv j sj Nv v A) (x : Ext A B) (hob : ob < A.heap.size) : FiL g p c w1 ob bb Wv sn nv j sj Nv v B :=
  ⟨h.e, h.o.ext x, h.own.ext x, h.vb, h.be.trans (x.mono (Nat.le_of_lt hob)), h.nn.ext x, x.cell h.b1, x.cell h.b2⟩
theorem two_cells {w : World} {b : Nat} {x y : Value} (h0 : w.cell? ⟨b, 0, none⟩ = some x) (h1 : w.cell? ⟨b, 1, none⟩ = some y) : ∀ j u, ([x, y] : List Value)[j]? = some u → w.cell? ((⟨b, 0, none⟩ : Addr).add j) = some u := by
  intro j u h
  match j, h with
  | 0, h => simp at h; subst h; rw [Addr.add_lit]; exact h0
  | 1, h => simp at h; subst h; rw [Addr.add_lit]; exact h1
theorem take_near {g : Gr} {c : Pt} {j : Nat} (h : j < (near g c).length) : (near g c).take (j + 1) = (near g c).take j ++ [pt (near g c) j] := by
  rw [List.take_succ_eq_append_getElem h]
  congr 2
  unfold pt
  rw [List.getD_eq_getElem?_getD, List.getElem?_eq_getElem h]; simp
theorem addN_len (qs : List Pt) : ∀ (s n : List Pt), (addN s n qs).2.length ≤ n.length + qs.length := by
  induction qs with
  | nil => intro s n; simp [addN]
  | cons q qs ih =>
    intro s n
    unfold addN
    split
    · have := ih s n; simp; omega
    · have := ih (q :: s) (n ++ [q]); simp at this ⊢; omega
theorem near_len (g : Gr) (c : Pt) : (near g c).length ≤ 4 := Nat.le_trans (List.length_filter_le _ _) (by simp [nbs])

set_option maxHeartbeats 4000000 in
set_option maxRecDepth 100000 in
theorem Far_any (g : Gr) (p : Pt) (ga : Option Addr) (gc : Nat) (w : World) (hr : Right g) (hp : inside g p = true) (hc : Cells2 w ga g.bl) :
    Calls Try.prog 51 #[.agg #[.int .i64 g.rows, .int .i64 g.cols, .slice ga g.bl.length gc], .agg #[.int .i64 p.1, .int .i64 p.2]] w fun e w' => ∃ a cap, e = .returned (.slice a (tabL g (dst g p)).length cap) ∧ CellsI w' a (tabL g (dst g p)) ∧ Ext w w' := by
  have HC : Hid (Cells2 w ga g.bl) := hc
  have HR := Lib.hid hr
  have HP := Lib.hid hp
  have hgl : g.bl.length ≤ maxLen := by have := hr.few; unfold maxLen; omega
  have HG := Lib.hid hgl
  obtain ⟨n, hn⟩ : ∃ n, n = g.rows.toNat * g.cols.toNat := ⟨_, rfl⟩
  have hn1 : n ≤ 4096 := by rw [hn]; exact Nat.mul_le_mul (show g.rows.toNat ≤ 64 by have := hr.r2; omega) (show g.cols.toNat ≤ 64 by have := hr.c2; omega)
  have hmul : IntKind.i64.wrap (g.rows * g.cols) = (n : Int) := by
    have h1 := hr.r1; have h2 := hr.c1
    have e : g.rows * g.cols = (n : Int) := by
      rw [hn, Int.natCast_mul, Int.toNat_of_nonneg (by omega), Int.toNat_of_nonneg (by omega)]
    rw [e]; exact IntWalk.i64_in _ (by omega)
  have HNN := Lib.hid hn
  obtain ⟨i0, hi, hi0, hi1, hi2⟩ := info_parts infoInt
  clear hc hr hp hgl hn
  go_enter Try.func51, Try.ntmps51
  go_wp2_with (at_make; refine wpList_make_full _ rfl _ _ 50 rfl 0 3 i0 (.int .i64 0) 1 Try.underlying50 hi hi0 hi1 _ _ _ _ n rfl rfl rfl rfl ?b2 ?b3 ?b4 ?hK)
  case b2 => rw [hi2]; omega
  case b3 => unfold maxLen; omega
  case b4 => exact Nat.zero_le _
  case hK =>
    intro w1 hown hgr
    obtain ⟨ob, hob⟩ : ∃ ob, ob = w.heap.size + 1 + 1 := ⟨_, rfl⟩
    have hz1 : ob < w1.heap.size := by rw [hob]; exact (World.ownsRow.lt hown _ rfl).2
    have E1 : Ext ((( ((w).alloc (.cells #[.int .i64 g.rows, .int .i64 g.cols, .slice ga g.bl.length gc] 24))).alloc (.cells #[.int .i64 p.1, .int .i64 p.2] 26))) w1 := ⟨hgr.os, hgr.tape, hgr.output, hgr.size, fun k hk => hgr.block k hk (by simp)⟩
    have g1 := E1.cell (show ((( ((w).alloc (.cells #[.int .i64 g.rows, .int .i64 g.cols, .slice ga g.bl.length gc] 24))).alloc (.cells #[.int .i64 p.1, .int .i64 p.2] 26))).cell? ⟨w.heap.size, 0, none⟩ = some (.int .i64 g.rows) by clear hob hmul; go_simp)
    have g2 := E1.cell (show ((( ((w).alloc (.cells #[.int .i64 g.rows, .int .i64 g.cols, .slice ga g.bl.length gc] 24))).alloc (.cells #[.int .i64 p.1, .int .i64 p.2] 26))).cell? ⟨w.heap.size, 1, none⟩ = some (.int .i64 g.cols) by clear hob hmul; go_simp)
    have g3 := E1.cell (show ((( ((w).alloc (.cells #[.int .i64 g.rows, .int .i64 g.cols, .slice ga g.bl.length gc] 24))).alloc (.cells #[.int .i64 p.1, .int .i64 p.2] 26))).cell? ⟨w.heap.size, 2, none⟩ = some (.slice ga g.bl.length gc) by clear hob hmul; go_simp)
    have q1 := E1.cell (show ((( ((w).alloc (.cells #[.int .i64 g.rows, .int .i64 g.cols, .slice ga g.bl.length gc] 24))).alloc (.cells #[.int .i64 p.1, .int .i64 p.2] 26))).cell? ⟨w.heap.size + 1, 0, none⟩ = some (.int .i64 p.1) by clear hob hmul; go_simp)
    have q2 := E1.cell (show ((( ((w).alloc (.cells #[.int .i64 g.rows, .int .i64 g.cols, .slice ga g.bl.length gc] 24))).alloc (.cells #[.int .i64 p.1, .int .i64 p.2] 26))).cell? ⟨w.heap.size + 1, 1, none⟩ = some (.int .i64 p.2) by clear hob hmul; go_simp)
    have zw : w.heap.size + 1 < ob := by omega
    have EW : Ext w w1 := (((Ext.refl _).alloc _).alloc _).trans E1
    have HO0 : Hid (OutN w1 ob n (fun j => if j < 0 then -1 else 0)) := fun j hj => by
      rw [hob]
      refine ⟨?_, hown.frozenAt j⟩
      rw [hown.cellAt j (by omega)]
      simp [madeCells, hj, Nat.mod_one]
    have HCW := Lib.hid (HC.out.ext EW)
    have HBL : Hid (g.bl ≠ [] → ∀ b off, ga = some ⟨b, off, none⟩ → b < ob) := fun hne b off hb => by
      have := HC.out.lt hne hb
      omega
    rw [← hob]
    clear hob hown hgr E1 HC hmul hi hi0 hi1 hi2
    go_wp2
    go_loopw [6] (fun i wr => ∃ k : Nat, k ≤ n ∧ i = .int .i64 k ∧ Hid (OutN wr ob n (fun j => if j < k then -1 else 0)) ∧ Hid (Below ob w1 wr)) (fun i _ => n - (intOf i).toNat)
    case atStart => exact ⟨0, Nat.zero_le _, rfl, HO0.out, Below.refl _ _⟩
    case round =>
      obtain ⟨k, hk, rfl, hO, hB⟩ := hrel
      have zwr : w1.heap.size ≤ wr.heap.size := hB.out.size
      by_cases hlt : k < n
      · have hlt' : (k : Int) < (n : Int) := by omega
        have c1 : wr.cell? ⟨ob, k, none⟩ = some (.int .i64 (if k < k then -1 else 0)) := (hO.out k hlt).1
        have c2 := (hO.out k hlt).2
        rw [if_neg (Nat.lt_irrefl k)] at c1
        go_wp2
        refine ⟨⟨k + 1, by omega, by go_num, (hO.out.set hlt (-1)).congr fun j hj => ?_, hB.out.setCell (p := ⟨ob, k, none⟩) (Nat.le_refl _) _⟩, by simp [intOf]; omega⟩
        try dsimp only
        by_cases e : j = k
        · rw [if_pos e, if_pos (by omega)]
        · rw [if_neg e]
          by_cases e2 : j < k
          · rw [if_pos e2, if_pos (by omega)]
          · rw [if_neg e2, if_neg (by omega)]
      · have hkn : k = n := by omega
        have HKN := Lib.hid hkn
        have hlt' : ¬ (k : Int) < (n : Int) := by omega
        have g1 : wr.cell? ⟨w.heap.size, 0, none⟩ = some (.int .i64 g.rows) := (hB.out.cell (p := ⟨w.heap.size, 0, none⟩) (by show w.heap.size < ob; omega)).trans g1
        have g2 : wr.cell? ⟨w.heap.size, 1, none⟩ = some (.int .i64 g.cols) := (hB.out.cell (p := ⟨w.heap.size, 1, none⟩) (by show w.heap.size < ob; omega)).trans g2
        have g3 : wr.cell? ⟨w.heap.size, 2, none⟩ = some (.slice ga g.bl.length gc) := (hB.out.cell (p := ⟨w.heap.size, 2, none⟩) (by show w.heap.size < ob; omega)).trans g3
        have q1 : wr.cell? ⟨w.heap.size + 1, 0, none⟩ = some (.int .i64 p.1) := (hB.out.cell (p := ⟨w.heap.size + 1, 0, none⟩) zw).trans q1
        have q2 : wr.cell? ⟨w.heap.size + 1, 1, none⟩ = some (.int .i64 p.2) := (hB.out.cell (p := ⟨w.heap.size + 1, 1, none⟩) zw).trans q2
        obtain ⟨a, ka1, ka2, ka3⟩ := kxF HR.out HP.out
        have hkp : Hid (kx g p < n) := by rw [HNN.out]; exact ka3
        obtain ⟨kp, hkpe⟩ : ∃ kp, kp = kx g p := ⟨_, rfl⟩
        rw [← hkpe] at ka2 hkp
        have kp1 : (kp : Int) < (n : Int) := by have := hkp.out; omega
        have HKP := Lib.hid hkpe
        have c1 : wr.cell? ⟨ob, kp, none⟩ = some (.int .i64 (if kp < k then -1 else 0)) := (hO.out kp hkp.out).1
        have c2 := (hO.out kp hkp.out).2
        rw [if_pos (by have := hkp.out; have := HKN.out; omega)] at c1
        have EWr : Hid (Below w.heap.size w wr) := Below.trans EW (hB.out.mono (by omega))
        have zobr : ob < wr.heap.size := by omega
        have zn1 : w.heap.size < wr.heap.size := by omega
        have zn2 : w.heap.size + 1 < wr.heap.size := by omega
        clear hkn ka3 hkpe hlt
        have HNK : Hid (∀ j, j < n → (if j < k then (-1 : Int) else 0) = -1) := fun j hj => if_pos (by have := HKN.out; omega)
        go_wp2
        have EA : Ext (wr.setCell ⟨ob, kp, none⟩ (.int .i64 0)) ((wr.setCell ⟨ob, kp, none⟩ (.int .i64 0)).alloc (.cells #[.int .i64 p.1, .int .i64 p.2] 26)) := (Ext.refl _).alloc _
        have hss : (wr.setCell ⟨ob, kp, none⟩ (.int .i64 0)).heap.size = wr.heap.size := by simp
        have F0 : Hid (FrL g p w1 ob 0 [p] [p] (.slice (some ⟨wr.heap.size, 0, none⟩) 1 1) ((wr.setCell ⟨ob, kp, none⟩ (.int .i64 0)).alloc (.cells #[.int .i64 p.1, .int .i64 p.2] 26))) := {
          q := QInv.start HP.out
          o := by
            unfold OutD
            rw [← HNN.out]
            refine ((hO.out.set hkp.out 0).congr fun j hj => ?_).ext EA
            by_cases e : j = kp
            · rw [if_pos e, if_pos (by rw [e, HKP.out, cellAt_kx HP.out]; simp), e, HKP.out, cellAt_kx HP.out, dst_of HR.out HP.out (IsD.self g p)]
              rfl
            · rw [if_neg e, HNK.out j hj, if_neg (fun hm => e (by
                rw [List.mem_singleton] at hm
                rw [HKP.out, ← hm, kx_cellAt]))]
          own := by
            have := owns_new (wr.setCell ⟨ob, kp, none⟩ (.int .i64 0)) p
            rw [hss] at this
            exact this
          vb := fun b hb => by cases hb; exact zwr
          be := ((hB.out.setCell (p := ⟨ob, kp, none⟩) (Nat.le_refl _) _)).trans (EA.mono (by rw [hss]; omega)) }
        clear EA hss c1 c2 hO
        generalize ((wr.setCell ⟨ob, kp, none⟩ (.int .i64 0)).alloc (.cells #[.int .i64 p.1, .int .i64 p.2] 26)) = W2 at F0 ⊢
        clear g1 g2 g3 q1 q2 ka1 ka2 zn1 zn2
        go_loopw [7, 8] (fun v i wr => ∃ (k : Nat) (Wv sn : List Pt) (av : Option Addr) (cv : Nat), k ≤ Wv.length ∧ i = .int .i64 k ∧ v = .slice av Wv.length cv ∧ Hid (FrL g p w1 ob k Wv sn (.slice av Wv.length cv) wr)) (fun _ i _ => 4097 - (intOf i).toNat)
        case atStart => exact ⟨0, [p], [p], _, 1, by simp, rfl, rfl, F0.out⟩
        case round =>
          obtain ⟨k, Wv, sn, av, cv, hk, rfl, rfl, hF⟩ := hrel
          obtain ⟨wi1, wi2, wi3, wi4⟩ := hF.out.q.wi
          have hlW : Wv.length ≤ 4096 := by rw [wi3]; exact nodup_pts wi1 (fun q hq => inG_of HR.out (wi2 q hq))
          have zwr2 : w1.heap.size ≤ wr.heap.size := hF.out.be.size
          have WIS := Lib.hid wi2
          have WIW := Lib.hid wi4
          clear wi1 wi2 wi3 wi4
          by_cases hlt : k < Wv.length
          · have hlt' : (k : Int) < (Wv.length : Int) := by omega
            obtain ⟨a', c', hv', hcl, hab⟩ := hF.out.own.reads
            cases hv'
            obtain ⟨vb0, vo0, rfl, d1, d2⟩ := hcl k hlt
            have HQ := Lib.hid hF.out.q
            generalize hcc : pt Wv k = c at d1 d2
            have HCC := Lib.hid hcc
            have hcs : Hid (c ∈ sn) := by rw [← hcc]; exact WIW.out _ (pt_mem hlt)
            have hci : Hid (inside g c = true) := WIS.out _ hcs.out
            have g1 : wr.cell? ⟨w.heap.size, 0, none⟩ = some (.int .i64 g.rows) := (hF.out.be.cell (p := ⟨w.heap.size, 0, none⟩) (by show w.heap.size < ob; omega)).trans g1
            have g2 : wr.cell? ⟨w.heap.size, 1, none⟩ = some (.int .i64 g.cols) := (hF.out.be.cell (p := ⟨w.heap.size, 1, none⟩) (by show w.heap.size < ob; omega)).trans g2
            have g3 : wr.cell? ⟨w.heap.size, 2, none⟩ = some (.slice ga g.bl.length gc) := (hF.out.be.cell (p := ⟨w.heap.size, 2, none⟩) (by show w.heap.size < ob; omega)).trans g3
            have HCr : Hid (Cells2 wr ga g.bl) := HCW.out.kept (Kd := fun k => k < ob) (n := 0) ⟨hF.out.be.size, fun k o hk ho _ => by rw [hF.out.be.block k hk]; exact ho⟩ (fun b off hb hne => HBL.out hne b off hb)
            have zvb := cell_lt d1
            dsimp only at zvb
            have zob2 : ob < wr.heap.size := by omega
            have zn3 : w.heap.size < wr.heap.size := by omega
            clear hcl hab hcc
            go_wp2_with fail
            refine (Near_any g c ga gc _ HG.out (inG_of HR.out hci.out) (HCr.out.ext ((Ext.refl _).alloc _))).mono ?_
            rintro e w4 ⟨nv, rfl, hnO, hnb, hE⟩
            have EE : Ext wr w4 := ((Ext.refl _).alloc _).trans hE
            obtain ⟨na, nc, rfl, _, _⟩ := hnO.reads
            have y1 : w4.cell? ⟨wr.heap.size, 0, none⟩ = some (.int .i64 c.1) := hE.cell (by go_simp)
            have y2 : w4.cell? ⟨wr.heap.size, 1, none⟩ = some (.int .i64 c.2) := hE.cell (by go_simp)
            have F1 : Hid (FiL g p c w1 ob wr.heap.size Wv sn (.slice na (near g c).length nc) 0 sn [] (.slice (some ⟨vb0, vo0, none⟩) Wv.length cv) w4) := {
              e := rfl
              o := hF.out.o.ext EE
              own := by rw [List.append_nil]; exact hF.out.own.ext EE
              vb := fun b hb => by
                have h1 := hF.out.vb b hb
                have h2 := hF.out.own.lt hb
                refine ⟨h1, fun h3 => ?_, by omega⟩
                have h4 := hnb b h3
                simp at h4
                omega
              be := hF.out.be.trans (EE.mono (by omega))
              nn := hnO
              b1 := y1
              b2 := y2 }
            have zE : wr.heap.size < w4.heap.size := cell_lt y1
            have HNB : Hid (∀ b, (Value.slice na (near g c).length nc).ownBlock = some b → ob < b) := fun b hb => by
              have h4 := hnb b hb
              simp at h4
              omega
            obtain ⟨bb, hbb⟩ : ∃ bb, bb = wr.heap.size := ⟨_, rfl⟩
            have hlN := near_len g c
            rw [← hbb] at F1 zE ⊢
            have zob4 : ob < bb := by omega
            clear hnO hnb hE EE y1 y2 d1 d2 g1 g2 g3 HCr hbb zvb
            go_wp2
            go_loopw [7, 53] (fun v i wr => ∃ (j : Nat) (sj Nv : List Pt) (av : Option Addr) (cv m : Nat), j ≤ (near g c).length ∧ i = .int .i64 j ∧ v = .slice av m cv ∧ Hid (m = (Wv ++ Nv).length) ∧ Hid (FiL g p c w1 ob bb Wv sn (.slice na (near g c).length nc) j sj Nv (.slice av m cv) wr)) (fun _ i _ => (near g c).length - (intOf i).toNat)
            case atStart => exact ⟨0, sn, [], _, cv, Wv.length, Nat.zero_le _, rfl, rfl, by show _ = _; rw [List.append_nil], F1.out⟩
            case round =>
              clear F1
              obtain ⟨j, sj, Nv, av, cv, m, hj, rfl, rfl, hm, hG⟩ := hrel
              by_cases hjl : j < (near g c).length
              · have hjl' : (j : Int) < ((near g c).length : Int) := by omega
                obtain ⟨a', c', hv', hcl, _⟩ := hG.out.nn.reads
                cases hv'
                obtain ⟨nb, no, hna, d1, d2⟩ := hcl j hjl
                subst hna
                have htk := take_near hjl
                have hqn : Hid (pt (near g c) j ∈ near g c) := pt_mem hjl
                generalize pt (near g c) j = q at d1 d2 htk hqn
                have HTK := Lib.hid htk
                have hqi : Hid (inside g q = true) := near_inside hqn.out
                have hsj : Hid (∀ x, x ∈ sj ↔ x ∈ sn ∨ x ∈ (near g c).take j) := fun x => by
                  have := (addN_mem ((near g c).take j) sn [] x).1
                  rwa [hG.out.e] at this
                have hval := HQ.out.val HR.out HP.out hlt
                rw [HCC.out] at hval
                have HVAL := Lib.hid hval
                have hpos : Hid (∀ x ∈ sj, 0 ≤ dst g p x) := fun x hx => by
                  by_cases hxs : x ∈ sn
                  · exact HQ.out.pos HR.out HP.out hxs
                  · rcases (hsj.out x).1 hx with h1 | h1
                    · exact absurd h1 hxs
                    · have := HVAL.out.2 x (List.mem_of_mem_take h1) hxs
                      have := HVAL.out.1
                      omega
                have hsnoc := addN_snoc sn [] ((near g c).take j) q
                rw [hG.out.e, ← htk] at hsnoc
                have g1 : wr.cell? ⟨w.heap.size, 0, none⟩ = some (.int .i64 g.rows) := (hG.out.be.cell (p := ⟨w.heap.size, 0, none⟩) (by show w.heap.size < ob; omega)).trans g1
                have g2 : wr.cell? ⟨w.heap.size, 1, none⟩ = some (.int .i64 g.cols) := (hG.out.be.cell (p := ⟨w.heap.size, 1, none⟩) (by show w.heap.size < ob; omega)).trans g2
                have b1 := hG.out.b1
                have b2 := hG.out.b2
                have zb := cell_lt d1
                have zbb := cell_lt b1
                dsimp only at zb zbb
                have zobr2 : ob < wr.heap.size := by omega
                have znr : w.heap.size < wr.heap.size := by omega
                obtain ⟨aq, kq1, kq2, kq3⟩ := kxF HR.out hqi.out
                obtain ⟨kq, hkq⟩ : ∃ kq, kq = kx g q := ⟨_, rfl⟩
                rw [← HNN.out, ← hkq] at kq3
                rw [← hkq] at kq2
                have HKQ := Lib.hid hkq
                have kq4 : (kq : Int) < (n : Int) := by omega
                have o1 : wr.cell? ⟨ob, kq, none⟩ = some (.int .i64 (if q ∈ sj then dst g p q else -1)) := by
                  have := (hG.out.o kq (by rw [← HNN.out]; exact kq3)).1
                  dsimp only at this
                  rw [HKQ.out, cellAt_kx hqi.out] at this
                  rw [HKQ.out]; exact this
                have o2 : wr.frozen? ⟨ob, kq, none⟩ = false := (hG.out.o kq (by rw [← HNN.out]; exact kq3)).2
                clear hcl htk hval hkq
                by_cases hqs : q ∈ sj
                · rw [if_pos hqs] at hsnoc o1
                  have hnn : ¬ dst g p q < 0 := by have := hpos.out q hqs; omega
                  have HSN := Lib.hid hsnoc
                  clear hsnoc hqs
                  go_wp2
                  have X := hG.out.ext ((Ext.refl _).alloc (.cells #[.int .i64 q.1, .int .i64 q.2] 26)) zobr2
                  exact ⟨⟨j + 1, sj, Nv, av, cv, m, by omega, by go_num, rfl, hm.out, { X with e := HSN.out }⟩, by simp [intOf]; omega⟩
                · rw [if_neg hqs] at hsnoc o1
                  have hqsn : q ∉ sn := fun h => hqs ((hsj.out q).2 (.inl h))
                  have hdq : Hid (dst g p q = dst g p c + 1) := HVAL.out.2 q hqn.out hqsn
                  have HSN := Lib.hid hsnoc
                  have HQS := Lib.hid hqs
                  clear hsnoc hqs hqsn
                  obtain ⟨ac, kc1, kc2, kc3⟩ := kxF HR.out hci.out
                  obtain ⟨kc, hkc⟩ : ∃ kc, kc = kx g c := ⟨_, rfl⟩
                  rw [← HNN.out, ← hkc] at kc3
                  rw [← hkc] at kc2
                  have HKC := Lib.hid hkc
                  have kc4 : (kc : Int) < (n : Int) := by omega
                  have o3 : wr.cell? ⟨ob, kc, none⟩ = some (.int .i64 (dst g p c)) := by
                    have := (hG.out.o kc (by rw [← HNN.out]; exact kc3)).1
                    dsimp only at this
                    rw [HKC.out, cellAt_kx hci.out, if_pos ((hsj.out c).2 (.inl hcs.out))] at this
                    rw [HKC.out]; exact this
                  obtain ⟨db1, db2⟩ := dst_bd HR.out HP.out c
                  have q9 : IntKind.i64.wrap (dst g p c + 1) = dst g p c + 1 := IntWalk.i64_in _ (by omega)
                  clear hkc
                  go_wp2_with fail
                  have E5 : Ext wr (wr.alloc (.cells #[.int .i64 q.1, .int .i64 q.2] 26)) := (Ext.refl _).alloc _
                  have X := Lib.hid (hG.out.ext E5 zobr2)
                  have g1 := E5.cell g1
                  have g2 := E5.cell g2
                  have b1 := E5.cell b1
                  have b2 := E5.cell b2
                  have o1 := E5.cell o1
                  have o3 := E5.cell o3
                  have o2 : (wr.alloc (.cells #[.int .i64 q.1, .int .i64 q.2] 26)).frozen? ⟨ob, kq, none⟩ = false := (E5.frozen (p := ⟨ob, kq, none⟩) zobr2).trans o2
                  have y1 : (wr.alloc (.cells #[.int .i64 q.1, .int .i64 q.2] 26)).cell? ⟨wr.heap.size, 0, none⟩ = some (.int .i64 q.1) := by go_simp
                  have y2 : (wr.alloc (.cells #[.int .i64 q.1, .int .i64 q.2] 26)).cell? ⟨wr.heap.size, 1, none⟩ = some (.int .i64 q.2) := by go_simp
                  obtain ⟨qb, hqb⟩ : ∃ qb, qb = wr.heap.size := ⟨_, rfl⟩
                  have zq : qb < (wr.alloc (.cells #[.int .i64 q.1, .int .i64 q.2] 26)).heap.size := by rw [hqb]; simp
                  have zqo : ob < qb := by omega
                  rw [← hqb] at y1 y2 ⊢
                  have hG2 := Lib.hid hG.out.e
                  clear hqb E5 d1 d2 hG zobr2 znr zb zbb
                  generalize (wr.alloc (.cells #[.int .i64 q.1, .int .i64 q.2] 26)) = W6 at X g1 g2 b1 b2 o1 o2 o3 y1 y2 zq ⊢
                  go_still_tail 22, (by kernel_rfl)
                  obtain ⟨i0, hi, hi0, hi1, hi2⟩ := info_parts infoPl
                  have CS : Hid (Chg (fun k => k = ob) W6 (W6.setCell ⟨ob, kq, none⟩ (.int .i64 (dst g p c + 1)))) := Chg.setCell (B := fun k => k = ob) ⟨ob, _, none⟩ _ rfl
                  have KS : Hid (Kept (fun k => k ≠ ob) 0 W6 (W6.setCell ⟨ob, kq, none⟩ (.int .i64 (dst g p c + 1)))) := CS.out.kept (fun k hk _ => hk)
                  have nown : Hid (∀ b, (Value.slice av m cv).ownBlock = some b → b ≠ ob) := fun b hb e => by have := (X.out.vb b hb).1; omega
                  have nnear : Hid (∀ b, (Value.slice (some ⟨nb, no, none⟩) (near g c).length nc).ownBlock = some b → b ≠ ob) := fun b hb e => by have := HNB.out b hb; omega
                  have OW : Hid (Owns (W6.setCell ⟨ob, kq, none⟩ (.int .i64 (dst g p c + 1))) (.slice av m cv) (Wv ++ Nv)) := X.out.own.kept KS.out nown.out
                  have hwl : (Wv ++ Nv).length ≤ 4100 := by
                    have h2 : Nv.length ≤ 4 := by
                      have h3 := addN_len ((near g c).take j) sn []
                      rw [hG2.out] at h3
                      simp at h3
                      omega
                    simp; omega
                  have hmm : m ≤ 4100 := by rw [hm.out]; exact hwl
                  go_wp2_with (at_builtin; refine wpList_append1 _ rfl _ _ 22 rfl 26 i0 (.agg #[.int .i64 0, .int .i64 0]) 2 16 Try.underlying22 hi hi0 hi1 hi2 rfl (by decide) (.slice av m cv) (Wv ++ Nv).length (flat (Wv ++ Nv)) rfl ?ho ⟨W6.heap.size, 0, none⟩ 1 1 (by decide) [.int .i64 q.1, .int .i64 q.2] rfl rfl ?hn ?c1 ?c2 ?c3 ?c4)
                  case ho => exact OW.out.ext (((Ext.refl _).alloc _).drew)
                  case hn =>
                    have := cell_two_new (W6.setCell ⟨ob, kq, none⟩ (.int .i64 (dst g p c + 1))) (.int .i64 q.1) (.int .i64 q.2) 26
                    simpa using this
                  case c1 => intro u hu; simp at hu; rcases hu with rfl | rfl <;> rfl
                  case c2 => unfold maxLen; omega
                  case c3 => omega
                  case c4 =>
                    intro v' w5 hown5 hend5
                    have O5 : Owns w5 v' ((Wv ++ Nv) ++ [q]) := owns_succ (by rw [List.length_append]; exact hown5)
                    rw [List.append_assoc] at O5
                    obtain ⟨av', cv', rfl, _, _⟩ := O5.reads
                    have HO5 := Lib.hid O5
                    have HEND := Lib.hid hend5
                    have EA : Hid (Ext (W6.setCell ⟨ob, kq, none⟩ (.int .i64 (dst g p c + 1))) ((W6.setCell ⟨ob, kq, none⟩ (.int .i64 (dst g p c + 1))).alloc (.cells #[.int .i64 q.1, .int .i64 q.2] 26)).drew) := ((Ext.refl _).alloc _).drew
                    have hss : (W6.setCell ⟨ob, kq, none⟩ (.int .i64 (dst g p c + 1))).heap.size = W6.heap.size := by simp
                    have K5 : Hid (Kept (fun k => (Value.slice av m cv).ownBlock ≠ some k) 0 ((W6.setCell ⟨ob, kq, none⟩ (.int .i64 (dst g p c + 1))).alloc (.cells #[.int .i64 q.1, .int .i64 q.2] 26)).drew w5) := Kept.grown hend5 (fun b hb hn => hn hb)
                    have S7 : ((W6.setCell ⟨ob, kq, none⟩ (.int .i64 (dst g p c + 1))).alloc (.cells #[.int .i64 q.1, .int .i64 q.2] 26)).drew.heap.size = W6.heap.size + 1 := by simp
                    clear hown5 hend5 O5
                    go_wp2
                    have vbb := X.out.vb
                    refine ⟨⟨j + 1, q :: sj, Nv ++ [q], av', cv', _, by omega, by go_num, rfl, by show _ = _; rfl, ?_⟩, by simp [intOf]; omega⟩
                    exact {
                      e := HSN.out
                      o := by
                        have h1 := (X.out.o.set (i := kq) (by rw [← HNN.out]; exact kq3) (dst g p c + 1)).congr (M := fun k => if cellAt g k ∈ q :: sj then dst g p (cellAt g k) else -1) (fun k hk => by
                          try dsimp only
                          by_cases ek : k = kq
                          · rw [if_pos ek, ek, HKQ.out, cellAt_kx hqi.out, if_pos (List.mem_cons_self ..), hdq.out]
                          · have hne : cellAt g k ≠ q := fun h => ek (by rw [HKQ.out, ← h, kx_cellAt])
                            rw [if_neg ek]
                            by_cases hm2 : cellAt g k ∈ sj
                            · rw [if_pos hm2, if_pos (List.mem_cons_of_mem _ hm2)]
                            · rw [if_neg hm2, if_neg (fun h => by
                                rcases List.mem_cons.1 h with h | h
                                · exact hne h
                                · exact hm2 h)])
                        exact (h1.ext EA.out).kept K5.out (fun e => nown.out ob e rfl)
                      own := HO5.out
                      vb := fun b hb => by
                        rcases HEND.out with ⟨h1, _, _⟩ | ⟨h1, _⟩
                        · rw [h1] at hb; exact vbb b hb
                        · rw [h1] at hb
                          have hb' : b = W6.heap.size + 1 := by rw [S7] at hb; cases hb; rfl
                          have h5 := X.out.be.size
                          have h7 : bb < W6.heap.size := cell_lt X.out.b1
                          refine ⟨by omega, fun h => ?_, by omega⟩
                          have h6 := X.out.nn.lt h
                          omega
                      be := ((X.out.be.setCell (p := ⟨ob, kq, none⟩) (Nat.le_refl _) _).trans (EA.out.mono (by rw [hss]; omega))).trans (HEND.out.below (by rw [S7]; omega) (fun b hb => by have := (vbb b hb).1; omega))
                      nn := ((X.out.nn.kept KS.out nnear.out).ext EA.out).kept K5.out (fun b hb h => (vbb b h).2.1 hb)
                      b1 := K5.out.cell (p := ⟨bb, 0, none⟩) (fun h => (vbb bb h).2.2 rfl) (EA.out.cell (KS.out.cell (p := ⟨bb, 0, none⟩) (by show bb ≠ ob; omega) X.out.b1))
                      b2 := K5.out.cell (p := ⟨bb, 1, none⟩) (fun h => (vbb bb h).2.2 rfl) (EA.out.cell (KS.out.cell (p := ⟨bb, 1, none⟩) (by show bb ≠ ob; omega) X.out.b2)) }
              · have hje : j = (near g c).length := by omega
                have HJE := Lib.hid hje
                have hjl' : ¬ (j : Int) < ((near g c).length : Int) := by omega
                clear hje
                go_wp2
                have hee := hG.out.e
                rw [HJE.out, List.take_length] at hee
                have hQ2 := HQ.out.step hlt
                rw [HCC.out, hee] at hQ2
                have hlen2 : k + 1 ≤ (Wv ++ Nv).length := by simp; omega
                refine ⟨⟨k + 1, Wv ++ Nv, sj, av, cv, hlen2, by go_num, by rw [← hm.out], by rw [← hm.out]; exact ⟨hQ2, hG.out.o, hG.out.own, fun b hb => (hG.out.vb b hb).1, hG.out.be⟩⟩, by simp [intOf]; omega⟩
          · have hke : k = Wv.length := by omega
            have HKE := Lib.hid hke
            have hlt' : ¬ (k : Int) < (Wv.length : Int) := by omega
            clear hke
            go_wp2
            go_ret
            refine ⟨some ⟨ob, 0, none⟩, ⟨n, by rw [tabL_len, ← HNN.out]; rfl⟩, fun j hj => ?_, Below.trans EW (hF.out.be.mono (by omega))⟩
            rw [tabL_len] at hj
            refine ⟨ob, 0, rfl, ?_⟩
            rw [Nat.zero_add, tabL_get hj, (hF.out.o j hj).1]
            by_cases hm : cellAt g j ∈ sn
            · simp [hm]
            · simp only [hm, if_false]
              rw [hF.out.q.done HKE.out hm]
end Go.Proofs.Ytfigooilhnahfaa
/- The reference's at and Few. -/
namespace Go.Proofs.Ytfigooilhnahfaa
open Go.RowKit

set_option maxHeartbeats 1000000 in
theorem atR_any (g : Gr) (D : Pt → Int) (s : Value) (a : Option Addr) (cap : Nat) (p : Pt) (w : World) (hr : Right g) (hp : inside g p = true) (hc : CellsI w a (tabL g D)) :
    Calls Try.prog 52 #[.agg #[.int .i64 g.rows, .int .i64 g.cols, s], .slice a (tabL g D).length cap, .agg #[.int .i64 p.1, .int .i64 p.2]] w fun e w' => e = .returned (.int .i64 (D p)) ∧ Ext w w' := by
  obtain ⟨x, k1, k2, k3⟩ := kxF hr hp
  have hk : kx g p < (tabL g D).length := by rw [tabL_len]; exact k3
  obtain ⟨b, off, rfl, h1⟩ := hc (kx g p) hk
  rw [tabL_get k3, cellAt_kx hp] at h1
  generalize kx g p = k at k2 hk h1
  generalize (tabL g D).length = n at hk
  have hk' : (k : Int) < (n : Int) := by omega
  have E0 : Ext w ((w.alloc (.cells #[.int .i64 g.rows, .int .i64 g.cols, s] 24)).alloc (.cells #[.int .i64 p.1, .int .i64 p.2] 26)) := ((Ext.refl _).alloc _).alloc _
  have zb := cell_lt h1
  dsimp only at zb
  clear hc hr hp k3
  go_enter Try.func52, Try.ntmps52
  go_wp2
  go_ret
  exact ⟨rfl, E0⟩

def fewB (g : Gr) : Bool := decide (g.bl.length ≤ 512) && ((decide (g.rows ≤ 7) && decide (g.cols ≤ 7)) || decide (chk g ≠ 0))
set_option maxHeartbeats 1000000 in
theorem Few_any (g : Gr) (ga : Option Addr) (gc : Nat) (w : World) (hg : g.bl.length ≤ maxLen) (hc : Cells2 w ga g.bl) :
    Calls Try.prog 12 #[.agg #[.int .i64 g.rows, .int .i64 g.cols, .slice ga g.bl.length gc]] w fun e w' => e = .returned (.bool (fewB g)) ∧ Ext w w' := by
  have HC : Hid (Cells2 w ga g.bl) := hc
  have HG := Lib.hid hg
  clear hc hg
  have E0 : Ext w (((w).alloc (.cells #[.int .i64 g.rows, .int .i64 g.cols, .slice ga g.bl.length gc] 24))) := (Ext.refl _).alloc _
  by_cases h1 : g.bl.length ≤ 512
  · have h1' : (g.bl.length : Int) ≤ 512 := by omega
    by_cases h2 : g.rows ≤ 7 ∧ g.cols ≤ 7
    · obtain ⟨h2, h3⟩ := h2
      have hb : Hid (fewB g = true) := by show _ = _; unfold fewB; simp [h1, h2, h3]
      clear h1
      go_enter Try.func12, Try.ntmps12
      go_wp2
      go_ret
      exact ⟨ret_bool hb.out.symm, E0⟩
    · have hb : Hid (fewB g = decide (chk g ≠ 0)) := by
        show _ = _
        unfold fewB
        have : (decide (g.rows ≤ 7) && decide (g.cols ≤ 7)) = false := by simp; omega
        rw [this]; simp [h1]
      have H1 := Lib.hid h1
      clear h1
      have fin : ∀ b : Bool, (g.rows ≤ 7 → ¬ g.cols ≤ 7) → Calls Try.prog 12 #[.agg #[.int .i64 g.rows, .int .i64 g.cols, .slice ga g.bl.length gc]] w fun e w' => e = .returned (.bool (fewB g)) ∧ Ext w w' := fun _ hh => by
        by_cases h3 : g.rows ≤ 7
        · have h4 := hh h3
          clear h2 hh
          go_enter Try.func12, Try.ntmps12
          go_wp2_with fail
          refine (CheckR_any g ga gc _ HG.out (HC.out.ext E0)).mono ?_
          rintro e w1 ⟨rfl, hE⟩
          go_wp2
          go_ret
          exact ⟨ret_bool (by rw [hb.out]; cases h5 : decide (chk g ≠ 0) <;> simp_all), E0.trans hE⟩
        · clear h2 hh
          go_enter Try.func12, Try.ntmps12
          go_wp2_with fail
          refine (CheckR_any g ga gc _ HG.out (HC.out.ext E0)).mono ?_
          rintro e w1 ⟨rfl, hE⟩
          go_wp2
          go_ret
          exact ⟨ret_bool (by rw [hb.out]; cases h5 : decide (chk g ≠ 0) <;> simp_all), E0.trans hE⟩
      exact fin true (fun h3 h4 => h2 ⟨h3, h4⟩)
  · have h1' : ¬ (g.bl.length : Int) ≤ 512 := by omega
    have hb : Hid (fewB g = false) := by show _ = _; unfold fewB; simp [h1]
    clear h1
    go_enter Try.func12, Try.ntmps12
    go_wp2
    go_ret
    exact ⟨ret_bool hb.out.symm, E0⟩
end Go.Proofs.Ytfigooilhnahfaa
