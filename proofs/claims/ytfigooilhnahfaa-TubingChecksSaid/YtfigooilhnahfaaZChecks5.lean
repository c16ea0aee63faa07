/- Steps of the proof: Joined, Verify, Far, Few, MeetR, DuctS. No conditions. -/
import Derived.BigRegion
import Derived.Test.YtfigooilhnahfaaZChecks1
import Derived.Test.YtfigooilhnahfaaZChecks2
import Derived.Test.YtfigooilhnahfaaZChecks3
import Derived.Test.YtfigooilhnahfaaZChecks4
/- Whether cells are a route. -/
namespace Go.Proofs.Ytfigooilhnahfaa
open Go.RowKit Go.Maps

/-- from the k-th cell on -/
def jFrom (l : List Pt) : Nat → Nat → Bool
  | 0, _ => true
  | n + 1, k => if pt l k ∈ l.take k then false else if k ≠ 0 ∧ awayI (pt l (k - 1)) (pt l k) ≠ 1 then false else jFrom l n (k + 1)
def joinedB (l : List Pt) : Bool := jFrom l l.length 0

theorem setStep {l : List Pt} {k : Nat} (hk : k < l.length) {S : List Pt} (h : ∀ x, x ∈ S ↔ x ∈ l.take k) : ∀ x, x ∈ (if pt l k ∈ S then S else pt l k :: S) ↔ x ∈ l.take (k + 1) := by
  intro x
  have e : l.take (k + 1) = l.take k ++ [pt l k] := by
    rw [List.take_succ_eq_append_getElem hk]
    congr 2
    unfold pt
    rw [List.getD_eq_getElem?_getD, List.getElem?_eq_getElem hk]; simp
  rw [e, List.mem_append, ← h x]
  by_cases hm : pt l k ∈ S
  · rw [if_pos hm]
    constructor
    · exact .inl
    · rintro (h1 | h1)
      · exact h1
      · simp at h1; subst h1; exact hm
  · rw [if_neg hm, List.mem_cons]
    constructor
    · rintro (h1 | h1)
      · exact .inr (by simp [h1])
      · exact .inl h1
    · rintro (h1 | h1)
      · exact .inr h1
      · simp at h1; exact .inl h1

set_option maxHeartbeats 2000000 in
set_option maxRecDepth 100000 in
theorem joined_any (l : List Pt) (a : Option Addr) (cap : Nat) (w : World) (hl : l.length ≤ 4096) (hin : ∀ i, i < l.length → InG (pt l i)) (hcl : Cells2 w a l) :
    Calls Try.prog 68 #[.slice a l.length cap] w fun e w' => e = .returned (.bool (joinedB l)) ∧ Ext w w' := by
  have HL : Hid (Cells2 w a l) := hcl
  have HIN := Lib.hid hin
  have hmm := @run_makeMap Try.prog
  clear hcl hin
  go_enter Try.func68, Try.ntmps68
  go_wp2
  have H : Ext w (w.alloc (.map #[] 0)) := (Ext.refl _).alloc _
  have M0 : Hid (SetAt Try.prog 26 4 evPl (w.alloc (.map #[] 0)) w.heap.size 0 ([] : List Pt)) := SetAt.made _ _ _ _ _
  clear hmm
  go_loopw [9] (fun i wr => ∃ k : Nat, k ≤ l.length ∧ i = .int .i64 k ∧ Hid (joinedB l = jFrom l (l.length - k) k) ∧ Ext w wr ∧ Hid (∃ S, SetAt Try.prog 26 4 evPl wr w.heap.size k S ∧ ∀ x, x ∈ S ↔ x ∈ l.take k)) (fun i _ => l.length - (intOf i).toNat)
  case atStart => exact ⟨0, Nat.zero_le _, rfl, by show _ = _; rw [Nat.sub_zero]; rfl, H, ⟨[], M0.out, fun x => by simp⟩⟩
  case round =>
    obtain ⟨k, hk, rfl, hn, he, hs⟩ := hrel
    by_cases hlt : k < l.length
    · obtain ⟨b, off, ha, e1, e2⟩ := HL.out.ext he k hlt
      subst ha
      obtain ⟨S, hS1, hS2⟩ := hs.out
      have z3 := cell_lt e1
      dsimp only at z3
      by_cases hmem : pt l k ∈ l.take k
      · go_wp2
        have E4 : Ext wr ((( wr).alloc (.cells #[.int .i64 (pt l k).1, .int .i64 (pt l k).2] 26))) := (Ext.refl _).alloc _
        have c1 : ((( wr).alloc (.cells #[.int .i64 (pt l k).1, .int .i64 (pt l k).2] 26))).cell? ⟨wr.heap.size, 0, none⟩ = some (.int .i64 (pt l k).1) := by go_simp
        have c2 : ((( wr).alloc (.cells #[.int .i64 (pt l k).1, .int .i64 (pt l k).2] 26))).cell? ⟨wr.heap.size, 1, none⟩ = some (.int .i64 (pt l k).2) := by go_simp
        have e3 := E4.cell e1
        have e4 := E4.cell e2
        have S4 := hS1.ext E4
        obtain ⟨kl, hkl⟩ := keyPl (wf_inG (HIN.out k hlt)).1 (wf_inG (HIN.out k hlt)).2
        have hlook : ∀ n, (Instr.lookup 98 (.map (some w.heap.size)) (.agg #[.int .i64 ((pt l k)).1, .int .i64 ((pt l k)).2]) false).run Try.prog (((( wr).alloc (.cells #[.int .i64 (pt l k).1, .int .i64 (pt l k).2] 26))).drewN n) = .ok (.bool true) (((( wr).alloc (.cells #[.int .i64 (pt l k).1, .int .i64 (pt l k).2] 26))).drewN n) := fun n => by
          have := (S4.ext ((Ext.refl _).drewN n)).lookup lawPl Try.underlying98 Try.underlying4 (by kernel_rfl) hkl
          have hm : pt l k ∈ S := (hS2 _).2 hmem
          simp only [hm, decide_true] at this
          exact this
        have HE4 := Lib.hid (he.trans E4)
        have HM := Lib.hid hmem
        clear hmem S4 hS1 hS2 hkl hs e1 e2
        generalize ((( wr).alloc (.cells #[.int .i64 (pt l k).1, .int .i64 (pt l k).2] 26))) = W at hlook c1 c2 e3 e4 E4 HE4 ⊢
        go_quiet (fail)
        go_wp2
        go_ret
        refine ⟨ret_bool ?_, HE4.out.drewN _⟩
        rw [hn.out, show l.length - k = (l.length - (k + 1)) + 1 from by omega]
        unfold jFrom
        rw [if_pos HM.out]
      · have E4 : Ext wr ((( wr).alloc (.cells #[.int .i64 (pt l k).1, .int .i64 (pt l k).2] 26))) := (Ext.refl _).alloc _
        have c1 : ((( wr).alloc (.cells #[.int .i64 (pt l k).1, .int .i64 (pt l k).2] 26))).cell? ⟨wr.heap.size, 0, none⟩ = some (.int .i64 (pt l k).1) := by go_simp
        have c2 : ((( wr).alloc (.cells #[.int .i64 (pt l k).1, .int .i64 (pt l k).2] 26))).cell? ⟨wr.heap.size, 1, none⟩ = some (.int .i64 (pt l k).2) := by go_simp
        have e3 := E4.cell e1
        have e4 := E4.cell e2
        have S4 := hS1.ext E4
        obtain ⟨kl, hkl⟩ := keyPl (wf_inG (HIN.out k hlt)).1 (wf_inG (HIN.out k hlt)).2
        have hlook0 : ∀ w', Ext ((( wr).alloc (.cells #[.int .i64 (pt l k).1, .int .i64 (pt l k).2] 26))) w' → (Instr.lookup 98 (.map (some w.heap.size)) (.agg #[.int .i64 ((pt l k)).1, .int .i64 ((pt l k)).2]) false).run Try.prog w' = .ok (.bool false) w' := fun w' hw' => by
          have := (S4.ext hw').lookup lawPl Try.underlying98 Try.underlying4 (by kernel_rfl) hkl
          have hm : ¬ pt l k ∈ S := fun h => hmem ((hS2 _).1 h)
          simp only [hm, decide_false] at this
          exact this
        have HLK := Lib.hid hlook0
        have HE4 := Lib.hid (he.trans E4)
        have HM := Lib.hid hmem
        have HS4 := Lib.hid S4
        have HS2 := Lib.hid hS2
        have HKL := Lib.hid hkl
        clear hmem S4 hS1 hS2 hkl hs hlook0
        by_cases hk0 : k = 0
        · have hd : decide (0 < k) = false := by simp; omega
          have HK0 := Lib.hid hk0
          clear hk0
          go_wp2_with fail
          generalize ((( wr).alloc (.cells #[.int .i64 (pt l k).1, .int .i64 (pt l k).2] 26))) = W at HLK c1 c2 e3 e4 E4 HE4 HS4 ⊢
          have hlook : ∀ n, (Instr.lookup 98 (.map (some w.heap.size)) (.agg #[.int .i64 ((pt l k)).1, .int .i64 ((pt l k)).2]) false).run Try.prog (W.drewN n) = .ok (.bool false) (W.drewN n) := fun n => HLK.out _ ((Ext.refl _).drewN n)
          go_quiet (fail)
          clear hlook
          have EN : Ext W (W.drewN nq) := (Ext.refl _).drewN _
          have c1 := EN.cell c1
          have c2 := EN.cell c2
          have S5 := Lib.hid (HS4.out.ext EN)
          have HE5 := Lib.hid (HE4.out.trans EN)
          generalize W.drewN nq = W5 at EN c1 c2 S5 HE5 ⊢
          obtain ⟨S5a, hS5, hS5b⟩ := (show ∃ S, SetAt Try.prog 26 4 evPl W5 w.heap.size k S ∧ ∀ x, x ∈ S ↔ x ∈ l.take k from ⟨_, S5.out, HS2.out⟩)
          obtain ⟨w6, hup, hS6, hg6⟩ := hS5.update (t := 98) lawPl Try.underlying98 Try.underlying4 (by unfold maxLen; omega) evPl_inj HKL.out
          have HS6 : Hid (∃ S, SetAt Try.prog 26 4 evPl w6 w.heap.size (k + 1) S ∧ ∀ x, x ∈ S ↔ x ∈ l.take (k + 1)) := ⟨_, hS6, fun x => by have h0 := setStep hlt hS5b x; split at h0 <;> split <;> first | exact h0 | contradiction⟩
          have HG6 := Lib.hid hg6
          unfold evPl at hup
          clear hS5 hS5b hS6 hg6
          go_wp2
          refine ⟨⟨k + 1, by omega, by go_num, ?_, HE5.out.grown HG6.out HE5.out.size (fun j hj => by cases hj; exact Nat.le_refl _), HS6⟩, by simp [intOf]; omega⟩
          show _ = _
          rw [hn.out, show l.length - k = (l.length - (k + 1)) + 1 from by omega]
          conv => lhs; unfold jFrom
          rw [if_neg HM.out, if_neg (fun h => h.1 HK0.out)]
        · have hd : decide (0 < k) = true := by simp; omega
          obtain ⟨b', off', ha', f1, f2⟩ := HL.out.ext (he.trans E4) (k - 1) (by omega)
          cases ha'
          have hk1 : 0 < k := by omega
          have q1 : ((k : Int) - 1).toNat = k - 1 := by omega
          have q2 : (1 : Int) ≤ (k : Int) := by omega
          have q3 : 1 ≤ k := by omega
          have q4 : (k : Int) - 1 < (l.length : Int) := by omega
          have q5 : 0 ≤ (k : Int) - 1 := by omega
          have q6 : IntKind.i64.wrap ((k : Int) - 1) = (k : Int) - 1 := IntWalk.i64_in _ (by omega)
          have i1 := Lib.hid (HIN.out (k - 1) (by omega))
          have i2 := Lib.hid (HIN.out k hlt)
          have HK0 := Lib.hid hk0
          clear hk0
          go_wp2_with fail
          have zW : wr.heap.size < ((( wr).alloc (.cells #[.int .i64 (pt l k).1, .int .i64 (pt l k).2] 26))).heap.size := by simp
          generalize ((( wr).alloc (.cells #[.int .i64 (pt l k).1, .int .i64 (pt l k).2] 26))) = W at HLK c1 c2 e3 e4 E4 HE4 HS4 f1 f2 zW ⊢
          have zb := cell_lt f1
          dsimp only at zb
          have hlook : (Instr.lookup 98 (.map (some w.heap.size)) (.agg #[.int .i64 ((pt l k)).1, .int .i64 ((pt l k)).2]) false).run Try.prog W.drew = .ok (.bool false) W.drew := HLK.out _ (Ext.refl _).drew
          by_cases hdist : awayI (pt l (k - 1)) (pt l k) = 1
          · have HD := Lib.hid hdist
            go_region_held3 (fun w' => Sees W w') ((repeat (first | exact Sees.refl _ | assumption | apply Sees.drew | apply Sees.alloc | (refine Sees.ext ?_ (by assumption))))) (first | (go_at_call 81; refine (away_any (pt l (k - 1)) (pt l k) _ i1.out i2.out).mono ?_; rintro e w' ⟨rfl, hE2⟩))
            have hSS := (show Sees W _ by assumption).2.2
            have c1 := hSS.cell c1
            have c2 := hSS.cell c2
            have S5 := Lib.hid (HS4.out.ext hSS)
            have HE5 := Lib.hid (HE4.out.trans hSS)
            clear hlook
            clear e3 e4 f1 f2 hSS
            generalize w' = W5 at c1 c2 S5 HE5 ⊢
            obtain ⟨S5a, hS5, hS5b⟩ := (show ∃ S, SetAt Try.prog 26 4 evPl W5 w.heap.size k S ∧ ∀ x, x ∈ S ↔ x ∈ l.take k from ⟨_, S5.out, HS2.out⟩)
            obtain ⟨w6, hup, hS6, hg6⟩ := hS5.update (t := 98) lawPl Try.underlying98 Try.underlying4 (by unfold maxLen; omega) evPl_inj HKL.out
            have HS6 : Hid (∃ S, SetAt Try.prog 26 4 evPl w6 w.heap.size (k + 1) S ∧ ∀ x, x ∈ S ↔ x ∈ l.take (k + 1)) := ⟨_, hS6, fun x => by have h0 := setStep hlt hS5b x; split at h0 <;> split <;> first | exact h0 | contradiction⟩
            have HG6 := Lib.hid hg6
            unfold evPl at hup
            clear hS5 hS5b hS6 hg6
            go_wp2
            refine ⟨⟨k + 1, by omega, by go_num, ?_, HE5.out.grown HG6.out HE5.out.size (fun j hj => by cases hj; exact Nat.le_refl _), HS6⟩, by simp [intOf]; omega⟩
            show _ = _
            rw [hn.out, show l.length - k = (l.length - (k + 1)) + 1 from by omega]
            conv => lhs; unfold jFrom
            rw [if_neg HM.out, if_neg (fun h => h.2 HD.out)]
          · have hd1 : (awayI (pt l (k - 1)) (pt l k) == 1) = false := by simpa using hdist
            have HD := Lib.hid hdist
            clear hdist
            go_region_held3 (fun w' => Sees W w') ((repeat (first | exact Sees.refl _ | assumption | apply Sees.drew | apply Sees.alloc | (refine Sees.ext ?_ (by assumption))))) (first | (go_at_call 81; refine (away_any (pt l (k - 1)) (pt l k) _ i1.out i2.out).mono ?_; rintro e w' ⟨rfl, hE2⟩))
            have hSS := (show Sees W _ by assumption).2.2
            go_wp2
            go_ret
            refine ⟨ret_bool ?_, HE4.out.trans hSS⟩
            rw [hn.out, show l.length - k = (l.length - (k + 1)) + 1 from by omega]
            unfold jFrom
            rw [if_neg HM.out, if_pos ⟨HK0.out, HD.out⟩]
    · go_wp2
      go_ret
      exact ⟨ret_bool (by rw [hn.out, show l.length - k = 0 from by omega]; rfl), he⟩
end Go.Proofs.Ytfigooilhnahfaa
/- Verify. -/
namespace Go.Proofs.Ytfigooilhnahfaa
open Go.RowKit Go.Maps

theorem listed_ok {g : Gr} {l : List Pt} (h : listedErr g l = 0) : Right g ∧ l ≠ [] ∧ l.length ≤ 4096 ∧ ∀ p ∈ l, opn g p = true := by
  unfold listedErr at h
  split at h
  · rename_i h1; exact absurd h h1
  · rename_i h1
    split at h
    · omega
    · rename_i h2
      split at h
      · omega
      · rename_i h3
        exact ⟨right_of_chk (by simpa using h1), h2, by omega, cells_ok h⟩
theorem pt_mem {l : List Pt} {i : Nat} (h : i < l.length) : pt l i ∈ l := by
  unfold pt; rw [List.getD_eq_getElem?_getD, List.getElem?_eq_getElem h]; simp
def verV (g : Gr) (l : List Pt) : Bool := if listedErr g l ≠ 0 then false else joinedB l && decide (dst g (pt l (l.length - 1)) (pt l 0) = (l.length : Int) - 1)

set_option maxHeartbeats 1000000 in
set_option maxRecDepth 100000 in
theorem Verify_any (g : Gr) (l : List Pt) (ga : Option Addr) (gc : Nat) (a : Option Addr) (cap : Nat) (w : World) (hg : g.bl.length ≤ maxLen) (hc : Cells2 w ga g.bl) (hl : l.length ≤ maxLen) (hcl : Cells2 w a l) :
    Calls Try.prog 32 #[.agg #[.int .i64 g.rows, .int .i64 g.cols, .slice ga g.bl.length gc], .slice a l.length cap] w fun e w' => e = .returned (.tuple #[.bool (verV g l), .int .i64 (listedErr g l)]) ∧ Ext w w' := by
  have HC : Hid (Cells2 w ga g.bl) := hc
  have HL : Hid (Cells2 w a l) := hcl
  have HG := Lib.hid hg
  have HM := Lib.hid hl
  clear hc hcl hg hl
  have E0 : Ext w (((w).alloc (.cells #[.int .i64 g.rows, .int .i64 g.cols, .slice ga g.bl.length gc] 33))) := (Ext.refl _).alloc _
  have a1 : (((w).alloc (.cells #[.int .i64 g.rows, .int .i64 g.cols, .slice ga g.bl.length gc] 33))).cell? ⟨w.heap.size, 0, none⟩ = some (.int .i64 g.rows) := by go_simp
  have a2 : (((w).alloc (.cells #[.int .i64 g.rows, .int .i64 g.cols, .slice ga g.bl.length gc] 33))).cell? ⟨w.heap.size, 1, none⟩ = some (.int .i64 g.cols) := by go_simp
  have a3 : (((w).alloc (.cells #[.int .i64 g.rows, .int .i64 g.cols, .slice ga g.bl.length gc] 33))).cell? ⟨w.heap.size, 2, none⟩ = some (.slice ga g.bl.length gc) := by go_simp
  by_cases h0 : listedErr g l = 0
  · obtain ⟨hr, hne, hlen, ho⟩ := listed_ok h0
    have HR := Lib.hid hr
    have HIN : Hid (∀ i, i < l.length → inside g (pt l i) = true) := fun i hi => opn_inside (ho _ (pt_mem hi))
    have hpos : 0 < l.length := List.length_pos_iff.2 hne
    have hv : Hid (verV g l = (joinedB l && decide (dst g (pt l (l.length - 1)) (pt l 0) = (l.length : Int) - 1))) := by
      show _ = _
      unfold verV
      rw [if_neg (by simp [h0])]
    have H0 := Lib.hid h0
    have HLEN := Lib.hid hlen
    clear hr ho h0 hne
    rw [H0.out]
    go_enter Try.func32, Try.ntmps32
    go_wp2_with fail
    refine (listed_any g l ga gc a cap _ HG.out (HC.out.ext E0) HM.out (HL.out.ext E0)).mono ?_
    rintro e w1 ⟨rfl, hE⟩
    rw [H0.out]
    have b1 := hE.cell a1
    have b2 := hE.cell a2
    have b3 := hE.cell a3
    have E1 : Ext w w1 := E0.trans hE
    clear hE E0 a1 a2 a3
    go_wp2_with fail
    refine (joined_any l a cap _ HLEN.out (fun i hi => inG_of HR.out (HIN.out i hi)) (HL.out.ext E1)).mono ?_
    rintro e w2 ⟨rfl, hE⟩
    have d1 := hE.cell b1
    have d2 := hE.cell b2
    have d3 := hE.cell b3
    have E2 : Ext w w2 := E1.trans hE
    clear hE E1 b1 b2 b3
    cases hj : joinedB l
    · have HJ := Lib.hid hj
      clear hj
      go_wp2
      go_ret2
      refine ⟨?_, E2⟩
      rw [hv.out, HJ.out]
      rfl
    · have HJ := Lib.hid hj
      clear hj
      obtain ⟨b, off, ha, e1, e2⟩ := HL.out.ext E2 0 hpos
      obtain ⟨b', off', ha', f1, f2⟩ := HL.out.ext E2 (l.length - 1) (by omega)
      subst ha
      cases ha'
      simp only [Nat.zero_mul, Nat.add_zero] at e1 e2
      have q0 : IntKind.i64.wrap ((l.length : Int) - 1) = (l.length : Int) - 1 := IntWalk.i64_in _ (by have := HLEN.out; omega)
      have q1 : ((l.length : Int) - 1).toNat = l.length - 1 := by omega
      have q2 : 0 ≤ (l.length : Int) - 1 := by omega
      have q3 : (1 : Int) ≤ (l.length : Int) := by omega
      have q4 : 1 ≤ l.length := by omega
      have q5 : (0 : Int) < (l.length : Int) := by omega
      go_wp2_with fail
      have zb := cell_lt f1
      dsimp only at zb
      have HLAST : Hid (inside g (pt l (l.length - 1)) = true) := HIN.out _ (by omega)
      obtain ⟨r1, r2, r3, r4⟩ := inG_of HR.out (HIN.out 0 hpos)
      go_region
      · have E3 : Ext w2 (((w2.alloc (.cells #[.int .i64 (pt l 0).1, .int .i64 (pt l 0).2] 26)).alloc (.cells #[.int .i64 (pt l (l.length - 1)).1, .int .i64 (pt l (l.length - 1)).2] 26)).drew) := (((Ext.refl _).alloc _).alloc _).drew
        have g1 := E3.cell d1
        have g2 := E3.cell d2
        have g3 := E3.cell d3
        have p1 : (((w2.alloc (.cells #[.int .i64 (pt l 0).1, .int .i64 (pt l 0).2] 26)).alloc (.cells #[.int .i64 (pt l (l.length - 1)).1, .int .i64 (pt l (l.length - 1)).2] 26)).drew).cell? ⟨w2.heap.size, 0, none⟩ = some (.int .i64 (pt l 0).1) := by go_simp
        have p2 : (((w2.alloc (.cells #[.int .i64 (pt l 0).1, .int .i64 (pt l 0).2] 26)).alloc (.cells #[.int .i64 (pt l (l.length - 1)).1, .int .i64 (pt l (l.length - 1)).2] 26)).drew).cell? ⟨w2.heap.size, 1, none⟩ = some (.int .i64 (pt l 0).2) := by go_simp
        have p3 : (((w2.alloc (.cells #[.int .i64 (pt l 0).1, .int .i64 (pt l 0).2] 26)).alloc (.cells #[.int .i64 (pt l (l.length - 1)).1, .int .i64 (pt l (l.length - 1)).2] 26)).drew).cell? ⟨w2.heap.size + 1, 0, none⟩ = some (.int .i64 (pt l (l.length - 1)).1) := by go_simp
        have p4 : (((w2.alloc (.cells #[.int .i64 (pt l 0).1, .int .i64 (pt l 0).2] 26)).alloc (.cells #[.int .i64 (pt l (l.length - 1)).1, .int .i64 (pt l (l.length - 1)).2] 26)).drew).cell? ⟨w2.heap.size + 1, 1, none⟩ = some (.int .i64 (pt l (l.length - 1)).2) := by go_simp
        have E4 := E2.trans E3
        clear d1 d2 d3 E3 E2 e1 e2 f1 f2
        generalize (((w2.alloc (.cells #[.int .i64 (pt l 0).1, .int .i64 (pt l 0).2] 26)).alloc (.cells #[.int .i64 (pt l (l.length - 1)).1, .int .i64 (pt l (l.length - 1)).2] 26)).drew) = W at g1 g2 g3 p1 p2 p3 p4 E4 ⊢
        have z1 := cell_lt g1
        have z2 := cell_lt p1
        have z3 := cell_lt p3
        dsimp only at z1 z2 z3
        go_wp2_with fail
        refine wp_region_held_drew (S := fun w' => Sees W w') (by kernel_rfl) (by repeat (first | exact Sees.refl _ | assumption | apply Sees.drew)) (fun hHeld => ?_)
        ((refine wpAnyH_take (i := 0) (oi := ?_) (v := ?_) ?_ (by kernel_rfl) (by kernel_rfl) (by kernel_rfl) ?_ ?_ (by assumption) ?_; rotate_left 2; (focus ((simp only [List.getElem?_toArray, List.getElem?_cons_zero]; exact rfl))); (focus (exact fun _ _ _ h => h)); (focus (refine Or.inl ⟨by rfl, ?_⟩; intro w hSw; (try dsimp only at hSw); (first | (go_simp; done) | (go_simp; with_reducible rfl)))); (try simp only [Act.put, List.setIfInBounds_toArray, List.set_cons_zero, List.set_cons_succ])); (refine wpAnyH_take (i := 1) (oi := ?_) (v := ?_) ?_ (by kernel_rfl) (by kernel_rfl) (by kernel_rfl) ?_ ?_ (by assumption) ?_; rotate_left 2; (focus ((simp only [List.getElem?_toArray, List.getElem?_cons_succ, List.getElem?_cons_zero]; exact rfl))); (focus (exact fun _ _ _ h => h)); (focus (refine Or.inl ⟨by rfl, ?_⟩; intro w hSw; (try dsimp only at hSw); (first | (go_simp; done) | (go_simp; with_reducible rfl)))); (try simp only [Act.put, List.setIfInBounds_toArray, List.set_cons_zero, List.set_cons_succ])); (refine wpAnyH_take (i := 3) (oi := ?_) (v := ?_) ?_ (by kernel_rfl) (by kernel_rfl) (by kernel_rfl) ?_ ?_ (by assumption) ?_; rotate_left 2; (focus ((simp only [List.getElem?_toArray, List.getElem?_cons_succ, List.getElem?_cons_zero]; exact rfl))); (focus (exact fun _ _ _ h => h)); (focus (refine Or.inl ⟨by rfl, ?_⟩; intro w hSw; (try dsimp only at hSw); (first | (go_simp; done) | (go_simp; with_reducible rfl)))); (try simp only [Act.put, List.setIfInBounds_toArray, List.set_cons_zero, List.set_cons_succ])); (refine wpAnyH_take (i := 4) (oi := ?_) (v := ?_) ?_ (by kernel_rfl) (by kernel_rfl) (by kernel_rfl) ?_ ?_ (by assumption) ?_; rotate_left 2; (focus ((simp only [List.getElem?_toArray, List.getElem?_cons_succ, List.getElem?_cons_zero]; exact rfl))); (focus (exact fun _ _ _ h => h)); (focus (refine Or.inl ⟨by rfl, ?_⟩; intro w hSw; (try dsimp only at hSw); (first | (go_simp; done) | (go_simp; with_reducible rfl)))); (try simp only [Act.put, List.setIfInBounds_toArray, List.set_cons_zero, List.set_cons_succ])); (refine wpAnyH_take (i := 5) (oi := ?_) (v := ?_) ?_ (by kernel_rfl) (by kernel_rfl) (by kernel_rfl) ?_ ?_ (by assumption) ?_; rotate_left 2; (focus ((simp only [List.getElem?_toArray, List.getElem?_cons_succ, List.getElem?_cons_zero]; exact rfl))); (focus (exact fun _ _ _ h => h)); (focus (refine Or.inl ⟨by rfl, ?_⟩; intro w hSw; (try dsimp only at hSw); (first | (go_simp; done) | (go_simp; with_reducible rfl)))); (try simp only [Act.put, List.setIfInBounds_toArray, List.set_cons_zero, List.set_cons_succ])); (refine wpAnyH_take (i := 6) (oi := ?_) (v := ?_) ?_ (by kernel_rfl) (by kernel_rfl) (by kernel_rfl) ?_ ?_ (by assumption) ?_; rotate_left 2; (focus ((simp only [List.getElem?_toArray, List.getElem?_cons_succ, List.getElem?_cons_zero]; exact rfl))); (focus (exact fun _ _ _ h => h)); (focus (refine Or.inl ⟨by rfl, ?_⟩; intro w hSw; (try dsimp only at hSw); (first | (go_simp; done) | (go_simp; with_reducible rfl)))); (try simp only [Act.put, List.setIfInBounds_toArray, List.set_cons_zero, List.set_cons_succ])); (refine wpAnyH_take (i := 11) (oi := ?_) (v := ?_) ?_ (by kernel_rfl) (by kernel_rfl) (by kernel_rfl) ?_ ?_ (by assumption) ?_; rotate_left 2; (focus ((simp only [List.getElem?_toArray, List.getElem?_cons_succ, List.getElem?_cons_zero]; exact rfl))); (focus (exact fun _ _ _ h => h)); (focus (refine Or.inl ⟨by rfl, ?_⟩; intro w hSw; (try dsimp only at hSw); (first | (go_simp; done) | (go_simp; with_reducible rfl)))); (try simp only [Act.put, List.setIfInBounds_toArray, List.set_cons_zero, List.set_cons_succ])); (refine wpAnyH_take (i := 12) (oi := ?_) (v := ?_) ?_ (by kernel_rfl) (by kernel_rfl) (by kernel_rfl) ?_ ?_ (by assumption) ?_; rotate_left 2; (focus ((simp only [List.getElem?_toArray, List.getElem?_cons_succ, List.getElem?_cons_zero]; exact rfl))); (focus (exact fun _ _ _ h => h)); (focus (refine Or.inl ⟨by rfl, ?_⟩; intro w hSw; (try dsimp only at hSw); (first | (go_simp; done) | (go_simp; with_reducible rfl)))); (try simp only [Act.put, List.setIfInBounds_toArray, List.set_cons_zero, List.set_cons_succ])); (refine wpAnyH_take (i := 13) (oi := ?_) (v := ?_) ?_ (by kernel_rfl) (by kernel_rfl) (by kernel_rfl) ?_ ?_ (by assumption) ?_; rotate_left 2; (focus ((simp only [List.getElem?_toArray, List.getElem?_cons_succ, List.getElem?_cons_zero]; exact rfl))); (focus (exact fun _ _ _ h => h)); (focus (refine Or.inl ⟨by rfl, ?_⟩; intro w hSw; (try dsimp only at hSw); (first | (go_simp; done) | (go_simp; with_reducible rfl)))); (try simp only [Act.put, List.setIfInBounds_toArray, List.set_cons_zero, List.set_cons_succ])))
        (refine wpAnyH_ready (rs := [2]) (by kernel_rfl) (by simp) ?_; refine AllReadyH.cons (o := ?_) ?_ (fun K hK => ?_) AllReadyH.nil; rotate_left; (focus ((simp only [List.getElem?_toArray, List.getElem?_cons_succ, List.getElem?_cons_zero]; exact rfl))); go_simp; go_at_call 49; refine (distances_any g (pt l (l.length - 1)) ga gc _ HR.out HLAST.out (HC.out.ext (E4.trans (by exact (show Sees W _ by assumption).2.2)))).mono ?_; rintro e w' ⟨tb, rfl, hT, hE2⟩; have c1 := (hT (pt l 0) ⟨r1, r2, r3, r4⟩).1; go_wp2_with fail; refine hK.out _ _ (by repeat (first | exact Sees.refl _ | assumption | apply Sees.drew | (refine Sees.ext ?_ (by assumption)))) (fun hHeld => ?_); clear hK K; (try simp only [Act.put, List.setIfInBounds_toArray, List.set_cons_zero, List.set_cons_succ]))
        ((refine wpAnyH_take (i := 7) (oi := ?_) (v := ?_) ?_ (by kernel_rfl) (by kernel_rfl) (by kernel_rfl) ?_ ?_ (by assumption) ?_; rotate_left 2; (focus ((simp only [List.getElem?_toArray, List.getElem?_cons_succ, List.getElem?_cons_zero]; exact rfl))); (focus (exact fun _ _ _ h => h)); (focus (refine Or.inl ⟨by rfl, ?_⟩; intro w hSw; (try dsimp only at hSw); (first | (go_simp; done) | (go_simp; with_reducible rfl)))); (try simp only [Act.put, List.setIfInBounds_toArray, List.set_cons_zero, List.set_cons_succ])); (refine wpAnyH_take (i := 8) (oi := ?_) (v := ?_) ?_ (by kernel_rfl) (by kernel_rfl) (by kernel_rfl) ?_ ?_ (by assumption) ?_; rotate_left 2; (focus ((simp only [List.getElem?_toArray, List.getElem?_cons_succ, List.getElem?_cons_zero]; exact rfl))); (focus (exact fun _ _ _ h => h)); (focus (refine Or.inl ⟨by rfl, ?_⟩; intro w hSw; (try dsimp only at hSw); (first | (go_simp; done) | (go_simp; with_reducible rfl)))); (try simp only [Act.put, List.setIfInBounds_toArray, List.set_cons_zero, List.set_cons_succ])); (refine wpAnyH_take (i := 9) (oi := ?_) (v := ?_) ?_ (by kernel_rfl) (by kernel_rfl) (by kernel_rfl) ?_ ?_ (by assumption) ?_; rotate_left 2; (focus ((simp only [List.getElem?_toArray, List.getElem?_cons_succ, List.getElem?_cons_zero]; exact rfl))); (focus (exact fun _ _ _ h => h)); (focus (refine Or.inl ⟨by rfl, ?_⟩; intro w hSw; (try dsimp only at hSw); (first | (go_simp; done) | (go_simp; with_reducible rfl)))); (try simp only [Act.put, List.setIfInBounds_toArray, List.set_cons_zero, List.set_cons_succ])))
        (refine wpAnyH_ready (rs := [10]) (by kernel_rfl) (by simp) ?_; refine AllReadyH.cons (o := ?_) ?_ (fun K hK => ?_) AllReadyH.nil; rotate_left; (focus ((simp only [List.getElem?_toArray, List.getElem?_cons_succ, List.getElem?_cons_zero]; exact rfl))); go_simp; refine hK.out _ _ (by repeat (first | exact Sees.refl _ | assumption | apply Sees.drew | (refine Sees.ext ?_ (by assumption)))) (fun hHeld => ?_); clear hK K; (try simp only [Act.put, List.setIfInBounds_toArray, List.set_cons_zero, List.set_cons_succ]))
        ((refine wpAnyH_take (i := 14) (oi := ?_) (v := ?_) ?_ (by kernel_rfl) (by kernel_rfl) (by kernel_rfl) ?_ ?_ (by assumption) ?_; rotate_left 2; (focus ((simp only [List.getElem?_toArray, List.getElem?_cons_succ, List.getElem?_cons_zero]; exact rfl))); (focus (exact fun _ _ _ h => h)); (focus (refine Or.inl ⟨by rfl, ?_⟩; intro w hSw; (try dsimp only at hSw); (first | (go_simp; done) | (go_simp; with_reducible rfl)))); (try simp only [Act.put, List.setIfInBounds_toArray, List.set_cons_zero, List.set_cons_succ])); (refine wpAnyH_take (i := 15) (oi := ?_) (v := ?_) ?_ (by kernel_rfl) (by kernel_rfl) (by kernel_rfl) ?_ ?_ (by assumption) ?_; rotate_left 2; (focus ((simp only [List.getElem?_toArray, List.getElem?_cons_succ, List.getElem?_cons_zero]; exact rfl))); (focus (exact fun _ _ _ h => h)); (focus (refine Or.inl ⟨by rfl, ?_⟩; intro w hSw; (try dsimp only at hSw); (first | (go_simp; done) | (go_simp; with_reducible rfl)))); (try simp only [Act.put, List.setIfInBounds_toArray, List.set_cons_zero, List.set_cons_succ])); (refine wpAnyH_take (i := 16) (oi := ?_) (v := ?_) ?_ (by kernel_rfl) (by kernel_rfl) (by kernel_rfl) ?_ ?_ (by assumption) ?_; rotate_left 2; (focus ((simp only [List.getElem?_toArray, List.getElem?_cons_succ, List.getElem?_cons_zero]; exact rfl))); (focus (exact fun _ _ _ h => h)); (focus (refine Or.inl ⟨by rfl, ?_⟩; intro w hSw; (try dsimp only at hSw); (first | (go_simp; done) | (go_simp; with_reducible rfl)))); (try simp only [Act.put, List.setIfInBounds_toArray, List.set_cons_zero, List.set_cons_succ])))
        refine wpAnyH_done (by kernel_rfl) ?_ _
        have hS := (show Sees W _ by assumption).2.2
        go_wp2
        go_ret2
        refine ⟨?_, E4.trans hS⟩
        rw [hv.out, HJ.out]
        rfl
      · have E3 : Ext w2 (((w2.alloc (.cells #[.int .i64 (pt l (l.length - 1)).1, .int .i64 (pt l (l.length - 1)).2] 26)).alloc (.cells #[.int .i64 (pt l 0).1, .int .i64 (pt l 0).2] 26)).drew) := (((Ext.refl _).alloc _).alloc _).drew
        have g1 := E3.cell d1
        have g2 := E3.cell d2
        have g3 := E3.cell d3
        have p1 : (((w2.alloc (.cells #[.int .i64 (pt l (l.length - 1)).1, .int .i64 (pt l (l.length - 1)).2] 26)).alloc (.cells #[.int .i64 (pt l 0).1, .int .i64 (pt l 0).2] 26)).drew).cell? ⟨w2.heap.size + 1, 0, none⟩ = some (.int .i64 (pt l 0).1) := by go_simp
        have p2 : (((w2.alloc (.cells #[.int .i64 (pt l (l.length - 1)).1, .int .i64 (pt l (l.length - 1)).2] 26)).alloc (.cells #[.int .i64 (pt l 0).1, .int .i64 (pt l 0).2] 26)).drew).cell? ⟨w2.heap.size + 1, 1, none⟩ = some (.int .i64 (pt l 0).2) := by go_simp
        have p3 : (((w2.alloc (.cells #[.int .i64 (pt l (l.length - 1)).1, .int .i64 (pt l (l.length - 1)).2] 26)).alloc (.cells #[.int .i64 (pt l 0).1, .int .i64 (pt l 0).2] 26)).drew).cell? ⟨w2.heap.size, 0, none⟩ = some (.int .i64 (pt l (l.length - 1)).1) := by go_simp
        have p4 : (((w2.alloc (.cells #[.int .i64 (pt l (l.length - 1)).1, .int .i64 (pt l (l.length - 1)).2] 26)).alloc (.cells #[.int .i64 (pt l 0).1, .int .i64 (pt l 0).2] 26)).drew).cell? ⟨w2.heap.size, 1, none⟩ = some (.int .i64 (pt l (l.length - 1)).2) := by go_simp
        have E4 := E2.trans E3
        clear d1 d2 d3 E3 E2 e1 e2 f1 f2
        generalize (((w2.alloc (.cells #[.int .i64 (pt l (l.length - 1)).1, .int .i64 (pt l (l.length - 1)).2] 26)).alloc (.cells #[.int .i64 (pt l 0).1, .int .i64 (pt l 0).2] 26)).drew) = W at g1 g2 g3 p1 p2 p3 p4 E4 ⊢
        have z1 := cell_lt g1
        have z2 := cell_lt p1
        have z3 := cell_lt p3
        dsimp only at z1 z2 z3
        go_wp2_with fail
        refine wp_region_held_drew (S := fun w' => Sees W w') (by kernel_rfl) (by repeat (first | exact Sees.refl _ | assumption | apply Sees.drew)) (fun hHeld => ?_)
        ((refine wpAnyH_take (i := 0) (oi := ?_) (v := ?_) ?_ (by kernel_rfl) (by kernel_rfl) (by kernel_rfl) ?_ ?_ (by assumption) ?_; rotate_left 2; (focus ((simp only [List.getElem?_toArray, List.getElem?_cons_zero]; exact rfl))); (focus (exact fun _ _ _ h => h)); (focus (refine Or.inl ⟨by rfl, ?_⟩; intro w hSw; (try dsimp only at hSw); (first | (go_simp; done) | (go_simp; with_reducible rfl)))); (try simp only [Act.put, List.setIfInBounds_toArray, List.set_cons_zero, List.set_cons_succ])); (refine wpAnyH_take (i := 1) (oi := ?_) (v := ?_) ?_ (by kernel_rfl) (by kernel_rfl) (by kernel_rfl) ?_ ?_ (by assumption) ?_; rotate_left 2; (focus ((simp only [List.getElem?_toArray, List.getElem?_cons_succ, List.getElem?_cons_zero]; exact rfl))); (focus (exact fun _ _ _ h => h)); (focus (refine Or.inl ⟨by rfl, ?_⟩; intro w hSw; (try dsimp only at hSw); (first | (go_simp; done) | (go_simp; with_reducible rfl)))); (try simp only [Act.put, List.setIfInBounds_toArray, List.set_cons_zero, List.set_cons_succ])); (refine wpAnyH_take (i := 3) (oi := ?_) (v := ?_) ?_ (by kernel_rfl) (by kernel_rfl) (by kernel_rfl) ?_ ?_ (by assumption) ?_; rotate_left 2; (focus ((simp only [List.getElem?_toArray, List.getElem?_cons_succ, List.getElem?_cons_zero]; exact rfl))); (focus (exact fun _ _ _ h => h)); (focus (refine Or.inl ⟨by rfl, ?_⟩; intro w hSw; (try dsimp only at hSw); (first | (go_simp; done) | (go_simp; with_reducible rfl)))); (try simp only [Act.put, List.setIfInBounds_toArray, List.set_cons_zero, List.set_cons_succ])); (refine wpAnyH_take (i := 4) (oi := ?_) (v := ?_) ?_ (by kernel_rfl) (by kernel_rfl) (by kernel_rfl) ?_ ?_ (by assumption) ?_; rotate_left 2; (focus ((simp only [List.getElem?_toArray, List.getElem?_cons_succ, List.getElem?_cons_zero]; exact rfl))); (focus (exact fun _ _ _ h => h)); (focus (refine Or.inl ⟨by rfl, ?_⟩; intro w hSw; (try dsimp only at hSw); (first | (go_simp; done) | (go_simp; with_reducible rfl)))); (try simp only [Act.put, List.setIfInBounds_toArray, List.set_cons_zero, List.set_cons_succ])); (refine wpAnyH_take (i := 5) (oi := ?_) (v := ?_) ?_ (by kernel_rfl) (by kernel_rfl) (by kernel_rfl) ?_ ?_ (by assumption) ?_; rotate_left 2; (focus ((simp only [List.getElem?_toArray, List.getElem?_cons_succ, List.getElem?_cons_zero]; exact rfl))); (focus (exact fun _ _ _ h => h)); (focus (refine Or.inl ⟨by rfl, ?_⟩; intro w hSw; (try dsimp only at hSw); (first | (go_simp; done) | (go_simp; with_reducible rfl)))); (try simp only [Act.put, List.setIfInBounds_toArray, List.set_cons_zero, List.set_cons_succ])); (refine wpAnyH_take (i := 6) (oi := ?_) (v := ?_) ?_ (by kernel_rfl) (by kernel_rfl) (by kernel_rfl) ?_ ?_ (by assumption) ?_; rotate_left 2; (focus ((simp only [List.getElem?_toArray, List.getElem?_cons_succ, List.getElem?_cons_zero]; exact rfl))); (focus (exact fun _ _ _ h => h)); (focus (refine Or.inl ⟨by rfl, ?_⟩; intro w hSw; (try dsimp only at hSw); (first | (go_simp; done) | (go_simp; with_reducible rfl)))); (try simp only [Act.put, List.setIfInBounds_toArray, List.set_cons_zero, List.set_cons_succ])); (refine wpAnyH_take (i := 11) (oi := ?_) (v := ?_) ?_ (by kernel_rfl) (by kernel_rfl) (by kernel_rfl) ?_ ?_ (by assumption) ?_; rotate_left 2; (focus ((simp only [List.getElem?_toArray, List.getElem?_cons_succ, List.getElem?_cons_zero]; exact rfl))); (focus (exact fun _ _ _ h => h)); (focus (refine Or.inl ⟨by rfl, ?_⟩; intro w hSw; (try dsimp only at hSw); (first | (go_simp; done) | (go_simp; with_reducible rfl)))); (try simp only [Act.put, List.setIfInBounds_toArray, List.set_cons_zero, List.set_cons_succ])); (refine wpAnyH_take (i := 12) (oi := ?_) (v := ?_) ?_ (by kernel_rfl) (by kernel_rfl) (by kernel_rfl) ?_ ?_ (by assumption) ?_; rotate_left 2; (focus ((simp only [List.getElem?_toArray, List.getElem?_cons_succ, List.getElem?_cons_zero]; exact rfl))); (focus (exact fun _ _ _ h => h)); (focus (refine Or.inl ⟨by rfl, ?_⟩; intro w hSw; (try dsimp only at hSw); (first | (go_simp; done) | (go_simp; with_reducible rfl)))); (try simp only [Act.put, List.setIfInBounds_toArray, List.set_cons_zero, List.set_cons_succ])); (refine wpAnyH_take (i := 13) (oi := ?_) (v := ?_) ?_ (by kernel_rfl) (by kernel_rfl) (by kernel_rfl) ?_ ?_ (by assumption) ?_; rotate_left 2; (focus ((simp only [List.getElem?_toArray, List.getElem?_cons_succ, List.getElem?_cons_zero]; exact rfl))); (focus (exact fun _ _ _ h => h)); (focus (refine Or.inl ⟨by rfl, ?_⟩; intro w hSw; (try dsimp only at hSw); (first | (go_simp; done) | (go_simp; with_reducible rfl)))); (try simp only [Act.put, List.setIfInBounds_toArray, List.set_cons_zero, List.set_cons_succ])))
        (refine wpAnyH_ready (rs := [2]) (by kernel_rfl) (by simp) ?_; refine AllReadyH.cons (o := ?_) ?_ (fun K hK => ?_) AllReadyH.nil; rotate_left; (focus ((simp only [List.getElem?_toArray, List.getElem?_cons_succ, List.getElem?_cons_zero]; exact rfl))); go_simp; go_at_call 49; refine (distances_any g (pt l (l.length - 1)) ga gc _ HR.out HLAST.out (HC.out.ext (E4.trans (by exact (show Sees W _ by assumption).2.2)))).mono ?_; rintro e w' ⟨tb, rfl, hT, hE2⟩; have c1 := (hT (pt l 0) ⟨r1, r2, r3, r4⟩).1; go_wp2_with fail; refine hK.out _ _ (by repeat (first | exact Sees.refl _ | assumption | apply Sees.drew | (refine Sees.ext ?_ (by assumption)))) (fun hHeld => ?_); clear hK K; (try simp only [Act.put, List.setIfInBounds_toArray, List.set_cons_zero, List.set_cons_succ]))
        ((refine wpAnyH_take (i := 7) (oi := ?_) (v := ?_) ?_ (by kernel_rfl) (by kernel_rfl) (by kernel_rfl) ?_ ?_ (by assumption) ?_; rotate_left 2; (focus ((simp only [List.getElem?_toArray, List.getElem?_cons_succ, List.getElem?_cons_zero]; exact rfl))); (focus (exact fun _ _ _ h => h)); (focus (refine Or.inl ⟨by rfl, ?_⟩; intro w hSw; (try dsimp only at hSw); (first | (go_simp; done) | (go_simp; with_reducible rfl)))); (try simp only [Act.put, List.setIfInBounds_toArray, List.set_cons_zero, List.set_cons_succ])); (refine wpAnyH_take (i := 8) (oi := ?_) (v := ?_) ?_ (by kernel_rfl) (by kernel_rfl) (by kernel_rfl) ?_ ?_ (by assumption) ?_; rotate_left 2; (focus ((simp only [List.getElem?_toArray, List.getElem?_cons_succ, List.getElem?_cons_zero]; exact rfl))); (focus (exact fun _ _ _ h => h)); (focus (refine Or.inl ⟨by rfl, ?_⟩; intro w hSw; (try dsimp only at hSw); (first | (go_simp; done) | (go_simp; with_reducible rfl)))); (try simp only [Act.put, List.setIfInBounds_toArray, List.set_cons_zero, List.set_cons_succ])); (refine wpAnyH_take (i := 9) (oi := ?_) (v := ?_) ?_ (by kernel_rfl) (by kernel_rfl) (by kernel_rfl) ?_ ?_ (by assumption) ?_; rotate_left 2; (focus ((simp only [List.getElem?_toArray, List.getElem?_cons_succ, List.getElem?_cons_zero]; exact rfl))); (focus (exact fun _ _ _ h => h)); (focus (refine Or.inl ⟨by rfl, ?_⟩; intro w hSw; (try dsimp only at hSw); (first | (go_simp; done) | (go_simp; with_reducible rfl)))); (try simp only [Act.put, List.setIfInBounds_toArray, List.set_cons_zero, List.set_cons_succ])))
        (refine wpAnyH_ready (rs := [10]) (by kernel_rfl) (by simp) ?_; refine AllReadyH.cons (o := ?_) ?_ (fun K hK => ?_) AllReadyH.nil; rotate_left; (focus ((simp only [List.getElem?_toArray, List.getElem?_cons_succ, List.getElem?_cons_zero]; exact rfl))); go_simp; refine hK.out _ _ (by repeat (first | exact Sees.refl _ | assumption | apply Sees.drew | (refine Sees.ext ?_ (by assumption)))) (fun hHeld => ?_); clear hK K; (try simp only [Act.put, List.setIfInBounds_toArray, List.set_cons_zero, List.set_cons_succ]))
        ((refine wpAnyH_take (i := 14) (oi := ?_) (v := ?_) ?_ (by kernel_rfl) (by kernel_rfl) (by kernel_rfl) ?_ ?_ (by assumption) ?_; rotate_left 2; (focus ((simp only [List.getElem?_toArray, List.getElem?_cons_succ, List.getElem?_cons_zero]; exact rfl))); (focus (exact fun _ _ _ h => h)); (focus (refine Or.inl ⟨by rfl, ?_⟩; intro w hSw; (try dsimp only at hSw); (first | (go_simp; done) | (go_simp; with_reducible rfl)))); (try simp only [Act.put, List.setIfInBounds_toArray, List.set_cons_zero, List.set_cons_succ])); (refine wpAnyH_take (i := 15) (oi := ?_) (v := ?_) ?_ (by kernel_rfl) (by kernel_rfl) (by kernel_rfl) ?_ ?_ (by assumption) ?_; rotate_left 2; (focus ((simp only [List.getElem?_toArray, List.getElem?_cons_succ, List.getElem?_cons_zero]; exact rfl))); (focus (exact fun _ _ _ h => h)); (focus (refine Or.inl ⟨by rfl, ?_⟩; intro w hSw; (try dsimp only at hSw); (first | (go_simp; done) | (go_simp; with_reducible rfl)))); (try simp only [Act.put, List.setIfInBounds_toArray, List.set_cons_zero, List.set_cons_succ])); (refine wpAnyH_take (i := 16) (oi := ?_) (v := ?_) ?_ (by kernel_rfl) (by kernel_rfl) (by kernel_rfl) ?_ ?_ (by assumption) ?_; rotate_left 2; (focus ((simp only [List.getElem?_toArray, List.getElem?_cons_succ, List.getElem?_cons_zero]; exact rfl))); (focus (exact fun _ _ _ h => h)); (focus (refine Or.inl ⟨by rfl, ?_⟩; intro w hSw; (try dsimp only at hSw); (first | (go_simp; done) | (go_simp; with_reducible rfl)))); (try simp only [Act.put, List.setIfInBounds_toArray, List.set_cons_zero, List.set_cons_succ])))
        refine wpAnyH_done (by kernel_rfl) ?_ _
        have hS := (show Sees W _ by assumption).2.2
        go_wp2
        go_ret2
        refine ⟨?_, E4.trans hS⟩
        rw [hv.out, HJ.out]
        rfl
  · have hv : Hid (verV g l = false) := by
      show _ = _
      unfold verV
      rw [if_pos h0]
    have hb : (listedErr g l != 0) = true := by simp [h0]
    have hb2 : (listedErr g l == 0) = false := by simp [h0]
    clear h0
    go_enter Try.func32, Try.ntmps32
    go_wp2_with fail
    refine (listed_any g l ga gc a cap _ HG.out (HC.out.ext E0) HM.out (HL.out.ext E0)).mono ?_
    rintro e w1 ⟨rfl, hE⟩
    go_wp2
    go_ret2
    rw [hv.out]
    exact ⟨rfl, E0.trans hE⟩
end Go.Proofs.Ytfigooilhnahfaa
/- The reference's lengths from a cell. -/
namespace Go.Proofs.Ytfigooilhnahfaa
open Go.RowKit

def kx (g : Gr) (q : Pt) : Nat := q.1.toNat * g.cols.toNat + q.2.toNat
theorem kx_lt {g : Gr} {q : Pt} (h : inside g q = true) : kx g q < g.rows.toNat * g.cols.toNat := by
  unfold inside at h
  simp only [Bool.and_eq_true, decide_eq_true_eq] at h
  have h1 : (q.1.toNat + 1) * g.cols.toNat ≤ g.rows.toNat * g.cols.toNat := Nat.mul_le_mul_right _ (by omega)
  rw [Nat.add_mul, Nat.one_mul] at h1
  unfold kx
  omega
theorem kx_cellAt {g : Gr} (k : Nat) : kx g (cellAt g k) = k := by
  unfold kx cellAt
  simp only [Int.toNat_natCast]
  rw [Nat.mul_comm]
  exact Nat.div_add_mod k _
theorem cellAt_kx {g : Gr} {q : Pt} (h : inside g q = true) : cellAt g (kx g q) = q := by
  unfold inside at h
  simp only [Bool.and_eq_true, decide_eq_true_eq] at h
  unfold kx
  rw [cellAt_mk (by omega)]
  exact Prod.ext (by show ((q.1.toNat : Nat) : Int) = q.1; omega) (by show ((q.2.toNat : Nat) : Int) = q.2; omega)
theorem kxF {g : Gr} (hr : Right g) {q : Pt} (h : inside g q = true) : ∃ a : Nat, IntKind.i64.wrap (q.1 * g.cols) = (a : Int) ∧ IntKind.i64.wrap ((a : Int) + q.2) = (kx g q : Int) ∧ kx g q < g.rows.toNat * g.cols.toNat := by
  have h0 := h
  unfold inside at h
  simp only [Bool.and_eq_true, decide_eq_true_eq] at h
  have c1 := hr.c1; have c2 := hr.c2; have r2 := hr.r2
  have e : q.1 * g.cols = ((q.1.toNat * g.cols.toNat : Nat) : Int) := by
    rw [Int.natCast_mul, Int.toNat_of_nonneg (by omega), Int.toNat_of_nonneg (by omega)]
  have b : q.1.toNat * g.cols.toNat ≤ 64 * 64 := Nat.mul_le_mul (by omega) (by omega)
  refine ⟨q.1.toNat * g.cols.toNat, ?_, ?_, kx_lt h0⟩
  · rw [e]; exact IntWalk.i64_in _ (by omega)
  · unfold kx
    generalize q.1.toNat * g.cols.toNat = a at b ⊢
    rw [IntWalk.i64_in _ (by omega)]
    omega
def tabL (g : Gr) (D : Pt → Int) : List Int := (List.range (g.rows.toNat * g.cols.toNat)).map fun k => D (cellAt g k)
theorem tabL_len (g : Gr) (D : Pt → Int) : (tabL g D).length = g.rows.toNat * g.cols.toNat := by simp [tabL]
theorem tabL_get {g : Gr} {D : Pt → Int} {k : Nat} (h : k < g.rows.toNat * g.cols.toNat) : (tabL g D).getD k 0 = D (cellAt g k) := by simp [tabL, List.getD, h]

/-- the numbers of the array ob -/
def OutN (w : World) (ob n : Nat) (L : Nat → Int) : Prop := ∀ k, k < n → w.cell? ⟨ob, k, none⟩ = some (.int .i64 (L k)) ∧ w.frozen? ⟨ob, k, none⟩ = false
theorem OutN.set {w : World} {ob n : Nat} {L : Nat → Int} (h : OutN w ob n L) {i : Nat} (hi : i < n) (x : Int) : OutN (w.setCell ⟨ob, i, none⟩ (.int .i64 x)) ob n (fun k => if k = i then x else L k) := fun k hk => by
  refine ⟨?_, by rw [World.frozen?_setCell]; exact (h k hk).2⟩
  by_cases e : k = i
  · subst e
    rw [World.cell?_setCell_same _ _ _ (h k hk).1]; simp
  · rw [World.cell?_setCell_other _ _ _ _ (fun h => by simp only [Addr.mk.injEq] at h; omega), (h k hk).1]; simp [e]
theorem OutN.congr {w : World} {ob n : Nat} {L M : Nat → Int} (h : OutN w ob n L) (e : ∀ k, k < n → L k = M k) : OutN w ob n M := fun k hk => by rw [← e k hk]; exact h k hk
theorem OutN.kept {X : Nat → Prop} {m ob n : Nat} {L : Nat → Int} {A B : World} (h : OutN A ob n L) (k : Kept X m A B) (hx : X ob) : OutN B ob n L := fun i hi =>
  ⟨k.cell (p := ⟨ob, i, none⟩) hx (h i hi).1, (k.frozen (p := ⟨ob, i, none⟩) hx (h i hi).1).trans (h i hi).2⟩
theorem OutN.ext {ob n : Nat} {L : Nat → Int} {A B : World} (h : OutN A ob n L) (x : Ext A B) : OutN B ob n L := h.kept (Kept.ext x (fun _ => True) 0) trivial

/-- the array says of each cell seen how far it is -/
def OutD (g : Gr) (p : Pt) (w : World) (ob : Nat) (sn : List Pt) : Prop := OutN w ob (g.rows.toNat * g.cols.toNat) (fun k => if cellAt g k ∈ sn then dst g p (cellAt g k) else -1)

structure FrL (g : Gr) (p : Pt) (W : World) (ob : Nat) (i : Nat) (Wv sn : List Pt) (v : Value) (w : World) : Prop where
  q : QInv g p i Wv sn
  o : OutD g p w ob sn
  own : Owns w v Wv
  vb : ∀ b, v.ownBlock = some b → W.heap.size ≤ b
  be : Below ob W w

structure FiL (g : Gr) (p c : Pt) (w1 : World) (ob bb : Nat) (Wv sn : List Pt) (nv : Value) (j : Nat) (sj Nv : List Pt) (v : Value) (w : World) : Prop where
  e : addN sn [] ((near g c).take j) = (sj, Nv)
  o : OutD g p w ob sj
  own : Owns w v (Wv ++ Nv)
  vb : ∀ b, v.ownBlock = some b → w1.heap.size ≤ b ∧ nv.ownBlock ≠ some b ∧ b ≠ bb
  be : Below ob w1 w
  nn : Owns w nv (near g c)
  b1 : w.cell? ⟨bb, 0, none⟩ = some (.int .i64 c.1)
  b2 : w.cell? ⟨bb, 1, none⟩ = some (.int .i64 c.2)
theorem FiL.ext {g : Gr} {p c : Pt} {w1 : World} {ob bb : Nat} {Wv sn : List Pt} {nv : Value} {j : Nat} {sj Nv : List Pt} {v : Value} {A B : World} (h : FiL g p c w1 ob bb Wv sn nv j sj Nv v A) (x : Ext A B) (hob : ob < A.heap.size) : FiL g p c w1 ob bb Wv sn nv j sj Nv v B :=
  ⟨h.e, h.o.ext x, h.own.ext x, h.vb, h.be.trans (x.mono (Nat.le_of_lt hob)), h.nn.ext x, x.cell h.b1, x.cell h.b2⟩
theorem two_cells {w : World} {b : Nat} {x y : Value} (h0 : w.cell? ⟨b, 0, none⟩ = some x) (h1 : w.cell? ⟨b, 1, none⟩ = some y) : ∀ j u, ([x, y] : List Value)[j]? = some u → w.cell? ((⟨b, 0, none⟩ : Addr).add j) = some u := by
  intro j u h
  match j, h with
  | 0, h => simp at h; subst h; rw [Addr.add_lit]; exact h0
  | 1, h => simp at h; subst h; rw [Addr.add_lit]; exact h1
theorem take_near {g : Gr} {c : Pt} {j : Nat} (h : j < (near g c).length) : (near g c).take (j + 1) = (near g c).take j ++ [pt (near g c) j] := by
  rw [List.take_succ_eq_append_getElem h]
  congr 2
  unfold pt
  rw [List.getD_eq_getElem?_getD, List.getElem?_eq_getElem h]; simp
theorem addN_len (qs : List Pt) : ∀ (s n : List Pt), (addN s n qs).2.length ≤ n.length + qs.length := by
  induction qs with
  | nil => intro s n; simp [addN]
  | cons q qs ih =>
    intro s n
    unfold addN
    split
    · have := ih s n; simp; omega
    · have := ih (q :: s) (n ++ [q]); simp at this ⊢; omega
theorem near_len (g : Gr) (c : Pt) : (near g c).length ≤ 4 := Nat.le_trans (List.length_filter_le _ _) (by simp [nbs])

set_option maxHeartbeats 4000000 in
set_option maxRecDepth 100000 in
theorem Far_any (g : Gr) (p : Pt) (ga : Option Addr) (gc : Nat) (w : World) (hr : Right g) (hp : inside g p = true) (hc : Cells2 w ga g.bl) :
    Calls Try.prog 51 #[.agg #[.int .i64 g.rows, .int .i64 g.cols, .slice ga g.bl.length gc], .agg #[.int .i64 p.1, .int .i64 p.2]] w fun e w' => ∃ a cap, e = .returned (.slice a (tabL g (dst g p)).length cap) ∧ CellsI w' a (tabL g (dst g p)) ∧ Ext w w' := by
  have HC : Hid (Cells2 w ga g.bl) := hc
  have HR := Lib.hid hr
  have HP := Lib.hid hp
  have hgl : g.bl.length ≤ maxLen := by have := hr.few; unfold maxLen; omega
  have HG := Lib.hid hgl
  obtain ⟨n, hn⟩ : ∃ n, n = g.rows.toNat * g.cols.toNat := ⟨_, rfl⟩
  have hn1 : n ≤ 4096 := by rw [hn]; exact Nat.mul_le_mul (show g.rows.toNat ≤ 64 by have := hr.r2; omega) (show g.cols.toNat ≤ 64 by have := hr.c2; omega)
  have hmul : IntKind.i64.wrap (g.rows * g.cols) = (n : Int) := by
    have h1 := hr.r1; have h2 := hr.c1
    have e : g.rows * g.cols = (n : Int) := by
      rw [hn, Int.natCast_mul, Int.toNat_of_nonneg (by omega), Int.toNat_of_nonneg (by omega)]
    rw [e]; exact IntWalk.i64_in _ (by omega)
  have HNN := Lib.hid hn
  obtain ⟨i0, hi, hi0, hi1, hi2⟩ := info_parts infoInt
  clear hc hr hp hgl hn
  go_enter Try.func51, Try.ntmps51
  go_wp2_with (at_make; refine wpList_make_full _ rfl _ _ 50 rfl 0 3 i0 (.int .i64 0) 1 Try.underlying50 hi hi0 hi1 _ _ _ _ n rfl rfl rfl rfl ?b2 ?b3 ?b4 ?hK)
  case b2 => rw [hi2]; omega
  case b3 => unfold maxLen; omega
  case b4 => exact Nat.zero_le _
  case hK =>
    intro w1 hown hgr
    obtain ⟨ob, hob⟩ : ∃ ob, ob = w.heap.size + 1 + 1 := ⟨_, rfl⟩
    have hz1 : ob < w1.heap.size := by rw [hob]; exact (World.ownsRow.lt hown _ rfl).2
    have E1 : Ext ((( ((w).alloc (.cells #[.int .i64 g.rows, .int .i64 g.cols, .slice ga g.bl.length gc] 24))).alloc (.cells #[.int .i64 p.1, .int .i64 p.2] 26))) w1 := ⟨hgr.os, hgr.tape, hgr.output, hgr.size, fun k hk => hgr.block k hk (by simp)⟩
    have g1 := E1.cell (show ((( ((w).alloc (.cells #[.int .i64 g.rows, .int .i64 g.cols, .slice ga g.bl.length gc] 24))).alloc (.cells #[.int .i64 p.1, .int .i64 p.2] 26))).cell? ⟨w.heap.size, 0, none⟩ = some (.int .i64 g.rows) by clear hob hmul; go_simp)
    have g2 := E1.cell (show ((( ((w).alloc (.cells #[.int .i64 g.rows, .int .i64 g.cols, .slice ga g.bl.length gc] 24))).alloc (.cells #[.int .i64 p.1, .int .i64 p.2] 26))).cell? ⟨w.heap.size, 1, none⟩ = some (.int .i64 g.cols) by clear hob hmul; go_simp)
    have g3 := E1.cell (show ((( ((w).alloc (.cells #[.int .i64 g.rows, .int .i64 g.cols, .slice ga g.bl.length gc] 24))).alloc (.cells #[.int .i64 p.1, .int .i64 p.2] 26))).cell? ⟨w.heap.size, 2, none⟩ = some (.slice ga g.bl.length gc) by clear hob hmul; go_simp)
    have q1 := E1.cell (show ((( ((w).alloc (.cells #[.int .i64 g.rows, .int .i64 g.cols, .slice ga g.bl.length gc] 24))).alloc (.cells #[.int .i64 p.1, .int .i64 p.2] 26))).cell? ⟨w.heap.size + 1, 0, none⟩ = some (.int .i64 p.1) by clear hob hmul; go_simp)
    have q2 := E1.cell (show ((( ((w).alloc (.cells #[.int .i64 g.rows, .int .i64 g.cols, .slice ga g.bl.length gc] 24))).alloc (.cells #[.int .i64 p.1, .int .i64 p.2] 26))).cell? ⟨w.heap.size + 1, 1, none⟩ = some (.int .i64 p.2) by clear hob hmul; go_simp)
    have zw : w.heap.size + 1 < ob := by omega
    have EW : Ext w w1 := (((Ext.refl _).alloc _).alloc _).trans E1
    have HO0 : Hid (OutN w1 ob n (fun j => if j < 0 then -1 else 0)) := fun j hj => by
      rw [hob]
      refine ⟨?_, hown.frozenAt j⟩
      rw [hown.cellAt j (by omega)]
      simp [madeCells, hj, Nat.mod_one]
    have HCW := Lib.hid (HC.out.ext EW)
    have HBL : Hid (g.bl ≠ [] → ∀ b off, ga = some ⟨b, off, none⟩ → b < ob) := fun hne b off hb => by
      have := HC.out.lt hne hb
      omega
    rw [← hob]
    clear hob hown hgr E1 HC hmul hi hi0 hi1 hi2
    go_wp2
    go_loopw [6] (fun i wr => ∃ k : Nat, k ≤ n ∧ i = .int .i64 k ∧ Hid (OutN wr ob n (fun j => if j < k then -1 else 0)) ∧ Hid (Below ob w1 wr)) (fun i _ => n - (intOf i).toNat)
    case atStart => exact ⟨0, Nat.zero_le _, rfl, HO0.out, Below.refl _ _⟩
    case round =>
      obtain ⟨k, hk, rfl, hO, hB⟩ := hrel
      have zwr : w1.heap.size ≤ wr.heap.size := hB.out.size
      by_cases hlt : k < n
      · have hlt' : (k : Int) < (n : Int) := by omega
        have c1 : wr.cell? ⟨ob, k, none⟩ = some (.int .i64 (if k < k then -1 else 0)) := (hO.out k hlt).1
        have c2 := (hO.out k hlt).2
        rw [if_neg (Nat.lt_irrefl k)] at c1
        go_wp2
        refine ⟨⟨k + 1, by omega, by go_num, (hO.out.set hlt (-1)).congr fun j hj => ?_, hB.out.setCell (p := ⟨ob, k, none⟩) (Nat.le_refl _) _⟩, by simp [intOf]; omega⟩
        try dsimp only
        by_cases e : j = k
        · rw [if_pos e, if_pos (by omega)]
        · rw [if_neg e]
          by_cases e2 : j < k
          · rw [if_pos e2, if_pos (by omega)]
          · rw [if_neg e2, if_neg (by omega)]
      · have hkn : k = n := by omega
        have HKN := Lib.hid hkn
        have hlt' : ¬ (k : Int) < (n : Int) := by omega
        have g1 : wr.cell? ⟨w.heap.size, 0, none⟩ = some (.int .i64 g.rows) := (hB.out.cell (p := ⟨w.heap.size, 0, none⟩) (by show w.heap.size < ob; omega)).trans g1
        have g2 : wr.cell? ⟨w.heap.size, 1, none⟩ = some (.int .i64 g.cols) := (hB.out.cell (p := ⟨w.heap.size, 1, none⟩) (by show w.heap.size < ob; omega)).trans g2
        have g3 : wr.cell? ⟨w.heap.size, 2, none⟩ = some (.slice ga g.bl.length gc) := (hB.out.cell (p := ⟨w.heap.size, 2, none⟩) (by show w.heap.size < ob; omega)).trans g3
        have q1 : wr.cell? ⟨w.heap.size + 1, 0, none⟩ = some (.int .i64 p.1) := (hB.out.cell (p := ⟨w.heap.size + 1, 0, none⟩) zw).trans q1
        have q2 : wr.cell? ⟨w.heap.size + 1, 1, none⟩ = some (.int .i64 p.2) := (hB.out.cell (p := ⟨w.heap.size + 1, 1, none⟩) zw).trans q2
        obtain ⟨a, ka1, ka2, ka3⟩ := kxF HR.out HP.out
        have hkp : Hid (kx g p < n) := by rw [HNN.out]; exact ka3
        obtain ⟨kp, hkpe⟩ : ∃ kp, kp = kx g p := ⟨_, rfl⟩
        rw [← hkpe] at ka2 hkp
        have kp1 : (kp : Int) < (n : Int) := by have := hkp.out; omega
        have HKP := Lib.hid hkpe
        have c1 : wr.cell? ⟨ob, kp, none⟩ = some (.int .i64 (if kp < k then -1 else 0)) := (hO.out kp hkp.out).1
        have c2 := (hO.out kp hkp.out).2
        rw [if_pos (by have := hkp.out; have := HKN.out; omega)] at c1
        have EWr : Hid (Below w.heap.size w wr) := Below.trans EW (hB.out.mono (by omega))
        have zobr : ob < wr.heap.size := by omega
        have zn1 : w.heap.size < wr.heap.size := by omega
        have zn2 : w.heap.size + 1 < wr.heap.size := by omega
        clear hkn ka3 hkpe hlt
        have HNK : Hid (∀ j, j < n → (if j < k then (-1 : Int) else 0) = -1) := fun j hj => if_pos (by have := HKN.out; omega)
        go_wp2
        have EA : Ext (wr.setCell ⟨ob, kp, none⟩ (.int .i64 0)) ((wr.setCell ⟨ob, kp, none⟩ (.int .i64 0)).alloc (.cells #[.int .i64 p.1, .int .i64 p.2] 26)) := (Ext.refl _).alloc _
        have hss : (wr.setCell ⟨ob, kp, none⟩ (.int .i64 0)).heap.size = wr.heap.size := by simp
        have F0 : Hid (FrL g p w1 ob 0 [p] [p] (.slice (some ⟨wr.heap.size, 0, none⟩) 1 1) ((wr.setCell ⟨ob, kp, none⟩ (.int .i64 0)).alloc (.cells #[.int .i64 p.1, .int .i64 p.2] 26))) := {
          q := QInv.start HP.out
          o := by
            unfold OutD
            rw [← HNN.out]
            refine ((hO.out.set hkp.out 0).congr fun j hj => ?_).ext EA
            by_cases e : j = kp
            · rw [if_pos e, if_pos (by rw [e, HKP.out, cellAt_kx HP.out]; simp), e, HKP.out, cellAt_kx HP.out, dst_of HR.out HP.out (IsD.self g p)]
              rfl
            · rw [if_neg e, HNK.out j hj, if_neg (fun hm => e (by
                rw [List.mem_singleton] at hm
                rw [HKP.out, ← hm, kx_cellAt]))]
          own := by
            have := owns_new (wr.setCell ⟨ob, kp, none⟩ (.int .i64 0)) p
            rw [hss] at this
            exact this
          vb := fun b hb => by cases hb; exact zwr
          be := ((hB.out.setCell (p := ⟨ob, kp, none⟩) (Nat.le_refl _) _)).trans (EA.mono (by rw [hss]; omega)) }
        clear EA hss c1 c2 hO
        generalize ((wr.setCell ⟨ob, kp, none⟩ (.int .i64 0)).alloc (.cells #[.int .i64 p.1, .int .i64 p.2] 26)) = W2 at F0 ⊢
        clear g1 g2 g3 q1 q2 ka1 ka2 zn1 zn2
        go_loopw [7, 8] (fun v i wr => ∃ (k : Nat) (Wv sn : List Pt) (av : Option Addr) (cv : Nat), k ≤ Wv.length ∧ i = .int .i64 k ∧ v = .slice av Wv.length cv ∧ Hid (FrL g p w1 ob k Wv sn (.slice av Wv.length cv) wr)) (fun _ i _ => 4097 - (intOf i).toNat)
        case atStart => exact ⟨0, [p], [p], _, 1, by simp, rfl, rfl, F0.out⟩
        case round =>
          obtain ⟨k, Wv, sn, av, cv, hk, rfl, rfl, hF⟩ := hrel
          obtain ⟨wi1, wi2, wi3, wi4⟩ := hF.out.q.wi
          have hlW : Wv.length ≤ 4096 := by rw [wi3]; exact nodup_pts wi1 (fun q hq => inG_of HR.out (wi2 q hq))
          have zwr2 : w1.heap.size ≤ wr.heap.size := hF.out.be.size
          have WIS := Lib.hid wi2
          have WIW := Lib.hid wi4
          clear wi1 wi2 wi3 wi4
          by_cases hlt : k < Wv.length
          · have hlt' : (k : Int) < (Wv.length : Int) := by omega
            obtain ⟨a', c', hv', hcl, hab⟩ := hF.out.own.reads
            cases hv'
            obtain ⟨vb0, vo0, rfl, d1, d2⟩ := hcl k hlt
            have HQ := Lib.hid hF.out.q
            generalize hcc : pt Wv k = c at d1 d2
            have HCC := Lib.hid hcc
            have hcs : Hid (c ∈ sn) := by rw [← hcc]; exact WIW.out _ (pt_mem hlt)
            have hci : Hid (inside g c = true) := WIS.out _ hcs.out
            have g1 : wr.cell? ⟨w.heap.size, 0, none⟩ = some (.int .i64 g.rows) := (hF.out.be.cell (p := ⟨w.heap.size, 0, none⟩) (by show w.heap.size < ob; omega)).trans g1
            have g2 : wr.cell? ⟨w.heap.size, 1, none⟩ = some (.int .i64 g.cols) := (hF.out.be.cell (p := ⟨w.heap.size, 1, none⟩) (by show w.heap.size < ob; omega)).trans g2
            have g3 : wr.cell? ⟨w.heap.size, 2, none⟩ = some (.slice ga g.bl.length gc) := (hF.out.be.cell (p := ⟨w.heap.size, 2, none⟩) (by show w.heap.size < ob; omega)).trans g3
            have HCr : Hid (Cells2 wr ga g.bl) := HCW.out.kept (Kd := fun k => k < ob) (n := 0) ⟨hF.out.be.size, fun k o hk ho _ => by rw [hF.out.be.block k hk]; exact ho⟩ (fun b off hb hne => HBL.out hne b off hb)
            have zvb := cell_lt d1
            dsimp only at zvb
            have zob2 : ob < wr.heap.size := by omega
            have zn3 : w.heap.size < wr.heap.size := by omega
            clear hcl hab hcc
            go_wp2_with fail
            refine (Near_any g c ga gc _ HG.out (inG_of HR.out hci.out) (HCr.out.ext ((Ext.refl _).alloc _))).mono ?_
            rintro e w4 ⟨nv, rfl, hnO, hnb, hE⟩
            have EE : Ext wr w4 := ((Ext.refl _).alloc _).trans hE
            obtain ⟨na, nc, rfl, _, _⟩ := hnO.reads
            have y1 : w4.cell? ⟨wr.heap.size, 0, none⟩ = some (.int .i64 c.1) := hE.cell (by go_simp)
            have y2 : w4.cell? ⟨wr.heap.size, 1, none⟩ = some (.int .i64 c.2) := hE.cell (by go_simp)
            have F1 : Hid (FiL g p c w1 ob wr.heap.size Wv sn (.slice na (near g c).length nc) 0 sn [] (.slice (some ⟨vb0, vo0, none⟩) Wv.length cv) w4) := {
              e := rfl
              o := hF.out.o.ext EE
              own := by rw [List.append_nil]; exact hF.out.own.ext EE
              vb := fun b hb => by
                have h1 := hF.out.vb b hb
                have h2 := hF.out.own.lt hb
                refine ⟨h1, fun h3 => ?_, by omega⟩
                have h4 := hnb b h3
                simp at h4
                omega
              be := hF.out.be.trans (EE.mono (by omega))
              nn := hnO
              b1 := y1
              b2 := y2 }
            have zE : wr.heap.size < w4.heap.size := cell_lt y1
            have HNB : Hid (∀ b, (Value.slice na (near g c).length nc).ownBlock = some b → ob < b) := fun b hb => by
              have h4 := hnb b hb
              simp at h4
              omega
            obtain ⟨bb, hbb⟩ : ∃ bb, bb = wr.heap.size := ⟨_, rfl⟩
            have hlN := near_len g c
            rw [← hbb] at F1 zE ⊢
            have zob4 : ob < bb := by omega
            clear hnO hnb hE EE y1 y2 d1 d2 g1 g2 g3 HCr hbb zvb
            go_wp2
            go_loopw [7, 53] (fun v i wr => ∃ (j : Nat) (sj Nv : List Pt) (av : Option Addr) (cv m : Nat), j ≤ (near g c).length ∧ i = .int .i64 j ∧ v = .slice av m cv ∧ Hid (m = (Wv ++ Nv).length) ∧ Hid (FiL g p c w1 ob bb Wv sn (.slice na (near g c).length nc) j sj Nv (.slice av m cv) wr)) (fun _ i _ => (near g c).length - (intOf i).toNat)
            case atStart => exact ⟨0, sn, [], _, cv, Wv.length, Nat.zero_le _, rfl, rfl, by show _ = _; rw [List.append_nil], F1.out⟩
            case round =>
              clear F1
              obtain ⟨j, sj, Nv, av, cv, m, hj, rfl, rfl, hm, hG⟩ := hrel
              by_cases hjl : j < (near g c).length
              · have hjl' : (j : Int) < ((near g c).length : Int) := by omega
                obtain ⟨a', c', hv', hcl, _⟩ := hG.out.nn.reads
                cases hv'
                obtain ⟨nb, no, hna, d1, d2⟩ := hcl j hjl
                subst hna
                have htk := take_near hjl
                have hqn : Hid (pt (near g c) j ∈ near g c) := pt_mem hjl
                generalize pt (near g c) j = q at d1 d2 htk hqn
                have HTK := Lib.hid htk
                have hqi : Hid (inside g q = true) := near_inside hqn.out
                have hsj : Hid (∀ x, x ∈ sj ↔ x ∈ sn ∨ x ∈ (near g c).take j) := fun x => by
                  have := (addN_mem ((near g c).take j) sn [] x).1
                  rwa [hG.out.e] at this
                have hval := HQ.out.val HR.out HP.out hlt
                rw [HCC.out] at hval
                have HVAL := Lib.hid hval
                have hpos : Hid (∀ x ∈ sj, 0 ≤ dst g p x) := fun x hx => by
                  by_cases hxs : x ∈ sn
                  · exact HQ.out.pos HR.out HP.out hxs
                  · rcases (hsj.out x).1 hx with h1 | h1
                    · exact absurd h1 hxs
                    · have := HVAL.out.2 x (List.mem_of_mem_take h1) hxs
                      have := HVAL.out.1
                      omega
                have hsnoc := addN_snoc sn [] ((near g c).take j) q
                rw [hG.out.e, ← htk] at hsnoc
                have g1 : wr.cell? ⟨w.heap.size, 0, none⟩ = some (.int .i64 g.rows) := (hG.out.be.cell (p := ⟨w.heap.size, 0, none⟩) (by show w.heap.size < ob; omega)).trans g1
                have g2 : wr.cell? ⟨w.heap.size, 1, none⟩ = some (.int .i64 g.cols) := (hG.out.be.cell (p := ⟨w.heap.size, 1, none⟩) (by show w.heap.size < ob; omega)).trans g2
                have b1 := hG.out.b1
                have b2 := hG.out.b2
                have zb := cell_lt d1
                have zbb := cell_lt b1
                dsimp only at zb zbb
                have zobr2 : ob < wr.heap.size := by omega
                have znr : w.heap.size < wr.heap.size := by omega
                obtain ⟨aq, kq1, kq2, kq3⟩ := kxF HR.out hqi.out
                obtain ⟨kq, hkq⟩ : ∃ kq, kq = kx g q := ⟨_, rfl⟩
                rw [← HNN.out, ← hkq] at kq3
                rw [← hkq] at kq2
                have HKQ := Lib.hid hkq
                have kq4 : (kq : Int) < (n : Int) := by omega
                have o1 : wr.cell? ⟨ob, kq, none⟩ = some (.int .i64 (if q ∈ sj then dst g p q else -1)) := by
                  have := (hG.out.o kq (by rw [← HNN.out]; exact kq3)).1
                  dsimp only at this
                  rw [HKQ.out, cellAt_kx hqi.out] at this
                  rw [HKQ.out]; exact this
                have o2 : wr.frozen? ⟨ob, kq, none⟩ = false := (hG.out.o kq (by rw [← HNN.out]; exact kq3)).2
                clear hcl htk hval hkq
                by_cases hqs : q ∈ sj
                · rw [if_pos hqs] at hsnoc o1
                  have hnn : ¬ dst g p q < 0 := by have := hpos.out q hqs; omega
                  have HSN := Lib.hid hsnoc
                  clear hsnoc hqs
                  go_wp2
                  have X := hG.out.ext ((Ext.refl _).alloc (.cells #[.int .i64 q.1, .int .i64 q.2] 26)) zobr2
                  exact ⟨⟨j + 1, sj, Nv, av, cv, m, by omega, by go_num, rfl, hm.out, { X with e := HSN.out }⟩, by simp [intOf]; omega⟩
                · rw [if_neg hqs] at hsnoc o1
                  have hqsn : q ∉ sn := fun h => hqs ((hsj.out q).2 (.inl h))
                  have hdq : Hid (dst g p q = dst g p c + 1) := HVAL.out.2 q hqn.out hqsn
                  have HSN := Lib.hid hsnoc
                  have HQS := Lib.hid hqs
                  clear hsnoc hqs hqsn
                  obtain ⟨ac, kc1, kc2, kc3⟩ := kxF HR.out hci.out
                  obtain ⟨kc, hkc⟩ : ∃ kc, kc = kx g c := ⟨_, rfl⟩
                  rw [← HNN.out, ← hkc] at kc3
                  rw [← hkc] at kc2
                  have HKC := Lib.hid hkc
                  have kc4 : (kc : Int) < (n : Int) := by omega
                  have o3 : wr.cell? ⟨ob, kc, none⟩ = some (.int .i64 (dst g p c)) := by
                    have := (hG.out.o kc (by rw [← HNN.out]; exact kc3)).1
                    dsimp only at this
                    rw [HKC.out, cellAt_kx hci.out, if_pos ((hsj.out c).2 (.inl hcs.out))] at this
                    rw [HKC.out]; exact this
                  obtain ⟨db1, db2⟩ := dst_bd HR.out HP.out c
                  have q9 : IntKind.i64.wrap (dst g p c + 1) = dst g p c + 1 := IntWalk.i64_in _ (by omega)
                  clear hkc
                  go_wp2_with fail
                  have E5 : Ext wr (wr.alloc (.cells #[.int .i64 q.1, .int .i64 q.2] 26)) := (Ext.refl _).alloc _
                  have X := Lib.hid (hG.out.ext E5 zobr2)
                  have g1 := E5.cell g1
                  have g2 := E5.cell g2
                  have b1 := E5.cell b1
                  have b2 := E5.cell b2
                  have o1 := E5.cell o1
                  have o3 := E5.cell o3
                  have o2 : (wr.alloc (.cells #[.int .i64 q.1, .int .i64 q.2] 26)).frozen? ⟨ob, kq, none⟩ = false := (E5.frozen (p := ⟨ob, kq, none⟩) zobr2).trans o2
                  have y1 : (wr.alloc (.cells #[.int .i64 q.1, .int .i64 q.2] 26)).cell? ⟨wr.heap.size, 0, none⟩ = some (.int .i64 q.1) := by go_simp
                  have y2 : (wr.alloc (.cells #[.int .i64 q.1, .int .i64 q.2] 26)).cell? ⟨wr.heap.size, 1, none⟩ = some (.int .i64 q.2) := by go_simp
                  obtain ⟨qb, hqb⟩ : ∃ qb, qb = wr.heap.size := ⟨_, rfl⟩
                  have zq : qb < (wr.alloc (.cells #[.int .i64 q.1, .int .i64 q.2] 26)).heap.size := by rw [hqb]; simp
                  have zqo : ob < qb := by omega
                  rw [← hqb] at y1 y2 ⊢
                  have hG2 := Lib.hid hG.out.e
                  clear hqb E5 d1 d2 hG zobr2 znr zb zbb
                  generalize (wr.alloc (.cells #[.int .i64 q.1, .int .i64 q.2] 26)) = W6 at X g1 g2 b1 b2 o1 o2 o3 y1 y2 zq ⊢
                  go_still_tail 22, (by kernel_rfl)
                  obtain ⟨i0, hi, hi0, hi1, hi2⟩ := info_parts infoPl
                  have CS : Hid (Chg (fun k => k = ob) W6 (W6.setCell ⟨ob, kq, none⟩ (.int .i64 (dst g p c + 1)))) := Chg.setCell (B := fun k => k = ob) ⟨ob, _, none⟩ _ rfl
                  have KS : Hid (Kept (fun k => k ≠ ob) 0 W6 (W6.setCell ⟨ob, kq, none⟩ (.int .i64 (dst g p c + 1)))) := CS.out.kept (fun k hk _ => hk)
                  have nown : Hid (∀ b, (Value.slice av m cv).ownBlock = some b → b ≠ ob) := fun b hb e => by have := (X.out.vb b hb).1; omega
                  have nnear : Hid (∀ b, (Value.slice (some ⟨nb, no, none⟩) (near g c).length nc).ownBlock = some b → b ≠ ob) := fun b hb e => by have := HNB.out b hb; omega
                  have OW : Hid (Owns (W6.setCell ⟨ob, kq, none⟩ (.int .i64 (dst g p c + 1))) (.slice av m cv) (Wv ++ Nv)) := X.out.own.kept KS.out nown.out
                  have hwl : (Wv ++ Nv).length ≤ 4100 := by
                    have h2 : Nv.length ≤ 4 := by
                      have h3 := addN_len ((near g c).take j) sn []
                      rw [hG2.out] at h3
                      simp at h3
                      omega
                    simp; omega
                  have hmm : m ≤ 4100 := by rw [hm.out]; exact hwl
                  go_wp2_with (at_builtin; refine wpList_append1 _ rfl _ _ 22 rfl 26 i0 (.agg #[.int .i64 0, .int .i64 0]) 2 16 Try.underlying22 hi hi0 hi1 hi2 rfl (by decide) (.slice av m cv) (Wv ++ Nv).length (flat (Wv ++ Nv)) rfl ?ho ⟨W6.heap.size, 0, none⟩ 1 1 (by decide) [.int .i64 q.1, .int .i64 q.2] rfl rfl ?hn ?c1 ?c2 ?c3 ?c4)
                  case ho => exact OW.out.ext (((Ext.refl _).alloc _).drew)
                  case hn =>
                    have := cell_two_new (W6.setCell ⟨ob, kq, none⟩ (.int .i64 (dst g p c + 1))) (.int .i64 q.1) (.int .i64 q.2) 26
                    simpa using this
                  case c1 => intro u hu; simp at hu; rcases hu with rfl | rfl <;> rfl
                  case c2 => unfold maxLen; omega
                  case c3 => omega
                  case c4 =>
                    intro v' w5 hown5 hend5
                    have O5 : Owns w5 v' ((Wv ++ Nv) ++ [q]) := owns_succ (by rw [List.length_append]; exact hown5)
                    rw [List.append_assoc] at O5
                    obtain ⟨av', cv', rfl, _, _⟩ := O5.reads
                    have HO5 := Lib.hid O5
                    have HEND := Lib.hid hend5
                    have EA : Hid (Ext (W6.setCell ⟨ob, kq, none⟩ (.int .i64 (dst g p c + 1))) ((W6.setCell ⟨ob, kq, none⟩ (.int .i64 (dst g p c + 1))).alloc (.cells #[.int .i64 q.1, .int .i64 q.2] 26)).drew) := ((Ext.refl _).alloc _).drew
                    have hss : (W6.setCell ⟨ob, kq, none⟩ (.int .i64 (dst g p c + 1))).heap.size = W6.heap.size := by simp
                    have K5 : Hid (Kept (fun k => (Value.slice av m cv).ownBlock ≠ some k) 0 ((W6.setCell ⟨ob, kq, none⟩ (.int .i64 (dst g p c + 1))).alloc (.cells #[.int .i64 q.1, .int .i64 q.2] 26)).drew w5) := Kept.grown hend5 (fun b hb hn => hn hb)
                    have S7 : ((W6.setCell ⟨ob, kq, none⟩ (.int .i64 (dst g p c + 1))).alloc (.cells #[.int .i64 q.1, .int .i64 q.2] 26)).drew.heap.size = W6.heap.size + 1 := by simp
                    clear hown5 hend5 O5
                    go_wp2
                    have vbb := X.out.vb
                    refine ⟨⟨j + 1, q :: sj, Nv ++ [q], av', cv', _, by omega, by go_num, rfl, by show _ = _; rfl, ?_⟩, by simp [intOf]; omega⟩
                    exact {
                      e := HSN.out
                      o := by
                        have h1 := (X.out.o.set (i := kq) (by rw [← HNN.out]; exact kq3) (dst g p c + 1)).congr (M := fun k => if cellAt g k ∈ q :: sj then dst g p (cellAt g k) else -1) (fun k hk => by
                          try dsimp only
                          by_cases ek : k = kq
                          · rw [if_pos ek, ek, HKQ.out, cellAt_kx hqi.out, if_pos (List.mem_cons_self ..), hdq.out]
                          · have hne : cellAt g k ≠ q := fun h => ek (by rw [HKQ.out, ← h, kx_cellAt])
                            rw [if_neg ek]
                            by_cases hm2 : cellAt g k ∈ sj
                            · rw [if_pos hm2, if_pos (List.mem_cons_of_mem _ hm2)]
                            · rw [if_neg hm2, if_neg (fun h => by
                                rcases List.mem_cons.1 h with h | h
                                · exact hne h
                                · exact hm2 h)])
                        exact (h1.ext EA.out).kept K5.out (fun e => nown.out ob e rfl)
                      own := HO5.out
                      vb := fun b hb => by
                        rcases HEND.out with ⟨h1, _, _⟩ | ⟨h1, _⟩
                        · rw [h1] at hb; exact vbb b hb
                        · rw [h1] at hb
                          have hb' : b = W6.heap.size + 1 := by rw [S7] at hb; cases hb; rfl
                          have h5 := X.out.be.size
                          have h7 : bb < W6.heap.size := cell_lt X.out.b1
                          refine ⟨by omega, fun h => ?_, by omega⟩
                          have h6 := X.out.nn.lt h
                          omega
                      be := ((X.out.be.setCell (p := ⟨ob, kq, none⟩) (Nat.le_refl _) _).trans (EA.out.mono (by rw [hss]; omega))).trans (HEND.out.below (by rw [S7]; omega) (fun b hb => by have := (vbb b hb).1; omega))
                      nn := ((X.out.nn.kept KS.out nnear.out).ext EA.out).kept K5.out (fun b hb h => (vbb b h).2.1 hb)
                      b1 := K5.out.cell (p := ⟨bb, 0, none⟩) (fun h => (vbb bb h).2.2 rfl) (EA.out.cell (KS.out.cell (p := ⟨bb, 0, none⟩) (by show bb ≠ ob; omega) X.out.b1))
                      b2 := K5.out.cell (p := ⟨bb, 1, none⟩) (fun h => (vbb bb h).2.2 rfl) (EA.out.cell (KS.out.cell (p := ⟨bb, 1, none⟩) (by show bb ≠ ob; omega) X.out.b2)) }
              · have hje : j = (near g c).length := by omega
                have HJE := Lib.hid hje
                have hjl' : ¬ (j : Int) < ((near g c).length : Int) := by omega
                clear hje
                go_wp2
                have hee := hG.out.e
                rw [HJE.out, List.take_length] at hee
                have hQ2 := HQ.out.step hlt
                rw [HCC.out, hee] at hQ2
                have hlen2 : k + 1 ≤ (Wv ++ Nv).length := by simp; omega
                refine ⟨⟨k + 1, Wv ++ Nv, sj, av, cv, hlen2, by go_num, by rw [← hm.out], by rw [← hm.out]; exact ⟨hQ2, hG.out.o, hG.out.own, fun b hb => (hG.out.vb b hb).1, hG.out.be⟩⟩, by simp [intOf]; omega⟩
          · have hke : k = Wv.length := by omega
            have HKE := Lib.hid hke
            have hlt' : ¬ (k : Int) < (Wv.length : Int) := by omega
            clear hke
            go_wp2
            go_ret
            refine ⟨some ⟨ob, 0, none⟩, ⟨n, by rw [tabL_len, ← HNN.out]; rfl⟩, fun j hj => ?_, Below.trans EW (hF.out.be.mono (by omega))⟩
            rw [tabL_len] at hj
            refine ⟨ob, 0, rfl, ?_⟩
            rw [Nat.zero_add, tabL_get hj, (hF.out.o j hj).1]
            by_cases hm : cellAt g j ∈ sn
            · simp [hm]
            · simp only [hm, if_false]
              rw [hF.out.q.done HKE.out hm]
end Go.Proofs.Ytfigooilhnahfaa
/- The reference's at and Few. -/
namespace Go.Proofs.Ytfigooilhnahfaa
open Go.RowKit

set_option maxHeartbeats 1000000 in
theorem atR_any (g : Gr) (D : Pt → Int) (s : Value) (a : Option Addr) (cap : Nat) (p : Pt) (w : World) (hr : Right g) (hp : inside g p = true) (hc : CellsI w a (tabL g D)) :
    Calls Try.prog 52 #[.agg #[.int .i64 g.rows, .int .i64 g.cols, s], .slice a (tabL g D).length cap, .agg #[.int .i64 p.1, .int .i64 p.2]] w fun e w' => e = .returned (.int .i64 (D p)) ∧ Ext w w' := by
  obtain ⟨x, k1, k2, k3⟩ := kxF hr hp
  have hk : kx g p < (tabL g D).length := by rw [tabL_len]; exact k3
  obtain ⟨b, off, rfl, h1⟩ := hc (kx g p) hk
  rw [tabL_get k3, cellAt_kx hp] at h1
  generalize kx g p = k at k2 hk h1
  generalize (tabL g D).length = n at hk
  have hk' : (k : Int) < (n : Int) := by omega
  have E0 : Ext w ((w.alloc (.cells #[.int .i64 g.rows, .int .i64 g.cols, s] 24)).alloc (.cells #[.int .i64 p.1, .int .i64 p.2] 26)) := ((Ext.refl _).alloc _).alloc _
  have zb := cell_lt h1
  dsimp only at zb
  clear hc hr hp k3
  go_enter Try.func52, Try.ntmps52
  go_wp2
  go_ret
  exact ⟨rfl, E0⟩

def fewB (g : Gr) : Bool := decide (g.bl.length ≤ 512) && ((decide (g.rows ≤ 7) && decide (g.cols ≤ 7)) || decide (chk g ≠ 0))
set_option maxHeartbeats 1000000 in
theorem Few_any (g : Gr) (ga : Option Addr) (gc : Nat) (w : World) (hg : g.bl.length ≤ maxLen) (hc : Cells2 w ga g.bl) :
    Calls Try.prog 12 #[.agg #[.int .i64 g.rows, .int .i64 g.cols, .slice ga g.bl.length gc]] w fun e w' => e = .returned (.bool (fewB g)) ∧ Ext w w' := by
  have HC : Hid (Cells2 w ga g.bl) := hc
  have HG := Lib.hid hg
  clear hc hg
  have E0 : Ext w (((w).alloc (.cells #[.int .i64 g.rows, .int .i64 g.cols, .slice ga g.bl.length gc] 24))) := (Ext.refl _).alloc _
  by_cases h1 : g.bl.length ≤ 512
  · have h1' : (g.bl.length : Int) ≤ 512 := by omega
    by_cases h2 : g.rows ≤ 7 ∧ g.cols ≤ 7
    · obtain ⟨h2, h3⟩ := h2
      have hb : Hid (fewB g = true) := by show _ = _; unfold fewB; simp [h1, h2, h3]
      clear h1
      go_enter Try.func12, Try.ntmps12
      go_wp2
      go_ret
      exact ⟨ret_bool hb.out.symm, E0⟩
    · have hb : Hid (fewB g = decide (chk g ≠ 0)) := by
        show _ = _
        unfold fewB
        have : (decide (g.rows ≤ 7) && decide (g.cols ≤ 7)) = false := by simp; omega
        rw [this]; simp [h1]
      have H1 := Lib.hid h1
      clear h1
      have fin : ∀ b : Bool, (g.rows ≤ 7 → ¬ g.cols ≤ 7) → Calls Try.prog 12 #[.agg #[.int .i64 g.rows, .int .i64 g.cols, .slice ga g.bl.length gc]] w fun e w' => e = .returned (.bool (fewB g)) ∧ Ext w w' := fun _ hh => by
        by_cases h3 : g.rows ≤ 7
        · have h4 := hh h3
          clear h2 hh
          go_enter Try.func12, Try.ntmps12
          go_wp2_with fail
          refine (CheckR_any g ga gc _ HG.out (HC.out.ext E0)).mono ?_
          rintro e w1 ⟨rfl, hE⟩
          go_wp2
          go_ret
          exact ⟨ret_bool (by rw [hb.out]; cases h5 : decide (chk g ≠ 0) <;> simp_all), E0.trans hE⟩
        · clear h2 hh
          go_enter Try.func12, Try.ntmps12
          go_wp2_with fail
          refine (CheckR_any g ga gc _ HG.out (HC.out.ext E0)).mono ?_
          rintro e w1 ⟨rfl, hE⟩
          go_wp2
          go_ret
          exact ⟨ret_bool (by rw [hb.out]; cases h5 : decide (chk g ≠ 0) <;> simp_all), E0.trans hE⟩
      exact fin true (fun h3 h4 => h2 ⟨h3, h4⟩)
  · have h1' : ¬ (g.bl.length : Int) ≤ 512 := by omega
    have hb : Hid (fewB g = false) := by show _ = _; unfold fewB; simp [h1]
    clear h1
    go_enter Try.func12, Try.ntmps12
    go_wp2
    go_ret
    exact ⟨ret_bool hb.out.symm, E0⟩
end Go.Proofs.Ytfigooilhnahfaa
/- The reference's Meet. -/
namespace Go.Proofs.Ytfigooilhnahfaa
open Go.RowKit

theorem Far_any2 (g : Gr) (p : Pt) (ga : Option Addr) (gc n : Nat) (w : World) (hn : n = g.rows.toNat * g.cols.toNat) (hr : Right g) (hp : inside g p = true) (hc : Cells2 w ga g.bl) :
    Calls Try.prog 51 #[.agg #[.int .i64 g.rows, .int .i64 g.cols, .slice ga g.bl.length gc], .agg #[.int .i64 p.1, .int .i64 p.2]] w fun e w' => ∃ a cap, e = .returned (.slice a n cap) ∧ CellsI w' a (tabL g (dst g p)) ∧ Ext w w' :=
  (Far_any g p ga gc w hr hp hc).mono fun e w' ⟨a, cap, h1, h2, h3⟩ => ⟨a, cap, by rw [h1, tabL_len, hn], h2, h3⟩
theorem atR_any2 (g : Gr) (D : Pt → Int) (s : Value) (a : Option Addr) (cap n : Nat) (p : Pt) (w : World) (hn : n = g.rows.toNat * g.cols.toNat) (hr : Right g) (hp : inside g p = true) (hc : CellsI w a (tabL g D)) :
    Calls Try.prog 52 #[.agg #[.int .i64 g.rows, .int .i64 g.cols, s], .slice a n cap, .agg #[.int .i64 p.1, .int .i64 p.2]] w fun e w' => e = .returned (.int .i64 (D p)) ∧ Ext w w' := by
  have := atR_any g D s a cap p w hr hp hc
  rw [tabL_len, ← hn] at this
  exact this
theorem quoF {g : Gr} (hr : Right g) (k : Nat) : (k : Int).tdiv g.cols = ((k / g.cols.toNat : Nat) : Int) ∧ (k : Int).tmod g.cols = ((k % g.cols.toNat : Nat) : Int) ∧ (k : Int) / g.cols = ((k / g.cols.toNat : Nat) : Int) ∧ (k : Int) % g.cols = ((k % g.cols.toNat : Nat) : Int) := by
  have h := hr.c1
  obtain ⟨c, hc⟩ : ∃ c : Nat, g.cols = (c : Int) := ⟨g.cols.toNat, by omega⟩
  rw [hc]
  simp only [Int.toNat_natCast]
  refine ⟨?_, ?_, (Int.natCast_ediv _ _).symm, (Int.natCast_emod _ _).symm⟩
  · rw [Int.tdiv_eq_ediv_of_nonneg (by omega)]; exact (Int.natCast_ediv _ _).symm
  · rw [Int.tmod_eq_emod_of_nonneg (by omega)]; exact (Int.natCast_emod _ _).symm
theorem CellsI.below {m : Nat} {w w' : World} {a : Option Addr} {l : List Int} (h : CellsI w a l) (he : Below m w w') (hm : ∀ b off, a = some ⟨b, off, none⟩ → b < m) : CellsI w' a l := fun i hi => by
  obtain ⟨b, off, h1, h2⟩ := h i hi
  exact ⟨b, off, h1, (he.cell (p := ⟨b, _, none⟩) (hm b off h1)).trans h2⟩
theorem CellsI.lt {w : World} {a : Option Addr} {l : List Int} (h : CellsI w a l) (hl : 0 < l.length) {b off : Nat} (ha : a = some ⟨b, off, none⟩) : b < w.heap.size := by
  obtain ⟨b', off', h1, h2⟩ := h 0 hl
  rw [ha] at h1
  cases h1
  exact cell_lt h2

set_option maxHeartbeats 4000000 in
set_option maxRecDepth 100000 in
theorem MeetR_any (g : Gr) (p q r : Pt) (ga : Option Addr) (gc : Nat) (w : World) (hg : g.bl.length ≤ maxLen) (hc : Cells2 w ga g.bl) :
    Calls Try.prog 16 #[.agg #[.int .i64 g.rows, .int .i64 g.cols, .slice ga g.bl.length gc], .agg #[.int .i64 p.1, .int .i64 p.2, .int .i64 q.1, .int .i64 q.2, .int .i64 r.1, .int .i64 r.2]] w fun e w' =>
      e = .returned (.tuple #[.agg #[.int .i64 (meetP g p q r).1, .int .i64 (meetP g p q r).2], .int .i64 (meetN g p q r), .int .i64 (meetE g p q r)]) ∧ Ext w w' := by
  have HC : Hid (Cells2 w ga g.bl) := hc
  have HG := Lib.hid hg
  clear hc hg
  obtain ⟨W0, hW0⟩ : ∃ W0, ((((w).alloc (.cells #[.int .i64 g.rows, .int .i64 g.cols, .slice ga g.bl.length gc] 24))).alloc (.cells #[.int .i64 p.1, .int .i64 p.2, .int .i64 q.1, .int .i64 q.2, .int .i64 r.1, .int .i64 r.2] 27)).alloc (.cells #[.int .i64 0, .int .i64 0] 26) = W0 := ⟨_, rfl⟩
  have E0 : Ext w W0 := by rw [← hW0]; exact (((Ext.refl _).alloc _).alloc _).alloc _
  have F0 : Hid (MtFix g p q r ga gc w.heap.size W0) := by
    rw [← hW0]; clear hW0
    exact ⟨by go_simp, by go_simp, by go_simp, by go_simp, by go_simp, by go_simp, by go_simp, by go_simp, by go_simp, by go_simp, by go_simp, by go_simp, by go_simp⟩
  obtain ⟨a1, a2, a3, p1, p2, p3, p4, p5, p6, c1, c2, f1, f2⟩ := F0.out
  have H3 : Hid (Cells2 W0 (some ⟨w.heap.size + 1, 0, none⟩) [p, q, r]) := cells2_three p1 p2 p3 p4 p5 p6
  go_enter Try.func16, Try.ntmps16
  go_wp2_with fail
  clear hW0
  have y1 := cell_lt a1; have y2 := cell_lt p1
  dsimp only at y1 y2
  go_region_held3 (fun w' => Sees W0 w') ((repeat (first | exact Sees.refl _ | assumption | apply Sees.drew | apply Sees.alloc | (refine Sees.ext ?_ (by assumption))))) (first | (go_at_call 50; refine (givenR_any g [p, q, r] ga gc _ _ _ HG.out (HC.out.ext (E0.trans (by exact (show Sees W0 _ by assumption).2.2))) (by simp [maxLen]) (H3.out.ext (by exact (show Sees W0 _ by assumption).2.2))).mono ?_; rintro e w' ⟨rfl, hE2⟩))
  have hS := (show Sees W0 _ by assumption).2.2
  have F1 : Hid (MtFix g p q r ga gc w.heap.size w') := F0.out.ext hS
  have E1 := E0.trans hS
  clear y1 y2 a1 a2 a3 p1 p2 p3 p4 p5 p6 c1 c2 f1 f2 H3 F0 E0 hS
  generalize w' = W1 at F1 E1 ⊢
  by_cases h0 : givenErr g [p, q, r] = 0
  · obtain ⟨hr, ho⟩ := given_ok h0
    have HR := Lib.hid hr
    have HP : Hid (inside g p = true) := opn_inside (ho p (by simp))
    have HQ : Hid (inside g q = true) := opn_inside (ho q (by simp))
    have HRR : Hid (inside g r = true) := opn_inside (ho r (by simp))
    have HV : Hid (meetP g p q r = (if meetBad g p q r = true then (0, 0) else (meetV g p q r).2) ∧ meetN g p q r = (if meetBad g p q r = true then 0 else (meetV g p q r).1) ∧ meetE g p q r = if meetBad g p q r = true then 6 else 0) := by
      show _ ∧ _ ∧ _
      unfold meetP meetN meetE
      exact ⟨if_neg (by simp [h0]), if_neg (by simp [h0]), if_neg (by simp [h0])⟩
    rw [h0]
    clear h0 hr ho
    obtain ⟨a1, a2, a3, p1, p2, p3, p4, p5, p6, c1, c2, f1, f2⟩ := F1.out
    have z2 := F1.out.lt
    have z1 : w.heap.size + 1 < W1.heap.size := by omega
    have z0 : w.heap.size < W1.heap.size := by omega
    obtain ⟨n, hn⟩ : ∃ n, n = g.rows.toNat * g.cols.toNat := ⟨_, rfl⟩
    have HNN := Lib.hid hn
    clear hn
    go_wp2_with fail
    go_region_held3 (fun w' => Sees W1 w') ((repeat (first | exact Sees.refl _ | assumption | apply Sees.drew | apply Sees.alloc | (refine Sees.ext ?_ (by assumption))))) (first | (go_at_call 51; have hIp0 := hIq; refine (Far_any2 g r ga gc n _ HNN.out HR.out HRR.out (HC.out.ext (E1.trans (by exact (show Sees W1 _ by assumption).2.2)))).mono ?_; rintro e w' ⟨fc, cc, rfl, hIr, hE2⟩; have hIp := hIp.ext hE2; have hIq := hIq.ext hE2) | (go_at_call 51; have hIp0 := hIp; refine (Far_any2 g q ga gc n _ HNN.out HR.out HQ.out (HC.out.ext (E1.trans (by exact (show Sees W1 _ by assumption).2.2)))).mono ?_; rintro e w' ⟨fb, cb, rfl, hIq, hE2⟩; have hIp := hIp.ext hE2) | (go_at_call 51; refine (Far_any2 g p ga gc n _ HNN.out HR.out HP.out (HC.out.ext (E1.trans (by exact (show Sees W1 _ by assumption).2.2)))).mono ?_; rintro e w' ⟨fa, ca, rfl, hIp, hE2⟩))
    have hS := (show Sees W1 _ by assumption).2.2
    have FX2 := Lib.hid (F1.out.ext hS)
    have E2 := E1.trans hS
    have HI0 := Lib.hid hIp
    have HI1 := Lib.hid hIq
    have HI2 := Lib.hid hIr
    clear a1 a2 a3 p1 p2 p3 p4 p5 p6 c1 c2 f1 f2 hS hIp hIq hIr F1 E1 z0 z1 z2
    generalize w' = W2 at FX2 E2 HI0 HI1 HI2 ⊢
    obtain ⟨a1, a2, a3, p1, p2, p3, p4, p5, p6, c1, c2, f1, f2⟩ := FX2.out
    go_wp2_with fail
    refine (atR_any2 g (dst g p) _ fa ca n q _ HNN.out HR.out HQ.out HI0.out).mono ?_
    rintro e W3 ⟨rfl, hE⟩
    have FX3 := Lib.hid (FX2.out.ext hE)
    have E3 := E2.trans hE
    have HI0 := Lib.hid (HI0.out.ext hE)
    have HI1 := Lib.hid (HI1.out.ext hE)
    have HI2 := Lib.hid (HI2.out.ext hE)
    clear a1 a2 a3 p1 p2 p3 p4 p5 p6 c1 c2 f1 f2 hE FX2 E2
    obtain ⟨a1, a2, a3, p1, p2, p3, p4, p5, p6, c1, c2, f1, f2⟩ := FX3.out
    cases hx0 : decide (dst g p q < 0)
    · have hx0' : ¬ dst g p q < 0 := by simpa using hx0
      go_wp2_with fail
      refine (atR_any2 g (dst g p) _ fa ca n r _ HNN.out HR.out HRR.out HI0.out).mono ?_
      rintro e W4 ⟨rfl, hE⟩
      have FX4 := Lib.hid (FX3.out.ext hE)
      have E4 := E3.trans hE
      have HI0 := Lib.hid (HI0.out.ext hE)
      have HI1 := Lib.hid (HI1.out.ext hE)
      have HI2 := Lib.hid (HI2.out.ext hE)
      clear a1 a2 a3 p1 p2 p3 p4 p5 p6 c1 c2 f1 f2 hE FX3 E3
      obtain ⟨a1, a2, a3, p1, p2, p3, p4, p5, p6, c1, c2, f1, f2⟩ := FX4.out
      cases hx1 : decide (dst g p r < 0)
      · have hx1' : ¬ dst g p r < 0 := by simpa using hx1
        have HB : Hid (meetBad g p q r = false) := by show _ = _; unfold meetBad; rw [hx0, hx1]; rfl
        have zx := FX4.out.lt
        have z0 : w.heap.size < W4.heap.size := by omega
        go_wp2_with fail
        have E5 : Ext W4 (W4.alloc (.cells #[.int .i64 0, .int .i64 0] 26)) := (Ext.refl _).alloc _
        obtain ⟨bat, hbat⟩ : ∃ b, b = W4.heap.size := ⟨_, rfl⟩
        have FX5 := Lib.hid (FX4.out.ext E5)
        have hpos : 0 < n := by
          rw [HNN.out]
          exact Nat.mul_pos (by have := HR.out.r1; omega) (by have := HR.out.c1; omega)
        have lt0 : Hid (∀ b off, fa = some ⟨b, off, none⟩ → b < bat) := fun b off h => by rw [hbat]; exact HI0.out.lt (by rw [tabL_len, ← HNN.out]; exact hpos) h
        have lt1 : Hid (∀ b off, fb = some ⟨b, off, none⟩ → b < bat) := fun b off h => by rw [hbat]; exact HI1.out.lt (by rw [tabL_len, ← HNN.out]; exact hpos) h
        have lt2 : Hid (∀ b off, fc = some ⟨b, off, none⟩ → b < bat) := fun b off h => by rw [hbat]; exact HI2.out.lt (by rw [tabL_len, ← HNN.out]; exact hpos) h
        have HI0 := Lib.hid (HI0.out.ext E5)
        have HI1 := Lib.hid (HI1.out.ext E5)
        have HI2 := Lib.hid (HI2.out.ext E5)
        have EV5 := E4.trans E5
        have b1 : (W4.alloc (.cells #[.int .i64 0, .int .i64 0] 26)).cell? ⟨bat, 0, none⟩ = some (.int .i64 0) := by rw [hbat]; clear hbat; go_simp
        have b2 : (W4.alloc (.cells #[.int .i64 0, .int .i64 0] 26)).cell? ⟨bat, 1, none⟩ = some (.int .i64 0) := by rw [hbat]; clear hbat; go_simp
        have b3 : (W4.alloc (.cells #[.int .i64 0, .int .i64 0] 26)).frozen? ⟨bat, 0, none⟩ = false := by rw [hbat]; clear hbat; go_simp
        have b4 : (W4.alloc (.cells #[.int .i64 0, .int .i64 0] 26)).frozen? ⟨bat, 1, none⟩ = false := by rw [hbat]; clear hbat; go_simp
        have zw : w.heap.size + 1 + 1 < bat := by rw [hbat]; exact FX4.out.lt
        have zbat : bat < (W4.alloc (.cells #[.int .i64 0, .int .i64 0] 26)).heap.size := by rw [hbat]; simp
        rw [← hbat]
        clear hbat a1 a2 a3 p1 p2 p3 p4 p5 p6 c1 c2 f1 f2 zx z0 FX4 E4 E5
        generalize W4.alloc (.cells #[.int .i64 0, .int .i64 0] 26) = V5 at FX5 HI0 HI1 HI2 EV5 b1 b2 b3 b4 zbat ⊢
        obtain ⟨mk, hmk⟩ : ∃ mk, mk = meetK g (dst g p) (dst g q) (dst g r) := ⟨_, rfl⟩
        have HMK0 : Hid (mk 0 = (-1, (0, 0))) := by rw [hmk]; rfl
        have HMKS : Hid (∀ k, mk (k + 1) = meetStep (dst g p) (dst g q) (dst g r) (mk k) (cellAt g k)) := by rw [hmk]; intro k; rfl
        have HMKB : Hid (∀ k, -3 ≤ (mk k).1 ∧ (mk k).1 ≤ 12288) := by
          rw [hmk]
          exact meetK_bd (fun x => ⟨(dst_bd HR.out HP.out x).1, (dst_bd HR.out HP.out x).2, (dst_bd HR.out HQ.out x).1, (dst_bd HR.out HQ.out x).2, (dst_bd HR.out HRR.out x).1, (dst_bd HR.out HRR.out x).2⟩)
        have HMKE : Hid (meetV g p q r = mk n) := by rw [hmk, HNN.out]; rfl
        have hn1 : n ≤ 4096 := by
          rw [HNN.out]; exact Nat.mul_le_mul (show g.rows.toNat ≤ 64 by have := HR.out.r2; omega) (show g.cols.toNat ≤ 64 by have := HR.out.c2; omega)
        clear hmk
        have hc1 := HR.out.c1
        have hc2 := HR.out.c2
        go_loopw [12, 13] (fun b i wr => ∃ k : Nat, k ≤ n ∧ i = .int .i64 k ∧ b = .int .i64 (mk k).1 ∧ Hid (Below bat V5 wr) ∧ wr.cell? ⟨bat, 0, none⟩ = some (.int .i64 (mk k).2.1) ∧ wr.cell? ⟨bat, 1, none⟩ = some (.int .i64 (mk k).2.2) ∧ wr.frozen? ⟨bat, 0, none⟩ = false ∧ wr.frozen? ⟨bat, 1, none⟩ = false) (fun _ i _ => n - (intOf i).toNat)
        case atStart =>
          refine ⟨0, Nat.zero_le _, rfl, ?_, Below.refl _ _, ?_, ?_, b3, b4⟩
          · rw [HMK0.out]
          · rw [HMK0.out]; exact b1
          · rw [HMK0.out]; exact b2
        case round =>
          clear b1 b2 b3 b4
          obtain ⟨k, hk, rfl, rfl, hB, b1, b2, b3, b4⟩ := hrel
          have hmb := HMKB.out k
          have FX := Lib.hid (FX5.out.below hB.out zw)
          have zwr : bat < wr.heap.size := Nat.lt_of_lt_of_le zbat hB.out.size
          obtain ⟨a1, a2, a3, p1, p2, p3, p4, p5, p6, c1, c2, f1, f2⟩ := FX.out
          by_cases hlt : k < n
          · have hlt' : (k : Int) < (n : Int) := by omega
            clear p1 p2 p3 p4 p5 p6 c1 c2 f1 f2
            have hkl : k < g.rows.toNat * g.cols.toNat := by rw [← HNN.out]; exact hlt
            obtain ⟨ba, oa, rfl, d0⟩ := HI0.out.below hB.out lt0.out k (by rw [tabL_len]; exact hkl)
            obtain ⟨bb, ob, rfl, d1⟩ := HI1.out.below hB.out lt1.out k (by rw [tabL_len]; exact hkl)
            obtain ⟨bc, oc, rfl, d2⟩ := HI2.out.below hB.out lt2.out k (by rw [tabL_len]; exact hkl)
            rw [tabL_get hkl] at d0 d1 d2
            have hst := HMKS.out k
            unfold meetStep at hst
            have hcl : Hid (cellAt g k = (((k / g.cols.toNat : Nat) : Int), ((k % g.cols.toNat : Nat) : Int))) := rfl
            obtain ⟨bd1, bd2⟩ := dst_bd HR.out HP.out (cellAt g k)
            obtain ⟨bd3, bd4⟩ := dst_bd HR.out HQ.out (cellAt g k)
            obtain ⟨bd5, bd6⟩ := dst_bd HR.out HRR.out (cellAt g k)
            generalize dst g p (cellAt g k) = A at d0 hst bd1 bd2
            generalize dst g q (cellAt g k) = B at d1 hst bd3 bd4
            generalize dst g r (cellAt g k) = C at d2 hst bd5 bd6
            have s2 : IntKind.i64.wrap (A + B) = A + B := IntWalk.i64_in _ (by omega)
            have s3 : IntKind.i64.wrap (A + B + C) = A + B + C := IntWalk.i64_in _ (by omega)
            have hEN : Hid (∀ N, Ext wr (wr.drewN N)) := fun N => (Ext.refl _).drewN _
            obtain ⟨x1, x2, x3, x4⟩ := quoF HR.out k
            have x5 : IntKind.i64.wrap ((k / g.cols.toNat : Nat) : Int) = ((k / g.cols.toNat : Nat) : Int) := by
              have h := Nat.div_le_self k g.cols.toNat
              generalize k / g.cols.toNat = y at h ⊢
              exact IntWalk.i64_in _ (by omega)
            have x6 : IntKind.i64.wrap ((k % g.cols.toNat : Nat) : Int) = ((k % g.cols.toNat : Nat) : Int) := by
              have h := Nat.mod_le k g.cols.toNat
              generalize k % g.cols.toNat = y at h ⊢
              exact IntWalk.i64_in _ (by omega)
            generalize k / g.cols.toNat = kd at x1 x3 x5 hcl
            generalize k % g.cols.toNat = km at x2 x4 x6 hcl
            have x7 : (g.cols == 0) = false := by simp; omega
            clear hkl
            go_wp2_with fail
            go_quiet (fail)
            have d0 := (hEN.out nq).cell d0
            have d1 := (hEN.out nq).cell d1
            have d2 := (hEN.out nq).cell d2
            have b1 := (hEN.out nq).cell b1
            have b2 := (hEN.out nq).cell b2
            have a2 := (hEN.out nq).cell a2
            have b3 := ((hEN.out nq).frozen (p := ⟨bat, 0, none⟩) zwr).trans b3
            have b4 := ((hEN.out nq).frozen (p := ⟨bat, 1, none⟩) zwr).trans b4
            have hB := Lib.hid (hB.out.trans ((hEN.out nq).mono (by omega)))
            clear hEN zwr
            generalize wr.drewN nq = w9 at d0 d1 d2 b1 b2 b3 b4 a2 hB ⊢
            by_cases hA : A < 0
            · have hA' : ¬ 0 ≤ A := by omega
              have hA2 : decide (0 ≤ A) = false := by simp; omega
              rw [if_pos hA] at hst
              have HST := Lib.hid hst
              clear hst
              go_wp2
              refine ⟨⟨k + 1, by omega, by go_num, ?_, hB.out, ?_, ?_, b3, b4⟩, by simp [intOf]; omega⟩
              · rw [HST.out]
              · rw [HST.out]; exact b1
              · rw [HST.out]; exact b2
            · rw [if_neg hA] at hst
              have hA' : 0 ≤ A := by omega
              have hA2 : decide (0 ≤ A) = true := by simp; omega
              have HST := Lib.hid hst
              clear hst
              cases h1 : decide ((mk k).1 < 0)
              · cases h2 : decide (A + B + C < (mk k).1)
                · have HST := Lib.hid (HST.out.trans (if_neg (by simp at h1 h2; omega)))
                  go_wp2
                  refine ⟨⟨k + 1, by omega, by go_num, ?_, hB.out, ?_, ?_, b3, b4⟩, by simp [intOf]; omega⟩
                  · rw [HST.out]
                  · rw [HST.out]; exact b1
                  · rw [HST.out]; exact b2
                · have HST := Lib.hid (HST.out.trans (if_pos (.inr (by simpa using h2))))
                  go_wp2_with fail
                  go_region
                  all_goals go_wp2
                  all_goals refine ⟨⟨k + 1, by omega, by go_num, ?_, ?_, ?_, ?_, by go_simp, by go_simp⟩, by simp [intOf]; omega⟩
                  all_goals first | exact (Below.setCell (p := ⟨bat, 1, none⟩) (Below.setCell (p := ⟨bat, 0, none⟩) hB.out (Nat.le_refl _) _) (Nat.le_refl _) _).drew | (rw [HST.out, hcl.out]; first | rfl | go_simp) | (rw [HST.out])
              · have HST := Lib.hid (HST.out.trans (if_pos (.inl (by simpa using h1))))
                go_wp2_with fail
                go_region
                all_goals go_wp2
                all_goals refine ⟨⟨k + 1, by omega, by go_num, ?_, ?_, ?_, ?_, by go_simp, by go_simp⟩, by simp [intOf]; omega⟩
                all_goals first | exact (Below.setCell (p := ⟨bat, 1, none⟩) (Below.setCell (p := ⟨bat, 0, none⟩) hB.out (Nat.le_refl _) _) (Nat.le_refl _) _).drew | (rw [HST.out, hcl.out]; first | rfl | go_simp) | (rw [HST.out])
          · have hlt' : ¬ (k : Int) < (n : Int) := by omega
            have hke : k = n := by omega
            go_wp2
            try simp only [Exit.inBlock, Exit.then]
            refine bodyPost_ret (v := .tuple #[.agg #[.int .i64 (mk n).2.1, .int .i64 (mk n).2.2], .int .i64 (mk n).1, .int .i64 0]) (by rw [results_cell_tmp2 rfl]; go_simp) rfl ⟨?_, ?_⟩
            · rw [HV.out.1, HV.out.2.1, HV.out.2.2, HB.out, HMKE.out]
              rfl
            · exact Below.setCell (p := ⟨_, 1, none⟩) (Below.setCell (p := ⟨_, 0, none⟩) (Below.trans EV5 (hB.out.mono (by omega))) (by show w.heap.size ≤ w.heap.size + 1 + 1; omega) _) (by show w.heap.size ≤ w.heap.size + 1 + 1; omega) _
      · have hx1' : dst g p r < 0 := by simpa using hx1
        have HB : Hid (meetBad g p q r = true) := by show _ = _; unfold meetBad; rw [hx0, hx1]; rfl
        go_wp2
        try simp only [Exit.inBlock, Exit.then]
        refine bodyPost_ret (v := .tuple #[.agg #[.int .i64 0, .int .i64 0], .int .i64 0, .int .i64 6]) (by rw [results_cell_tmp2 rfl]; go_simp) rfl ⟨?_, ?_⟩
        · rw [HV.out.1, HV.out.2.1, HV.out.2.2, if_pos HB.out, if_pos HB.out, if_pos HB.out]
        · exact Below.setCell (p := ⟨_, 1, none⟩) (Below.setCell (p := ⟨_, 0, none⟩) E4 (by show w.heap.size ≤ w.heap.size + 1 + 1; omega) _) (by show w.heap.size ≤ w.heap.size + 1 + 1; omega) _
    · have hx0' : dst g p q < 0 := by simpa using hx0
      have HB : Hid (meetBad g p q r = true) := by show _ = _; unfold meetBad; rw [hx0]; rfl
      go_wp2
      try simp only [Exit.inBlock, Exit.then]
      refine bodyPost_ret (v := .tuple #[.agg #[.int .i64 0, .int .i64 0], .int .i64 0, .int .i64 6]) (by rw [results_cell_tmp2 rfl]; go_simp) rfl ⟨?_, ?_⟩
      · rw [HV.out.1, HV.out.2.1, HV.out.2.2, if_pos HB.out, if_pos HB.out, if_pos HB.out]
      · exact Below.setCell (p := ⟨_, 1, none⟩) (Below.setCell (p := ⟨_, 0, none⟩) E3 (by show w.heap.size ≤ w.heap.size + 1 + 1; omega) _) (by show w.heap.size ≤ w.heap.size + 1 + 1; omega) _
  · have hv : Hid (meetP g p q r = (0, 0) ∧ meetN g p q r = 0 ∧ meetE g p q r = givenErr g [p, q, r]) := by
      show _ ∧ _ ∧ _
      unfold meetP meetN meetE
      exact ⟨if_pos h0, if_pos h0, if_pos h0⟩
    have hb : (givenErr g [p, q, r] != 0) = true := by simp [h0]
    have hb2 : (givenErr g [p, q, r] == 0) = false := by simp [h0]
    clear h0
    obtain ⟨a1, a2, a3, p1, p2, p3, p4, p5, p6, c1, c2, f1, f2⟩ := F1.out
    go_wp2
    try simp only [Exit.inBlock, Exit.then]
    refine bodyPost_ret (v := .tuple #[.agg #[.int .i64 0, .int .i64 0], .int .i64 0, .int .i64 (givenErr g [p, q, r])]) (by rw [results_cell_tmp2 rfl]; go_simp) rfl ⟨?_, ?_⟩
    · rw [hv.out.1, hv.out.2.1, hv.out.2.2]
    · exact Below.setCell (p := ⟨_, 1, none⟩) (Below.setCell (p := ⟨_, 0, none⟩) E1 (by show w.heap.size ≤ w.heap.size + 1 + 1; omega) _) (by show w.heap.size ≤ w.heap.size + 1 + 1; omega) _
end Go.Proofs.Ytfigooilhnahfaa
/- The bundles of hoses, in plain Lean; lists of routes in memory. -/
namespace Go.Proofs.Ytfigooilhnahfaa
open Go.RowKit Go.Maps

abbrev Hose := Pt × Pt
def ph (hs : List Hose) (i : Nat) : Hose := hs.getD i ((0, 0), (0, 0))
/-- a list of pairs of places in memory -/
def Cells4 (w : World) (a : Option Addr) (hs : List Hose) : Prop :=
  ∀ i, i < hs.length → ∃ b off, a = some ⟨b, off, none⟩ ∧ w.cell? ⟨b, off + i * 4, none⟩ = some (.int .i64 (ph hs i).1.1) ∧ w.cell? ⟨b, off + i * 4 + 1, none⟩ = some (.int .i64 (ph hs i).1.2) ∧ w.cell? ⟨b, off + i * 4 + 2, none⟩ = some (.int .i64 (ph hs i).2.1) ∧ w.cell? ⟨b, off + i * 4 + 3, none⟩ = some (.int .i64 (ph hs i).2.2)
theorem Cells4.ext {w w' : World} {a : Option Addr} {l : List Hose} (h : Cells4 w a l) (he : Ext w w') : Cells4 w' a l := fun i hi => by
  obtain ⟨b, off, h1, h2, h3, h4, h5⟩ := h i hi
  exact ⟨b, off, h1, he.cell h2, he.cell h3, he.cell h4, he.cell h5⟩
theorem Cells4.below {m : Nat} {w w' : World} {a : Option Addr} {l : List Hose} (h : Cells4 w a l) (he : Below m w w') (hm : l ≠ [] → ∀ b off, a = some ⟨b, off, none⟩ → b < m) : Cells4 w' a l := fun i hi => by
  obtain ⟨b, off, h1, h2, h3, h4, h5⟩ := h i hi
  have hb := hm (by rintro rfl; simp at hi) b off h1
  exact ⟨b, off, h1, (he.cell (p := ⟨b, _, none⟩) hb).trans h2, (he.cell (p := ⟨b, _, none⟩) hb).trans h3, (he.cell (p := ⟨b, _, none⟩) hb).trans h4, (he.cell (p := ⟨b, _, none⟩) hb).trans h5⟩
theorem Cells4.lt {w : World} {a : Option Addr} {l : List Hose} (h : Cells4 w a l) (hne : l ≠ []) {b off : Nat} (ha : a = some ⟨b, off, none⟩) : b < w.heap.size := by
  obtain ⟨b', off', h1, h2, _⟩ := h 0 (List.length_pos_iff.2 hne)
  rw [ha] at h1
  cases h1
  exact cell_lt h2
theorem Cells2.below {m : Nat} {w w' : World} {a : Option Addr} {l : List Pt} (h : Cells2 w a l) (he : Below m w w') (hm : l ≠ [] → ∀ b off, a = some ⟨b, off, none⟩ → b < m) : Cells2 w' a l := fun i hi => by
  obtain ⟨b, off, h1, h2, h3⟩ := h i hi
  have hb := hm (by rintro rfl; simp at hi) b off h1
  exact ⟨b, off, h1, (he.cell (p := ⟨b, _, none⟩) hb).trans h2, (he.cell (p := ⟨b, _, none⟩) hb).trans h3⟩

def insP (S : List Hose) (a : Hose) : List Hose := if a ∈ S then S else a :: S
theorem insP_mem (S : List Hose) (a x : Hose) : x ∈ insP S a ↔ x ∈ S ∨ x = a := by
  unfold insP
  split
  · rename_i h
    constructor
    · exact .inl
    · rintro (h1 | rfl)
      · exact h1
      · exact h
  · rw [List.mem_cons]
    constructor
    · rintro (h | h)
      · exact .inr h
      · exact .inl h
    · rintro (h | h)
      · exact .inr h
      · exact .inl h
theorem insP_nodup {S : List Hose} (h : S.Nodup) (a : Hose) : (insP S a).Nodup := by
  unfold insP
  split
  · exact h
  · rename_i hn; exact List.nodup_cons.2 ⟨hn, h⟩
theorem insP_len (S : List Hose) (a : Hose) : (insP S a).length ≤ S.length + 1 := by
  unfold insP
  split
  · omega
  · simp
def pairOf (a b : Pt) : Hose := if 0 < ordP a b then (b, a) else (a, b)
def pairK (S : List Hose) (l : List Pt) : Nat → List Hose
  | 0 => S
  | j + 1 => insP (pairK S l j) (pairOf (pt l j) (pt l (j + 1)))
def pairsIn (S : List Hose) (l : List Pt) : List Hose := pairK S l (l.length - 1)
/-- the ducts behind the first k hoses -/
def ductK (g : Gr) (hs : List Hose) : Nat → List Hose
  | 0 => []
  | k + 1 => pairsIn (ductK g hs k) (way g (ph hs k).1 (ph hs k).2)
def hoseErr (g : Gr) (x : Hose) : Int := if cellsErr g [x.1, x.2] ≠ 0 then cellsErr g [x.1, x.2] else if dst g x.2 x.1 < 0 then 6 else 0
def hosesErr (g : Gr) (hs : List Hose) : Nat → Nat → Int
  | 0, _ => 0
  | n + 1, k => if hoseErr g (ph hs k) ≠ 0 then hoseErr g (ph hs k) else hosesErr g hs n (k + 1)
def ductE (g : Gr) (hs : List Hose) : Int := if chk g ≠ 0 then chk g else if 256 < hs.length then 5 else hosesErr g hs hs.length 0
def ductN (g : Gr) (hs : List Hose) : Int := if ductE g hs ≠ 0 then 0 else ((ductK g hs hs.length).length : Int)
def ways (g : Gr) (hs : List Hose) : Nat → List (List Pt)
  | 0 => []
  | k + 1 => ways g hs k ++ [way g (ph hs k).1 (ph hs k).2]
def ductL (g : Gr) (hs : List Hose) : List (List Pt) := if ductE g hs ≠ 0 then [] else ways g hs hs.length
theorem ways_len (g : Gr) (hs : List Hose) : ∀ k, (ways g hs k).length = k := by
  intro k
  induction k with
  | zero => rfl
  | succ k ih => simp [ways, ih]
theorem way_len (g : Gr) (p q : Pt) : (way g p q).length = (dst g q p).toNat + 1 := by unfold way; simp [wayGo_len]
theorem pairK_len (S : List Hose) (l : List Pt) : ∀ j, (pairK S l j).length ≤ S.length + j := by
  intro j
  induction j with
  | zero => exact Nat.le_refl _
  | succ j ih =>
    have := insP_len (pairK S l j) (pairOf (pt l j) (pt l (j + 1)))
    show (insP _ _).length ≤ _
    omega
theorem pairK_nodup {S : List Hose} (h : S.Nodup) (l : List Pt) : ∀ j, (pairK S l j).Nodup := by
  intro j
  induction j with
  | zero => exact h
  | succ j ih => exact insP_nodup ih _
theorem ductK_nodup (g : Gr) (hs : List Hose) : ∀ k, (ductK g hs k).Nodup := by
  intro k
  induction k with
  | zero => exact List.nodup_nil
  | succ k ih => exact pairK_nodup ih _ _

/-- the slice value v owns rows that own their places -/
def RowsO (w : World) (v : Value) (LL : List (List Pt)) : Prop :=
  ∃ vs : List Value, w.ownsRow 0 22 1 v LL.length vs ∧ vs.length = LL.length ∧ ∀ i, i < LL.length → Owns w (vs.getD i undef) (LL.getD i [])
/-- what one who is given the rows sees -/
def RowsR (w : World) (a : Option Addr) (LL : List (List Pt)) : Prop :=
  ∀ i, i < LL.length → ∃ b off ai ci, a = some ⟨b, off, none⟩ ∧ w.cell? ⟨b, off + i, none⟩ = some (.slice ai (LL.getD i []).length ci) ∧ Cells2 w ai (LL.getD i [])
theorem RowsR.ext {w w' : World} {a : Option Addr} {LL : List (List Pt)} (h : RowsR w a LL) (he : Ext w w') : RowsR w' a LL := fun i hi => by
  obtain ⟨b, off, ai, ci, h1, h2, h3⟩ := h i hi
  exact ⟨b, off, ai, ci, h1, he.cell h2, h3.ext he⟩
theorem RowsR.nil (w : World) (a : Option Addr) : RowsR w a [] := fun i hi => by simp at hi
theorem RowsO.nil (w : World) : RowsO w (.slice none 0 0) [] := ⟨[], World.ownsRow_nil w 0 _ _, rfl, fun i hi => by simp at hi⟩
theorem ownsRow_kept {X : Nat → Prop} {m : Nat} {A B : World} {e : TypeId} {s n : Nat} {v : Value} {xs : List Value} (ho : A.ownsRow 0 e s v n xs) (h : Kept X m A B) (hk : ∀ b, v.ownBlock = some b → X b) : B.ownsRow 0 e s v n xs := by
  obtain ⟨h1, h2⟩ := ho
  refine ⟨h1, ?_⟩
  rcases h2 with h2 | ⟨g, cap, cur, hv, hg, hh, r⟩
  · exact .inl h2
  · exact .inr ⟨g, cap, cur, hv, hg, h.2 g _ (hk g (by rw [hv]; rfl)) hh (.inl rfl), r⟩
theorem ownsRow_at {A : World} {e : TypeId} {s n : Nat} {v : Value} {xs : List Value} (ho : A.ownsRow 0 e s v n xs) {b : Nat} (hb : v.ownBlock = some b) : ∃ cur fr, A.heap[b]? = some (.cells cur e fr) := by
  rcases ho.2 with ⟨hv, _⟩ | ⟨g, cap, cur, hv, hg, hh, r⟩
  · rw [hv] at hb; cases hb
  · rw [hv] at hb; cases hb; exact ⟨_, _, hh⟩
theorem RowsO.kept {X : Nat → Prop} {m : Nat} {A B : World} {v : Value} {LL : List (List Pt)} (ho : RowsO A v LL) (h : Kept X m A B) (hk : ∀ b, v.ownBlock = some b → X b) (hX : ∀ b cur fr, A.heap[b]? = some (.cells cur 26 fr) → X b) : RowsO B v LL := by
  obtain ⟨vs, h1, h2, h3⟩ := ho
  refine ⟨vs, ownsRow_kept h1 h hk, h2, fun i hi => (h3 i hi).kept h (fun b hb => ?_)⟩
  obtain ⟨cur, fr, h4⟩ := ownsRow_at (h3 i hi) hb
  exact hX b cur fr h4
theorem RowsO.ext {A B : World} {v : Value} {LL : List (List Pt)} (ho : RowsO A v LL) (h : Ext A B) : RowsO B v LL := ho.kept (Kept.ext h (fun _ => True) 0) (fun _ _ => trivial) (fun _ _ _ _ => trivial)
theorem RowsO.shape {A : World} {v : Value} {LL : List (List Pt)} (ho : RowsO A v LL) : ∃ a cap, v = .slice a LL.length cap := by
  obtain ⟨vs, h1, _⟩ := ho
  rcases h1.2 with ⟨hv, hn⟩ | ⟨g, cap, cur, hv, _⟩
  · exact ⟨none, 0, by rw [hv, hn]⟩
  · exact ⟨_, cap, hv⟩
theorem RowsO.lt {A : World} {v : Value} {LL : List (List Pt)} (ho : RowsO A v LL) {b : Nat} (hb : v.ownBlock = some b) : b < A.heap.size := by
  obtain ⟨vs, h1, _⟩ := ho
  exact (World.ownsRow.lt h1 b hb).2
theorem RowsO.at {A : World} {v : Value} {LL : List (List Pt)} (ho : RowsO A v LL) {b : Nat} (hb : v.ownBlock = some b) : ∃ cur fr, A.heap[b]? = some (.cells cur 22 fr) := by
  obtain ⟨vs, h1, _⟩ := ho
  exact ownsRow_at h1 hb
theorem RowsO.reads {A : World} {v : Value} {LL : List (List Pt)} (ho : RowsO A v LL) : ∃ a cap, v = .slice a LL.length cap ∧ RowsR A a LL := by
  obtain ⟨vs, h1, h2, h3⟩ := ho
  rcases h1.2 with ⟨hv, hn⟩ | ⟨g, cap, cur, hv, hg, hh, hr⟩
  · have : LL = [] := List.eq_nil_of_length_eq_zero hn
    subst this
    exact ⟨none, 0, hv, RowsR.nil _ _⟩
  · refine ⟨some ⟨g, 0, none⟩, cap, hv, fun i hi => ?_⟩
    have hc := World.ownsRow.cells h1 (g := g) (by rw [hv]; rfl)
    have hi2 : i < vs.length := by omega
    obtain ⟨ai, ci, e1, e2, _⟩ := (h3 i hi).reads
    have := hc i (vs.getD i undef) (by simp [List.getD, hi2])
    rw [Addr.add_lit] at this
    rw [e1] at this
    exact ⟨g, 0, ai, ci, rfl, this, e2⟩
theorem rows_app {A B : World} {v v' u : Value} {vs : List Value} {LL : List (List Pt)} {L : List Pt} (h1 : A.ownsRow 0 22 1 v LL.length vs) (h2 : vs.length = LL.length) (h3 : ∀ i, i < LL.length → Owns A (vs.getD i undef) (LL.getD i [])) (hu : Owns A u L)
    (he : AppEnd A B v v') (h4 : B.ownsRow 0 22 1 v' (LL.length + 1) (vs ++ [u])) : RowsO B v' (LL ++ [L]) := by
  have K : Kept (fun k => v.ownBlock ≠ some k) 0 A B := Kept.grown he (fun b hb hn => hn hb)
  have keep : ∀ (x : Value) (N : List Pt), Owns A x N → Owns B x N := fun x N hx => hx.kept K (fun b hb hvb => by
    obtain ⟨c1, f1, e1⟩ := ownsRow_at hx hb
    obtain ⟨c2, f2, e2⟩ := ownsRow_at h1 hvb
    rw [e1] at e2
    injection e2 with e2
    injection e2 with _ e3 _
    exact absurd e3 (by decide))
  refine ⟨vs ++ [u], by rw [List.length_append, List.length_singleton]; exact h4, by simp [h2], fun i hi => ?_⟩
  by_cases e : i < LL.length
  · have e1 : (vs ++ [u]).getD i undef = vs.getD i undef := by simp [List.getD, List.getElem?_append_left (show i < vs.length by omega)]
    have e2 : (LL ++ [L]).getD i [] = LL.getD i [] := by simp [List.getD, List.getElem?_append_left e]
    rw [e1, e2]; exact keep _ _ (h3 i e)
  · have ei : i = LL.length := by simp at hi; omega
    have e1 : (vs ++ [u]).getD i undef = u := by rw [ei, ← h2]; simp [List.getD]
    have e2 : (LL ++ [L]).getD i [] = L := by rw [ei]; simp [List.getD]
    rw [e1, e2]; exact keep _ _ hu
theorem wayGo_opn {g : Gr} (hr : Right g) {q : Pt} (hq : opn g q = true) : ∀ (n : Nat) (a : Pt), opn g a = true → IsD g q a n → ∀ x ∈ wayGo g (dst g q) n a, opn g x = true := by
  intro n
  induction n with
  | zero => intro a _ _ x hx; cases hx
  | succ n ih =>
    intro a ha hd x hx
    have hda : dst g q a = (n : Int) + 1 := by have := dst_of hr (opn_inside hq) hd; rw [this]; omega
    obtain ⟨y, hy1, hy2⟩ := stepTo_ex hr hq ha hd
    have hs := stepTo_spec (g := g) (D := dst g q) (a := a) ⟨y, hy1, by rw [hy2, hda]; omega⟩
    rcases List.mem_cons.1 hx with rfl | hx
    · exact near_opn hs.1
    · exact ih _ (near_opn hs.1) (stepTo_isD hr hq hd hs.1 (by rw [hs.2, hda]; omega)) x hx
theorem way_isD {g : Gr} (hr : Right g) {p q : Pt} (hq : opn g q = true) (hneg : ¬ dst g q p < 0) : IsD g q p (dst g q p).toNat := by
  rcases dst_cases hr (opn_inside hq) p with ⟨k, h1, h2⟩ | ⟨_, h2⟩
  · rw [h2]; exact h1
  · omega
theorem way_opn {g : Gr} (hr : Right g) {p q : Pt} (hp : opn g p = true) (hq : opn g q = true) (hneg : ¬ dst g q p < 0) : ∀ x ∈ way g p q, opn g x = true := by
  intro x hx
  rcases List.mem_cons.1 hx with rfl | hx
  · exact hp
  · exact wayGo_opn hr hq _ _ hp (way_isD hr hq hneg) x hx
theorem infoRow : (Try.prog.info? 22).map (fun i => (i.zero, i.size, i.bytes)) = some (some (.slice none 0 0), 1, 24) := by kernel_rfl
end Go.Proofs.Ytfigooilhnahfaa
