/- Whether cells are a route. -/
import Derived.Test.YtfigooilhnahfaaMapS
namespace Go.Proofs.Ytfigooilhnahfaa
open Go.RowKit Go.Maps

/-- from the k-th cell on -/
def jFrom (l : List Pt) : Nat → Nat → Bool
  | 0, _ => true
  | n + 1, k => if pt l k ∈ l.take k then false else if k ≠ 0 ∧ awayI (pt l (k - 1)) (pt l k) ≠ 1 then false else jFrom l n (k + 1)
def joinedB (l : List Pt) : Bool := jFrom l l.length 0

theorem setStep {l : List Pt} {k : Nat} (hk : k < l.length) {S : List Pt} (h : ∀ x, x ∈ S ↔ x ∈ l.take k) : ∀ x, x ∈ (if pt l k ∈ S then S else pt l k :: S) ↔ x ∈ l.take (k + 1) := by
  intro x
  have e : l.take (k + 1) = l.take k ++ [pt l k] := by
    rw [List.take_succ_eq_append_getElem hk]
    congr 2
    unfold pt
    rw [List.getD_eq_getElem?_getD, List.getElem?_eq_getElem hk]; simp
  rw [e, List.mem_append, ← h x]
  by_cases hm : pt l k ∈ S
  · rw [if_pos hm]
    constructor
    · exact .inl
    · rintro (h1 | h1)
      · exact h1
      · simp at h1; subst h1; exact hm
  · rw [if_neg hm, List.mem_cons]
    constructor
    · rintro (h1 | h1)
      · exact .inr (by simp [h1])
      · exact .inl h1
    · rintro (h1 | h1)
      · exact .inr h1
      · simp at h1; exact .inl h1

set_option maxHeartbeats 2000000 in
set_option maxRecDepth 100000 in
theorem joined_any (l : List Pt) (a : Option Addr) (cap : Nat) (w : World) (hl : l.length ≤ 4096) (hin : ∀ i, i < l.length → InG (pt l i)) (hcl : Cells2 w a l) :
    Calls Try.prog 68 #[.slice a l.length cap] w fun e w' => e = .returned (.bool (joinedB l)) ∧ Ext w w' := by
  have HL : Hid (Cells2 w a l) := hcl
  have HIN := Lib.hid hin
  have hmm := @run_makeMap Try.prog
  clear hcl hin
  go_enter Try.func68, Try.ntmps68
  go_wp2
  have H : Ext w (w.alloc (.map #[] 0)) := (Ext.refl _).alloc _
  have M0 : Hid (SetAt Try.prog 26 4 evPl (w.alloc (.map #[] 0)) w.heap.size 0 ([] : List Pt)) := SetAt.made _ _ _ _ _
  clear hmm
  go_loopw [9] (fun i wr => ∃ k : Nat, k ≤ l.length ∧ i = .int .i64 k ∧ Hid (joinedB l = jFrom l (l.length - k) k) ∧ Ext w wr ∧ Hid (∃ S, SetAt Try.prog 26 4 evPl wr w.heap.size k S ∧ ∀ x, x ∈ S ↔ x ∈ l.take k)) (fun i _ => l.length - (intOf i).toNat)
  case atStart => exact ⟨0, Nat.zero_le _, rfl, by show _ = _; rw [Nat.sub_zero]; rfl, H, ⟨[], M0.out, fun x => by simp⟩⟩
  case round =>
    obtain ⟨k, hk, rfl, hn, he, hs⟩ := hrel
    by_cases hlt : k < l.length
    · obtain ⟨b, off, ha, e1, e2⟩ := HL.out.ext he k hlt
      subst ha
      obtain ⟨S, hS1, hS2⟩ := hs.out
      have z3 := cell_lt e1
      dsimp only at z3
      by_cases hmem : pt l k ∈ l.take k
      · go_wp2
        have E4 : Ext wr ((( wr).alloc (.cells #[.int .i64 (pt l k).1, .int .i64 (pt l k).2] 26))) := (Ext.refl _).alloc _
        have c1 : ((( wr).alloc (.cells #[.int .i64 (pt l k).1, .int .i64 (pt l k).2] 26))).cell? ⟨wr.heap.size, 0, none⟩ = some (.int .i64 (pt l k).1) := by go_simp
        have c2 : ((( wr).alloc (.cells #[.int .i64 (pt l k).1, .int .i64 (pt l k).2] 26))).cell? ⟨wr.heap.size, 1, none⟩ = some (.int .i64 (pt l k).2) := by go_simp
        have e3 := E4.cell e1
        have e4 := E4.cell e2
        have S4 := hS1.ext E4
        obtain ⟨kl, hkl⟩ := keyPl (wf_inG (HIN.out k hlt)).1 (wf_inG (HIN.out k hlt)).2
        have hlook : ∀ n, (Instr.lookup 98 (.map (some w.heap.size)) (.agg #[.int .i64 ((pt l k)).1, .int .i64 ((pt l k)).2]) false).run Try.prog (((( wr).alloc (.cells #[.int .i64 (pt l k).1, .int .i64 (pt l k).2] 26))).drewN n) = .ok (.bool true) (((( wr).alloc (.cells #[.int .i64 (pt l k).1, .int .i64 (pt l k).2] 26))).drewN n) := fun n => by
          have := (S4.ext ((Ext.refl _).drewN n)).lookup lawPl Try.underlying98 Try.underlying4 (by kernel_rfl) hkl
          have hm : pt l k ∈ S := (hS2 _).2 hmem
          simp only [hm, decide_true] at this
          exact this
        have HE4 := Lib.hid (he.trans E4)
        have HM := Lib.hid hmem
        clear hmem S4 hS1 hS2 hkl hs e1 e2
        generalize ((( wr).alloc (.cells #[.int .i64 (pt l k).1, .int .i64 (pt l k).2] 26))) = W at hlook c1 c2 e3 e4 E4 HE4 ⊢
        go_quiet (fail)
        go_wp2
        go_ret
        refine ⟨ret_bool ?_, HE4.out.drewN _⟩
        rw [hn.out, show l.length - k = (l.length - (k + 1)) + 1 from by omega]
        unfold jFrom
        rw [if_pos HM.out]
      · have E4 : Ext wr ((( wr).alloc (.cells #[.int .i64 (pt l k).1, .int .i64 (pt l k).2] 26))) := (Ext.refl _).alloc _
        have c1 : ((( wr).alloc (.cells #[.int .i64 (pt l k).1, .int .i64 (pt l k).2] 26))).cell? ⟨wr.heap.size, 0, none⟩ = some (.int .i64 (pt l k).1) := by go_simp
        have c2 : ((( wr).alloc (.cells #[.int .i64 (pt l k).1, .int .i64 (pt l k).2] 26))).cell? ⟨wr.heap.size, 1, none⟩ = some (.int .i64 (pt l k).2) := by go_simp
        have e3 := E4.cell e1
        have e4 := E4.cell e2
        have S4 := hS1.ext E4
        obtain ⟨kl, hkl⟩ := keyPl (wf_inG (HIN.out k hlt)).1 (wf_inG (HIN.out k hlt)).2
        have hlook0 : ∀ w', Ext ((( wr).alloc (.cells #[.int .i64 (pt l k).1, .int .i64 (pt l k).2] 26))) w' → (Instr.lookup 98 (.map (some w.heap.size)) (.agg #[.int .i64 ((pt l k)).1, .int .i64 ((pt l k)).2]) false).run Try.prog w' = .ok (.bool false) w' := fun w' hw' => by
          have := (S4.ext hw').lookup lawPl Try.underlying98 Try.underlying4 (by kernel_rfl) hkl
          have hm : ¬ pt l k ∈ S := fun h => hmem ((hS2 _).1 h)
          simp only [hm, decide_false] at this
          exact this
        have HLK := Lib.hid hlook0
        have HE4 := Lib.hid (he.trans E4)
        have HM := Lib.hid hmem
        have HS4 := Lib.hid S4
        have HS2 := Lib.hid hS2
        have HKL := Lib.hid hkl
        clear hmem S4 hS1 hS2 hkl hs hlook0
        by_cases hk0 : k = 0
        · have hd : decide (0 < k) = false := by simp; omega
          have HK0 := Lib.hid hk0
          clear hk0
          go_wp2_with fail
          generalize ((( wr).alloc (.cells #[.int .i64 (pt l k).1, .int .i64 (pt l k).2] 26))) = W at HLK c1 c2 e3 e4 E4 HE4 HS4 ⊢
          have hlook : ∀ n, (Instr.lookup 98 (.map (some w.heap.size)) (.agg #[.int .i64 ((pt l k)).1, .int .i64 ((pt l k)).2]) false).run Try.prog (W.drewN n) = .ok (.bool false) (W.drewN n) := fun n => HLK.out _ ((Ext.refl _).drewN n)
          go_quiet (fail)
          clear hlook
          have EN : Ext W (W.drewN nq) := (Ext.refl _).drewN _
          have c1 := EN.cell c1
          have c2 := EN.cell c2
          have S5 := Lib.hid (HS4.out.ext EN)
          have HE5 := Lib.hid (HE4.out.trans EN)
          generalize W.drewN nq = W5 at EN c1 c2 S5 HE5 ⊢
          obtain ⟨S5a, hS5, hS5b⟩ := (show ∃ S, SetAt Try.prog 26 4 evPl W5 w.heap.size k S ∧ ∀ x, x ∈ S ↔ x ∈ l.take k from ⟨_, S5.out, HS2.out⟩)
          obtain ⟨w6, hup, hS6, hg6⟩ := hS5.update (t := 98) lawPl Try.underlying98 Try.underlying4 (by unfold maxLen; omega) evPl_inj HKL.out
          have HS6 : Hid (∃ S, SetAt Try.prog 26 4 evPl w6 w.heap.size (k + 1) S ∧ ∀ x, x ∈ S ↔ x ∈ l.take (k + 1)) := ⟨_, hS6, fun x => by have h0 := setStep hlt hS5b x; split at h0 <;> split <;> first | exact h0 | contradiction⟩
          have HG6 := Lib.hid hg6
          unfold evPl at hup
          clear hS5 hS5b hS6 hg6
          go_wp2
          refine ⟨⟨k + 1, by omega, by go_num, ?_, HE5.out.grown HG6.out HE5.out.size (fun j hj => by cases hj; exact Nat.le_refl _), HS6⟩, by simp [intOf]; omega⟩
          show _ = _
          rw [hn.out, show l.length - k = (l.length - (k + 1)) + 1 from by omega]
          conv => lhs; unfold jFrom
          rw [if_neg HM.out, if_neg (fun h => h.1 HK0.out)]
        · have hd : decide (0 < k) = true := by simp; omega
          obtain ⟨b', off', ha', f1, f2⟩ := HL.out.ext (he.trans E4) (k - 1) (by omega)
          cases ha'
          have hk1 : 0 < k := by omega
          have q1 : ((k : Int) - 1).toNat = k - 1 := by omega
          have q2 : (1 : Int) ≤ (k : Int) := by omega
          have q3 : 1 ≤ k := by omega
          have q4 : (k : Int) - 1 < (l.length : Int) := by omega
          have q5 : 0 ≤ (k : Int) - 1 := by omega
          have q6 : IntKind.i64.wrap ((k : Int) - 1) = (k : Int) - 1 := IntWalk.i64_in _ (by omega)
          have i1 := Lib.hid (HIN.out (k - 1) (by omega))
          have i2 := Lib.hid (HIN.out k hlt)
          have HK0 := Lib.hid hk0
          clear hk0
          go_wp2_with fail
          have zW : wr.heap.size < ((( wr).alloc (.cells #[.int .i64 (pt l k).1, .int .i64 (pt l k).2] 26))).heap.size := by simp
          generalize ((( wr).alloc (.cells #[.int .i64 (pt l k).1, .int .i64 (pt l k).2] 26))) = W at HLK c1 c2 e3 e4 E4 HE4 HS4 f1 f2 zW ⊢
          have zb := cell_lt f1
          dsimp only at zb
          have hlook : (Instr.lookup 98 (.map (some w.heap.size)) (.agg #[.int .i64 ((pt l k)).1, .int .i64 ((pt l k)).2]) false).run Try.prog W.drew = .ok (.bool false) W.drew := HLK.out _ (Ext.refl _).drew
          by_cases hdist : awayI (pt l (k - 1)) (pt l k) = 1
          · have HD := Lib.hid hdist
            go_region_held3 (fun w' => Sees W w') ((repeat (first | exact Sees.refl _ | assumption | apply Sees.drew | apply Sees.alloc | (refine Sees.ext ?_ (by assumption))))) (first | (go_at_call 81; refine (away_any (pt l (k - 1)) (pt l k) _ i1.out i2.out).mono ?_; rintro e w' ⟨rfl, hE2⟩))
            have hSS := (show Sees W _ by assumption).2.2
            have c1 := hSS.cell c1
            have c2 := hSS.cell c2
            have S5 := Lib.hid (HS4.out.ext hSS)
            have HE5 := Lib.hid (HE4.out.trans hSS)
            clear hlook
            clear e3 e4 f1 f2 hSS
            generalize w' = W5 at c1 c2 S5 HE5 ⊢
            obtain ⟨S5a, hS5, hS5b⟩ := (show ∃ S, SetAt Try.prog 26 4 evPl W5 w.heap.size k S ∧ ∀ x, x ∈ S ↔ x ∈ l.take k from ⟨_, S5.out, HS2.out⟩)
            obtain ⟨w6, hup, hS6, hg6⟩ := hS5.update (t := 98) lawPl Try.underlying98 Try.underlying4 (by unfold maxLen; omega) evPl_inj HKL.out
            have HS6 : Hid (∃ S, SetAt Try.prog 26 4 evPl w6 w.heap.size (k + 1) S ∧ ∀ x, x ∈ S ↔ x ∈ l.take (k + 1)) := ⟨_, hS6, fun x => by have h0 := setStep hlt hS5b x; split at h0 <;> split <;> first | exact h0 | contradiction⟩
            have HG6 := Lib.hid hg6
            unfold evPl at hup
            clear hS5 hS5b hS6 hg6
            go_wp2
            refine ⟨⟨k + 1, by omega, by go_num, ?_, HE5.out.grown HG6.out HE5.out.size (fun j hj => by cases hj; exact Nat.le_refl _), HS6⟩, by simp [intOf]; omega⟩
            show _ = _
            rw [hn.out, show l.length - k = (l.length - (k + 1)) + 1 from by omega]
            conv => lhs; unfold jFrom
            rw [if_neg HM.out, if_neg (fun h => h.2 HD.out)]
          · have hd1 : (awayI (pt l (k - 1)) (pt l k) == 1) = false := by simpa using hdist
            have HD := Lib.hid hdist
            clear hdist
            go_region_held3 (fun w' => Sees W w') ((repeat (first | exact Sees.refl _ | assumption | apply Sees.drew | apply Sees.alloc | (refine Sees.ext ?_ (by assumption))))) (first | (go_at_call 81; refine (away_any (pt l (k - 1)) (pt l k) _ i1.out i2.out).mono ?_; rintro e w' ⟨rfl, hE2⟩))
            have hSS := (show Sees W _ by assumption).2.2
            go_wp2
            go_ret
            refine ⟨ret_bool ?_, HE4.out.trans hSS⟩
            rw [hn.out, show l.length - k = (l.length - (k + 1)) + 1 from by omega]
            unfold jFrom
            rw [if_neg HM.out, if_pos ⟨HK0.out, HD.out⟩]
    · go_wp2
      go_ret
      exact ⟨ret_bool (by rw [hn.out, show l.length - k = 0 from by omega]; rfl), he⟩
end Go.Proofs.Ytfigooilhnahfaa
