/- Whether two lists of places are the same. -/
import Derived.Test.YtfigooilhnahfaaGrid
namespace Go.Proofs.Ytfigooilhnahfaa
open Go.RowKit

theorem pts_ext {l m : List Pt} (hl : l.length = m.length) (h : ∀ j, j < l.length → pt l j = pt m j) : l = m := by
  refine List.ext_getElem hl fun i h1 h2 => ?_
  have := h i h1
  unfold pt at this
  rw [List.getD_eq_getElem?_getD, List.getD_eq_getElem?_getD, List.getElem?_eq_getElem h1, List.getElem?_eq_getElem h2] at this
  simpa using this

set_option maxHeartbeats 1000000 in
theorem Same_any (l m : List Pt) (a a' : Option Addr) (cap cap' : Nat) (w : World) (hl : l.length ≤ maxLen) (hc : Cells2 w a l) (hd : Cells2 w a' m) :
    Calls Try.prog 31 #[.slice a l.length cap, .slice a' m.length cap'] w fun e w' => e = .returned (.bool (decide (l = m))) ∧ Ext w w' := by
  unfold maxLen at hl
  by_cases hlen : l.length = m.length
  · have HLE := Lib.hid hlen
    have hle : ((l.length : Int) != (m.length : Int)) = false := by simp [hlen]
    have hle2 : (l.length != m.length) = false := by simp [hlen]
    clear hlen
    go_enter Try.func31, Try.ntmps31
    go_wp2
    go_loopw [5] (fun i wr => ∃ k : Nat, k ≤ l.length ∧ i = .int .i64 k ∧ Hid (∀ j, j < k → pt l j = pt m j) ∧ Ext w wr) (fun i _ => l.length - (intOf i).toNat)
    case atStart => exact ⟨0, Nat.zero_le _, rfl, fun j hj => by omega, Ext.refl _⟩
    case round =>
      obtain ⟨k, hk, rfl, hn, he⟩ := hrel
      by_cases hlt : k < l.length
      · obtain ⟨b, off, ha, e1, e2⟩ := hc.ext he k hlt
        obtain ⟨b', off', ha', d1, d2⟩ := hd.ext he k (by have := HLE.out; omega)
        have HC : Hid (Cells2 w a l) := hc
        have HD : Hid (Cells2 w a' m) := hd
        subst ha ha'
        clear hc hd
        have hkm : (k : Int) < (m.length : Int) := by have := HLE.out; omega
        by_cases heq : pt l k = pt m k
        · have HN : Hid (pt l k = pt m k) := heq
          rw [heq] at e1 e2
          clear heq
          go_wp2
          go_quiet (fail)
          go_wp2
          refine ⟨⟨k + 1, by omega, by go_num, fun j hj => ?_, he.drewN _⟩, by simp [intOf]; omega⟩
          by_cases e : j = k
          · subst e; exact HN.out
          · exact hn.out j (by omega)
        · have hne : Hid (l ≠ m) := by rintro rfl; exact heq rfl
          by_cases h1 : (pt l k).1 = (pt m k).1
          · have h2 : ((pt l k).2 == (pt m k).2) = false := by
              cases hb : ((pt l k).2 == (pt m k).2)
              · rfl
              · exact absurd (Prod.ext h1 (by simpa using hb)) heq
            rw [h1] at e1
            clear heq h1
            go_wp2
            go_quiet (fail)
            go_wp2
            go_ret
            exact ⟨ret_bool (by simp [hne.out]), he.drewN _⟩
          · have h2 : ((pt l k).1 == (pt m k).1) = false := by simpa using h1
            clear heq h1
            go_wp2
            go_quiet (fail)
            go_wp2
            go_ret
            exact ⟨ret_bool (by simp [hne.out]), he.drewN _⟩
      · go_wp2
        go_ret
        refine ⟨ret_bool ?_, he⟩
        symm
        rw [decide_eq_true_eq]
        exact pts_ext HLE.out (fun j hj => hn.out j (by omega))
  · have hne : l ≠ m := by rintro rfl; exact hlen rfl
    have hle : ((l.length : Int) != (m.length : Int)) = true := by simp; omega
    have hle2 : (l.length != m.length) = true := by simp; omega
    have hle3 : ((l.length : Int) == (m.length : Int)) = false := by simp; omega
    have hle4 : (l.length == m.length) = false := by simp; omega
    have HNE := Lib.hid hne
    clear hne hlen
    go_enter Try.func31, Try.ntmps31
    go_wp2
    go_ret
    exact ⟨ret_bool (by simp [HNE.out]), Ext.refl _⟩

set_option maxHeartbeats 1000000 in
theorem EqualP_any (l m : List Pt) (a a' : Option Addr) (cap cap' : Nat) (w : World) (hl : l.length ≤ maxLen) (hc : Cells2 w a l) (hd : Cells2 w a' m) :
    Calls Try.prog 46 #[.slice a l.length cap, .slice a' m.length cap'] w fun e w' => e = .returned (.bool (decide (l = m))) ∧ Ext w w' := by
  unfold maxLen at hl
  by_cases hlen : l.length = m.length
  · have HLE := Lib.hid hlen
    have hle : ((l.length : Int) != (m.length : Int)) = false := by simp [hlen]
    have hle2 : (l.length != m.length) = false := by simp [hlen]
    clear hlen
    go_enter Try.func46, Try.ntmps46
    go_wp2
    go_loopw [13] (fun i wr => ∃ k : Nat, k ≤ l.length ∧ i = .int .i64 k ∧ Hid (∀ j, j < k → pt l j = pt m j) ∧ Ext w wr) (fun i _ => l.length - (intOf i).toNat)
    case atStart => exact ⟨0, Nat.zero_le _, rfl, fun j hj => by omega, Ext.refl _⟩
    case round =>
      obtain ⟨k, hk, rfl, hn, he⟩ := hrel
      by_cases hlt : k < l.length
      · obtain ⟨b, off, ha, e1, e2⟩ := hc.ext he k hlt
        obtain ⟨b', off', ha', d1, d2⟩ := hd.ext he k (by have := HLE.out; omega)
        have HC : Hid (Cells2 w a l) := hc
        have HD : Hid (Cells2 w a' m) := hd
        subst ha ha'
        clear hc hd
        have hkm : (k : Int) < (m.length : Int) := by have := HLE.out; omega
        by_cases heq : pt l k = pt m k
        · have HN : Hid (pt l k = pt m k) := heq
          rw [heq] at e1 e2
          clear heq
          go_wp2
          go_quiet (fail)
          go_wp2
          refine ⟨⟨k + 1, by omega, by go_num, fun j hj => ?_, he.drewN _⟩, by simp [intOf]; omega⟩
          by_cases e : j = k
          · subst e; exact HN.out
          · exact hn.out j (by omega)
        · have hne : Hid (l ≠ m) := by rintro rfl; exact heq rfl
          by_cases h1 : (pt l k).1 = (pt m k).1
          · have h2 : ((pt l k).2 == (pt m k).2) = false := by
              cases hb : ((pt l k).2 == (pt m k).2)
              · rfl
              · exact absurd (Prod.ext h1 (by simpa using hb)) heq
            rw [h1] at e1
            clear heq h1
            go_wp2
            go_quiet (fail)
            go_wp2
            go_ret
            exact ⟨ret_bool (by simp [hne.out]), he.drewN _⟩
          · have h2 : ((pt l k).1 == (pt m k).1) = false := by simpa using h1
            clear heq h1
            go_wp2
            go_quiet (fail)
            go_wp2
            go_ret
            exact ⟨ret_bool (by simp [hne.out]), he.drewN _⟩
      · go_wp2
        go_ret
        refine ⟨ret_bool ?_, he⟩
        symm
        rw [decide_eq_true_eq]
        exact pts_ext HLE.out (fun j hj => hn.out j (by omega))
  · have hne : l ≠ m := by rintro rfl; exact hlen rfl
    have hle : ((l.length : Int) != (m.length : Int)) = true := by simp; omega
    have hle2 : (l.length != m.length) = true := by simp; omega
    have hle3 : ((l.length : Int) == (m.length : Int)) = false := by simp; omega
    have hle4 : (l.length == m.length) = false := by simp; omega
    have HNE := Lib.hid hne
    clear hne hlen
    go_enter Try.func46, Try.ntmps46
    go_wp2
    go_ret
    exact ⟨ret_bool (by simp [HNE.out]), Ext.refl _⟩
end Go.Proofs.Ytfigooilhnahfaa
