/- Whether two lists of numbers are the same. -/
import Derived.Test.YtfigooilhnahfaaOwnI
namespace Go.Proofs.Ytfigooilhnahfaa
open Go.RowKit

set_option maxHeartbeats 1000000 in
theorem EqualI_any (l m : List Int) (a a' : Option Addr) (cap cap' : Nat) (w : World) (hl : l.length ≤ maxLen) (hc : CellsI w a l) (hd : CellsI w a' m) :
    Calls Try.prog 47 #[.slice a l.length cap, .slice a' m.length cap'] w fun e w' => e = .returned (.bool (decide (l = m))) ∧ Ext w w' := by
  unfold maxLen at hl
  by_cases hlen : l.length = m.length
  · have HLE := Lib.hid hlen
    have hle : ((l.length : Int) != (m.length : Int)) = false := by simp [hlen]
    have hle2 : (l.length != m.length) = false := by simp [hlen]
    clear hlen
    go_enter Try.func47, Try.ntmps47
    go_wp2
    go_loopw [13] (fun i wr => ∃ k : Nat, k ≤ l.length ∧ i = .int .i64 k ∧ Hid (∀ j, j < k → l.getD j 0 = m.getD j 0) ∧ Ext w wr) (fun i _ => l.length - (intOf i).toNat)
    case atStart => exact ⟨0, Nat.zero_le _, rfl, fun j hj => by omega, Ext.refl _⟩
    case round =>
      obtain ⟨k, hk, rfl, hn, he⟩ := hrel
      by_cases hlt : k < l.length
      · obtain ⟨b, off, ha, e1⟩ := hc.ext he k hlt
        obtain ⟨b', off', ha', d1⟩ := hd.ext he k (by have := HLE.out; omega)
        have HC : Hid (CellsI w a l) := hc
        have HD : Hid (CellsI w a' m) := hd
        subst ha ha'
        clear hc hd
        have hkm : (k : Int) < (m.length : Int) := by have := HLE.out; omega
        generalize hx : l.getD k 0 = x at e1
        generalize hy : m.getD k 0 = y at d1
        have HX := Lib.hid hx
        have HY := Lib.hid hy
        clear hx hy
        by_cases heq : x = y
        · subst heq
          go_wp2
          go_quiet (fail)
          go_wp2
          refine ⟨⟨k + 1, by omega, by go_num, fun j hj => ?_, he.drewN _⟩, by simp [intOf]; omega⟩
          by_cases e : j = k
          · subst e; rw [HX.out, HY.out]
          · exact hn.out j (by omega)
        · have hne : Hid (l ≠ m) := by rintro rfl; exact heq (HX.out.symm.trans HY.out)
          have h2 : (x == y) = false := by simpa using heq
          have h3 : (x != y) = true := by simpa using heq
          clear heq
          go_wp2
          go_quiet (fail)
          go_wp2
          go_ret
          exact ⟨ret_bool (by simp [hne.out]), he.drewN _⟩
      · go_wp2
        go_ret
        refine ⟨ret_bool ?_, he⟩
        symm
        rw [decide_eq_true_eq]
        refine List.ext_getElem HLE.out fun i h1 h2 => ?_
        have := hn.out i (by omega)
        rw [List.getD_eq_getElem?_getD, List.getD_eq_getElem?_getD, List.getElem?_eq_getElem h1, List.getElem?_eq_getElem h2] at this
        simpa using this
  · have hne : l ≠ m := by rintro rfl; exact hlen rfl
    have hle : ((l.length : Int) != (m.length : Int)) = true := by simp; omega
    have hle2 : (l.length != m.length) = true := by simp; omega
    have hle3 : ((l.length : Int) == (m.length : Int)) = false := by simp; omega
    have hle4 : (l.length == m.length) = false := by simp; omega
    have HNE := Lib.hid hne
    clear hne hlen
    go_enter Try.func47, Try.ntmps47
    go_wp2
    go_ret
    exact ⟨ret_bool (by simp [HNE.out]), Ext.refl _⟩

set_option maxHeartbeats 1000000 in
theorem SameInts_any (l m : List Int) (a a' : Option Addr) (cap cap' : Nat) (w : World) (hl : l.length ≤ maxLen) (hc : CellsI w a l) (hd : CellsI w a' m) :
    Calls Try.prog 26 #[.slice a l.length cap, .slice a' m.length cap'] w fun e w' => e = .returned (.bool (decide (l = m))) ∧ Ext w w' := by
  unfold maxLen at hl
  by_cases hlen : l.length = m.length
  · have HLE := Lib.hid hlen
    have hle : ((l.length : Int) != (m.length : Int)) = false := by simp [hlen]
    have hle2 : (l.length != m.length) = false := by simp [hlen]
    clear hlen
    go_enter Try.func26, Try.ntmps26
    go_wp2
    go_loopw [5] (fun i wr => ∃ k : Nat, k ≤ l.length ∧ i = .int .i64 k ∧ Hid (∀ j, j < k → l.getD j 0 = m.getD j 0) ∧ Ext w wr) (fun i _ => l.length - (intOf i).toNat)
    case atStart => exact ⟨0, Nat.zero_le _, rfl, fun j hj => by omega, Ext.refl _⟩
    case round =>
      obtain ⟨k, hk, rfl, hn, he⟩ := hrel
      by_cases hlt : k < l.length
      · obtain ⟨b, off, ha, e1⟩ := hc.ext he k hlt
        obtain ⟨b', off', ha', d1⟩ := hd.ext he k (by have := HLE.out; omega)
        have HC : Hid (CellsI w a l) := hc
        have HD : Hid (CellsI w a' m) := hd
        subst ha ha'
        clear hc hd
        have hkm : (k : Int) < (m.length : Int) := by have := HLE.out; omega
        generalize hx : l.getD k 0 = x at e1
        generalize hy : m.getD k 0 = y at d1
        have HX := Lib.hid hx
        have HY := Lib.hid hy
        clear hx hy
        by_cases heq : x = y
        · subst heq
          go_wp2
          go_quiet (fail)
          go_wp2
          refine ⟨⟨k + 1, by omega, by go_num, fun j hj => ?_, he.drewN _⟩, by simp [intOf]; omega⟩
          by_cases e : j = k
          · subst e; rw [HX.out, HY.out]
          · exact hn.out j (by omega)
        · have hne : Hid (l ≠ m) := by rintro rfl; exact heq (HX.out.symm.trans HY.out)
          have h2 : (x == y) = false := by simpa using heq
          have h3 : (x != y) = true := by simpa using heq
          clear heq
          go_wp2
          go_quiet (fail)
          go_wp2
          go_ret
          exact ⟨ret_bool (by simp [hne.out]), he.drewN _⟩
      · go_wp2
        go_ret
        refine ⟨ret_bool ?_, he⟩
        symm
        rw [decide_eq_true_eq]
        refine List.ext_getElem HLE.out fun i h1 h2 => ?_
        have := hn.out i (by omega)
        rw [List.getD_eq_getElem?_getD, List.getD_eq_getElem?_getD, List.getElem?_eq_getElem h1, List.getElem?_eq_getElem h2] at this
        simpa using this
  · have hne : l ≠ m := by rintro rfl; exact hlen rfl
    have hle : ((l.length : Int) != (m.length : Int)) = true := by simp; omega
    have hle2 : (l.length != m.length) = true := by simp; omega
    have hle3 : ((l.length : Int) == (m.length : Int)) = false := by simp; omega
    have hle4 : (l.length == m.length) = false := by simp; omega
    have HNE := Lib.hid hne
    clear hne hlen
    go_enter Try.func26, Try.ntmps26
    go_wp2
    go_ret
    exact ⟨ret_bool (by simp [HNE.out]), Ext.refl _⟩
end Go.Proofs.Ytfigooilhnahfaa
