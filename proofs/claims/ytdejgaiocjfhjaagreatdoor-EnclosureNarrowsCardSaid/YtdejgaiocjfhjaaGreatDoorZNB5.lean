/- Steps of the proof: FTxtR, FSplR, FSig, FParse, FChkR, FSumN. No conditions. -/
import Derived.Test.YtdejgaiocjfhjaaGreatDoorZNB1
import Derived.Test.YtdejgaiocjfhjaaGreatDoorZNB2
import Derived.Test.YtdejgaiocjfhjaaGreatDoorZNB3
import Derived.Test.YtdejgaiocjfhjaaGreatDoorZNB4
namespace Go.Proofs.YtdejgaiocjfhjaaGreatDoor
open Go.RowKit
open Go.Lib (decDigits)
set_option maxHeartbeats 4000000 in
set_option maxRecDepth 100000 in
theorem bareR_any (s : Txt) (w : World) (hl : s.length ≤ 400) :
    Calls Tryz.prog 105 #[txt s] w fun e w' => e = .returned (txt (bareS s)) ∧ w' = w := by
  cases s with
  | nil =>
    go_enter Tryz.func105, Tryz.ntmps105
    go_wp2
    go_ret
    exact ⟨rfl, rfl⟩
  | cons c m =>
    have hl2 : m.length + 1 ≤ 400 := by simpa using hl
    have hget : ∀ h, (⟨(c :: m).toArray⟩ : ByteArray)[0]'h = c := fun _ => rfl
    have hpos : 0 < (c :: m).length := by simp
    by_cases hc : c = 45
    · subst hc
      have hb : Hid (bareS (45 :: m) = m) := by show _ = _; unfold bareS negS; rfl
      have hex := extract_txt (45 :: m) 1 (45 :: m).length
      rw [List.take_length] at hex
      have h1 : (1 : Int) ≤ ((45 :: m : Txt).length : Int) := by simp; omega
      go_enter Tryz.func105, Tryz.ntmps105
      go_wp2
      go_ret
      rw [hb.out]
      exact ⟨congrArg (fun z => Ending.returned (Value.string z)) hex, rfl⟩
    · have hb : Hid (bareS (c :: m) = c :: m) := by
        show _ = _
        unfold bareS negS
        rw [if_neg (by simpa using hc)]
      have hne : ((c.toNat : Int) == 45) = false := by
        rw [beq_eq_false_iff_ne]
        intro e
        exact hc (UInt8.toNat_inj.1 (by show c.toNat = 45; omega))
      go_enter Tryz.func105, Tryz.ntmps105
      go_wp2
      go_ret
      rw [hb.out]
      exact ⟨rfl, rfl⟩
theorem bare_le (s : Txt) : (bareS s).length ≤ s.length := by
  unfold bareS
  split
  · rw [List.length_tail]; omega
  · exact Nat.le_refl _
theorem bool_of {p : Prop} [Decidable p] {b : Bool} (h : b = true ↔ p) : decide p = b := by
  cases b with
  | true => exact decide_eq_true (h.1 rfl)
  | false => exact decide_eq_false (fun k => by cases h.2 k)
theorem digitL_succ {d : Txt} {k : Nat} (h : DigitL (d.take k)) (hk : k < d.length) (hd : 48 ≤ d[k].toNat ∧ d[k].toNat ≤ 57) : DigitL (d.take (k + 1)) := fun c hc => by
  rw [List.take_add_one, List.getElem?_eq_getElem hk] at hc
  rcases List.mem_append.1 hc with h1 | h1
  · exact h c h1
  · have : c = d[k] := by simpa using h1
    rw [this]; exact hd
set_option maxHeartbeats 4000000 in
set_option maxRecDepth 100000 in
theorem textR_any (s : Txt) (w : World) (hl : s.length ≤ 400) :
    Calls Tryz.prog 138 #[txt s] w fun e w' => e = .returned (.bool (decide (IntS s))) ∧ w' = w := by
  have HB := Lib.hid (fun W => bareR_any s W hl)
  have HI : Hid (∀ b : Bool, (b = true ↔ CanonL (bareS s) ∧ s ≠ [45, 48]) → decide (IntS s) = b) := fun b h => bool_of h
  have HN : Hid (negS s = false → bareS s = s) := fun h => bare_pos h
  have HN2 : Hid (negS s = true → s = 45 :: bareS s) := fun h => neg_cons h
  have hdl := bare_le s
  obtain ⟨f, hf⟩ : ∃ f, f = decide (IntS s) := ⟨_, rfl⟩
  rw [← hf]
  have HF := Lib.hid hf
  clear hf
  generalize bareS s = d at *
  by_cases hd : d = []
  · subst hd
    have hF : Hid (f = false) := HF.out.trans (HI.out false ⟨(fun h => by cases h), fun h => absurd rfl h.1.2.1⟩)
    clear HI HF HN HN2
    go_enter Tryz.func138, Tryz.ntmps138
    go_wp2_with (go_at_call 105; refine (HB.out _).mono ?_; rintro e w' ⟨rfl, rfl⟩)
    go_ret
    exact ⟨ret_bool hF.out.symm, rfl⟩
  · obtain ⟨c, m, rfl⟩ := List.exists_cons_of_ne_nil hd
    clear hd
    have hget : ∀ h, (⟨(c :: m).toArray⟩ : ByteArray)[0]'h = c := fun _ => rfl
    have hpos : 0 < (c :: m).length := by simp
    have hnz : (((c :: m : Txt).length : Int) == 0) = false := by rw [beq_eq_false_iff_ne]; simp; omega
    have hpos2 : 1 ≤ (c :: m).length := by simp
    have hcc : c = 48 ∨ ((c.toNat : Int) == 48) = false := by
      by_cases h : c = 48
      · exact .inl h
      · refine .inr ?_
        rw [beq_eq_false_iff_ne]
        intro e
        exact h (UInt8.toNat_inj.1 (by show c.toNat = 48; omega))
    by_cases hbad : c = 48 ∧ 1 < s.length
    · obtain ⟨rfl, hs1⟩ := hbad
      have hF : Hid (f = false) := HF.out.trans (HI.out false ⟨(fun h => by cases h), fun h => by
        exfalso
        obtain ⟨⟨_, _, h3⟩, h4⟩ := h
        rcases h3 with h3 | h3
        · exact h3 rfl
        · have hm : m = [] := by simpa using h3
          subst hm
          cases hn : negS s with
          | false => rw [← HN.out hn] at hs1; simp at hs1
          | true => exact h4 (HN2.out hn)⟩)
      have hs2 : (1 : Int) < (s.length : Int) := by omega
      clear HI HF HN HN2 hcc
      go_enter Tryz.func138, Tryz.ntmps138
      go_wp2_with (go_at_call 105; refine (HB.out _).mono ?_; rintro e w' ⟨rfl, rfl⟩)
      go_ret
      exact ⟨ret_bool hF.out.symm, rfl⟩
    · have HR : Hid (f = decide (DigitL (c :: m))) := by
        refine HF.out.trans (HI.out _ ⟨fun h => ?_, fun h => decide_eq_true h.1.1⟩)
        have hdig := of_decide_eq_true h
        refine ⟨⟨hdig, by simp, ?_⟩, ?_⟩
        · by_cases h48 : c = 48
          · subst h48
            have hs1 : s.length ≤ 1 := by
              rcases Nat.lt_or_ge 1 s.length with h5 | h5
              · exact absurd ⟨rfl, h5⟩ hbad
              · exact h5
            have hm : m = [] := List.length_eq_zero_iff.1 (by simp at hdl; omega)
            exact .inr (by rw [hm])
          · exact .inl (by simpa using h48)
        · intro e
          subst e
          have h5 := HN2.out rfl
          simp only [List.cons.injEq, true_and] at h5
          exact hbad ⟨h5.1.symm, by simp⟩
      have hs2 : c = 48 → ¬ (1 : Int) < (s.length : Int) := fun h => by
        rcases Nat.lt_or_ge 1 s.length with h5 | h5
        · exact absurd ⟨h, h5⟩ hbad
        · omega
      clear HI HF HN HN2 hbad
      have hcc2 : (((c.toNat : Int) == 48) = true ∧ ¬ (1 : Int) < (s.length : Int)) ∨ ((c.toNat : Int) == 48) = false := by
        rcases hcc with h | h
        · exact .inl ⟨by rw [h]; rfl, hs2 h⟩
        · exact .inr h
      clear hcc hs2 hpos2
      generalize hdd : (c :: m : Txt) = d at *
      clear hdd
      rcases hcc2 with ⟨hcc, hs3⟩ | hcc
      all_goals
        go_enter Tryz.func138, Tryz.ntmps138
        go_wp2_with (go_at_call 105; refine (HB.out _).mono ?_; rintro e w' ⟨rfl, rfl⟩)
        have hdl4 : d.length ≤ 400 := by omega
        go_loop [4] (fun i => ∃ k : Nat, k ≤ d.length ∧ i = .int .i64 k ∧ Hid (DigitL (d.take k))) (fun i => d.length - (intOf i).toNat)
        case atStart => exact ⟨0, by omega, rfl, (fun c hc => by simp at hc)⟩
        case round =>
          obtain ⟨k, hk, rfl, hD⟩ := hrel
          by_cases hlt : k < d.length
          · obtain ⟨x, hx⟩ : ∃ x, x = d[k]'hlt := ⟨_, rfl⟩
            have hgx : ∀ h, (⟨d.toArray⟩ : ByteArray)[k]'h = x := fun h => by rw [hx]; rfl
            have hkl : (k : Int) < (d.length : Int) := by omega
            by_cases hgd : 48 ≤ x.toNat ∧ x.toNat ≤ 57
            · have HD2 := Lib.hid (digitL_succ hD.out hlt (hx ▸ hgd))
              obtain ⟨hg1, hg2⟩ := hgd
              have hg3 : ¬ ((x.toNat : Int) < 48) := by omega
              have hg4 : ¬ (57 < (x.toNat : Int)) := by omega
              clear hx hD
              go_wp2
              refine ⟨⟨k + 1, by omega, by go_num, HD2⟩, by simp [intOf]; omega⟩
            · have hF : Hid (f = false) := by
                show _ = _
                rw [HR.out]
                exact decide_eq_false (fun h => hgd (h x (by rw [hx]; exact List.getElem_mem _)))
              clear hx hD HR
              by_cases hg1 : (x.toNat : Int) < 48
              · go_wp2
                go_ret
                exact ⟨ret_bool hF.out.symm, rfl⟩
              · have hg2 : 57 < (x.toNat : Int) := by omega
                go_wp2
                go_ret
                exact ⟨ret_bool hF.out.symm, rfl⟩
          · have hkd : k = d.length := by omega
            have hF : Hid (f = true) := by
              show _ = _
              rw [HR.out]
              have h1 := hD.out
              rw [hkd, List.take_length] at h1
              exact decide_eq_true h1
            clear hD HR hkd
            go_wp2
            go_ret
            exact ⟨ret_bool hF.out.symm, rfl⟩
set_option maxHeartbeats 4000000 in
set_option maxRecDepth 100000 in
theorem integerR_any (s : Txt) (w : World) (hl : s.length ≤ 400) :
    Calls Tryz.prog 100 #[txt s] w fun e w' => e = .returned (.int .i64 (intE s : Nat)) ∧ w' = w := by
  have HB := Lib.hid (fun W => bareR_any s W hl)
  have HT := Lib.hid (fun W => textR_any s W hl)
  have hbl := bare_le s
  by_cases h1 : IntS s
  · rw [decide_eq_true h1] at HT
    by_cases h2 : 60 < (bareS s).length
    · have hE : Hid (intE s = 11) := by show _ = _; unfold intE; rw [if_neg (not_not_intro h1), if_pos h2]
      have h3 : (60 : Int) < ((bareS s).length : Int) := by omega
      clear h1
      rw [hE.out]
      generalize bareS s = d at *
      go_enter Tryz.func100, Tryz.ntmps100
      go_wp2_with (first
        | (go_at_call 105; refine (HB.out _).mono ?_; rintro e w' ⟨rfl, rfl⟩)
        | (go_at_call 138; refine (HT.out _).mono ?_; rintro e w' ⟨rfl, rfl⟩))
      go_ret
      exact ⟨rfl, rfl⟩
    · have hE : Hid (intE s = 0) := by show _ = _; unfold intE; rw [if_neg (not_not_intro h1), if_neg h2]
      have h3 : ¬ (60 : Int) < ((bareS s).length : Int) := by omega
      clear h1
      rw [hE.out]
      generalize bareS s = d at *
      go_enter Tryz.func100, Tryz.ntmps100
      go_wp2_with (first
        | (go_at_call 105; refine (HB.out _).mono ?_; rintro e w' ⟨rfl, rfl⟩)
        | (go_at_call 138; refine (HT.out _).mono ?_; rintro e w' ⟨rfl, rfl⟩))
      go_ret
      exact ⟨rfl, rfl⟩
  · rw [decide_eq_false h1] at HT
    have hE : Hid (intE s = 3) := by show _ = _; unfold intE; rw [if_pos h1]
    clear h1
    rw [hE.out]
    go_enter Tryz.func100, Tryz.ntmps100
    go_wp2_with (go_at_call 138; refine (HT.out _).mono ?_; rintro e w' ⟨rfl, rfl⟩)
    go_ret
    exact ⟨rfl, rfl⟩
end Go.Proofs.YtdejgaiocjfhjaaGreatDoor
namespace Go.Proofs.YtdejgaiocjfhjaaGreatDoor
open Go.RowKit
open Go.Lib (decDigits)
set_option maxHeartbeats 4000000 in
set_option maxRecDepth 100000 in
theorem slashR_any (a : Txt) (w : World) (hl : a.length ≤ 400) :
    Calls Tryz.prog 101 #[txt a] w fun e w' => e = .returned (.int .i64 (if 47 ∈ a then ((topS a).length : Int) else -1)) ∧ w' = w := by
  obtain ⟨z, hz⟩ : ∃ z : Int, z = if 47 ∈ a then ((topS a).length : Int) else -1 := ⟨_, rfl⟩
  rw [← hz]
  have HZ := Lib.hid hz
  clear hz
  go_enter Tryz.func101, Tryz.ntmps101
  go_wp2
  go_loop [3] (fun i => ∃ k : Nat, k ≤ a.length ∧ i = .int .i64 k ∧ Hid ((47 : UInt8) ∉ a.take k)) (fun i => a.length - (intOf i).toNat)
  case atStart => exact ⟨0, by omega, rfl, by show _ ∉ _; simp⟩
  case round =>
    obtain ⟨k, hk, rfl, hD⟩ := hrel
    by_cases hlt : k < a.length
    · obtain ⟨x, hx⟩ : ∃ x, x = a[k]'hlt := ⟨_, rfl⟩
      have hgx : ∀ h, (⟨a.toArray⟩ : ByteArray)[k]'h = x := fun h => by rw [hx]; rfl
      have hkl : (k : Int) < (a.length : Int) := by omega
      have hsp : a = a.take k ++ x :: a.drop (k + 1) := by rw [hx, List.getElem_cons_drop, List.take_append_drop]
      by_cases h47 : x = 47
      · have hF : Hid (z = (k : Int)) := by
          show _ = _
          have h1 : topS a = a.take k := by
            rw [h47] at hsp
            have h2 := (split_app (a.take k) (a.drop (k + 1)) hD.out).1
            rw [← hsp] at h2
            exact h2
          have hm : (47 : UInt8) ∈ a := by rw [hsp, h47]; simp
          rw [HZ.out, if_pos hm, h1, List.length_take]; omega
        have hg : ((x.toNat : Int) == 47) = true := by rw [h47]; rfl
        clear hx hsp hD h47 HZ
        go_wp2
        go_ret
        rw [hF.out]
        exact ⟨rfl, rfl⟩
      · have hg : ((x.toNat : Int) == 47) = false := by
          rw [beq_eq_false_iff_ne]
          intro e
          exact h47 (UInt8.toNat_inj.1 (by show x.toNat = 47; omega))
        have HD2 : Hid ((47 : UInt8) ∉ a.take (k + 1)) := by
          show _ ∉ _
          rw [List.take_add_one, List.getElem?_eq_getElem hlt, ← hx]
          intro h
          rcases List.mem_append.1 h with h | h
          · exact hD.out h
          · have h9 : 47 = x := by simpa using h
            exact h47 h9.symm
        clear hx hsp hD h47
        go_wp2
        refine ⟨⟨k + 1, by omega, by go_num, HD2⟩, by simp [intOf]; omega⟩
    · have hF : Hid (z = -1) := by
        show _ = _
        have h1 := hD.out
        rw [List.take_of_length_le (by omega)] at h1
        rw [HZ.out, if_neg h1]
      clear hD HZ
      go_wp2
      go_ret
      rw [hF.out]
      exact ⟨rfl, rfl⟩
set_option maxHeartbeats 4000000 in
set_option maxRecDepth 100000 in
theorem splitR_any (a : Txt) (w : World) (hl : a.length ≤ 400) :
    Calls Tryz.prog 99 #[txt a] w fun e w' => e = .returned (.tuple #[txt (topS a), txt (lowS a)]) ∧ Ext w w' := by
  have HS := Lib.hid (fun W => slashR_any a W hl)
  by_cases h47 : (47 : UInt8) ∈ a
  · have hsp := split_some h47
    obtain ⟨t, ht⟩ : ∃ t, t = topS a := ⟨_, rfl⟩
    obtain ⟨l, hll⟩ : ∃ l, l = lowS a := ⟨_, rfl⟩
    rw [if_pos h47] at HS
    rw [← ht, ← hll] at hsp ⊢
    rw [← ht] at HS
    have hal : a.length = t.length + 1 + l.length := by rw [hsp, List.length_append, List.length_cons]; omega
    have e1 := extract_txt a 0 t.length
    have e2 := extract_txt a (t.length + 1) a.length
    have h1 : (a.take t.length).drop 0 = t := by rw [List.drop_zero, hsp, List.take_left']; rfl
    have h2 : (a.take a.length).drop (t.length + 1) = l := by rw [List.take_length, hsp, List.drop_append]; simp
    rw [h1] at e1
    rw [h2] at e2
    have hb1 : (0 : Int) ≤ (t.length : Int) := by omega
    have hb2 : (t.length : Int) ≤ (a.length : Int) := by omega
    obtain ⟨u, hu⟩ : ∃ u, u = t.length + 1 := ⟨_, rfl⟩
    have hw : IntKind.i64.wrap ((t.length : Int) + 1) = (u : Int) := by rw [IntKind.wrap_i64]; omega
    have hb3 : (u : Int) ≤ (a.length : Int) := by omega
    have hb4 : (0 : Int) ≤ (u : Int) := by omega
    have hb5 : ¬ (t.length : Int) < 0 := by omega
    rw [← hu] at e2
    clear ht hll hsp h1 h2 hu h47 hal
    go_enter Tryz.func99, Tryz.ntmps99
    go_wp2_with (go_at_call 101; refine (HS.out _).mono ?_; rintro e w' ⟨rfl, rfl⟩)
    go_quiet (fail)
    go_wp2
    go_ret2
    exact ⟨rfl, extA⟩
  · obtain ⟨h1, h2⟩ := split_none h47
    rw [if_neg h47] at HS
    rw [h1, h2]
    clear h47 h1 h2
    go_enter Tryz.func99, Tryz.ntmps99
    go_wp2_with (go_at_call 101; refine (HS.out _).mono ?_; rintro e w' ⟨rfl, rfl⟩)
    go_ret2
    exact ⟨rfl, Ext.refl _⟩
end Go.Proofs.YtdejgaiocjfhjaaGreatDoor
namespace Go.Proofs.YtdejgaiocjfhjaaGreatDoor
open Go.RowKit
theorem index_slash (s : Txt) : Lib.index s [47] = if 47 ∈ s then ((topS s).length : Int) else -1 := by
  induction s with
  | nil => rfl
  | cons c s ih =>
    unfold Lib.index
    by_cases h : c = 47
    · subst h
      rw [if_pos (by simp [List.isPrefixOf]), if_pos (List.mem_cons_self ..)]
      simp [topS]
    · have h1 : ([47].isPrefixOf (c :: s) : Bool) = false := by
        simp only [List.isPrefixOf, Bool.and_eq_false_imp]
        intro e
        exact absurd (by simpa using e) (fun e => h (Eq.symm e))
      have h2 : topS (c :: s) = c :: topS s := by
        unfold topS
        rw [List.takeWhile_cons, if_pos (by simpa using h)]
      have h3 : (47 ∈ c :: s) ↔ 47 ∈ s := by
        rw [List.mem_cons]
        exact ⟨fun e => e.resolve_left (fun e => h e.symm), .inr⟩
      rw [h1, if_neg (by simp), ih, h2]
      by_cases hm : 47 ∈ s
      · rw [if_pos hm, if_pos (h3.2 hm), if_neg (by rw [beq_iff_eq]; omega)]
        simp
      · rw [if_neg hm, if_neg (fun e => hm (h3.1 e))]
        simp
theorem cut_slash (s : Txt) : Lib.cut s [47] = (topS s, if 47 ∈ s then lowS s else [], decide (47 ∈ s)) := by
  unfold Lib.cut
  rw [index_slash]
  by_cases h : 47 ∈ s
  · rw [if_pos h, if_pos (by omega), if_pos h, decide_eq_true h, Int.toNat_natCast]
    have e := split_some h
    have key : ∀ t u : Txt, (t ++ 47 :: u).take t.length = t ∧ (t ++ 47 :: u).drop (t.length + 1) = u := fun t u =>
      ⟨List.take_left .., by rw [← List.drop_drop, List.drop_left]; rfl⟩
    have k := key (topS s) (lowS s)
    rw [← e] at k
    rw [List.length_singleton, k.1, k.2]
  · rw [if_neg h, if_neg (by omega), if_neg h, decide_eq_false h, (split_none h).1]
theorem Cut_any (s : Txt) (w : World) (hG : Glob w) (hl : s.length ≤ 1000) :
    Calls Tryz.prog 127 #[txt s, txt [47]] w fun e w' => e = .returned (.tuple #[txt (topS s), txt (if 47 ∈ s then lowS s else []), .bool (decide (47 ∈ s))]) ∧ Ext w w' := by
  obtain ⟨m, hm⟩ := hG.len
  refine (Tryz.strings_Cut ⟨s.toArray⟩ ⟨#[47]⟩ m w (by show s.toArray.size < _; simp; omega) hm).mono fun e w' h => ?_
  have := cut_slash s
  obtain ⟨h1, n, rfl⟩ := h
  refine ⟨?_, Ext.drewN (Ext.refl w) n⟩
  have e1 : ((⟨s.toArray⟩ : ByteArray).data.toList) = s := rfl
  have e2 : ((⟨#[47]⟩ : ByteArray).data.toList) = [47] := rfl
  rw [e1, e2, this] at h1
  exact h1
def NewB (x : Nat) (w : World) (e : Ending) (w' : World) : Prop := ∃ a c, e = .returned (.slice a (toB 1000000000 x).length c) ∧ CellsN .u64 w' a (toB 1000000000 x) ∧ (∀ p, a = some p → w.heap.size ≤ p.block) ∧ Ext w w'
theorem OwnNPost.newB {x : Nat} {w : World} {e : Ending} {w' : World} (h : OwnNPost .u64 161 (toB 1000000000 x) w e w') : NewB x w e w' := by
  obtain ⟨v, h1, h2, h3, h4⟩ := h
  obtain ⟨a, c, rfl, h5, _⟩ := h2.reads
  exact ⟨a, c, h1, h5, (fun p hp => h3 p.block (by rw [hp]; rfl)), h4⟩
theorem CellsN.set {k : IntKind} {A : World} {a : Option Addr} {l : List Nat} (h : CellsN k A a l) {c o : Nat} {v : Value} (hn : ∀ p, a = some p → p.block ≠ c) : CellsN k (A.setCell ⟨c, o, none⟩ v) a l := fun i hi => by
  obtain ⟨b, off, h1, h2⟩ := h i hi
  refine ⟨b, off, h1, ?_⟩
  have := hn _ h1
  rw [World.cell?_setCell_other _ _ _ _ (fun h => by simp only [Addr.mk.injEq] at h; exact this h.1.symm)]
  exact h2
theorem bare_len (s : Txt) : (bareS s).length ≤ s.length := by
  unfold bareS
  split
  · rw [List.length_tail]; omega
  · exact Nat.le_refl _
set_option maxHeartbeats 2000000 in
theorem signed_any (s : Txt) (w : World) (hs : DigitL (bareS s)) (hl : s.length ≤ 500) :
    Calls Tryz.prog 130 #[txt s] w fun e w' => ∃ a c, e = .returned (.tuple #[.bool (negS s), .slice a (toB 1000000000 (decV (bareS s))).length c]) ∧ CellsN .u64 w' a (toB 1000000000 (decV (bareS s))) ∧ (∀ p, a = some p → w.heap.size ≤ p.block) ∧ Ext w w' := by
  have HT := Lib.hid (fun W => CutPrefix_any s W)
  have HR := Lib.hid (fun W => read_any (bareS s) W hs (Nat.le_trans (bare_len s) hl))
  generalize decV (bareS s) = x at *
  generalize bareS s = d at *
  generalize negS s = ng at *
  clear hs
  go_enter Tryz.func130, Tryz.ntmps130
  go_wp2_with (first
    | (go_at_call 160; refine (HT.out _).mono ?_; rintro e w' ⟨rfl, rfl⟩)
    | (go_at_call 162; refine (HR.out _).mono ?_; rintro e w' h; obtain ⟨a, c, rfl, hC, hN, hE⟩ := h.newB))
  go_ret2
  exact ⟨a, c, rfl, hC, hN, hE⟩
end Go.Proofs.YtdejgaiocjfhjaaGreatDoor
namespace Go.Proofs.YtdejgaiocjfhjaaGreatDoor
open Go.RowKit
theorem results_cell_tmp1 {fn : Func} {p u : Tmp} {ty : TypeId} (h : fn.results = #[.cell p ty, .tmp u]) (tmps : Array Value) (P : Program) (w : World) :
    (results fn tmps).run P w = ((asAddr (tmps.getD p undef)).run P w).andThen fun a w₁ => ((loadVar ty a).run P w₁).andThen fun x w₂ => .ok (.tuple #[x, tmps.getD u undef]) w₂ := by
  simp only [results, h]
  simp [Sem.run_bind, Result.andThen]
def NumV (w : World) (v : Value) (x : Num) : Prop := ∃ ta tc ba bc, v = .agg #[.bool x.1, .slice ta (toB 1000000000 x.2.1).length tc, .slice ba (toB 1000000000 x.2.2).length bc] ∧
  CellsN .u64 w ta (toB 1000000000 x.2.1) ∧ CellsN .u64 w ba (toB 1000000000 x.2.2)
theorem NumV.ext {w w' : World} {v : Value} {x : Num} (h : NumV w v x) (e : Ext w w') : NumV w' v x := by
  obtain ⟨ta, tc, ba, bc, h1, h2, h3⟩ := h
  exact ⟨ta, tc, ba, bc, h1, h2.ext e, h3.ext e⟩
structure Num3 (b : Nat) (W : World) (x y z : Value) : Prop where
  c0 : W.cell? ⟨b, 0, none⟩ = some x
  c1 : W.cell? ⟨b, 1, none⟩ = some y
  c2 : W.cell? ⟨b, 2, none⟩ = some z
  f0 : W.frozen? ⟨b, 0, none⟩ = false
  f1 : W.frozen? ⟨b, 1, none⟩ = false
  f2 : W.frozen? ⟨b, 2, none⟩ = false
theorem Num3.ext {b : Nat} {A B : World} {x y z : Value} (h : Num3 b A x y z) (e : Ext A B) : Num3 b B x y z := by
  have hz : b < A.heap.size := cell_lt h.c0
  exact ⟨e.cell h.c0, e.cell h.c1, e.cell h.c2, (Below.frozen (p := ⟨b, 0, none⟩) e hz).trans h.f0, (Below.frozen (p := ⟨b, 1, none⟩) e hz).trans h.f1, (Below.frozen (p := ⟨b, 2, none⟩) e hz).trans h.f2⟩
theorem Num3.set0 {b : Nat} {A : World} {x y z : Value} (h : Num3 b A x y z) (v : Value) : Num3 b (A.setCell ⟨b, 0, none⟩ v) v y z := by
  refine ⟨World.cell?_setCell_same _ _ _ h.c0, ?_, ?_, ?_, ?_, ?_⟩
  · rw [World.cell?_setCell_other _ _ _ _ (fun h => by simp only [Addr.mk.injEq] at h; omega)]; exact h.c1
  · rw [World.cell?_setCell_other _ _ _ _ (fun h => by simp only [Addr.mk.injEq] at h; omega)]; exact h.c2
  · rw [World.frozen?_setCell]; exact h.f0
  · rw [World.frozen?_setCell]; exact h.f1
  · rw [World.frozen?_setCell]; exact h.f2
theorem Num3.set1 {b : Nat} {A : World} {x y z : Value} (h : Num3 b A x y z) (v : Value) : Num3 b (A.setCell ⟨b, 1, none⟩ v) x v z := by
  refine ⟨?_, World.cell?_setCell_same _ _ _ h.c1, ?_, ?_, ?_, ?_⟩
  · rw [World.cell?_setCell_other _ _ _ _ (fun h => by simp only [Addr.mk.injEq] at h; omega)]; exact h.c0
  · rw [World.cell?_setCell_other _ _ _ _ (fun h => by simp only [Addr.mk.injEq] at h; omega)]; exact h.c2
  · rw [World.frozen?_setCell]; exact h.f0
  · rw [World.frozen?_setCell]; exact h.f1
  · rw [World.frozen?_setCell]; exact h.f2
theorem Num3.set2 {b : Nat} {A : World} {x y z : Value} (h : Num3 b A x y z) (v : Value) : Num3 b (A.setCell ⟨b, 2, none⟩ v) x y v := by
  refine ⟨?_, ?_, World.cell?_setCell_same _ _ _ h.c2, ?_, ?_, ?_⟩
  · rw [World.cell?_setCell_other _ _ _ _ (fun h => by simp only [Addr.mk.injEq] at h; omega)]; exact h.c0
  · rw [World.cell?_setCell_other _ _ _ _ (fun h => by simp only [Addr.mk.injEq] at h; omega)]; exact h.c1
  · rw [World.frozen?_setCell]; exact h.f0
  · rw [World.frozen?_setCell]; exact h.f1
  · rw [World.frozen?_setCell]; exact h.f2
theorem Num3.other {b c o : Nat} {A : World} {x y z : Value} (h : Num3 b A x y z) (hc : c ≠ b) (v : Value) : Num3 b (A.setCell ⟨c, o, none⟩ v) x y z := by
  refine ⟨?_, ?_, ?_, ?_, ?_, ?_⟩
  · rw [World.cell?_setCell_other _ _ _ _ (fun h => by simp only [Addr.mk.injEq] at h; omega)]; exact h.c0
  · rw [World.cell?_setCell_other _ _ _ _ (fun h => by simp only [Addr.mk.injEq] at h; omega)]; exact h.c1
  · rw [World.cell?_setCell_other _ _ _ _ (fun h => by simp only [Addr.mk.injEq] at h; omega)]; exact h.c2
  · rw [World.frozen?_setCell]; exact h.f0
  · rw [World.frozen?_setCell]; exact h.f1
  · rw [World.frozen?_setCell]; exact h.f2
theorem ordN_zero {a b : Nat} : ordN a b = 0 ↔ a = b := by
  unfold ordN
  by_cases h : a < b
  · rw [if_pos h]; omega
  · rw [if_neg h]
    by_cases k : b < a
    · rw [if_pos k]; omega
    · rw [if_neg k]; omega
theorem cells_lit (w : World) (t : TypeId) : CellsN .u64 (w.alloc (.cells #[.int .u64 1] t)) (some ⟨w.heap.size, 0, none⟩) (toB 1000000000 1) := by
  rw [toB_one (by omega) (by omega) (by omega)]
  intro i hi
  have hi0 : i = 0 := by simp at hi; exact hi
  subst hi0
  exact ⟨_, 0, rfl, by go_simp⟩
theorem compare1_any (x : Nat) (la : List Nat) (a : Option Addr) (ca b : Nat) (w : World) (hx : la = toB 1000000000 x) (hla : la.length ≤ 200) (ha : CellsN .u64 w a la) (hb : CellsN .u64 w (some ⟨b, 0, none⟩) (toB 1000000000 1)) :
    Calls Tryz.prog 131 #[.slice a la.length ca, .slice (some ⟨b, 0, none⟩) 1 1] w fun e w' => e = .returned (.int .i64 (ordN x 1)) ∧ Ext w w' := by
  rw [toB_one (by omega) (by omega) (by omega)] at hb
  exact compare_any x 1 la [1] a _ ca 1 w hx (toB_one (by omega) (by omega) (by omega)).symm hla (by simp) ha hb
def Shape3 (v : Value) : Prop := ∃ (b : Bool) (ta : Option Addr) (tn tc : Nat) (ba : Option Addr) (bn bc : Nat), v = .agg #[.bool b, .slice ta tn tc, .slice ba bn bc]
def ParsedPost (t : Txt) (w : World) (e : Ending) (w' : World) : Prop :=
  ∃ v, e = .returned (.tuple #[v, .int .i64 (fracE t : Nat)]) ∧ Shape3 v ∧ (fracE t = 0 → NumV w' v (numOf t)) ∧ Ext w w'
theorem fracE_eq (t : Txt) : fracE t = if ¬ IntS (topS t) ∨ ¬ IntS (lowS t) then 3 else if 60 < (bareS (topS t)).length ∨ 60 < (bareS (lowS t)).length then 11 else if 47 ∉ t then 0 else
    if negS (lowS t) = true ∨ decV (lowS t) ≤ 1 ∨ Nat.gcd (decV (bareS (topS t))) (decV (lowS t)) ≠ 1 then 3 else 0 := by
  unfold fracE intE
  by_cases h1 : IntS (topS t)
  · by_cases h2 : IntS (lowS t)
    · by_cases h3 : 60 < (bareS (topS t)).length
      · by_cases h4 : 60 < (bareS (lowS t)).length <;> simp [h1, h2, h3, h4]
      · by_cases h4 : 60 < (bareS (lowS t)).length
        · simp [h1, h2, h3, h4]
        · simp [h1, h2, h3, h4]
    · simp [h1, h2]
  · simp [h1]
set_option maxHeartbeats 8000000 in
set_option maxRecDepth 100000 in
theorem parsed_any (t : Txt) (w : World) (hG : Glob w) (hl : t.length ≤ 400) :
    Calls Tryz.prog 93 #[txt t] w (ParsedPost t w) := by
  have hlens : (topS t).length ≤ t.length ∧ (lowS t).length ≤ t.length + 1 := by
    by_cases hs : 47 ∈ t
    · have e := congrArg List.length (split_some hs)
      rw [List.length_append, List.length_cons] at e
      omega
    · obtain ⟨a1, a2⟩ := split_none hs
      rw [a1, a2]
      exact ⟨Nat.le_refl _, by simp⟩
  obtain ⟨ht1, ht2⟩ := hlens
  have HG := Lib.hid hG
  have HCut := Lib.hid (fun W (hW : Ext w W) => Cut_any t W (hG.ext hW) (by omega))
  obtain ⟨f, hf⟩ : ∃ f, f = decide (47 ∈ t) := ⟨_, rfl⟩
  obtain ⟨i1, hi1⟩ : ∃ f, f = decide (IntS (topS t)) := ⟨_, rfl⟩
  obtain ⟨i2, hi2⟩ : ∃ f, f = decide (IntS (lowS t)) := ⟨_, rfl⟩
  obtain ⟨l1, hl1⟩ : ∃ f, f = decide (60 < (bareS (topS t)).length) := ⟨_, rfl⟩
  obtain ⟨l2, hl2⟩ : ∃ f, f = decide (60 < (bareS (lowS t)).length) := ⟨_, rfl⟩
  have HI1 := Lib.hid (fun W => integer_any (topS t) W (by omega))
  have HI2 := Lib.hid (fun W => integer_any (lowS t) W (by omega))
  have HL1 := Lib.hid (fun W => long_any (topS t) W)
  have HL2 := Lib.hid (fun W => long_any (lowS t) W)
  rw [← hi1] at HI1
  rw [← hi2] at HI2
  rw [← hl1] at HL1
  rw [← hl2] at HL2
  rw [← hf] at HCut
  have hlow : f = false → lowS t = [49] := fun h => (split_none (fun e => by rw [hf, decide_eq_true e] at h; cases h)).2
  have hlow2 : (if 47 ∈ t then lowS t else []) = if f then lowS t else [] := by
    by_cases e : 47 ∈ t
    · rw [hf, decide_eq_true e, if_pos e, if_pos rfl]
    · rw [hf, decide_eq_false e, if_neg e, if_neg (by simp)]
  rw [hlow2] at HCut
  clear hlow2
  have HFE := Lib.hid (fracE_eq t)
  obtain ⟨W0, hW0⟩ : ∃ W0, W0 = w.alloc (.cells #[.bool false, .slice none 0 0, .slice none 0 0] 116) := ⟨_, rfl⟩
  have c0 : W0.cell? ⟨w.heap.size, 0, none⟩ = some (.bool false) := by rw [hW0]; go_simp
  have c1 : W0.cell? ⟨w.heap.size, 1, none⟩ = some (.slice none 0 0) := by rw [hW0]; go_simp
  have c2 : W0.cell? ⟨w.heap.size, 2, none⟩ = some (.slice none 0 0) := by rw [hW0]; go_simp
  have f0 : W0.frozen? ⟨w.heap.size, 0, none⟩ = false := by rw [hW0]; go_simp
  have f1 : W0.frozen? ⟨w.heap.size, 1, none⟩ = false := by rw [hW0]; go_simp
  have f2 : W0.frozen? ⟨w.heap.size, 2, none⟩ = false := by rw [hW0]; go_simp
  have EX : Ext w W0 := by rw [hW0]; exact extA
  have hWW := hW0.symm
  have HF := Lib.hid hf
  have HB1 := Lib.hid hi1
  have HB2 := Lib.hid hi2
  have HB3 := Lib.hid hl1
  have HB4 := Lib.hid hl2
  have HLOW := Lib.hid hlow
  clear hW0 hf hi1 hi2 hl1 hl2 hlow hG
  have HTN := Lib.hid (show numOf t = (negS (topS t), decV (bareS (topS t)), decV (lowS t)) from rfl)
  generalize htop : topS t = top at *
  generalize hlw : lowS t = low at *
  clear htop hlw
  cases i1
  · have HE : Hid (fracE t = 3) := HFE.out.trans (by rw [if_pos (.inl (of_decide_eq_false HB1.out.symm))])
    clear HFE HB1 HB2 HB3 HB4 HTN HL1 HL2 HI2
    go_enter Tryz.func93, Tryz.ntmps93
    cases f
    · have hl0 := HLOW.out rfl
      subst hl0
      go_wp2_with (first
      | (go_at_call 127; (with_reducible refine (HCut.out _ EX).mono ?_); rintro e w' ⟨rfl, hE⟩; replace f0 := (Below.frozen (p := ⟨w.heap.size, 0, none⟩) hE (cell_lt c0)).trans f0; replace f1 := (Below.frozen (p := ⟨w.heap.size, 1, none⟩) hE (cell_lt c1)).trans f1; replace f2 := (Below.frozen (p := ⟨w.heap.size, 2, none⟩) hE (cell_lt c2)).trans f2; replace c0 := hE.cell c0; replace c1 := hE.cell c1; replace c2 := hE.cell c2; replace EX := EX.trans hE; clear hE)
      | (go_at_call 128; (with_reducible refine (HI1.out _).mono ?_); rintro e w' ⟨rfl, hE⟩; replace f0 := (Below.frozen (p := ⟨w.heap.size, 0, none⟩) hE (cell_lt c0)).trans f0; replace f1 := (Below.frozen (p := ⟨w.heap.size, 1, none⟩) hE (cell_lt c1)).trans f1; replace f2 := (Below.frozen (p := ⟨w.heap.size, 2, none⟩) hE (cell_lt c2)).trans f2; replace c0 := hE.cell c0; replace c1 := hE.cell c1; replace c2 := hE.cell c2; replace EX := EX.trans hE; clear hE)
      | (go_at_call 128; (with_reducible refine (HI2.out _).mono ?_); rintro e w' ⟨rfl, hE⟩; replace f0 := (Below.frozen (p := ⟨w.heap.size, 0, none⟩) hE (cell_lt c0)).trans f0; replace f1 := (Below.frozen (p := ⟨w.heap.size, 1, none⟩) hE (cell_lt c1)).trans f1; replace f2 := (Below.frozen (p := ⟨w.heap.size, 2, none⟩) hE (cell_lt c2)).trans f2; replace c0 := hE.cell c0; replace c1 := hE.cell c1; replace c2 := hE.cell c2; replace EX := EX.trans hE; clear hE)
      | (go_at_call 129; (with_reducible refine (HL1.out _).mono ?_); rintro e w' ⟨rfl, hE⟩; replace f0 := (Below.frozen (p := ⟨w.heap.size, 0, none⟩) hE (cell_lt c0)).trans f0; replace f1 := (Below.frozen (p := ⟨w.heap.size, 1, none⟩) hE (cell_lt c1)).trans f1; replace f2 := (Below.frozen (p := ⟨w.heap.size, 2, none⟩) hE (cell_lt c2)).trans f2; replace c0 := hE.cell c0; replace c1 := hE.cell c1; replace c2 := hE.cell c2; replace EX := EX.trans hE; clear hE)
      | (go_at_call 129; (with_reducible refine (HL2.out _).mono ?_); rintro e w' ⟨rfl, hE⟩; replace f0 := (Below.frozen (p := ⟨w.heap.size, 0, none⟩) hE (cell_lt c0)).trans f0; replace f1 := (Below.frozen (p := ⟨w.heap.size, 1, none⟩) hE (cell_lt c1)).trans f1; replace f2 := (Below.frozen (p := ⟨w.heap.size, 2, none⟩) hE (cell_lt c2)).trans f2; replace c0 := hE.cell c0; replace c1 := hE.cell c1; replace c2 := hE.cell c2; replace EX := EX.trans hE; clear hE))
      refine bodyPost_ret (v := .tuple #[.agg #[.bool false, .slice none 0 0, .slice none 0 0], .int .i64 3]) (by rw [results_cell_tmp1 rfl]; go_simp) rfl ?_
      exact ⟨_, by rw [HE.out]; rfl, ⟨_, _, _, _, _, _, _, rfl⟩, fun h => absurd (HE.out.symm.trans h) (by decide), extA⟩
    · go_wp2_with (first
      | (go_at_call 127; (with_reducible refine (HCut.out _ EX).mono ?_); rintro e w' ⟨rfl, hE⟩; replace f0 := (Below.frozen (p := ⟨w.heap.size, 0, none⟩) hE (cell_lt c0)).trans f0; replace f1 := (Below.frozen (p := ⟨w.heap.size, 1, none⟩) hE (cell_lt c1)).trans f1; replace f2 := (Below.frozen (p := ⟨w.heap.size, 2, none⟩) hE (cell_lt c2)).trans f2; replace c0 := hE.cell c0; replace c1 := hE.cell c1; replace c2 := hE.cell c2; replace EX := EX.trans hE; clear hE)
      | (go_at_call 128; (with_reducible refine (HI1.out _).mono ?_); rintro e w' ⟨rfl, hE⟩; replace f0 := (Below.frozen (p := ⟨w.heap.size, 0, none⟩) hE (cell_lt c0)).trans f0; replace f1 := (Below.frozen (p := ⟨w.heap.size, 1, none⟩) hE (cell_lt c1)).trans f1; replace f2 := (Below.frozen (p := ⟨w.heap.size, 2, none⟩) hE (cell_lt c2)).trans f2; replace c0 := hE.cell c0; replace c1 := hE.cell c1; replace c2 := hE.cell c2; replace EX := EX.trans hE; clear hE)
      | (go_at_call 128; (with_reducible refine (HI2.out _).mono ?_); rintro e w' ⟨rfl, hE⟩; replace f0 := (Below.frozen (p := ⟨w.heap.size, 0, none⟩) hE (cell_lt c0)).trans f0; replace f1 := (Below.frozen (p := ⟨w.heap.size, 1, none⟩) hE (cell_lt c1)).trans f1; replace f2 := (Below.frozen (p := ⟨w.heap.size, 2, none⟩) hE (cell_lt c2)).trans f2; replace c0 := hE.cell c0; replace c1 := hE.cell c1; replace c2 := hE.cell c2; replace EX := EX.trans hE; clear hE)
      | (go_at_call 129; (with_reducible refine (HL1.out _).mono ?_); rintro e w' ⟨rfl, hE⟩; replace f0 := (Below.frozen (p := ⟨w.heap.size, 0, none⟩) hE (cell_lt c0)).trans f0; replace f1 := (Below.frozen (p := ⟨w.heap.size, 1, none⟩) hE (cell_lt c1)).trans f1; replace f2 := (Below.frozen (p := ⟨w.heap.size, 2, none⟩) hE (cell_lt c2)).trans f2; replace c0 := hE.cell c0; replace c1 := hE.cell c1; replace c2 := hE.cell c2; replace EX := EX.trans hE; clear hE)
      | (go_at_call 129; (with_reducible refine (HL2.out _).mono ?_); rintro e w' ⟨rfl, hE⟩; replace f0 := (Below.frozen (p := ⟨w.heap.size, 0, none⟩) hE (cell_lt c0)).trans f0; replace f1 := (Below.frozen (p := ⟨w.heap.size, 1, none⟩) hE (cell_lt c1)).trans f1; replace f2 := (Below.frozen (p := ⟨w.heap.size, 2, none⟩) hE (cell_lt c2)).trans f2; replace c0 := hE.cell c0; replace c1 := hE.cell c1; replace c2 := hE.cell c2; replace EX := EX.trans hE; clear hE))
      refine bodyPost_ret (v := .tuple #[.agg #[.bool false, .slice none 0 0, .slice none 0 0], .int .i64 3]) (by rw [results_cell_tmp1 rfl]; go_simp) rfl ?_
      exact ⟨_, by rw [HE.out]; rfl, ⟨_, _, _, _, _, _, _, rfl⟩, fun h => absurd (HE.out.symm.trans h) (by decide), extA⟩
  cases i2
  · have HE : Hid (fracE t = 3) := HFE.out.trans (by rw [if_pos (.inr (of_decide_eq_false HB2.out.symm))])
    clear HFE HB1 HB2 HB3 HB4 HTN HL1 HL2
    go_enter Tryz.func93, Tryz.ntmps93
    cases f
    · have hl0 := HLOW.out rfl
      subst hl0
      go_wp2_with (first
      | (go_at_call 127; (with_reducible refine (HCut.out _ EX).mono ?_); rintro e w' ⟨rfl, hE⟩; replace f0 := (Below.frozen (p := ⟨w.heap.size, 0, none⟩) hE (cell_lt c0)).trans f0; replace f1 := (Below.frozen (p := ⟨w.heap.size, 1, none⟩) hE (cell_lt c1)).trans f1; replace f2 := (Below.frozen (p := ⟨w.heap.size, 2, none⟩) hE (cell_lt c2)).trans f2; replace c0 := hE.cell c0; replace c1 := hE.cell c1; replace c2 := hE.cell c2; replace EX := EX.trans hE; clear hE)
      | (go_at_call 128; (with_reducible refine (HI1.out _).mono ?_); rintro e w' ⟨rfl, hE⟩; replace f0 := (Below.frozen (p := ⟨w.heap.size, 0, none⟩) hE (cell_lt c0)).trans f0; replace f1 := (Below.frozen (p := ⟨w.heap.size, 1, none⟩) hE (cell_lt c1)).trans f1; replace f2 := (Below.frozen (p := ⟨w.heap.size, 2, none⟩) hE (cell_lt c2)).trans f2; replace c0 := hE.cell c0; replace c1 := hE.cell c1; replace c2 := hE.cell c2; replace EX := EX.trans hE; clear hE)
      | (go_at_call 128; (with_reducible refine (HI2.out _).mono ?_); rintro e w' ⟨rfl, hE⟩; replace f0 := (Below.frozen (p := ⟨w.heap.size, 0, none⟩) hE (cell_lt c0)).trans f0; replace f1 := (Below.frozen (p := ⟨w.heap.size, 1, none⟩) hE (cell_lt c1)).trans f1; replace f2 := (Below.frozen (p := ⟨w.heap.size, 2, none⟩) hE (cell_lt c2)).trans f2; replace c0 := hE.cell c0; replace c1 := hE.cell c1; replace c2 := hE.cell c2; replace EX := EX.trans hE; clear hE)
      | (go_at_call 129; (with_reducible refine (HL1.out _).mono ?_); rintro e w' ⟨rfl, hE⟩; replace f0 := (Below.frozen (p := ⟨w.heap.size, 0, none⟩) hE (cell_lt c0)).trans f0; replace f1 := (Below.frozen (p := ⟨w.heap.size, 1, none⟩) hE (cell_lt c1)).trans f1; replace f2 := (Below.frozen (p := ⟨w.heap.size, 2, none⟩) hE (cell_lt c2)).trans f2; replace c0 := hE.cell c0; replace c1 := hE.cell c1; replace c2 := hE.cell c2; replace EX := EX.trans hE; clear hE)
      | (go_at_call 129; (with_reducible refine (HL2.out _).mono ?_); rintro e w' ⟨rfl, hE⟩; replace f0 := (Below.frozen (p := ⟨w.heap.size, 0, none⟩) hE (cell_lt c0)).trans f0; replace f1 := (Below.frozen (p := ⟨w.heap.size, 1, none⟩) hE (cell_lt c1)).trans f1; replace f2 := (Below.frozen (p := ⟨w.heap.size, 2, none⟩) hE (cell_lt c2)).trans f2; replace c0 := hE.cell c0; replace c1 := hE.cell c1; replace c2 := hE.cell c2; replace EX := EX.trans hE; clear hE))
      refine bodyPost_ret (v := .tuple #[.agg #[.bool false, .slice none 0 0, .slice none 0 0], .int .i64 3]) (by rw [results_cell_tmp1 rfl]; go_simp) rfl ?_
      exact ⟨_, by rw [HE.out]; rfl, ⟨_, _, _, _, _, _, _, rfl⟩, fun h => absurd (HE.out.symm.trans h) (by decide), extA⟩
    · go_wp2_with (first
      | (go_at_call 127; (with_reducible refine (HCut.out _ EX).mono ?_); rintro e w' ⟨rfl, hE⟩; replace f0 := (Below.frozen (p := ⟨w.heap.size, 0, none⟩) hE (cell_lt c0)).trans f0; replace f1 := (Below.frozen (p := ⟨w.heap.size, 1, none⟩) hE (cell_lt c1)).trans f1; replace f2 := (Below.frozen (p := ⟨w.heap.size, 2, none⟩) hE (cell_lt c2)).trans f2; replace c0 := hE.cell c0; replace c1 := hE.cell c1; replace c2 := hE.cell c2; replace EX := EX.trans hE; clear hE)
      | (go_at_call 128; (with_reducible refine (HI1.out _).mono ?_); rintro e w' ⟨rfl, hE⟩; replace f0 := (Below.frozen (p := ⟨w.heap.size, 0, none⟩) hE (cell_lt c0)).trans f0; replace f1 := (Below.frozen (p := ⟨w.heap.size, 1, none⟩) hE (cell_lt c1)).trans f1; replace f2 := (Below.frozen (p := ⟨w.heap.size, 2, none⟩) hE (cell_lt c2)).trans f2; replace c0 := hE.cell c0; replace c1 := hE.cell c1; replace c2 := hE.cell c2; replace EX := EX.trans hE; clear hE)
      | (go_at_call 128; (with_reducible refine (HI2.out _).mono ?_); rintro e w' ⟨rfl, hE⟩; replace f0 := (Below.frozen (p := ⟨w.heap.size, 0, none⟩) hE (cell_lt c0)).trans f0; replace f1 := (Below.frozen (p := ⟨w.heap.size, 1, none⟩) hE (cell_lt c1)).trans f1; replace f2 := (Below.frozen (p := ⟨w.heap.size, 2, none⟩) hE (cell_lt c2)).trans f2; replace c0 := hE.cell c0; replace c1 := hE.cell c1; replace c2 := hE.cell c2; replace EX := EX.trans hE; clear hE)
      | (go_at_call 129; (with_reducible refine (HL1.out _).mono ?_); rintro e w' ⟨rfl, hE⟩; replace f0 := (Below.frozen (p := ⟨w.heap.size, 0, none⟩) hE (cell_lt c0)).trans f0; replace f1 := (Below.frozen (p := ⟨w.heap.size, 1, none⟩) hE (cell_lt c1)).trans f1; replace f2 := (Below.frozen (p := ⟨w.heap.size, 2, none⟩) hE (cell_lt c2)).trans f2; replace c0 := hE.cell c0; replace c1 := hE.cell c1; replace c2 := hE.cell c2; replace EX := EX.trans hE; clear hE)
      | (go_at_call 129; (with_reducible refine (HL2.out _).mono ?_); rintro e w' ⟨rfl, hE⟩; replace f0 := (Below.frozen (p := ⟨w.heap.size, 0, none⟩) hE (cell_lt c0)).trans f0; replace f1 := (Below.frozen (p := ⟨w.heap.size, 1, none⟩) hE (cell_lt c1)).trans f1; replace f2 := (Below.frozen (p := ⟨w.heap.size, 2, none⟩) hE (cell_lt c2)).trans f2; replace c0 := hE.cell c0; replace c1 := hE.cell c1; replace c2 := hE.cell c2; replace EX := EX.trans hE; clear hE))
      refine bodyPost_ret (v := .tuple #[.agg #[.bool false, .slice none 0 0, .slice none 0 0], .int .i64 3]) (by rw [results_cell_tmp1 rfl]; go_simp) rfl ?_
      exact ⟨_, by rw [HE.out]; rfl, ⟨_, _, _, _, _, _, _, rfl⟩, fun h => absurd (HE.out.symm.trans h) (by decide), extA⟩
  have HS1 := Lib.hid (of_decide_eq_true (p := IntS top) HB1.out.symm)
  have HS2 := Lib.hid (of_decide_eq_true (p := IntS low) HB2.out.symm)
  have HNI : Hid (¬ (¬ IntS top ∨ ¬ IntS low)) := fun h => h.elim (fun h => h HS1.out) (fun h => h HS2.out)
  cases l1
  rotate_left
  · have HE : Hid (fracE t = 11) := HFE.out.trans (by rw [if_neg HNI.out, if_pos (.inl (of_decide_eq_true HB3.out.symm))])
    clear HFE HB1 HB2 HB3 HB4 HTN HS1 HS2 HNI HL2
    go_enter Tryz.func93, Tryz.ntmps93
    cases f
    · have hl0 := HLOW.out rfl
      subst hl0
      go_wp2_with (first
      | (go_at_call 127; (with_reducible refine (HCut.out _ EX).mono ?_); rintro e w' ⟨rfl, hE⟩; replace f0 := (Below.frozen (p := ⟨w.heap.size, 0, none⟩) hE (cell_lt c0)).trans f0; replace f1 := (Below.frozen (p := ⟨w.heap.size, 1, none⟩) hE (cell_lt c1)).trans f1; replace f2 := (Below.frozen (p := ⟨w.heap.size, 2, none⟩) hE (cell_lt c2)).trans f2; replace c0 := hE.cell c0; replace c1 := hE.cell c1; replace c2 := hE.cell c2; replace EX := EX.trans hE; clear hE)
      | (go_at_call 128; (with_reducible refine (HI1.out _).mono ?_); rintro e w' ⟨rfl, hE⟩; replace f0 := (Below.frozen (p := ⟨w.heap.size, 0, none⟩) hE (cell_lt c0)).trans f0; replace f1 := (Below.frozen (p := ⟨w.heap.size, 1, none⟩) hE (cell_lt c1)).trans f1; replace f2 := (Below.frozen (p := ⟨w.heap.size, 2, none⟩) hE (cell_lt c2)).trans f2; replace c0 := hE.cell c0; replace c1 := hE.cell c1; replace c2 := hE.cell c2; replace EX := EX.trans hE; clear hE)
      | (go_at_call 128; (with_reducible refine (HI2.out _).mono ?_); rintro e w' ⟨rfl, hE⟩; replace f0 := (Below.frozen (p := ⟨w.heap.size, 0, none⟩) hE (cell_lt c0)).trans f0; replace f1 := (Below.frozen (p := ⟨w.heap.size, 1, none⟩) hE (cell_lt c1)).trans f1; replace f2 := (Below.frozen (p := ⟨w.heap.size, 2, none⟩) hE (cell_lt c2)).trans f2; replace c0 := hE.cell c0; replace c1 := hE.cell c1; replace c2 := hE.cell c2; replace EX := EX.trans hE; clear hE)
      | (go_at_call 129; (with_reducible refine (HL1.out _).mono ?_); rintro e w' ⟨rfl, hE⟩; replace f0 := (Below.frozen (p := ⟨w.heap.size, 0, none⟩) hE (cell_lt c0)).trans f0; replace f1 := (Below.frozen (p := ⟨w.heap.size, 1, none⟩) hE (cell_lt c1)).trans f1; replace f2 := (Below.frozen (p := ⟨w.heap.size, 2, none⟩) hE (cell_lt c2)).trans f2; replace c0 := hE.cell c0; replace c1 := hE.cell c1; replace c2 := hE.cell c2; replace EX := EX.trans hE; clear hE)
      | (go_at_call 129; (with_reducible refine (HL2.out _).mono ?_); rintro e w' ⟨rfl, hE⟩; replace f0 := (Below.frozen (p := ⟨w.heap.size, 0, none⟩) hE (cell_lt c0)).trans f0; replace f1 := (Below.frozen (p := ⟨w.heap.size, 1, none⟩) hE (cell_lt c1)).trans f1; replace f2 := (Below.frozen (p := ⟨w.heap.size, 2, none⟩) hE (cell_lt c2)).trans f2; replace c0 := hE.cell c0; replace c1 := hE.cell c1; replace c2 := hE.cell c2; replace EX := EX.trans hE; clear hE))
      refine bodyPost_ret (v := .tuple #[.agg #[.bool false, .slice none 0 0, .slice none 0 0], .int .i64 11]) (by rw [results_cell_tmp1 rfl]; go_simp) rfl ?_
      exact ⟨_, by rw [HE.out]; rfl, ⟨_, _, _, _, _, _, _, rfl⟩, fun h => absurd (HE.out.symm.trans h) (by decide), extA⟩
    · go_wp2_with (first
      | (go_at_call 127; (with_reducible refine (HCut.out _ EX).mono ?_); rintro e w' ⟨rfl, hE⟩; replace f0 := (Below.frozen (p := ⟨w.heap.size, 0, none⟩) hE (cell_lt c0)).trans f0; replace f1 := (Below.frozen (p := ⟨w.heap.size, 1, none⟩) hE (cell_lt c1)).trans f1; replace f2 := (Below.frozen (p := ⟨w.heap.size, 2, none⟩) hE (cell_lt c2)).trans f2; replace c0 := hE.cell c0; replace c1 := hE.cell c1; replace c2 := hE.cell c2; replace EX := EX.trans hE; clear hE)
      | (go_at_call 128; (with_reducible refine (HI1.out _).mono ?_); rintro e w' ⟨rfl, hE⟩; replace f0 := (Below.frozen (p := ⟨w.heap.size, 0, none⟩) hE (cell_lt c0)).trans f0; replace f1 := (Below.frozen (p := ⟨w.heap.size, 1, none⟩) hE (cell_lt c1)).trans f1; replace f2 := (Below.frozen (p := ⟨w.heap.size, 2, none⟩) hE (cell_lt c2)).trans f2; replace c0 := hE.cell c0; replace c1 := hE.cell c1; replace c2 := hE.cell c2; replace EX := EX.trans hE; clear hE)
      | (go_at_call 128; (with_reducible refine (HI2.out _).mono ?_); rintro e w' ⟨rfl, hE⟩; replace f0 := (Below.frozen (p := ⟨w.heap.size, 0, none⟩) hE (cell_lt c0)).trans f0; replace f1 := (Below.frozen (p := ⟨w.heap.size, 1, none⟩) hE (cell_lt c1)).trans f1; replace f2 := (Below.frozen (p := ⟨w.heap.size, 2, none⟩) hE (cell_lt c2)).trans f2; replace c0 := hE.cell c0; replace c1 := hE.cell c1; replace c2 := hE.cell c2; replace EX := EX.trans hE; clear hE)
      | (go_at_call 129; (with_reducible refine (HL1.out _).mono ?_); rintro e w' ⟨rfl, hE⟩; replace f0 := (Below.frozen (p := ⟨w.heap.size, 0, none⟩) hE (cell_lt c0)).trans f0; replace f1 := (Below.frozen (p := ⟨w.heap.size, 1, none⟩) hE (cell_lt c1)).trans f1; replace f2 := (Below.frozen (p := ⟨w.heap.size, 2, none⟩) hE (cell_lt c2)).trans f2; replace c0 := hE.cell c0; replace c1 := hE.cell c1; replace c2 := hE.cell c2; replace EX := EX.trans hE; clear hE)
      | (go_at_call 129; (with_reducible refine (HL2.out _).mono ?_); rintro e w' ⟨rfl, hE⟩; replace f0 := (Below.frozen (p := ⟨w.heap.size, 0, none⟩) hE (cell_lt c0)).trans f0; replace f1 := (Below.frozen (p := ⟨w.heap.size, 1, none⟩) hE (cell_lt c1)).trans f1; replace f2 := (Below.frozen (p := ⟨w.heap.size, 2, none⟩) hE (cell_lt c2)).trans f2; replace c0 := hE.cell c0; replace c1 := hE.cell c1; replace c2 := hE.cell c2; replace EX := EX.trans hE; clear hE))
      refine bodyPost_ret (v := .tuple #[.agg #[.bool false, .slice none 0 0, .slice none 0 0], .int .i64 11]) (by rw [results_cell_tmp1 rfl]; go_simp) rfl ?_
      exact ⟨_, by rw [HE.out]; rfl, ⟨_, _, _, _, _, _, _, rfl⟩, fun h => absurd (HE.out.symm.trans h) (by decide), extA⟩
  cases l2
  rotate_left
  · have HE : Hid (fracE t = 11) := HFE.out.trans (by rw [if_neg HNI.out, if_pos (.inr (of_decide_eq_true HB4.out.symm))])
    clear HFE HB1 HB2 HB3 HB4 HTN HS1 HS2 HNI
    go_enter Tryz.func93, Tryz.ntmps93
    cases f
    · have hl0 := HLOW.out rfl
      subst hl0
      go_wp2_with (first
      | (go_at_call 127; (with_reducible refine (HCut.out _ EX).mono ?_); rintro e w' ⟨rfl, hE⟩; replace f0 := (Below.frozen (p := ⟨w.heap.size, 0, none⟩) hE (cell_lt c0)).trans f0; replace f1 := (Below.frozen (p := ⟨w.heap.size, 1, none⟩) hE (cell_lt c1)).trans f1; replace f2 := (Below.frozen (p := ⟨w.heap.size, 2, none⟩) hE (cell_lt c2)).trans f2; replace c0 := hE.cell c0; replace c1 := hE.cell c1; replace c2 := hE.cell c2; replace EX := EX.trans hE; clear hE)
      | (go_at_call 128; (with_reducible refine (HI1.out _).mono ?_); rintro e w' ⟨rfl, hE⟩; replace f0 := (Below.frozen (p := ⟨w.heap.size, 0, none⟩) hE (cell_lt c0)).trans f0; replace f1 := (Below.frozen (p := ⟨w.heap.size, 1, none⟩) hE (cell_lt c1)).trans f1; replace f2 := (Below.frozen (p := ⟨w.heap.size, 2, none⟩) hE (cell_lt c2)).trans f2; replace c0 := hE.cell c0; replace c1 := hE.cell c1; replace c2 := hE.cell c2; replace EX := EX.trans hE; clear hE)
      | (go_at_call 128; (with_reducible refine (HI2.out _).mono ?_); rintro e w' ⟨rfl, hE⟩; replace f0 := (Below.frozen (p := ⟨w.heap.size, 0, none⟩) hE (cell_lt c0)).trans f0; replace f1 := (Below.frozen (p := ⟨w.heap.size, 1, none⟩) hE (cell_lt c1)).trans f1; replace f2 := (Below.frozen (p := ⟨w.heap.size, 2, none⟩) hE (cell_lt c2)).trans f2; replace c0 := hE.cell c0; replace c1 := hE.cell c1; replace c2 := hE.cell c2; replace EX := EX.trans hE; clear hE)
      | (go_at_call 129; (with_reducible refine (HL1.out _).mono ?_); rintro e w' ⟨rfl, hE⟩; replace f0 := (Below.frozen (p := ⟨w.heap.size, 0, none⟩) hE (cell_lt c0)).trans f0; replace f1 := (Below.frozen (p := ⟨w.heap.size, 1, none⟩) hE (cell_lt c1)).trans f1; replace f2 := (Below.frozen (p := ⟨w.heap.size, 2, none⟩) hE (cell_lt c2)).trans f2; replace c0 := hE.cell c0; replace c1 := hE.cell c1; replace c2 := hE.cell c2; replace EX := EX.trans hE; clear hE)
      | (go_at_call 129; (with_reducible refine (HL2.out _).mono ?_); rintro e w' ⟨rfl, hE⟩; replace f0 := (Below.frozen (p := ⟨w.heap.size, 0, none⟩) hE (cell_lt c0)).trans f0; replace f1 := (Below.frozen (p := ⟨w.heap.size, 1, none⟩) hE (cell_lt c1)).trans f1; replace f2 := (Below.frozen (p := ⟨w.heap.size, 2, none⟩) hE (cell_lt c2)).trans f2; replace c0 := hE.cell c0; replace c1 := hE.cell c1; replace c2 := hE.cell c2; replace EX := EX.trans hE; clear hE))
      refine bodyPost_ret (v := .tuple #[.agg #[.bool false, .slice none 0 0, .slice none 0 0], .int .i64 11]) (by rw [results_cell_tmp1 rfl]; go_simp) rfl ?_
      exact ⟨_, by rw [HE.out]; rfl, ⟨_, _, _, _, _, _, _, rfl⟩, fun h => absurd (HE.out.symm.trans h) (by decide), extA⟩
    · go_wp2_with (first
      | (go_at_call 127; (with_reducible refine (HCut.out _ EX).mono ?_); rintro e w' ⟨rfl, hE⟩; replace f0 := (Below.frozen (p := ⟨w.heap.size, 0, none⟩) hE (cell_lt c0)).trans f0; replace f1 := (Below.frozen (p := ⟨w.heap.size, 1, none⟩) hE (cell_lt c1)).trans f1; replace f2 := (Below.frozen (p := ⟨w.heap.size, 2, none⟩) hE (cell_lt c2)).trans f2; replace c0 := hE.cell c0; replace c1 := hE.cell c1; replace c2 := hE.cell c2; replace EX := EX.trans hE; clear hE)
      | (go_at_call 128; (with_reducible refine (HI1.out _).mono ?_); rintro e w' ⟨rfl, hE⟩; replace f0 := (Below.frozen (p := ⟨w.heap.size, 0, none⟩) hE (cell_lt c0)).trans f0; replace f1 := (Below.frozen (p := ⟨w.heap.size, 1, none⟩) hE (cell_lt c1)).trans f1; replace f2 := (Below.frozen (p := ⟨w.heap.size, 2, none⟩) hE (cell_lt c2)).trans f2; replace c0 := hE.cell c0; replace c1 := hE.cell c1; replace c2 := hE.cell c2; replace EX := EX.trans hE; clear hE)
      | (go_at_call 128; (with_reducible refine (HI2.out _).mono ?_); rintro e w' ⟨rfl, hE⟩; replace f0 := (Below.frozen (p := ⟨w.heap.size, 0, none⟩) hE (cell_lt c0)).trans f0; replace f1 := (Below.frozen (p := ⟨w.heap.size, 1, none⟩) hE (cell_lt c1)).trans f1; replace f2 := (Below.frozen (p := ⟨w.heap.size, 2, none⟩) hE (cell_lt c2)).trans f2; replace c0 := hE.cell c0; replace c1 := hE.cell c1; replace c2 := hE.cell c2; replace EX := EX.trans hE; clear hE)
      | (go_at_call 129; (with_reducible refine (HL1.out _).mono ?_); rintro e w' ⟨rfl, hE⟩; replace f0 := (Below.frozen (p := ⟨w.heap.size, 0, none⟩) hE (cell_lt c0)).trans f0; replace f1 := (Below.frozen (p := ⟨w.heap.size, 1, none⟩) hE (cell_lt c1)).trans f1; replace f2 := (Below.frozen (p := ⟨w.heap.size, 2, none⟩) hE (cell_lt c2)).trans f2; replace c0 := hE.cell c0; replace c1 := hE.cell c1; replace c2 := hE.cell c2; replace EX := EX.trans hE; clear hE)
      | (go_at_call 129; (with_reducible refine (HL2.out _).mono ?_); rintro e w' ⟨rfl, hE⟩; replace f0 := (Below.frozen (p := ⟨w.heap.size, 0, none⟩) hE (cell_lt c0)).trans f0; replace f1 := (Below.frozen (p := ⟨w.heap.size, 1, none⟩) hE (cell_lt c1)).trans f1; replace f2 := (Below.frozen (p := ⟨w.heap.size, 2, none⟩) hE (cell_lt c2)).trans f2; replace c0 := hE.cell c0; replace c1 := hE.cell c1; replace c2 := hE.cell c2; replace EX := EX.trans hE; clear hE))
      refine bodyPost_ret (v := .tuple #[.agg #[.bool false, .slice none 0 0, .slice none 0 0], .int .i64 11]) (by rw [results_cell_tmp1 rfl]; go_simp) rfl ?_
      exact ⟨_, by rw [HE.out]; rfl, ⟨_, _, _, _, _, _, _, rfl⟩, fun h => absurd (HE.out.symm.trans h) (by decide), extA⟩
  have HNL : Hid (¬ (60 < (bareS top).length ∨ 60 < (bareS low).length)) := fun h => h.elim (of_decide_eq_false (p := 60 < (bareS top).length) HB3.out.symm) (of_decide_eq_false (p := 60 < (bareS low).length) HB4.out.symm)
  have hFE2 := HFE.out
  rw [if_neg HNI.out, if_neg HNL.out] at hFE2
  have HFE2 := Lib.hid hFE2
  have hbl : (bareS top).length ≤ 60 ∧ (bareS low).length ≤ 60 := by have := HNL.out; omega
  have hD1 := HS1.out.1.1
  have hD2 := HS2.out.1.1
  have HSG1 := Lib.hid (fun W => signed_any top W hD1 (by omega))
  have HSG2 := Lib.hid (fun W => signed_any low W hD2 (by omega))
  have hlt : ∀ d : Txt, DigitL d → d.length ≤ 60 → (toB 1000000000 (decV d)).length ≤ 60 := fun d h1 h2 => toB_len (by omega) 60 (Nat.lt_of_lt_of_le (decV_lt h1) (Nat.le_trans (Nat.pow_le_pow_right (by omega) h2) (Nat.pow_le_pow_left (by omega) _)))
  have hn1 := hlt _ hD1 hbl.1
  have hn2 := hlt _ hD2 hbl.2
  have HNU : Hid (negS low = false → numOf t = (negS top, decV (bareS top), decV (bareS low))) := fun h => by rw [HTN.out, bare_pos h]
  have HZ0 : Hid (f = false → fracE t = 0 ∧ negS low = false) := fun h => by
    have hm : 47 ∉ t := fun e => by rw [HF.out, decide_eq_true e] at h; cases h
    rw [HFE2.out, if_pos hm]
    refine ⟨rfl, ?_⟩
    rw [HLOW.out h]; rfl
  have HZ1 : Hid (f = true → fracE t = if negS low = true then 3 else if decV (bareS low) ≤ 1 then 3 else if Nat.gcd (decV (bareS top)) (decV (bareS low)) ≠ 1 then 3 else 0) := fun h => by
    have hm : ¬ 47 ∉ t := fun e => by rw [HF.out, decide_eq_false e] at h; cases h
    rw [HFE2.out, if_neg hm]
    by_cases hb : negS low = true
    · rw [if_pos (.inl hb), if_pos hb]
    · have hbb := bare_pos (s := low) (by simpa using hb)
      rw [if_neg hb, hbb]
      by_cases h1 : decV low ≤ 1
      · rw [if_pos (.inr (.inl h1)), if_pos h1]
      · rw [if_neg h1]
        by_cases h2 : Nat.gcd (decV (bareS top)) (decV low) ≠ 1
        · rw [if_pos (.inr (.inr h2)), if_pos h2]
        · rw [if_neg h2, if_neg (fun h => h.elim hb (fun h => h.elim h1 h2))]
  clear hlt hD1 hD2 hFE2 HFE HB1 HB2 HB3 HB4 HNI HNL HTN HF HFE2 HS1 HS2
  generalize decV (bareS top) = n1 at *
  generalize decV (bareS low) = n2 at *
  generalize negS top = sg at *
  generalize negS low = sl at *
  have hn1 : (toB 1000000000 n1).length ≤ 60 := hn1
  go_enter Tryz.func93, Tryz.ntmps93
  cases f
  · have hl0 := HLOW.out rfl
    have HZ := Lib.hid (HZ0.out rfl)
    subst hl0
    go_wp2_with (first
      | (go_at_call 127; (with_reducible refine (HCut.out _ EX).mono ?_); rintro e w' ⟨rfl, hE⟩; replace f0 := (Below.frozen (p := ⟨w.heap.size, 0, none⟩) hE (cell_lt c0)).trans f0; replace f1 := (Below.frozen (p := ⟨w.heap.size, 1, none⟩) hE (cell_lt c1)).trans f1; replace f2 := (Below.frozen (p := ⟨w.heap.size, 2, none⟩) hE (cell_lt c2)).trans f2; replace c0 := hE.cell c0; replace c1 := hE.cell c1; replace c2 := hE.cell c2; replace EX := EX.trans hE; clear hE)
      | (go_at_call 128; (with_reducible refine (HI1.out _).mono ?_); rintro e w' ⟨rfl, hE⟩; replace f0 := (Below.frozen (p := ⟨w.heap.size, 0, none⟩) hE (cell_lt c0)).trans f0; replace f1 := (Below.frozen (p := ⟨w.heap.size, 1, none⟩) hE (cell_lt c1)).trans f1; replace f2 := (Below.frozen (p := ⟨w.heap.size, 2, none⟩) hE (cell_lt c2)).trans f2; replace c0 := hE.cell c0; replace c1 := hE.cell c1; replace c2 := hE.cell c2; replace EX := EX.trans hE; clear hE)
      | (go_at_call 128; (with_reducible refine (HI2.out _).mono ?_); rintro e w' ⟨rfl, hE⟩; replace f0 := (Below.frozen (p := ⟨w.heap.size, 0, none⟩) hE (cell_lt c0)).trans f0; replace f1 := (Below.frozen (p := ⟨w.heap.size, 1, none⟩) hE (cell_lt c1)).trans f1; replace f2 := (Below.frozen (p := ⟨w.heap.size, 2, none⟩) hE (cell_lt c2)).trans f2; replace c0 := hE.cell c0; replace c1 := hE.cell c1; replace c2 := hE.cell c2; replace EX := EX.trans hE; clear hE)
      | (go_at_call 129; (with_reducible refine (HL1.out _).mono ?_); rintro e w' ⟨rfl, hE⟩; replace f0 := (Below.frozen (p := ⟨w.heap.size, 0, none⟩) hE (cell_lt c0)).trans f0; replace f1 := (Below.frozen (p := ⟨w.heap.size, 1, none⟩) hE (cell_lt c1)).trans f1; replace f2 := (Below.frozen (p := ⟨w.heap.size, 2, none⟩) hE (cell_lt c2)).trans f2; replace c0 := hE.cell c0; replace c1 := hE.cell c1; replace c2 := hE.cell c2; replace EX := EX.trans hE; clear hE)
      | (go_at_call 129; (with_reducible refine (HL2.out _).mono ?_); rintro e w' ⟨rfl, hE⟩; replace f0 := (Below.frozen (p := ⟨w.heap.size, 0, none⟩) hE (cell_lt c0)).trans f0; replace f1 := (Below.frozen (p := ⟨w.heap.size, 1, none⟩) hE (cell_lt c1)).trans f1; replace f2 := (Below.frozen (p := ⟨w.heap.size, 2, none⟩) hE (cell_lt c2)).trans f2; replace c0 := hE.cell c0; replace c1 := hE.cell c1; replace c2 := hE.cell c2; replace EX := EX.trans hE; clear hE))
    have hz := cell_lt c0
    dsimp only at hz
    have EA : Ext w' (w'.alloc (.cells #[.bool false, .slice none 0 0, .slice none 0 0] 116)) := extA
    have X1 : Num3 w'.heap.size (w'.alloc (.cells #[.bool false, .slice none 0 0, .slice none 0 0] 116)) (.bool false) (.slice none 0 0) (.slice none 0 0) := ⟨by go_simp, by go_simp, by go_simp, by go_simp, by go_simp, by go_simp⟩
    have R1 : Num3 w.heap.size (w'.alloc (.cells #[.bool false, .slice none 0 0, .slice none 0 0] 116)) (.bool false) (.slice none 0 0) (.slice none 0 0) := (Num3.mk c0 c1 c2 f0 f1 f2).ext EA
    have E1 := EX.trans EA
    clear c0 c1 c2 f0 f1 f2 EA EX
    obtain ⟨xb, hxb⟩ : ∃ xb, xb = w'.heap.size := ⟨_, rfl⟩
    rw [← hxb] at X1 hz ⊢
    clear hxb
    generalize (w'.alloc (.cells #[.bool false, .slice none 0 0, .slice none 0 0] 116)) = W1 at X1 R1 E1 ⊢
    refine (HSG1.out _).mono ?_
    rintro e w2 ⟨ta, tc, rfl, hC1, hN1, hE⟩
    have hz1 : xb < W1.heap.size := cell_lt X1.c0
    have hN1x : ∀ p, ta = some p → p.block ≠ xb := fun p hp => by have := hN1 p hp; omega
    have hN1w : ∀ p, ta = some p → p.block ≠ w.heap.size := fun p hp => by have := hN1 p hp; omega
    replace X1 := X1.ext hE
    replace R1 := R1.ext hE
    replace E1 := E1.trans hE
    have hxw := cell_lt X1.c0
    dsimp only at hxw
    obtain ⟨x0, x1, x2, g0, g1, g2⟩ := X1
    have HC1 := Lib.hid hC1
    have HX1 := Lib.hid (Num3.mk x0 x1 x2 g0 g1 g2)
    have HR1 := Lib.hid R1
    clear hE hC1 HSG1 R1
    go_wp2_with fail
    have X2 : Num3 xb ((w2.setCell ⟨xb, 0, none⟩ (.bool sg)).setCell ⟨xb, 1, none⟩ (.slice ta (toB 1000000000 n1).length tc)) (.bool sg) (.slice ta (toB 1000000000 n1).length tc) (.slice none 0 0) := (HX1.out.set0 _).set1 _
    have R2 : Num3 w.heap.size ((w2.setCell ⟨xb, 0, none⟩ (.bool sg)).setCell ⟨xb, 1, none⟩ (.slice ta (toB 1000000000 n1).length tc)) (.bool false) (.slice none 0 0) (.slice none 0 0) := (HR1.out.other (by omega) _).other (by omega) _
    have E2 : Ext w ((w2.setCell ⟨xb, 0, none⟩ (.bool sg)).setCell ⟨xb, 1, none⟩ (.slice ta (toB 1000000000 n1).length tc)) := (E1.set (by omega) _).set (by omega) _
    have HC2 := Lib.hid ((HC1.out.set (c := xb) (o := 0) (v := .bool sg) hN1x).set (c := xb) (o := 1) (v := .slice ta (toB 1000000000 n1).length tc) hN1x)
    have HT := Lib.hid (And.intro hN1x hN1w)
    clear x0 x1 x2 g0 g1 g2 HX1 HR1 E1 HC1 hN1 hN1x hN1w hz1
    generalize ((w2.setCell ⟨xb, 0, none⟩ (.bool sg)).setCell ⟨xb, 1, none⟩ (.slice ta (toB 1000000000 n1).length tc)) = W2 at X2 R2 E2 HC2 ⊢
    refine (HSG2.out _).mono ?_
    rintro e w4 ⟨ba, bc, rfl, hC1, hN1, hE⟩
    have hz1 : xb < W2.heap.size := cell_lt X2.c0
    have hB1x : ∀ p, ba = some p → p.block ≠ xb := fun p hp => by have := hN1 p hp; omega
    have hB1w : ∀ p, ba = some p → p.block ≠ w.heap.size := fun p hp => by have := hN1 p hp; omega
    have HBT := Lib.hid (And.intro hB1x hB1w)
    have X4 := X2.ext hE
    have R4 := R2.ext hE
    have E4 := E2.trans hE
    have HC4 := Lib.hid (HC2.out.ext hE)
    have HD4 := Lib.hid hC1
    have hxw4 := cell_lt X4.c0
    dsimp only at hxw4
    clear hE hC1 hN1 hz1 hB1x hB1w X2 R2 E2 HC2 HSG2 hxw
    obtain ⟨x0, x1, x2, g0, g1, g2⟩ := X4
    obtain ⟨c0, c1, c2, f0, f1, f2⟩ := R4
    have hwx : w.heap.size ≠ xb := by omega
    have HC5 := Lib.hid (HC4.out.set (c := xb) (o := 2) (v := (.slice ba (toB 1000000000 n2).length bc)) HT.out.1)
    have HD5 := Lib.hid (HD4.out.set (c := xb) (o := 2) (v := (.slice ba (toB 1000000000 n2).length bc)) HBT.out.1)
    clear HC4 HD4 HZ0 HZ1
    go_wp2_with fail
    refine bodyPost_ret (v := .tuple #[.agg #[.bool sg, .slice ta (toB 1000000000 n1).length tc, (.slice ba (toB 1000000000 n2).length bc)], .int .i64 0]) (by rw [results_cell_tmp1 rfl]; go_simp) rfl ?_
    refine ⟨_, by rw [HZ.out.1]; rfl, ⟨_, _, _, _, _, _, _, rfl⟩, fun _ => ⟨ta, tc, ba, bc, by rw [HNU.out HZ.out.2], ?_, ?_⟩, extA⟩
    · rw [HNU.out HZ.out.2]
      exact ((HC5.out.set (c := w.heap.size) HT.out.2).set (c := w.heap.size) HT.out.2).set (c := w.heap.size) HT.out.2
    · rw [HNU.out HZ.out.2]
      exact ((HD5.out.set (c := w.heap.size) HBT.out.2).set (c := w.heap.size) HBT.out.2).set (c := w.heap.size) HBT.out.2
  · have HZ := Lib.hid (HZ1.out rfl)
    go_wp2_with (first
      | (go_at_call 127; (with_reducible refine (HCut.out _ EX).mono ?_); rintro e w' ⟨rfl, hE⟩; replace f0 := (Below.frozen (p := ⟨w.heap.size, 0, none⟩) hE (cell_lt c0)).trans f0; replace f1 := (Below.frozen (p := ⟨w.heap.size, 1, none⟩) hE (cell_lt c1)).trans f1; replace f2 := (Below.frozen (p := ⟨w.heap.size, 2, none⟩) hE (cell_lt c2)).trans f2; replace c0 := hE.cell c0; replace c1 := hE.cell c1; replace c2 := hE.cell c2; replace EX := EX.trans hE; clear hE)
      | (go_at_call 128; (with_reducible refine (HI1.out _).mono ?_); rintro e w' ⟨rfl, hE⟩; replace f0 := (Below.frozen (p := ⟨w.heap.size, 0, none⟩) hE (cell_lt c0)).trans f0; replace f1 := (Below.frozen (p := ⟨w.heap.size, 1, none⟩) hE (cell_lt c1)).trans f1; replace f2 := (Below.frozen (p := ⟨w.heap.size, 2, none⟩) hE (cell_lt c2)).trans f2; replace c0 := hE.cell c0; replace c1 := hE.cell c1; replace c2 := hE.cell c2; replace EX := EX.trans hE; clear hE)
      | (go_at_call 128; (with_reducible refine (HI2.out _).mono ?_); rintro e w' ⟨rfl, hE⟩; replace f0 := (Below.frozen (p := ⟨w.heap.size, 0, none⟩) hE (cell_lt c0)).trans f0; replace f1 := (Below.frozen (p := ⟨w.heap.size, 1, none⟩) hE (cell_lt c1)).trans f1; replace f2 := (Below.frozen (p := ⟨w.heap.size, 2, none⟩) hE (cell_lt c2)).trans f2; replace c0 := hE.cell c0; replace c1 := hE.cell c1; replace c2 := hE.cell c2; replace EX := EX.trans hE; clear hE)
      | (go_at_call 129; (with_reducible refine (HL1.out _).mono ?_); rintro e w' ⟨rfl, hE⟩; replace f0 := (Below.frozen (p := ⟨w.heap.size, 0, none⟩) hE (cell_lt c0)).trans f0; replace f1 := (Below.frozen (p := ⟨w.heap.size, 1, none⟩) hE (cell_lt c1)).trans f1; replace f2 := (Below.frozen (p := ⟨w.heap.size, 2, none⟩) hE (cell_lt c2)).trans f2; replace c0 := hE.cell c0; replace c1 := hE.cell c1; replace c2 := hE.cell c2; replace EX := EX.trans hE; clear hE)
      | (go_at_call 129; (with_reducible refine (HL2.out _).mono ?_); rintro e w' ⟨rfl, hE⟩; replace f0 := (Below.frozen (p := ⟨w.heap.size, 0, none⟩) hE (cell_lt c0)).trans f0; replace f1 := (Below.frozen (p := ⟨w.heap.size, 1, none⟩) hE (cell_lt c1)).trans f1; replace f2 := (Below.frozen (p := ⟨w.heap.size, 2, none⟩) hE (cell_lt c2)).trans f2; replace c0 := hE.cell c0; replace c1 := hE.cell c1; replace c2 := hE.cell c2; replace EX := EX.trans hE; clear hE))
    have hz := cell_lt c0
    dsimp only at hz
    have EA : Ext w' (w'.alloc (.cells #[.bool false, .slice none 0 0, .slice none 0 0] 116)) := extA
    have X1 : Num3 w'.heap.size (w'.alloc (.cells #[.bool false, .slice none 0 0, .slice none 0 0] 116)) (.bool false) (.slice none 0 0) (.slice none 0 0) := ⟨by go_simp, by go_simp, by go_simp, by go_simp, by go_simp, by go_simp⟩
    have R1 : Num3 w.heap.size (w'.alloc (.cells #[.bool false, .slice none 0 0, .slice none 0 0] 116)) (.bool false) (.slice none 0 0) (.slice none 0 0) := (Num3.mk c0 c1 c2 f0 f1 f2).ext EA
    have E1 := EX.trans EA
    clear c0 c1 c2 f0 f1 f2 EA EX
    obtain ⟨xb, hxb⟩ : ∃ xb, xb = w'.heap.size := ⟨_, rfl⟩
    rw [← hxb] at X1 hz ⊢
    clear hxb
    generalize (w'.alloc (.cells #[.bool false, .slice none 0 0, .slice none 0 0] 116)) = W1 at X1 R1 E1 ⊢
    refine (HSG1.out _).mono ?_
    rintro e w2 ⟨ta, tc, rfl, hC1, hN1, hE⟩
    have hz1 : xb < W1.heap.size := cell_lt X1.c0
    have hN1x : ∀ p, ta = some p → p.block ≠ xb := fun p hp => by have := hN1 p hp; omega
    have hN1w : ∀ p, ta = some p → p.block ≠ w.heap.size := fun p hp => by have := hN1 p hp; omega
    replace X1 := X1.ext hE
    replace R1 := R1.ext hE
    replace E1 := E1.trans hE
    have hxw := cell_lt X1.c0
    dsimp only at hxw
    obtain ⟨x0, x1, x2, g0, g1, g2⟩ := X1
    have HC1 := Lib.hid hC1
    have HX1 := Lib.hid (Num3.mk x0 x1 x2 g0 g1 g2)
    have HR1 := Lib.hid R1
    clear hE hC1 HSG1 R1
    go_wp2_with fail
    have X2 : Num3 xb ((w2.setCell ⟨xb, 0, none⟩ (.bool sg)).setCell ⟨xb, 1, none⟩ (.slice ta (toB 1000000000 n1).length tc)) (.bool sg) (.slice ta (toB 1000000000 n1).length tc) (.slice none 0 0) := (HX1.out.set0 _).set1 _
    have R2 : Num3 w.heap.size ((w2.setCell ⟨xb, 0, none⟩ (.bool sg)).setCell ⟨xb, 1, none⟩ (.slice ta (toB 1000000000 n1).length tc)) (.bool false) (.slice none 0 0) (.slice none 0 0) := (HR1.out.other (by omega) _).other (by omega) _
    have E2 : Ext w ((w2.setCell ⟨xb, 0, none⟩ (.bool sg)).setCell ⟨xb, 1, none⟩ (.slice ta (toB 1000000000 n1).length tc)) := (E1.set (by omega) _).set (by omega) _
    have HC2 := Lib.hid ((HC1.out.set (c := xb) (o := 0) (v := .bool sg) hN1x).set (c := xb) (o := 1) (v := .slice ta (toB 1000000000 n1).length tc) hN1x)
    have HT := Lib.hid (And.intro hN1x hN1w)
    clear x0 x1 x2 g0 g1 g2 HX1 HR1 E1 HC1 hN1 hN1x hN1w hz1
    generalize ((w2.setCell ⟨xb, 0, none⟩ (.bool sg)).setCell ⟨xb, 1, none⟩ (.slice ta (toB 1000000000 n1).length tc)) = W2 at X2 R2 E2 HC2 ⊢
    refine (HSG2.out _).mono ?_
    rintro e w4 ⟨ba, bc, rfl, hC1, hN1, hE⟩
    have hz1 : xb < W2.heap.size := cell_lt X2.c0
    have hB1x : ∀ p, ba = some p → p.block ≠ xb := fun p hp => by have := hN1 p hp; omega
    have hB1w : ∀ p, ba = some p → p.block ≠ w.heap.size := fun p hp => by have := hN1 p hp; omega
    have HBT := Lib.hid (And.intro hB1x hB1w)
    have X4 := X2.ext hE
    have R4 := R2.ext hE
    have E4 := E2.trans hE
    have HC4 := Lib.hid (HC2.out.ext hE)
    have HD4 := Lib.hid hC1
    have hxw4 := cell_lt X4.c0
    dsimp only at hxw4
    clear hE hC1 hN1 hz1 hB1x hB1w X2 R2 E2 HC2 HSG2 hxw
    have hwx : w.heap.size ≠ xb := by omega
    clear HZ0 HZ1
    cases sl
    rotate_left
    · have HE : Hid (fracE t = 3) := HZ.out.trans (by rw [if_pos rfl])
      obtain ⟨c0, c1, c2, f0, f1, f2⟩ := R4
      obtain ⟨x0, x1, x2, g0, g1, g2⟩ := X4
      clear HC4 HD4 HZ
      go_wp2_with fail
      refine bodyPost_ret (v := .tuple #[.agg #[.bool false, .slice none 0 0, .slice none 0 0], .int .i64 3]) (by rw [results_cell_tmp1 rfl]; go_simp) rfl ?_
      exact ⟨_, by rw [HE.out]; rfl, ⟨_, _, _, _, _, _, _, rfl⟩, fun h => absurd (HE.out.symm.trans h) (by decide), extA⟩
    · have HNM := Lib.hid (HNU.out rfl)
      have hZ := HZ.out
      rw [if_neg (by simp)] at hZ
      replace HZ := Lib.hid hZ
      clear hZ HNU
      have EV : Ext (w4.setCell ⟨xb, 2, none⟩ (.slice ba (toB 1000000000 n2).length bc)) ((w4.setCell ⟨xb, 2, none⟩ (.slice ba (toB 1000000000 n2).length bc)).alloc (.cells #[.int .u64 1] 161)) := extA
      have X : Num3 xb ((w4.setCell ⟨xb, 2, none⟩ (.slice ba (toB 1000000000 n2).length bc)).alloc (.cells #[.int .u64 1] 161)) (.bool sg) (.slice ta (toB 1000000000 n1).length tc) (.slice ba (toB 1000000000 n2).length bc) := (X4.set2 _).ext EV
      have R : Num3 w.heap.size ((w4.setCell ⟨xb, 2, none⟩ (.slice ba (toB 1000000000 n2).length bc)).alloc (.cells #[.int .u64 1] 161)) (.bool false) (.slice none 0 0) (.slice none 0 0) := (R4.other (by omega) _).ext EV
      have E : Ext w ((w4.setCell ⟨xb, 2, none⟩ (.slice ba (toB 1000000000 n2).length bc)).alloc (.cells #[.int .u64 1] 161)) := (E4.set (by omega) _).trans EV
      have HC := Lib.hid ((HC4.out.set (c := xb) (o := 2) (v := (.slice ba (toB 1000000000 n2).length bc)) HT.out.1).ext EV)
      have HD := Lib.hid ((HD4.out.set (c := xb) (o := 2) (v := (.slice ba (toB 1000000000 n2).length bc)) HBT.out.1).ext EV)
      have HL := Lib.hid (cells_lit (w4.setCell ⟨xb, 2, none⟩ (.slice ba (toB 1000000000 n2).length bc)) 161)
      obtain ⟨x0, x1, x2, g0, g1, g2⟩ := X4
      clear R4 E4 HC4 HD4 EV
      go_wp2_with fail
      have hs5 : (w4.setCell ⟨xb, 2, none⟩ (.slice ba (toB 1000000000 n2).length bc)).heap.size = w4.heap.size := by simp [World.setCell]
      rw [hs5] at HL
      generalize ((w4.setCell ⟨xb, 2, none⟩ (.slice ba (toB 1000000000 n2).length bc)).alloc (.cells #[.int .u64 1] 161)) = w6 at X R E HC HD HL ⊢
      clear x0 x1 x2 g0 g1 g2 hs5
      refine (compare1_any n2 _ ba bc w4.heap.size _ rfl (by omega) HD.out HL.out).mono ?_
      rintro e w7 ⟨rfl, hE⟩
      replace X := X.ext hE
      replace R := R.ext hE
      replace E := E.trans hE
      replace HC := Lib.hid (HC.out.ext hE)
      replace HD := Lib.hid (HD.out.ext hE)
      clear hE
      have hxw7 := cell_lt X.c0
      dsimp only at hxw7
      by_cases hle : n2 ≤ 1
      · have HE : Hid (fracE t = 3) := HZ.out.trans (by rw [if_pos hle])
        obtain ⟨z, hz, hz0⟩ : ∃ z, ordN n2 1 = z ∧ z ≤ 0 := ⟨_, rfl, ordN_le.2 hle⟩
        rw [hz]
        obtain ⟨c0, c1, c2, f0, f1, f2⟩ := R
        obtain ⟨x0, x1, x2, g0, g1, g2⟩ := X
        clear hz hle HC HD HL HZ HNM
        go_wp2_with fail
        refine bodyPost_ret (v := .tuple #[.agg #[.bool false, .slice none 0 0, .slice none 0 0], .int .i64 3]) (by rw [results_cell_tmp1 rfl]; go_simp) rfl ?_
        exact ⟨_, by rw [HE.out]; rfl, ⟨_, _, _, _, _, _, _, rfl⟩, fun h => absurd (HE.out.symm.trans h) (by decide), extA⟩
      · have hZ := HZ.out
        rw [if_neg hle] at hZ
        replace HZ := Lib.hid hZ
        obtain ⟨z, hz, hz0⟩ : ∃ z, ordN n2 1 = z ∧ ¬ z ≤ 0 := ⟨_, rfl, fun h => hle (ordN_le.1 h)⟩
        rw [hz]
        obtain ⟨g, hg⟩ : ∃ g, g = Nat.gcd n1 n2 := ⟨_, rfl⟩
        have hgl : (toB 1000000000 g).length ≤ 101 := len_le (by
          have h1 : Nat.gcd n1 n2 ≤ n2 := Nat.gcd_le_right _ (by omega)
          have h2 := lt_of_len (x := n2) rfl (by omega)
          have h3 : (1000000000 : Nat) ^ 100 ≤ 1000000000 ^ 101 := Nat.pow_le_pow_right (by omega) (by omega)
          omega)
        have hDV := (divisor_any n1 n2 _ _ ta ba tc bc w7 rfl rfl (by omega) (by omega) (by omega) HC.out HD.out).mono fun _ _ h => h.newB
        rw [← hg] at hDV
        have hZ2 : (g = 1 → fracE t = 0) ∧ (g ≠ 1 → fracE t = 3) := ⟨fun h => by rw [hZ, if_neg (by rw [hg] at h; simpa using h)], fun h => by rw [hZ, if_pos (by rw [hg] at h; exact h)]⟩
        have HZ2 := Lib.hid hZ2
        have HDV := Lib.hid hDV
        clear hz hZ hZ2 HZ HL hDV hg
        obtain ⟨x0, x1, x2, g0, g1, g2⟩ := X
        go_wp2_with fail
        have X := Num3.mk x0 x1 x2 g0 g1 g2
        clear x0 x1 x2 g0 g1 g2
        refine HDV.out.mono ?_
        rintro e w8 ⟨ga, gc, rfl, hgC, _, hE⟩
        replace X := X.ext hE
        replace R := R.ext hE
        replace E := E.trans hE
        replace HC := Lib.hid (HC.out.ext hE)
        replace HD := Lib.hid (HD.out.ext hE)
        clear hE
        have HGC := Lib.hid hgC
        clear hgC HDV
        have hE : Ext w8 (w8.alloc (.cells #[.int .u64 1] 161)) := extA
        replace X := X.ext hE
        replace R := R.ext hE
        replace E := E.trans hE
        replace HC := Lib.hid (HC.out.ext hE)
        replace HD := Lib.hid (HD.out.ext hE)
        have HG8 := Lib.hid (HGC.out.ext hE)
        have HL := Lib.hid (cells_lit w8 161)
        clear hE HGC
        go_wp2_with fail
        generalize (w8.alloc (.cells #[.int .u64 1] 161)) = w9 at X R E HC HD HL HG8 ⊢
        refine (compare1_any g _ ga gc w8.heap.size _ rfl (by omega) HG8.out HL.out).mono ?_
        rintro e w10 ⟨rfl, hE⟩
        replace X := X.ext hE
        replace R := R.ext hE
        replace E := E.trans hE
        replace HC := Lib.hid (HC.out.ext hE)
        replace HD := Lib.hid (HD.out.ext hE)
        clear hE
        clear HG8 HL
        obtain ⟨c0, c1, c2, f0, f1, f2⟩ := R
        obtain ⟨x0, x1, x2, g0, g1, g2⟩ := X
        by_cases h1 : g = 1
        · have HE : Hid (fracE t = 0) := HZ2.out.1 h1
          have hz1 : ordN g 1 = 0 := ordN_zero.2 h1
          rw [hz1]
          clear hz1 h1 HZ2
          go_wp2_with fail
          refine bodyPost_ret (v := .tuple #[.agg #[.bool sg, .slice ta (toB 1000000000 n1).length tc, (.slice ba (toB 1000000000 n2).length bc)], .int .i64 0]) (by rw [results_cell_tmp1 rfl]; go_simp) rfl ?_
          refine ⟨_, by rw [HE.out]; rfl, ⟨_, _, _, _, _, _, _, rfl⟩, fun _ => ⟨ta, tc, ba, bc, by rw [HNM.out], ?_, ?_⟩, extA⟩
          · rw [HNM.out]
            exact ((HC.out.set (c := w.heap.size) HT.out.2).set (c := w.heap.size) HT.out.2).set (c := w.heap.size) HT.out.2
          · rw [HNM.out]
            exact ((HD.out.set (c := w.heap.size) HBT.out.2).set (c := w.heap.size) HBT.out.2).set (c := w.heap.size) HBT.out.2
        · have HE : Hid (fracE t = 3) := HZ2.out.2 h1
          obtain ⟨z, hz, hz0⟩ : ∃ z, ordN g 1 = z ∧ (z != 0) = true := ⟨_, rfl, by rw [bne_iff_ne]; exact fun h => h1 (ordN_zero.1 h)⟩
          rw [hz]
          clear hz h1 HZ2
          go_wp2_with fail
          refine bodyPost_ret (v := .tuple #[.agg #[.bool false, .slice none 0 0, .slice none 0 0], .int .i64 3]) (by rw [results_cell_tmp1 rfl]; go_simp) rfl ?_
          exact ⟨_, by rw [HE.out]; rfl, ⟨_, _, _, _, _, _, _, rfl⟩, fun h => absurd (HE.out.symm.trans h) (by decide), extA⟩
end Go.Proofs.YtdejgaiocjfhjaaGreatDoor
namespace Go.Proofs.YtdejgaiocjfhjaaGreatDoor
open Go.RowKit
open Go.Lib (decDigits)
theorem len_dec {s : Txt} (h : DigitL s) (hl : s.length ≤ 60) : (toB 1000000 (decV s)).length ≤ 10 :=
  toB_len (by omega) 10 (Nat.lt_of_lt_of_le (decV_lt h) (Nat.le_trans (Nat.pow_le_pow_right (by omega) hl) (by decide)))
theorem intE_ok {s : Txt} (h : intE s = 0) : CanonL (bareS s) ∧ s ≠ [45, 48] ∧ (bareS s).length ≤ 60 := by
  unfold intE at h
  split at h
  · cases h
  · rename_i h1
    split at h
    · cases h
    · rename_i h2
      have h1 := Decidable.not_not.1 h1
      exact ⟨h1.1, h1.2, by omega⟩
theorem canon_01 {d : Txt} (h : CanonL d) : (d = [48] ↔ decV d = 0) ∧ (d = [49] ↔ decV d = 1) := by
  refine ⟨⟨fun e => by rw [e]; rfl, fun e => canon_zero h e⟩, ⟨fun e => by rw [e]; rfl, fun e => ?_⟩⟩
  exact canon_inj h (by decide) (by rw [e]; rfl)
set_option maxHeartbeats 8000000 in
set_option maxRecDepth 100000 in
theorem checkR_any (a : Txt) (w : World) (hl : a.length ≤ 400) :
    Calls Tryz.prog 60 #[txt a] w fun e w' => e = .returned (.int .i64 (fracE a : Nat)) ∧ Ext w w' := by
  have htl : (topS a).length ≤ 400 := Nat.le_trans (List.takeWhile_prefix _).length_le hl
  have hll : (lowS a).length ≤ 400 := by
    unfold lowS
    split
    · rw [List.length_tail]
      have := (List.dropWhile_suffix (l := a) (· != 47)).length_le
      omega
    · simp
  have HS := Lib.hid (fun W => splitR_any a W hl)
  have HSL := Lib.hid (fun W => slashR_any a W hl)
  have HIT := Lib.hid (fun W => integerR_any (topS a) W htl)
  have HIL := Lib.hid (fun W => integerR_any (lowS a) W hll)
  have HBT := Lib.hid (fun W => bareR_any (topS a) W htl)
  obtain ⟨f, hf⟩ : ∃ f, f = fracE a := ⟨_, rfl⟩
  rw [← hf]
  unfold fracE at hf
  obtain ⟨n, hn⟩ : ∃ n, n = topS a := ⟨_, rfl⟩
  obtain ⟨d, hd⟩ : ∃ d, d = lowS a := ⟨_, rfl⟩
  rw [← hn, ← hd] at hf HS
  rw [← hn] at HIT HBT HSL htl
  rw [← hd] at HIL hll
  clear hn hd
  obtain ⟨p, hp⟩ : ∃ p, p = intE n := ⟨_, rfl⟩
  obtain ⟨q, hq⟩ : ∃ q, q = intE d := ⟨_, rfl⟩
  rw [← hp, ← hq] at hf
  rw [← hp] at HIT
  rw [← hq] at HIL
  have HP := Lib.hid hp
  have HQ := Lib.hid hq
  clear hp hq
  by_cases h3 : p = 3 ∨ q = 3
  · rw [if_pos h3] at hf
    subst hf
    clear HSL HBT HP HQ
    by_cases hp3 : p = 3
    · have h1 : ((p : Int) == 3) = true := by rw [hp3]; rfl
      clear h3 hp3
      go_enter Tryz.func60, Tryz.ntmps60
      go_wp2_with (first
        | ((go_at_call 99; (with_reducible refine (HS.out _).mono ?_); rintro e w1 ⟨rfl, hE⟩))
        | (go_at_call 100; first | (with_reducible refine (HIT.out _).mono ?_; rintro e w' ⟨rfl, rfl⟩) | (with_reducible refine (HIL.out _).mono ?_; rintro e w' ⟨rfl, rfl⟩)))
      go_ret
      exact ⟨rfl, hE⟩
    · have h1 : ((p : Int) == 3) = false := by rw [beq_eq_false_iff_ne]; omega
      have h2 : ((q : Int) == 3) = true := by rw [beq_iff_eq]; omega
      clear h3 hp3
      go_enter Tryz.func60, Tryz.ntmps60
      go_wp2_with (first
        | ((go_at_call 99; (with_reducible refine (HS.out _).mono ?_); rintro e w1 ⟨rfl, hE⟩))
        | (go_at_call 100; first | (with_reducible refine (HIT.out _).mono ?_; rintro e w' ⟨rfl, rfl⟩) | (with_reducible refine (HIL.out _).mono ?_; rintro e w' ⟨rfl, rfl⟩)))
      go_ret
      exact ⟨rfl, hE⟩
  · rw [if_neg h3] at hf
    have h1 : ((p : Int) == 3) = false := by rw [beq_eq_false_iff_ne]; omega
    have h2 : ((q : Int) == 3) = false := by rw [beq_eq_false_iff_ne]; omega
    by_cases h0 : p ≠ 0 ∨ q ≠ 0
    · rw [if_pos h0] at hf
      subst hf
      clear HSL HBT HP HQ
      by_cases hp3 : p = 0
      · have h4 : ((p : Int) == 0) = true := by rw [hp3]; rfl
        have h5 : ((q : Int) == 0) = false := by rw [beq_eq_false_iff_ne]; omega
        have h4' : ((p : Int) != 0) = false := by rw [hp3]; rfl
        have h5' : ((q : Int) != 0) = true := by rw [bne_iff_ne]; omega
        clear h3 hp3 h0
        go_enter Tryz.func60, Tryz.ntmps60
        go_wp2_with (first
          | ((go_at_call 99; (with_reducible refine (HS.out _).mono ?_); rintro e w1 ⟨rfl, hE⟩))
          | (go_at_call 100; first | (with_reducible refine (HIT.out _).mono ?_; rintro e w' ⟨rfl, rfl⟩) | (with_reducible refine (HIL.out _).mono ?_; rintro e w' ⟨rfl, rfl⟩)))
        go_ret
        exact ⟨rfl, hE⟩
      · have h4 : ((p : Int) == 0) = false := by rw [beq_eq_false_iff_ne]; omega
        have h4' : ((p : Int) != 0) = true := by rw [bne_iff_ne]; omega
        clear h3 hp3 h0
        go_enter Tryz.func60, Tryz.ntmps60
        go_wp2_with (first
          | ((go_at_call 99; (with_reducible refine (HS.out _).mono ?_); rintro e w1 ⟨rfl, hE⟩))
          | (go_at_call 100; first | (with_reducible refine (HIT.out _).mono ?_; rintro e w' ⟨rfl, rfl⟩) | (with_reducible refine (HIL.out _).mono ?_; rintro e w' ⟨rfl, rfl⟩)))
        go_ret
        exact ⟨rfl, hE⟩
    · rw [if_neg h0] at hf
      have hp0 : p = 0 := by omega
      have hq0 : q = 0 := by omega
      clear h3 h0 h1 h2
      subst hp0 hq0
      by_cases h47 : (47 : UInt8) ∈ a
      · rw [if_neg (not_not_intro h47)] at hf
        rw [if_pos h47] at HSL
        have hneg : ¬ ((n.length : Nat) : Int) < 0 := by omega
        clear h47
        obtain ⟨kt1, _, kt3⟩ := intE_ok HP.out.symm
        obtain ⟨kl1, _, kl3⟩ := intE_ok HQ.out.symm
        have hdne : d ≠ [] := fun e => kl1.2.1 (by rw [e]; rfl)
        obtain ⟨c, m, hcm⟩ := List.exists_cons_of_ne_nil hdne
        have hget : ∀ h, (⟨d.toArray⟩ : ByteArray)[0]'h = c := fun _ => by subst hcm; rfl
        have hpos : (0 : Int) < (d.length : Int) := by rw [hcm, List.length_cons]; omega
        by_cases hng : negS d = true
        · rw [if_pos (.inl hng)] at hf
          have hc : ((c.toNat : Int) == 45) = true := by
            have h1 : c = 45 := by rw [hcm] at hng; simpa [negS] using hng
            rw [h1]; rfl
          subst hf
          clear hdne hcm hng kt1 kt3 kl1 kl3 HP HQ HBT
          go_enter Tryz.func60, Tryz.ntmps60
          go_wp2_with (first
            | ((go_at_call 99; (with_reducible refine (HS.out _).mono ?_); rintro e w1 ⟨rfl, hE⟩))
            | (go_at_call 101; refine (HSL.out _).mono ?_; rintro e w' ⟨rfl, rfl⟩)
            | (go_at_call 100; first | (with_reducible refine (HIT.out _).mono ?_; rintro e w' ⟨rfl, rfl⟩) | (with_reducible refine (HIL.out _).mono ?_; rintro e w' ⟨rfl, rfl⟩)))
          go_ret
          exact ⟨rfl, hE⟩
        · have hng2 : negS d = false := by simpa using hng
          have hc : ((c.toNat : Int) == 45) = false := by
            rw [beq_eq_false_iff_ne]
            intro e
            have h1 : c = 45 := UInt8.toNat_inj.1 (by show c.toNat = 45; omega)
            exact hng (by rw [hcm, h1]; rfl)
          have hb := bare_pos hng2
          rw [hb] at kl1 kl3
          obtain ⟨k0, k1⟩ := canon_01 kl1
          by_cases h48 : d = [48]
          · rw [if_pos (.inr (.inl (by rw [k0.1 h48]; omega)))] at hf
            have h48b : (d == [48]) = true := by rw [h48]; rfl
            subst hf
            clear hdne hcm hng hng2 kt1 kt3 kl1 kl3 HP HQ HBT hb k0 k1 h48
            go_enter Tryz.func60, Tryz.ntmps60
            go_wp2_with (first
            | ((go_at_call 99; (with_reducible refine (HS.out _).mono ?_); rintro e w1 ⟨rfl, hE⟩))
            | (go_at_call 101; refine (HSL.out _).mono ?_; rintro e w' ⟨rfl, rfl⟩)
            | (go_at_call 100; first | (with_reducible refine (HIT.out _).mono ?_; rintro e w' ⟨rfl, rfl⟩) | (with_reducible refine (HIL.out _).mono ?_; rintro e w' ⟨rfl, rfl⟩)))
            go_ret
            exact ⟨rfl, hE⟩
          · have h48b : (d == [48]) = false := by rw [beq_eq_false_iff_ne]; exact h48
            by_cases h49 : d = [49]
            · rw [if_pos (.inr (.inl (by rw [k1.1 h49]; omega)))] at hf
              have h49b : (d == [49]) = true := by rw [h49]; rfl
              subst hf
              clear hdne hcm hng hng2 kt1 kt3 kl1 kl3 HP HQ HBT hb k0 k1 h48 h49
              go_enter Tryz.func60, Tryz.ntmps60
              go_wp2_with (first
            | ((go_at_call 99; (with_reducible refine (HS.out _).mono ?_); rintro e w1 ⟨rfl, hE⟩))
            | (go_at_call 101; refine (HSL.out _).mono ?_; rintro e w' ⟨rfl, rfl⟩)
            | (go_at_call 100; first | (with_reducible refine (HIT.out _).mono ?_; rintro e w' ⟨rfl, rfl⟩) | (with_reducible refine (HIL.out _).mono ?_; rintro e w' ⟨rfl, rfl⟩)))
              go_ret
              exact ⟨rfl, hE⟩
            · have h49b : (d == [49]) = false := by rw [beq_eq_false_iff_ne]; exact h49
              have hd2 : ¬ decV d ≤ 1 := fun h => by
                have h5 : decV d = 0 ∨ decV d = 1 := by omega
                rcases h5 with h5 | h5
                · exact h48 (k0.2 h5)
                · exact h49 (k1.2 h5)
              have hf2 : f = if Nat.gcd (decV (bareS n)) (decV d) ≠ 1 then 3 else 0 := by
                rw [hf]
                by_cases hg : Nat.gcd (decV (bareS n)) (decV d) ≠ 1
                · rw [if_pos (.inr (.inr hg)), if_pos hg]
                · rw [if_neg (fun h => by
                    rcases h with h | h | h
                    · exact hng h
                    · exact hd2 h
                    · exact hg h), if_neg hg]
              have HF := Lib.hid hf2
              have HRT := Lib.hid (fun W => readR_any (bareS n) W kt1.1 (by omega))
              have HRL := Lib.hid (fun W => readR_any d W kl1.1 (by omega))
              have HL1 := Lib.hid (len_dec kt1.1 kt3)
              have HL2 := Lib.hid (len_dec kl1.1 kl3)
              have HGL : Hid ((toB 1000000 (Nat.gcd (decV (bareS n)) (decV d))).length ≤ 100) := by
                have h5 := toB_mono (B := 1000000) (by omega) (Nat.gcd_le_right (decV (bareS n)) (n := decV d) (by omega))
                have h6 := HL2.out
                show _ ≤ _
                omega
              clear hf hf2 hdne hcm hng hng2 kt1 kt3 kl1 kl3 HP HQ hb k0 k1 h48 h49 hd2
              generalize bareS n = nb at *
              generalize decV nb = x at *
              generalize decV d = y at *
              go_enter Tryz.func60, Tryz.ntmps60
              go_wp2_with (first
            | ((go_at_call 99; (with_reducible refine (HS.out _).mono ?_); rintro e w1 ⟨rfl, hE⟩))
            | (go_at_call 101; refine (HSL.out _).mono ?_; rintro e w' ⟨rfl, rfl⟩)
            | (go_at_call 100; first | (with_reducible refine (HIT.out _).mono ?_; rintro e w' ⟨rfl, rfl⟩) | (with_reducible refine (HIL.out _).mono ?_; rintro e w' ⟨rfl, rfl⟩))
            | (go_at_call 105; refine (HBT.out _).mono ?_; rintro e w' ⟨rfl, rfl⟩)
            | (go_at_call 104; have hh := HRT; clear HRT; refine (hh.out _).mono ?_; clear hh; rintro e w5 ⟨v5, rfl, o5, n5, e5⟩))
              have E5 := hE.trans e5
              obtain ⟨a5, c5, rfl, oc5, _, _⟩ := o5.reads
              have C5 := Lib.hid oc5
              clear o5 n5 e5 oc5 hE
              go_wp2_with (go_at_call 104; refine (HRL.out _).mono ?_; rintro e w6 ⟨v6, rfl, o6, n6, e6⟩)
              have E6 := E5.trans e6
              obtain ⟨a6, c6, rfl, oc6, _, _⟩ := o6.reads
              have C6 := Lib.hid oc6
              replace C5 := Lib.hid (C5.out.ext e6)
              have hx100 : (toB 1000000 x).length ≤ 100 := Nat.le_trans HL1.out (by omega)
              have hy100 : (toB 1000000 y).length ≤ 100 := Nat.le_trans HL2.out (by omega)
              have HSH := Lib.hid (sharedR_any x y (toB 1000000 x) (toB 1000000 y) a5 a6 c5 c6 w6 rfl rfl hx100 hy100 C5.out C6.out)
              clear o6 n6 e6 oc6 E5 C5 C6 hx100 hy100
              go_wp2_with (go_at_call 103; refine HSH.out.mono ?_; rintro e w7 ⟨a7, c7, rfl, hc7, e7⟩)
              have E7 := E6.trans e7
              have C7 := Lib.hid hc7
              clear e7 hc7 E6 HSH
              by_cases hg : Nat.gcd x y = 1
              · have hz : (ordN (Nat.gcd x y) 1 != 0) = false := by rw [bne_eq_false_iff_eq]; exact ordN_zero.2 hg
                have HF0 : Hid (f = 0) := by show _ = _; rw [HF.out, if_neg (not_not_intro hg)]
                clear hg
                go_wp2_with (go_at_call 102; refine (orderR_any (Nat.gcd x y) 1 (toB 1000000 (Nat.gcd x y)) [1] a7 _ c7 1 _ rfl (toB_one (by omega) (by omega) (by omega)).symm (Nat.le_trans HGL.out (by omega)) (by simp) (C7.out.ext ((Ext.refl _).alloc _)) (cells_one' 1 w7)).mono ?_; rintro e w8 ⟨rfl, e8⟩)
                go_ret
                rw [HF0.out]
                exact ⟨rfl, (E7.trans ((Ext.refl _).alloc _)).trans e8⟩
              · have hz : (ordN (Nat.gcd x y) 1 != 0) = true := by rw [bne_iff_ne]; exact fun h => hg (ordN_zero.1 h)
                have HF0 : Hid (f = 3) := by show _ = _; rw [HF.out, if_pos hg]
                clear hg
                go_wp2_with (go_at_call 102; refine (orderR_any (Nat.gcd x y) 1 (toB 1000000 (Nat.gcd x y)) [1] a7 _ c7 1 _ rfl (toB_one (by omega) (by omega) (by omega)).symm (Nat.le_trans HGL.out (by omega)) (by simp) (C7.out.ext ((Ext.refl _).alloc _)) (cells_one' 1 w7)).mono ?_; rintro e w8 ⟨rfl, e8⟩)
                go_ret
                rw [HF0.out]
                exact ⟨rfl, (E7.trans ((Ext.refl _).alloc _)).trans e8⟩
      · rw [if_pos h47] at hf
        rw [if_neg h47] at HSL
        subst hf
        clear h47 HBT HP HQ
        go_enter Tryz.func60, Tryz.ntmps60
        go_wp2_with (first
          | ((go_at_call 99; (with_reducible refine (HS.out _).mono ?_); rintro e w1 ⟨rfl, hE⟩))
          | (go_at_call 101; refine (HSL.out _).mono ?_; rintro e w' ⟨rfl, rfl⟩)
          | (go_at_call 100; first | (with_reducible refine (HIT.out _).mono ?_; rintro e w' ⟨rfl, rfl⟩) | (with_reducible refine (HIL.out _).mono ?_; rintro e w' ⟨rfl, rfl⟩)))
        go_ret
        exact ⟨rfl, hE⟩
end Go.Proofs.YtdejgaiocjfhjaaGreatDoor
namespace Go.Proofs.YtdejgaiocjfhjaaGreatDoor
open Go.RowKit
set_option maxHeartbeats 2000000 in
theorem opposite_any (x : Num) (v : Value) (w : World) (hv : NumV w v x) :
    Calls Tryz.prog 124 #[v] w fun e w' => ∃ u, e = .returned u ∧ NumV w' u (negN x) ∧ Ext w w' := by
  obtain ⟨ta, tc, ba, bc, rfl, h1, h2⟩ := hv
  obtain ⟨s, t, d⟩ := x
  have H1 := Lib.hid h1
  have H2 := Lib.hid h2
  dsimp only at H1 H2 ⊢
  clear h1 h2
  have HN : Hid (∀ W, Ext w W → NumV W (.agg #[.bool (!s), .slice ta (toB 1000000000 t).length tc, .slice ba (toB 1000000000 d).length bc]) (negN (s, t, d))) := fun W hW => ⟨ta, tc, ba, bc, rfl, H1.out.ext hW, H2.out.ext hW⟩
  generalize toB 1000000000 t = lt at *
  generalize toB 1000000000 d = ld at *
  go_enter Tryz.func124, Tryz.ntmps124
  go_wp2
  refine bodyPost_ret (v := .agg #[.bool (!s), .slice ta lt.length tc, .slice ba ld.length bc]) (by rw [results_cell1 rfl]; go_simp) rfl ?_
  have key : ∀ W, Ext w W → ∃ u, Ending.returned (.agg #[.bool (!s), .slice ta lt.length tc, .slice ba ld.length bc]) = .returned u ∧ NumV W u (negN (s, t, d)) ∧ Ext w W := fun W E => ⟨_, rfl, HN.out W E, E⟩
  exact key _ extA
def signN (x : Num) : Int := if x.2.1 = 0 then 0 else if x.1 then -1 else 1
set_option maxHeartbeats 2000000 in
theorem sign_any (x : Num) (v : Value) (w : World) (hv : NumV w v x) :
    Calls Tryz.prog 94 #[v] w fun e w' => e = .returned (.int .i64 (signN x)) ∧ Ext w w' := by
  obtain ⟨ta, tc, ba, bc, rfl, h1, h2⟩ := hv
  obtain ⟨s, t, d⟩ := x
  clear h1 h2
  dsimp only
  by_cases h0 : t = 0
  · have hl := len_zero h0
    have HS : Hid (signN (s, t, d) = 0) := by show _ = _; unfold signN; rw [if_pos h0]
    generalize (toB 1000000000 t).length = lt at *
    subst hl
    clear h0
    go_enter Tryz.func94, Tryz.ntmps94
    go_wp2
    go_ret
    exact ⟨ret_int HS.out.symm, extA⟩
  · have hl := len_pos h0
    have hl0 : (((toB 1000000000 t).length : Int) == 0) = false := by rw [beq_eq_false_iff_ne]; omega
    generalize (toB 1000000000 t).length = lt at *
    cases s
    · have HS : Hid (signN (false, t, d) = 1) := by show _ = _; unfold signN; rw [if_neg h0]; rfl
      clear h0
      go_enter Tryz.func94, Tryz.ntmps94
      go_wp2
      go_ret
      exact ⟨ret_int HS.out.symm, extA⟩
    · have HS : Hid (signN (true, t, d) = -1) := by show _ = _; unfold signN; rw [if_neg h0]; rfl
      clear h0
      go_enter Tryz.func94, Tryz.ntmps94
      go_wp2
      go_ret
      exact ⟨ret_int HS.out.symm, extA⟩
theorem CellsN.set2 {k : IntKind} {A : World} {a : Option Addr} {l : List Nat} (h : CellsN k A a l) {c o : Nat} {v : Value} (hn : 0 < l.length → ∀ p, a = some p → p.block ≠ c) : CellsN k (A.setCell ⟨c, o, none⟩ v) a l := fun i hi => by
  obtain ⟨b, off, h1, h2⟩ := h i hi
  refine ⟨b, off, h1, ?_⟩
  have := hn (by omega) _ h1
  rw [World.cell?_setCell_other _ _ _ _ (fun h => by simp only [Addr.mk.injEq] at h; exact this h.1.symm)]
  exact h2
theorem CellsN.lt {k : IntKind} {A : World} {a : Option Addr} {l : List Nat} (h : CellsN k A a l) (hl : 0 < l.length) : ∀ p, a = some p → p.block < A.heap.size := fun p hp => by
  obtain ⟨b, off, h1, h2⟩ := h 0 hl
  rw [hp] at h1
  cases h1
  exact cell_lt h2
theorem mul_len {x y m n : Nat} (hx : (toB 1000000000 x).length ≤ m) (hy : (toB 1000000000 y).length ≤ n) : (toB 1000000000 (x * y)).length ≤ m + n := by
  have lt : ∀ {z k : Nat}, (toB 1000000000 z).length ≤ k → z < 1000000000 ^ k := fun {z k} h => by
    have h1 := valB_lt (okB_toB (B := 1000000000) (by omega) z)
    rw [valB_toB (by omega)] at h1
    exact Nat.lt_of_lt_of_le h1 (Nat.pow_le_pow_right (by omega) h)
  refine toB_len (by omega) _ ?_
  rw [Nat.pow_add]
  exact Nat.mul_lt_mul'' (lt hx) (lt hy)
def NewN (n : Nat) (v : Value) : Prop := ∀ (s : Bool) ta (tn tc : Nat) ba (bn bc : Nat), v = .agg #[.bool s, .slice ta tn tc, .slice ba bn bc] → (0 < tn → ∀ p, ta = some p → n ≤ p.block) ∧ (0 < bn → ∀ p, ba = some p → n ≤ p.block)
theorem newN_mk {n : Nat} {s : Bool} {ta : Option Addr} {tn tc : Nat} {ba : Option Addr} {bn bc : Nat} (h1 : 0 < tn → ∀ p, ta = some p → n ≤ p.block) (h2 : 0 < bn → ∀ p, ba = some p → n ≤ p.block) : NewN n (.agg #[.bool s, .slice ta tn tc, .slice ba bn bc]) := by
  intro s' ta' tn' tc' ba' bn' bc' e
  cases e
  exact ⟨h1, h2⟩
theorem NumV.set {w : World} {v : Value} {x : Num} (h : NumV w v x) {n c o : Nat} {u : Value} (hn : NewN n v) (hc : c < n) : NumV (w.setCell ⟨c, o, none⟩ u) v x := by
  obtain ⟨ta, tc, ba, bc, rfl, h1, h2⟩ := h
  obtain ⟨k1, k2⟩ := hn _ _ _ _ _ _ _ rfl
  exact ⟨ta, tc, ba, bc, rfl, h1.set2 (fun hl p hp => by have := k1 hl p hp; omega), h2.set2 (fun hl p hp => by have := k2 hl p hp; omega)⟩
def LenN (k : Nat) (x : Num) : Prop := (toB 1000000000 x.2.1).length ≤ k ∧ (toB 1000000000 x.2.2).length ≤ k
set_option maxHeartbeats 8000000 in
set_option maxRecDepth 100000 in
theorem sum_any (x y : Num) (v u : Value) (w : World) (hv : NumV w v x) (hu : NumV w u y) (hx : LenN 40 x) (hy : LenN 40 y) :
    Calls Tryz.prog 123 #[v, u] w fun e w' => ∃ z, e = .returned z ∧ NumV w' z (sumN x y) ∧ NewN w.heap.size z ∧ Ext w w' := by
  obtain ⟨ta, tc, ba, bc, rfl, h1, h2⟩ := hv
  obtain ⟨ua, uc, va, vc, rfl, h3, h4⟩ := hu
  obtain ⟨s, t, d⟩ := x
  obtain ⟨r, p, q⟩ := y
  obtain ⟨l1, l2⟩ := hx
  obtain ⟨l3, l4⟩ := hy
  dsimp only at h1 h2 h3 h4 l1 l2 l3 l4 ⊢
  have m1 := mul_len l1 l4
  have m2 := mul_len l3 l2
  have m3 := mul_len l2 l4
  have HT1 := Lib.hid (fun W (hW : Ext w W) => (times_any t q _ _ ta va tc vc W rfl rfl (by omega) (by omega) (h1.ext hW) (h4.ext hW)).mono fun _ _ h => h.newB)
  have HT2 := Lib.hid (fun W (hW : Ext w W) => (times_any p d _ _ ua ba uc bc W rfl rfl (by omega) (by omega) (h3.ext hW) (h2.ext hW)).mono fun _ _ h => h.newB)
  have HT3 := Lib.hid (fun W (hW : Ext w W) => (times_any d q _ _ ba va bc vc W rfl rfl (by omega) (by omega) (h2.ext hW) (h4.ext hW)).mono fun _ _ h => h.newB)
  have HSN := Lib.hid (show sumN (s, t, d) (r, p, q) = if s = r then (s, t * q + p * d, d * q) else if p * d ≤ t * q then (s, t * q - p * d, d * q) else (r, p * d - t * q, d * q) from rfl)
  generalize sumN (s, t, d) (r, p, q) = SN at *
  generalize t * q = X1 at *
  generalize p * d = X2 at *
  generalize d * q = X3 at *
  clear h1 h2 h3 h4
  have E : Ext w (((w.alloc (.cells #[.bool s, (.slice ta (toB 1000000000 t).length tc), (.slice ba (toB 1000000000 d).length bc)] 116)).alloc (.cells #[.bool r, (.slice ua (toB 1000000000 p).length uc), (.slice va (toB 1000000000 q).length vc)] 116)).alloc (.cells #[.bool false, .slice none 0 0, .slice none 0 0] 116)) := extA
  have A : Num3 w.heap.size (((w.alloc (.cells #[.bool s, (.slice ta (toB 1000000000 t).length tc), (.slice ba (toB 1000000000 d).length bc)] 116)).alloc (.cells #[.bool r, (.slice ua (toB 1000000000 p).length uc), (.slice va (toB 1000000000 q).length vc)] 116)).alloc (.cells #[.bool false, .slice none 0 0, .slice none 0 0] 116)) (.bool s) (.slice ta (toB 1000000000 t).length tc) (.slice ba (toB 1000000000 d).length bc) := ⟨by go_simp, by go_simp, by go_simp, by go_simp, by go_simp, by go_simp⟩
  have B : Num3 (w.heap.size + 1) (((w.alloc (.cells #[.bool s, (.slice ta (toB 1000000000 t).length tc), (.slice ba (toB 1000000000 d).length bc)] 116)).alloc (.cells #[.bool r, (.slice ua (toB 1000000000 p).length uc), (.slice va (toB 1000000000 q).length vc)] 116)).alloc (.cells #[.bool false, .slice none 0 0, .slice none 0 0] 116)) (.bool r) (.slice ua (toB 1000000000 p).length uc) (.slice va (toB 1000000000 q).length vc) := ⟨by go_simp, by go_simp, by go_simp, by go_simp, by go_simp, by go_simp⟩
  have R : Num3 (w.heap.size + 1 + 1) (((w.alloc (.cells #[.bool s, (.slice ta (toB 1000000000 t).length tc), (.slice ba (toB 1000000000 d).length bc)] 116)).alloc (.cells #[.bool r, (.slice ua (toB 1000000000 p).length uc), (.slice va (toB 1000000000 q).length vc)] 116)).alloc (.cells #[.bool false, .slice none 0 0, .slice none 0 0] 116)) (.bool false) (.slice none 0 0) (.slice none 0 0) := ⟨by go_simp, by go_simp, by go_simp, by go_simp, by go_simp, by go_simp⟩
  go_enter Tryz.func123, Tryz.ntmps123
  go_wp2_with fail
  generalize (((w.alloc (.cells #[.bool s, (.slice ta (toB 1000000000 t).length tc), (.slice ba (toB 1000000000 d).length bc)] 116)).alloc (.cells #[.bool r, (.slice ua (toB 1000000000 p).length uc), (.slice va (toB 1000000000 q).length vc)] 116)).alloc (.cells #[.bool false, .slice none 0 0, .slice none 0 0] 116)) = W at E A B R ⊢
  have hdr : Ext W W.drew := extA
  replace A := A.ext hdr
  replace B := B.ext hdr
  replace R := R.ext hdr
  replace E := E.trans hdr
  have hS : W.drew.cell? ⟨w.heap.size, 1, none⟩ = some (.slice ta (toB 1000000000 t).length tc) ∧ W.drew.cell? ⟨w.heap.size + 1, 2, none⟩ = some (.slice va (toB 1000000000 q).length vc) ∧ W.drew.cell? ⟨w.heap.size + 1, 1, none⟩ = some (.slice ua (toB 1000000000 p).length uc) ∧ W.drew.cell? ⟨w.heap.size, 2, none⟩ = some (.slice ba (toB 1000000000 d).length bc) := ⟨A.c1, B.c2, B.c1, A.c2⟩
  refine wp_region_heldE 99 (fun w' => w'.cell? ⟨w.heap.size, 1, none⟩ = some (.slice ta (toB 1000000000 t).length tc) ∧ w'.cell? ⟨w.heap.size + 1, 2, none⟩ = some (.slice va (toB 1000000000 q).length vc) ∧ w'.cell? ⟨w.heap.size + 1, 1, none⟩ = some (.slice ua (toB 1000000000 p).length uc) ∧ w'.cell? ⟨w.heap.size, 2, none⟩ = some (.slice ba (toB 1000000000 d).length bc)) (by kernel_rfl) ?_
  clear hdr
  generalize W.drew = W at E A B R hS ⊢
  ((refine eTk 0 ?_); (refine eTk 1 ?_); (refine eTk 2 ?_); (refine eTk 3 ?_); (refine eTk 5 ?_); (refine eTk 6 ?_); (refine eTk 7 ?_); (refine eTk 8 ?_))
  (refine wpAnyE_one (i := 4) (o := ?_) ?_ (by kernel_rfl) (fun K hK => ?_); rotate_left; (focus ((simp only [List.getElem?_toArray, List.getElem?_cons_succ, List.getElem?_cons_zero]; exact rfl))); go_simp; go_at_call 150; refine (HT1.out _ E).mono ?_; rintro e w1 ⟨xa, xc, rfl, hx, hxn, hE⟩; go_wp2_with fail; refine hK.out _ _ ?_ (fun hHeld => ?_); rotate_left; clear hK K; (try simp only [Act.put, List.setIfInBounds_toArray, List.set_cons_zero, List.set_cons_succ]))
  rotate_left
  · exact ⟨hE.cell hS.1, hE.cell hS.2.1, hE.cell hS.2.2.1, hE.cell hS.2.2.2⟩
  have hS1 := And.intro (hE.cell hS.1) (And.intro (hE.cell hS.2.1) (And.intro (hE.cell hS.2.2.1) (hE.cell hS.2.2.2)))
  replace A := A.ext hE
  replace B := B.ext hE
  replace R := R.ext hE
  replace E := E.trans hE
  have HX := Lib.hid hx
  clear hS hE hx hxn hHeld
  (refine wpAnyE_one (i := 9) (o := ?_) ?_ (by kernel_rfl) (fun K hK => ?_); rotate_left; (focus ((simp only [List.getElem?_toArray, List.getElem?_cons_succ, List.getElem?_cons_zero]; exact rfl))); go_simp; go_at_call 150; refine (HT2.out _ E).mono ?_; rintro e w2 ⟨ya, yc, rfl, hy, hyn, hE⟩; go_wp2_with fail; refine hK.out _ _ ?_ (fun hHeld => ?_); rotate_left; clear hK K; (try simp only [Act.put, List.setIfInBounds_toArray, List.set_cons_zero, List.set_cons_succ]))
  rotate_left
  · exact ⟨hE.cell hS1.1, hE.cell hS1.2.1, hE.cell hS1.2.2.1, hE.cell hS1.2.2.2⟩
  replace A := A.ext hE
  replace B := B.ext hE
  replace R := R.ext hE
  replace E := E.trans hE
  replace HX := Lib.hid (HX.out.ext hE)
  have HY := Lib.hid hy
  clear hS1 hE hy hyn
  ((refine eTk 10 ?_); (refine eTk 11 ?_))
  refine wpAnyE_done (by kernel_rfl) ?_ _
  clear hHeld
  go_wp2_with fail
  go_cut [7] (fun n wx => ∃ nb ma mc, n = .pointer (some ⟨nb, 0, none⟩) ∧ w.heap.size + 1 + 1 < nb ∧ Hid (Num3 nb wx (.bool s) (.slice none 0 0) (.slice ma (toB 1000000000 X3).length mc)) ∧ Hid (CellsN .u64 wx ma (toB 1000000000 X3)) ∧ Hid (0 < (toB 1000000000 X3).length → ∀ z, ma = some z → z.block ≠ nb ∧ w.heap.size + 1 + 1 < z.block) ∧ Ext w2 wx)
  case first =>
    have hdr : Ext w2 w2.drew := extA
    have hA := A.ext hdr
    have hB := B.ext hdr
    have hzw : w.heap.size + 1 + 1 < w2.heap.size := cell_lt R.c0
    have hS : w2.drew.cell? ⟨w.heap.size, 0, none⟩ = some (.bool s) ∧ w2.drew.cell? ⟨w.heap.size, 2, none⟩ = some (.slice ba (toB 1000000000 d).length bc) ∧ w2.drew.cell? ⟨w.heap.size + 1, 2, none⟩ = some (.slice va (toB 1000000000 q).length vc) := ⟨hA.c0, hA.c2, hB.c2⟩
    clear A B R hA hB HX HY
    refine wp_region_heldE 9 (fun w' => w'.cell? ⟨w.heap.size, 0, none⟩ = some (.bool s) ∧ w'.cell? ⟨w.heap.size, 2, none⟩ = some (.slice ba (toB 1000000000 d).length bc) ∧ w'.cell? ⟨w.heap.size + 1, 2, none⟩ = some (.slice va (toB 1000000000 q).length vc)) (by kernel_rfl) ?_
    have HE0 := Lib.hid (E.trans hdr)
    have HDR := Lib.hid hdr
    have hzd : w2.drew.heap.size = w2.heap.size := rfl
    clear hdr E
    generalize w2.drew = W3 at HE0 HDR hS hzd ⊢
    ((refine eTk 0 ?_); (refine eTk 1 ?_); (refine eTk 2 ?_); (refine eTk 3 ?_); (refine eTk 4 ?_); (refine eTk 5 ?_))
    refine wpAnyE_two (i := 6) (j := 8) (o := ?_) (p := ?_) ?_ ?_ (by kernel_rfl) (fun K hK => ?_) (fun K hK => ?_)
    rotate_left 2
    · simp only [List.getElem?_toArray, List.getElem?_cons_succ, List.getElem?_cons_zero]; exact rfl
    · simp only [List.getElem?_toArray, List.getElem?_cons_succ, List.getElem?_cons_zero]; exact rfl
    · go_simp
      go_at_call 150
      refine (HT3.out _ HE0.out).mono ?_
      rintro e w5 ⟨ma, mc, rfl, hm, hmn, hE⟩
      go_wp2_with fail
      have hS5 := And.intro (hE.cell hS.1) (And.intro (hE.cell hS.2.1) (hE.cell hS.2.2))
      refine hK.out _ _ hS5 (fun hHeld => ?_)
      clear hK K
      (try simp only [Act.put, List.setIfInBounds_toArray, List.set_cons_zero, List.set_cons_succ])
      (refine eTk 7 ?_)
      have EA : Ext w5 (w5.alloc (.cells #[.bool false, .slice none 0 0, .slice none 0 0] 116)) := extA
      have N : Num3 w5.heap.size (w5.alloc (.cells #[.bool false, .slice none 0 0, .slice none 0 0] 116)) (.bool false) (.slice none 0 0) (.slice none 0 0) := ⟨by go_simp, by go_simp, by go_simp, by go_simp, by go_simp, by go_simp⟩
      (refine wpAnyE_one (i := 8) (o := ?_) ?_ (by kernel_rfl) (fun K hK => ?_); rotate_left; (focus ((simp only [List.getElem?_toArray, List.getElem?_cons_succ, List.getElem?_cons_zero]; exact rfl))); go_simp; refine hK.out _ _ ?_ (fun hHeld => ?_); rotate_left; clear hK K; (try simp only [Act.put, List.setIfInBounds_toArray, List.set_cons_zero, List.set_cons_succ]))
      rotate_left
      · exact ⟨EA.cell hS5.1, EA.cell hS5.2.1, EA.cell hS5.2.2⟩
      obtain ⟨nb, hnb⟩ : ∃ nb, nb = w5.heap.size := ⟨_, rfl⟩
      have hz5 := hE.size
      have HMN : Hid (0 < (toB 1000000000 X3).length → ∀ z, ma = some z → z.block ≠ nb ∧ w.heap.size + 1 + 1 < z.block) := fun hl z hz => by
        have h1 := hmn z hz
        have h2 := hm.lt hl z hz
        omega
      have HMX := Lib.hid hm
      have HEA := Lib.hid EA
      have hnz : w.heap.size + 1 + 1 < nb := by omega
      have hnw : w5.heap.size ≤ nb := by omega
      have HHE := Lib.hid hE
      rw [← hnb] at N ⊢
      clear hE EA hm hmn hHeld hS5 hS hz5 hnb
      generalize (w5.alloc (.cells #[.bool false, .slice none 0 0, .slice none 0 0] 116)) = W6 at N HEA ⊢
      have HN := Lib.hid N
      obtain ⟨x0, x1, x2, g0, g1, g2⟩ := N
      (refine wpAnyE_free (i := 9) (o := ?_) ?_ (by kernel_rfl) (by kernel_rfl) (fun K hK => ?_); rotate_left; (focus ((simp only [List.getElem?_toArray, List.getElem?_cons_succ, List.getElem?_cons_zero]; exact rfl))); go_simp; refine hK.out _ _ ?_; clear hK K; (try simp only [Act.put, List.setIfInBounds_toArray, List.set_cons_zero, List.set_cons_succ]))
      refine wpAnyE_done (by kernel_rfl) ?_ _
      go_wp2_with fail
      go_meet
      refine ⟨nb, ma, mc, rfl, hnz, ((HN.out.set0 _).set1 _).set2 _, HMX.out.ext (((HEA.out.set hnw _).set hnw _).set hnw _), HMN, ?_⟩
      have hw5 := HHE.out.size
      exact HDR.out.trans ((((HHE.out.trans HEA.out).set (by omega) _).set (by omega) _).set (by omega) _)
    · go_simp
      have EA : Ext W3 (W3.alloc (.cells #[.bool false, .slice none 0 0, .slice none 0 0] 116)) := extA
      have N : Num3 W3.heap.size (W3.alloc (.cells #[.bool false, .slice none 0 0, .slice none 0 0] 116)) (.bool false) (.slice none 0 0) (.slice none 0 0) := ⟨by go_simp, by go_simp, by go_simp, by go_simp, by go_simp, by go_simp⟩
      have hSA := And.intro (EA.cell hS.1) (And.intro (EA.cell hS.2.1) (EA.cell hS.2.2))
      refine hK.out _ _ hSA (fun hHeld => ?_)
      clear hK K hHeld
      (try simp only [Act.put, List.setIfInBounds_toArray, List.set_cons_zero, List.set_cons_succ])
      rw [hzd] at N
      obtain ⟨nb, hnb⟩ : ∃ nb, nb = w2.heap.size := ⟨_, rfl⟩
      have hnl := cell_lt N.c0
      dsimp only at hnl
      rw [← hnb] at N hnl ⊢
      have hnz : w.heap.size + 1 + 1 < nb := by omega
      have hnw : W3.heap.size ≤ nb := by omega
      have HEA := Lib.hid EA
      clear EA hnb
      generalize (W3.alloc (.cells #[.bool false, .slice none 0 0, .slice none 0 0] 116)) = W4 at N HEA hSA hnl ⊢
      (refine wpAnyE_one (i := 6) (o := ?_) ?_ (by kernel_rfl) (fun K hK => ?_); rotate_left; (focus ((simp only [List.getElem?_toArray, List.getElem?_cons_succ, List.getElem?_cons_zero]; exact rfl))); go_simp; go_at_call 150; refine (HT3.out _ (HE0.out.trans HEA.out)).mono ?_; rintro e w5 ⟨ma, mc, rfl, hm, hmn, hE⟩; go_wp2_with fail; refine hK.out _ _ ?_ (fun hHeld => ?_); rotate_left; clear hK K; (try simp only [Act.put, List.setIfInBounds_toArray, List.set_cons_zero, List.set_cons_succ]))
      rotate_left
      · exact ⟨hE.cell hSA.1, hE.cell hSA.2.1, hE.cell hSA.2.2⟩
      (refine eTk 7 ?_)
      have N5 := N.ext hE
      have HMN : Hid (0 < (toB 1000000000 X3).length → ∀ z, ma = some z → z.block ≠ nb ∧ w.heap.size + 1 + 1 < z.block) := fun hl z hz => by
        have h1 := hmn z hz
        omega
      have HMX := Lib.hid hm
      have HHE := Lib.hid (HEA.out.trans hE)
      clear hE hm hmn hHeld hSA hS N
      have HN := Lib.hid N5
      obtain ⟨x0, x1, x2, g0, g1, g2⟩ := N5
      (refine wpAnyE_free (i := 9) (o := ?_) ?_ (by kernel_rfl) (by kernel_rfl) (fun K hK => ?_); rotate_left; (focus ((simp only [List.getElem?_toArray, List.getElem?_cons_succ, List.getElem?_cons_zero]; exact rfl))); go_simp; refine hK.out _ _ ?_; clear hK K; (try simp only [Act.put, List.setIfInBounds_toArray, List.set_cons_zero, List.set_cons_succ]))
      refine wpAnyE_done (by kernel_rfl) ?_ _
      go_wp2_with fail
      go_meet
      refine ⟨nb, ma, mc, rfl, hnz, ((HN.out.set0 _).set1 _).set2 _, ((HMX.out.set2 (fun hl z hz => (HMN.out hl z hz).1)).set2 (fun hl z hz => (HMN.out hl z hz).1)).set2 (fun hl z hz => (HMN.out hl z hz).1), HMN, ?_⟩
      exact HDR.out.trans (((HHE.out.set hnw _).set hnw _).set hnw _)
  case rest =>
    obtain ⟨nb, ma, mc, rfl, hnb, N, HM, hmn, hE⟩ := hcut
    replace A := A.ext hE
    replace B := B.ext hE
    replace R := R.ext hE
    replace E := E.trans hE
    replace HX := Lib.hid (HX.out.ext hE)
    replace HY := Lib.hid (HY.out.ext hE)
    clear hE HT1 HT2 HT3
    obtain ⟨a0, a1, a2, _, _, _⟩ := A
    obtain ⟨b0, b1, b2, _, _, _⟩ := B
    have A := True.intro
    have B := True.intro
    by_cases hsr : s = r
    · have HE : Hid (SN = (s, X1 + X2, X3)) := HSN.out.trans (by rw [if_pos hsr])
      have hsb : (s == r) = true := by rw [hsr]; exact beq_self_eq_true r
      clear HSN hsr
      go_wp2_with fail
      refine ((plus_any X1 X2 _ _ xa ya xc yc wc rfl rfl (by omega) (by omega) HX.out HY.out).mono fun _ _ h => h.newB).mono ?_
      rintro e w4 ⟨pa, pc, rfl, hp, hpn, hE4⟩
      have hzn : nb < wc.heap.size := cell_lt N.out.c0
      have HPN : Hid (∀ z, pa = some z → z.block ≠ nb ∧ w.heap.size + 1 + 1 < z.block) := fun z hz => by have := hpn z hz; omega
      have HP := Lib.hid hp
      have N4 := N.out.ext hE4
      have R4 := R.ext hE4
      have E4 := E.trans hE4
      have HM4 := Lib.hid (HM.out.ext hE4)
      obtain ⟨x0, x1, x2, g0, g1, g2⟩ := N4
      obtain ⟨c0, c1, c2, f0, f1, f2⟩ := R4
      have hne : nb ≠ w.heap.size + 1 + 1 := by omega
      clear hE4 hp hpn A B R E N HX HY HM
      go_wp2_with fail
      refine bodyPost_ret (v := .agg #[.bool s, .slice pa (toB 1000000000 (X1 + X2)).length pc, .slice ma (toB 1000000000 X3).length mc]) (by rw [results_cell1 rfl]; go_simp) rfl ?_
      refine ⟨_, rfl, ?_, newN_mk (fun hl z hz => by have := (HPN.out z hz).2; omega) (fun hl z hz => by have := (hmn.out hl z hz).2; omega), extA⟩
      rw [HE.out]
      refine ⟨pa, pc, ma, mc, rfl, ?_, ?_⟩
      · exact (CellsN.set2 (CellsN.set2 (CellsN.set2 (CellsN.set2 HP.out (fun hl z hz => (HPN.out z hz).1)) (fun hl z hz => Nat.ne_of_gt (HPN.out z hz).2)) (fun hl z hz => Nat.ne_of_gt (HPN.out z hz).2)) (fun hl z hz => Nat.ne_of_gt (HPN.out z hz).2))
      · exact (CellsN.set2 (CellsN.set2 (CellsN.set2 (CellsN.set2 HM4.out (fun hl z hz => (hmn.out hl z hz).1)) (fun hl z hz => Nat.ne_of_gt (hmn.out hl z hz).2)) (fun hl z hz => Nat.ne_of_gt (hmn.out hl z hz).2)) (fun hl z hz => Nat.ne_of_gt (hmn.out hl z hz).2))
    · have hsb : (s == r) = false := by rw [beq_eq_false_iff_ne]; exact hsr
      by_cases hle : X2 ≤ X1
      · have HE : Hid (SN = (s, X1 - X2, X3)) := HSN.out.trans (by rw [if_neg hsr, if_pos hle])
        obtain ⟨z, hz, hz0⟩ : ∃ z, ordN X1 X2 = z ∧ 0 ≤ z := ⟨_, rfl, ordN_ge.2 hle⟩
        have HLE := Lib.hid hle
        clear HSN hsr hle
        go_wp2_with fail
        refine (compare_any X1 X2 _ _ xa ya xc yc wc rfl rfl (by omega) (by omega) HX.out HY.out).mono ?_
        rintro e wd ⟨rfl, hE⟩
        rw [hz]
        replace R := R.ext hE
        replace E := E.trans hE
        replace HX := Lib.hid (HX.out.ext hE)
        replace HY := Lib.hid (HY.out.ext hE)
        replace N := Lib.hid (N.out.ext hE)
        replace HM := Lib.hid (HM.out.ext hE)
        clear hE hz a0 a1 a2 b0 b1 b2
        go_wp2_with fail
        refine ((minus_any X1 X2 _ _ xa ya xc yc wd rfl rfl HLE.out (by omega) HX.out HY.out).mono fun _ _ h => h.newB).mono ?_
        rintro e w4 ⟨pa, pc, rfl, hp, hpn, hE4⟩
        have hzn : nb < wd.heap.size := cell_lt N.out.c0
        have HPN : Hid (∀ z, pa = some z → z.block ≠ nb ∧ w.heap.size + 1 + 1 < z.block) := fun z hz => by have := hpn z hz; omega
        have HP := Lib.hid hp
        have N4 := N.out.ext hE4
        have R4 := R.ext hE4
        have E4 := E.trans hE4
        have HM4 := Lib.hid (HM.out.ext hE4)
        obtain ⟨x0, x1, x2, g0, g1, g2⟩ := N4
        obtain ⟨c0, c1, c2, f0, f1, f2⟩ := R4
        have hne : nb ≠ w.heap.size + 1 + 1 := by omega
        clear hE4 hp hpn A B R E N HX HY HM
        go_wp2_with fail
        refine bodyPost_ret (v := .agg #[.bool s, .slice pa (toB 1000000000 (X1 - X2)).length pc, .slice ma (toB 1000000000 X3).length mc]) (by rw [results_cell1 rfl]; go_simp) rfl ?_
        refine ⟨_, rfl, ?_, newN_mk (fun hl z hz => by have := (HPN.out z hz).2; omega) (fun hl z hz => by have := (hmn.out hl z hz).2; omega), extA⟩
        rw [HE.out]
        refine ⟨pa, pc, ma, mc, rfl, ?_, ?_⟩
        · exact (CellsN.set2 (CellsN.set2 (CellsN.set2 (CellsN.set2 HP.out (fun hl z hz => (HPN.out z hz).1)) (fun hl z hz => Nat.ne_of_gt (HPN.out z hz).2)) (fun hl z hz => Nat.ne_of_gt (HPN.out z hz).2)) (fun hl z hz => Nat.ne_of_gt (HPN.out z hz).2))
        · exact (CellsN.set2 (CellsN.set2 (CellsN.set2 (CellsN.set2 HM4.out (fun hl z hz => (hmn.out hl z hz).1)) (fun hl z hz => Nat.ne_of_gt (hmn.out hl z hz).2)) (fun hl z hz => Nat.ne_of_gt (hmn.out hl z hz).2)) (fun hl z hz => Nat.ne_of_gt (hmn.out hl z hz).2))
      · have HE : Hid (SN = (r, X2 - X1, X3)) := HSN.out.trans (by rw [if_neg hsr, if_neg hle])
        obtain ⟨z, hz, hz0⟩ : ∃ z, ordN X1 X2 = z ∧ ¬ 0 ≤ z := ⟨_, rfl, fun h => hle (ordN_ge.1 h)⟩
        have HLE : Hid (X1 ≤ X2) := by show _ ≤ _; omega
        clear HSN hsr hle
        go_wp2_with fail
        refine (compare_any X1 X2 _ _ xa ya xc yc wc rfl rfl (by omega) (by omega) HX.out HY.out).mono ?_
        rintro e wd ⟨rfl, hE⟩
        rw [hz]
        replace R := R.ext hE
        replace E := E.trans hE
        replace HX := Lib.hid (HX.out.ext hE)
        replace HY := Lib.hid (HY.out.ext hE)
        replace N := Lib.hid (N.out.ext hE)
        replace HM := Lib.hid (HM.out.ext hE)
        replace b0 := hE.cell b0
        clear hE hz a0 a1 a2 b1 b2
        go_wp2_with fail
        have hdr : Ext wd wd.drew := extA
        have hS : wd.drew.cell? ⟨w.heap.size + 1, 0, none⟩ = some (.bool r) := hdr.cell b0
        replace R := R.ext hdr
        replace E := E.trans hdr
        replace HX := Lib.hid (HX.out.ext hdr)
        replace HY := Lib.hid (HY.out.ext hdr)
        replace N := Lib.hid (N.out.ext hdr)
        replace HM := Lib.hid (HM.out.ext hdr)
        refine wp_region_heldE 6 (fun w' => w'.cell? ⟨w.heap.size + 1, 0, none⟩ = some (.bool r)) (by kernel_rfl) ?_
        clear b0 hdr
        generalize wd.drew = wd at R E HX HY N HM hS ⊢
        ((refine eTk 0 ?_); (refine eTk 1 ?_))
        ((refine ePu 2 ?_); (refine ePu 3 ?_); (refine ePu 5 ?_))
        (refine wpAnyE_one (i := 4) (o := ?_) ?_ (by kernel_rfl) (fun K hK => ?_); rotate_left; (focus ((simp only [List.getElem?_toArray, List.getElem?_cons_succ, List.getElem?_cons_zero]; exact rfl))); go_simp; go_at_call 152; refine ((minus_any X2 X1 _ _ ya xa yc xc wd rfl rfl HLE.out (by omega) HY.out HX.out).mono fun _ _ h => h.newB).mono ?_; rintro e w4 ⟨pa, pc, rfl, hp, hpn, hE4⟩; go_wp2_with fail; refine hK.out _ _ ?_ (fun hHeld => ?_); rotate_left; clear hK K; (try simp only [Act.put, List.setIfInBounds_toArray, List.set_cons_zero, List.set_cons_succ]))
        rotate_left
        · exact hE4.cell hS
        have hzn : nb < wd.heap.size := cell_lt N.out.c0
        have HPN : Hid (∀ z, pa = some z → z.block ≠ nb ∧ w.heap.size + 1 + 1 < z.block) := fun z hz => by have := hpn z hz; omega
        have HP := Lib.hid hp
        have N4 := N.out.ext hE4
        have R4 := R.ext hE4
        have E4 := E.trans hE4
        have HM4 := Lib.hid (HM.out.ext hE4)
        obtain ⟨x0, x1, x2, g0, g1, g2⟩ := N4
        obtain ⟨c0, c1, c2, f0, f1, f2⟩ := R4
        have hne : nb ≠ w.heap.size + 1 + 1 := by omega
        have hSf := hE4.cell hS
        clear hE4 hp hpn R E N HX HY HM hS hHeld
        (refine wpAnyE_free (i := 6) (o := ?_) ?_ (by kernel_rfl) (by kernel_rfl) (fun K hK => ?_); rotate_left; (focus ((simp only [List.getElem?_toArray, List.getElem?_cons_succ, List.getElem?_cons_zero]; exact rfl))); go_simp; refine hK.out _ _ ?_; clear hK K; (try simp only [Act.put, List.setIfInBounds_toArray, List.set_cons_zero, List.set_cons_succ]))
        (refine ePu 7 ?_)
        (refine wpAnyE_free (i := 8) (o := ?_) ?_ (by kernel_rfl) (by kernel_rfl) (fun K hK => ?_); rotate_left; (focus ((simp only [List.getElem?_toArray, List.getElem?_cons_succ, List.getElem?_cons_zero]; exact rfl))); go_simp; refine hK.out _ _ ?_; clear hK K; (try simp only [Act.put, List.setIfInBounds_toArray, List.set_cons_zero, List.set_cons_succ]))
        refine wpAnyE_done (by kernel_rfl) ?_ _
        go_wp2_with fail
        refine bodyPost_ret (v := .agg #[.bool r, .slice pa (toB 1000000000 (X2 - X1)).length pc, .slice ma (toB 1000000000 X3).length mc]) (by rw [results_cell1 rfl]; go_simp) rfl ?_
        refine ⟨_, rfl, ?_, newN_mk (fun hl z hz => by have := (HPN.out z hz).2; omega) (fun hl z hz => by have := (hmn.out hl z hz).2; omega), extA⟩
        rw [HE.out]
        refine ⟨pa, pc, ma, mc, rfl, ?_, ?_⟩
        · exact (CellsN.set2 (CellsN.set2 (CellsN.set2 (CellsN.set2 (CellsN.set2 HP.out (fun hl z hz => (HPN.out z hz).1)) (fun hl z hz => (HPN.out z hz).1)) (fun hl z hz => Nat.ne_of_gt (HPN.out z hz).2)) (fun hl z hz => Nat.ne_of_gt (HPN.out z hz).2)) (fun hl z hz => Nat.ne_of_gt (HPN.out z hz).2))
        · exact (CellsN.set2 (CellsN.set2 (CellsN.set2 (CellsN.set2 (CellsN.set2 HM4.out (fun hl z hz => (hmn.out hl z hz).1)) (fun hl z hz => (hmn.out hl z hz).1)) (fun hl z hz => Nat.ne_of_gt (hmn.out hl z hz).2)) (fun hl z hz => Nat.ne_of_gt (hmn.out hl z hz).2)) (fun hl z hz => Nat.ne_of_gt (hmn.out hl z hz).2))
end Go.Proofs.YtdejgaiocjfhjaaGreatDoor
