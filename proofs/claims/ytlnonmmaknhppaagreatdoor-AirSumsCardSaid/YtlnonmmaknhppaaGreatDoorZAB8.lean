/- Steps of the proof: EDig, EWrB, EProd, EGrtP, EAbs, EExtP, EGrt, EExt. No conditions. -/
import Derived.Test.YtlnonmmaknhppaaGreatDoorZAB1
import Derived.Test.YtlnonmmaknhppaaGreatDoorZAB2
import Derived.Test.YtlnonmmaknhppaaGreatDoorZAB3
import Derived.Test.YtlnonmmaknhppaaGreatDoorZAB4
import Derived.Test.YtlnonmmaknhppaaGreatDoorZAB5
import Derived.Test.YtlnonmmaknhppaaGreatDoorZAB6
import Derived.Test.YtlnonmmaknhppaaGreatDoorZAB7
namespace Go.Proofs.YtlnonmmaknhppaaGreatDoor
open Go.Lib (decDigits)
def digL (s : List UInt8) : List Nat := s.reverse.map fun c => c.toNat - 48
theorem digL_len (s : List UInt8) : (digL s).length = s.length := by simp [digL]
theorem digL_snoc (s : List UInt8) (c : UInt8) : digL (s ++ [c]) = (c.toNat - 48) :: digL s := by simp [digL]
theorem digL_val (s : List UInt8) : valB 10 (digL s) = decV s := by
  induction s using snocRec with
  | nil => rfl
  | snoc s c ih => rw [digL_snoc, decV_snoc]; show (c.toNat - 48) + 10 * valB 10 (digL s) = _; rw [ih, Nat.add_comm]
theorem digL_ok {s : List UInt8} (h : DigitL s) : OkB 10 (digL s) := fun x hx => by
  obtain ⟨c, hc, rfl⟩ := List.mem_map.1 hx
  have := h c (List.mem_reverse.1 hc)
  omega
theorem digL_get (s : List UInt8) {k : Nat} (h : k < s.length) : (digL s).getD k 0 = (s.getD (s.length - 1 - k) 0).toNat - 48 := by
  unfold digL
  simp only [List.getD_eq_getElem?_getD, List.getElem?_map]
  rw [List.getElem?_reverse h, List.getElem?_eq_getElem (show s.length - 1 - k < s.length by omega)]
  rfl
structure MulK (a b : List Nat) (i k : Nat) (o : List Nat) : Prop where
  len : o.length = a.length + b.length
  bd : ∀ j, o.getD j 0 ≤ 81 * i + 81
  bz : ∀ j, i + k ≤ j → o.getD j 0 ≤ 81 * i
  v : valB 10 o = valB 10 (a.take i) * valB 10 b + 10 ^ i * (a.getD i 0 * valB 10 (b.take k))
theorem MulK.start (a b : List Nat) : MulK a b 0 0 (List.replicate (a.length + b.length) 0) := by
  have hz : ∀ j, (List.replicate (a.length + b.length) 0).getD j 0 = 0 := fun j => by
    rw [List.getD_eq_getElem?_getD, List.getElem?_replicate]; split <;> rfl
  exact ⟨List.length_replicate, fun j => by rw [hz]; omega, fun j _ => by rw [hz]; omega, by rw [valB_zeros]; simp [valB]⟩
theorem MulK.next {a b : List Nat} (ha : OkB 10 a) (hb : OkB 10 b) {i k : Nat} {o : List Nat} (h : MulK a b i k o) (hi : i < a.length) (hk : k < b.length) :
    MulK a b i (k + 1) (o.set (i + k) (o.getD (i + k) 0 + a.getD i 0 * b.getD k 0)) := by
  have h1 := okB_getD ha (by omega) i
  have h2 := okB_getD hb (by omega) k
  have hxy : a.getD i 0 * b.getD k 0 ≤ 9 * 9 := Nat.mul_le_mul (by omega) (by omega)
  have hlen := h.len
  have hz := h.bz (i + k) (Nat.le_refl _)
  refine ⟨by rw [List.length_set]; exact hlen, fun j => ?_, fun j hj => ?_, ?_⟩
  · rw [getD_set_nat _ _ _ _ (by omega)]
    split
    · omega
    · exact h.bd j
  · rw [getD_set_nat _ _ _ _ (by omega), if_neg (by omega)]
    exact h.bz j (by omega)
  · have hs := valB_set 10 o (j := i + k) (by omega) (o.getD (i + k) 0 + a.getD i 0 * b.getD k 0)
    have hv := h.v
    rw [valB_take_succ 10 b k]
    generalize valB 10 (o.set (i + k) (o.getD (i + k) 0 + a.getD i 0 * b.getD k 0)) = vo at *
    generalize valB 10 o = v0 at *
    generalize o.getD (i + k) 0 = oj at *
    generalize a.getD i 0 = x at *
    generalize b.getD k 0 = y at *
    generalize valB 10 (b.take k) = vb at *
    generalize valB 10 (a.take i) * valB 10 b = V at *
    have hq : 10 ^ (i + k) = 10 ^ i * 10 ^ k := Nat.pow_add ..
    have e3 : 10 ^ i * (x * (vb + 10 ^ k * y)) = 10 ^ i * (x * vb) + 10 ^ (i + k) * (x * y) := by
      rw [hq, Nat.mul_add x, Nat.mul_add (10 ^ i), Nat.mul_assoc (10 ^ i) (10 ^ k)]
      congr 2
      rw [Nat.mul_left_comm]
    rw [e3]
    rw [Nat.mul_add] at hs
    omega
theorem MulK.outer {a b : List Nat} {i : Nat} {o : List Nat} (h : MulK a b i b.length o) : MulK a b (i + 1) 0 o := by
  refine ⟨h.len, fun j => by have := h.bd j; omega, fun j _ => by have := h.bd j; omega, ?_⟩
  rw [h.v, List.take_length, valB_take_succ, Nat.add_mul, Nat.mul_assoc]
  simp [valB]
theorem MulK.done {a b : List Nat} {o : List Nat} (h : MulK a b a.length 0 o) : o.length = a.length + b.length ∧ (∀ j, o.getD j 0 ≤ 81 * a.length + 81) ∧ valB 10 o = valB 10 a * valB 10 b := by
  refine ⟨h.len, h.bd, ?_⟩
  rw [h.v, List.take_length]
  simp [valB]
structure CarI (N P M j : Nat) (o : List Nat) : Prop where
  len : o.length = N
  ok : ∀ i, i < j → o.getD i 0 < 10
  bd : o.getD j 0 ≤ 2 * M
  br : ∀ i, j < i → o.getD i 0 ≤ M
  v : valB 10 o = P
theorem CarI.start {o : List Nat} {M : Nat} (h : ∀ j, o.getD j 0 ≤ M) : CarI o.length (valB 10 o) M 0 o :=
  ⟨rfl, fun i hi => by omega, by have := h 0; omega, fun i _ => h i, rfl⟩
theorem CarI.next {N P M j : Nat} {o : List Nat} (h : CarI N P M j o) (hj : j + 1 < N) :
    CarI N P M (j + 1) ((o.set (j + 1) (o.getD (j + 1) 0 + o.getD j 0 / 10)).set j (o.getD j 0 % 10)) := by
  have hlen := h.len
  have h1 := h.bd
  have h2 := h.br (j + 1) (by omega)
  have hl1 : j + 1 < o.length := by omega
  have hl2 : j < (o.set (j + 1) (o.getD (j + 1) 0 + o.getD j 0 / 10)).length := by rw [List.length_set]; omega
  have hg : ∀ i, ((o.set (j + 1) (o.getD (j + 1) 0 + o.getD j 0 / 10)).set j (o.getD j 0 % 10)).getD i 0 =
      if j = i then o.getD j 0 % 10 else if j + 1 = i then o.getD (j + 1) 0 + o.getD j 0 / 10 else o.getD i 0 := fun i => by
    rw [getD_set_nat _ _ _ _ hl2, getD_set_nat _ _ _ _ hl1]
  refine ⟨by rw [List.length_set, List.length_set]; exact hlen, fun i hi => ?_, ?_, fun i hi => ?_, ?_⟩
  · rw [hg]
    by_cases e : j = i
    · rw [if_pos e]; omega
    · rw [if_neg e, if_neg (by omega)]; exact h.ok i (by omega)
  · rw [hg, if_neg (by omega), if_pos rfl]; omega
  · rw [hg, if_neg (by omega), if_neg (by omega)]; exact h.br i (by omega)
  · have s1 := valB_set 10 o hl1 (o.getD (j + 1) 0 + o.getD j 0 / 10)
    have s2 := valB_set 10 _ hl2 (o.getD j 0 % 10)
    rw [getD_set_nat _ _ _ _ hl1, if_neg (by omega)] at s2
    have hv := h.v
    generalize valB 10 ((o.set (j + 1) (o.getD (j + 1) 0 + o.getD j 0 / 10)).set j (o.getD j 0 % 10)) = v2 at *
    generalize valB 10 (o.set (j + 1) (o.getD (j + 1) 0 + o.getD j 0 / 10)) = v1 at *
    generalize o.getD (j + 1) 0 = y at *
    generalize o.getD j 0 = x at *
    have e : 10 ^ j * (x % 10 + 10 * (x / 10)) = 10 ^ j * x := by rw [Nat.mod_add_div]
    rw [Nat.mul_add] at s1 e
    rw [Nat.pow_succ] at s1
    rw [← Nat.mul_assoc] at e
    omega
theorem valB_last {o : List Nat} {n : Nat} (h : o.length = n + 1) : valB 10 o = valB 10 (o.take n) + 10 ^ n * o.getD n 0 := by
  rw [← valB_take_succ, ← h, List.take_length]
theorem CarI.done {N P M : Nat} {o : List Nat} (h : CarI (N + 1) P M N o) (hP : P < 10 ^ (N + 1)) : OkB 10 o := fun x hx => by
  obtain ⟨i, hi, rfl⟩ := List.getElem_of_mem hx
  have e : o.getD i 0 = o[i] := by simp [List.getD_eq_getElem?_getD, hi]
  rw [← e]
  have hlen := h.len
  by_cases k : i < N
  · exact h.ok i k
  · have hiN : i = N := by omega
    subst hiN
    have h2 := valB_last hlen
    rw [h.v] at h2
    rw [Nat.pow_succ] at hP
    have h3 : 10 ^ i * o.getD i 0 < 10 ^ i * 10 := by omega
    exact Nat.lt_of_mul_lt_mul_left h3
def prodV (l : List (List UInt8)) : Nat := l.foldl (fun v s => v * decV s) 1
theorem prodV_take {l : List (List UInt8)} {n : Nat} (h : n < l.length) : prodV (l.take (n + 1)) = prodV (l.take n) * decV (l.getD n []) := by
  have e : l.take (n + 1) = l.take n ++ [l.getD n []] := by
    rw [List.take_add_one, List.getD_eq_getElem?_getD, List.getElem?_eq_getElem h]; rfl
  rw [e]
  unfold prodV
  rw [List.foldl_append]
  rfl
def digT (t : List Nat) : List UInt8 := t.reverse.map fun d => UInt8.ofNat (48 + d)
theorem digT_digL {t : List Nat} (h : OkB 10 t) : digL (digT t) = t := by
  unfold digL digT
  rw [← List.map_reverse, List.reverse_reverse, List.map_map]
  conv => rhs; rw [← List.map_id t]
  refine List.map_congr_left fun x hx => ?_
  have := h x hx
  show (UInt8.ofNat (48 + x)).toNat - 48 = x
  rw [digit_toNat this]; omega
theorem digT_dec {t : List Nat} (h : OkB 10 t) (h1 : 1 ≤ t.length) (h2 : t.length = 1 ∨ t.getD (t.length - 1) 0 ≠ 0) : digT t = decDigits (valB 10 t) := by
  have hv : decV (digT t) = valB 10 t := by rw [← digL_val, digT_digL h]
  rw [← hv]
  symm
  refine canon_back ⟨fun c hc => ?_, ?_, ?_⟩
  · obtain ⟨d, hd, rfl⟩ := List.mem_map.1 hc
    have := h d (List.mem_reverse.1 hd)
    rw [digit_toNat this]; omega
  · intro e
    have := congrArg List.length e
    simp [digT] at this
    rw [this] at h1; simp at h1
  · by_cases h3 : t.getD (t.length - 1) 0 = 0
    · right
      have h4 : t.length = 1 := h2.resolve_right (not_not_intro h3)
      match t, h4 with
      | [x], _ =>
        have : x = 0 := by simpa using h3
        subst this; rfl
    · left
      have h5 : (digT t).head? = some (UInt8.ofNat (48 + t.getD (t.length - 1) 0)) := by
        unfold digT
        rw [List.head?_map, List.head?_reverse, List.getLast?_eq_getElem?, List.getD_eq_getElem?_getD, List.getElem?_eq_getElem (show t.length - 1 < t.length by omega)]
        rfl
      rw [h5]
      intro e
      have e2 := congrArg (Option.map UInt8.toNat) e
      simp only [Option.map_some, Option.some.injEq] at e2
      have h6 := okB_getD h (by omega) (t.length - 1)
      rw [digit_toNat h6] at e2
      have : (48 : UInt8).toNat = 48 := rfl
      omega
theorem digT_len (t : List Nat) : (digT t).length = t.length := by simp [digT]
theorem digT_take {t : List Nat} {k : Nat} (h : k < t.length) : (digT t).take (k + 1) = (digT t).take k ++ [UInt8.ofNat (48 + t.getD (t.length - 1 - k) 0)] := by
  unfold digT
  rw [List.take_add_one, List.getElem?_map, List.getElem?_reverse h, List.getElem?_eq_getElem (show t.length - 1 - k < t.length by omega),
    List.getD_eq_getElem?_getD, List.getElem?_eq_getElem (show t.length - 1 - k < t.length by omega)]
  rfl
end Go.Proofs.YtlnonmmaknhppaaGreatDoor
namespace Go.Proofs.YtlnonmmaknhppaaGreatDoor
open Go.RowKit
theorem byteCells_one (c : UInt8) : Lib.byteCells [c] = [.int .u8 (c.toNat : Int)] := rfl
set_option maxHeartbeats 2000000 in
set_option maxRecDepth 100000 in
theorem WriteByte_any (b n3 : Nat) (l : Txt) (c : UInt8) (w : World) (h : BldW b n3 l w) (hb : b < n3) (hn : n3 ≤ w.heap.size) (hlen : l.length ≤ 100000) :
    Calls Tryz.prog 207 #[.pointer (some ⟨b, 0, none⟩), .int .u8 (c.toNat : Int)] w fun e w' => e = .returned .nilIface ∧ BldW b n3 (l ++ [c]) w' ∧ Below b w w' := by
  obtain ⟨i0, hi, hz0, hz1, hz2⟩ := info_parts Tryz.Builder_Extra_169.infoByte
  obtain ⟨p, v, h1, h2, h3⟩ := h
  have hbw : b < w.heap.size := by omega
  have hvb : v.ownBlock ≠ some b := fun e => by have := (row_ge h3 e).1; omega
  have hCC : Hid (Calls Tryz.prog 222 #[.pointer (some ⟨b, 0, none⟩)] w fun e w' => e = .returned (.tuple #[]) ∧ w'.heap[b]? = some (.cells #[.pointer (some ⟨b, 0, none⟩), v] 237 (0, 0)) ∧ Chg (fun k => k = b) w w' ∧ Below b w w') := by
    rcases h2 with rfl | rfl
    · refine (copyCheck_fresh b w (by simp [World.cell?, h1]) (by simp [World.shape?, h1]) (by simp [World.frozen?, h1])).mono ?_
      rintro e w' ⟨rfl, rfl⟩
      refine ⟨rfl, ?_, Chg.setCell (B := fun k => k = b) ⟨b, 0, none⟩ _ rfl, (Below.refl b w).setCell (p := ⟨b, 0, none⟩) (Nat.le_refl _) _⟩
      simp only [World.setCell, Array.getElem?_modify, h1]
      simp
    · refine (copyCheck_used b w (by simp [World.cell?, h1])).mono ?_
      rintro e w' ⟨rfl, rfl⟩
      exact ⟨rfl, h1, Chg.refl _ _, Below.refl _ _⟩
  have HR := Lib.hid h3
  have HV := Lib.hid hvb
  clear h1 h2 h3 hvb
  go_enter Tryz.func207, Tryz.ntmps207
  go_wp2_with (go_at_call 222; refine hCC.out.mono ?_)
  rintro e w1 ⟨rfl, k1, k2, k3⟩
  have c0 : w1.cell? ⟨b, 0, none⟩ = some (.pointer (some ⟨b, 0, none⟩)) := by rw [Lib.cell_of_heap k1]; rfl
  have c1 : w1.cell? ⟨b, 1, none⟩ = some v := by rw [Lib.cell_of_heap k1]; rfl
  have hz := k2.1
  have hlt0 : b < w1.heap.size := by omega
  have hA : Ext w1 (w1.alloc (.cells #[.int .u8 (c.toNat : Int)] 5)) := extA
  have hown : (w1.alloc (.cells #[.int .u8 (c.toNat : Int)] 5)).ownsRow n3 5 1 v l.length (Lib.byteCells l) := row_same HR.out (fun g hg => by
    obtain ⟨_, cur, hh⟩ := row_ge HR.out hg
    have hg2 := (Array.getElem?_eq_some_iff.1 hh).1
    exact (hA.block g (by omega)).trans (k2.2 g hg2 (fun e => HV.out (e ▸ hg))))
  have hnew : (w1.alloc (.cells #[.int .u8 (c.toNat : Int)] 5)).cell? ⟨w1.heap.size, 0, none⟩ = some (.int .u8 (c.toNat : Int)) := by go_simp
  have e1 : (w1.alloc (.cells #[.int .u8 (c.toNat : Int)] 5)).heap[b]? = some (.cells #[.pointer (some ⟨b, 0, none⟩), v] 237 (0, 0)) := (hA.block b hlt0).trans k1
  have hs2 : w1.heap.size < (w1.alloc (.cells #[.int .u8 (c.toNat : Int)] 5)).heap.size := by show _ < (w1.heap.push _).size; rw [Array.size_push]; omega
  have HB1 : Hid (Below b w (w1.alloc (.cells #[.int .u8 (c.toNat : Int)] 5))) := k3.trans (hA.mono (by omega))
  have e0 := e1
  clear k1 k2 k3 HR
  go_wp2_with (at_builtin; refine Go.wpList_append_own _ rfl _ _ 235 rfl n3 5 i0 (.int .u8 0) 1 1 Tryz.underlying235 hi hz0 hz1 hz2 rfl (by decide) _ _ _ rfl hown ⟨w1.heap.size, 0, none⟩ 1 1 [.int .u8 (c.toNat : Int)] rfl rfl ?c1 ?c2 ?c3 ?c4 ?c5 ?_)
  case c1 =>
    intro j u hj
    match j, hj with
    | 0, hj => simp only [List.getElem?_cons_zero, Option.some.injEq] at hj; subst hj; exact hnew
  case c2 => intro u hu; rw [List.mem_singleton.1 hu]; rfl
  case c3 => unfold maxLen; omega
  case c4 => omega
  case c5 => omega
  intro v' w2 hown' hgrow _
  generalize w1.alloc (.cells #[.int .u8 (c.toNat : Int)] 5) = w1' at *
  have hlt : b < w1'.heap.size := by omega
  have hb2 : w2.heap[b]? = some (.cells #[.pointer (some ⟨b, 0, none⟩), v] 237 (0, 0)) := by
    rw [hgrow.block b hlt (fun e => HV.out e.symm)]
    exact e0
  have d0 : w2.cell? ⟨b, 0, none⟩ = some (.pointer (some ⟨b, 0, none⟩)) := by rw [Lib.cell_of_heap hb2]; rfl
  have d1 : w2.cell? ⟨b, 1, none⟩ = some v := by rw [Lib.cell_of_heap hb2]; rfl
  have f1 : w2.frozen? ⟨b, 1, none⟩ = false := Lib.frozen_of_heap hb2 1
  obtain ⟨ao, n', cap, rfl⟩ : ∃ ao n' cap, v' = .slice ao n' cap := by
    rcases hown'.2 with ⟨hv, _⟩ | ⟨g, cap, cur, hv, _⟩
    · exact ⟨_, _, _, hv⟩
    · exact ⟨_, _, _, hv⟩
  have hW : BldW b n3 (l ++ [c]) (w2.setCell ⟨b, 1, none⟩ (.slice ao n' cap)) := by
    refine ⟨.pointer (some ⟨b, 0, none⟩), .slice ao n' cap, ?_, .inr rfl, ?_⟩
    · show (w2.setCell ⟨b, 1, none⟩ (.slice ao n' cap)).heap[b]? = some (.cells #[.pointer (some ⟨b, 0, none⟩), .slice ao n' cap] _ (0, 0))
      simp only [World.setCell, Array.getElem?_modify, hb2]
      simp
    · have h9 : (w2.setCell ⟨b, 1, none⟩ (.slice ao n' cap)).ownsRow n3 5 1 (.slice ao n' cap) (l.length + 1) (Lib.byteCells l ++ [.int .u8 (c.toNat : Int)]) :=
        row_same hown' (fun g hg => Below.heap_setCell _ ⟨b, 1, none⟩ _ g (fun e => by have := (row_ge hown' hg).1; dsimp only at e; omega))
      rw [← byteCells_one, ← byteCells_app] at h9
      rw [List.length_append]
      exact h9
  have hB : Below b w (w2.setCell ⟨b, 1, none⟩ (.slice ao n' cap)) :=
    (HB1.out.grown hgrow (by omega) (fun k hk => by have := (row_ge hown hk).1; omega)).setCell (p := ⟨b, 1, none⟩) (Nat.le_refl _) _
  have HF := Lib.hid (And.intro hW hB)
  clear hW hB hown hown' hgrow HB1
  go_wp2
  go_ret
  exact ⟨rfl, HF.out⟩
end Go.Proofs.YtlnonmmaknhppaaGreatDoor
namespace Go.Proofs.YtlnonmmaknhppaaGreatDoor
open Go.RowKit
open Go.Lib (decDigits)
structure ProdA (ls : List Txt) (n : Nat) (a : List Nat) : Prop where
  ok : OkB 10 a
  l1 : 1 ≤ a.length
  l2 : a.length ≤ 1 + 60 * n
  v : valB 10 a = prodV (ls.take n)
theorem ProdA.start (ls : List Txt) : ProdA ls 0 [1] := ⟨(fun x hx => by rw [List.mem_singleton.1 hx]; omega), by simp, by simp, by simp [valB, prodV]⟩
theorem ProdA.next {ls : List Txt} {n : Nat} {a o : List Nat} (h : ProdA ls n a) (hn : n < ls.length) (hs : DigitL (ls.getD n []) ∧ (ls.getD n []).length ≤ 60) {P M : Nat}
    (hP : P = valB 10 a * valB 10 (digL (ls.getD n []))) {N : Nat} (hN : N + 1 = a.length + (ls.getD n []).length) (hc : CarI (N + 1) P M N o) : ProdA ls (n + 1) o := by
  have hlen := hc.len
  have h1 := h.l1
  have h2 := h.l2
  have hlt : P < 10 ^ (N + 1) := by
    rw [hP, hN, Nat.pow_add]
    have k1 := valB_lt h.ok
    have k2 := valB_lt (digL_ok hs.1)
    rw [digL_len] at k2
    exact Nat.mul_lt_mul'' k1 k2
  refine ⟨hc.done hlt, by omega, by omega, ?_⟩
  rw [hc.v, hP, prodV_take hn, h.v, digL_val]
theorem cells1i (w : World) (t : TypeId) : CellsN .i64 (w.alloc (.cells #[.int .i64 1] t)) (some ⟨w.heap.size, 0, none⟩) [1] := by
  intro i hi
  have : i = 0 := by simp at hi; omega
  subst this
  exact ⟨_, _, rfl, by simp⟩
theorem take_get {a : List Nat} {t i : Nat} (h : i < t) : (a.take t).getD i 0 = a.getD i 0 := by
  rw [List.getD_eq_getElem?_getD, List.getD_eq_getElem?_getD, List.getElem?_take_of_lt h]
theorem take_val {a : List Nat} {t : Nat} (h0 : a.getD t 0 = 0) : valB 10 (a.take t) = valB 10 (a.take (t + 1)) := by
  rw [valB_take_succ, h0, Nat.mul_zero, Nat.add_zero]
set_option maxHeartbeats 8000000 in
set_option maxRecDepth 100000 in
theorem product_any (ls : List Txt) (a : Option Addr) (cap : Nat) (w : World) (hc : CellsT w a ls) (hn : ls.length ≤ 4) (hL : ∀ k, k < ls.length → DigitL (ls.getD k []) ∧ (ls.getD k []).length ≤ 60) :
    Calls Tryz.prog 167 #[.slice a ls.length cap] w fun e w' => e = .returned (txt (decDigits (prodV ls))) ∧ Ext w w' := by
  have HC := Lib.hid hc
  have HL := Lib.hid hL
  clear hc hL
  have C0 := Lib.hid (cells1i w 3)
  have E0 : Ext w (w.alloc (.cells #[.int .i64 1] 3)) := (Ext.refl _).alloc _
  go_enter Tryz.func167, Tryz.ntmps167
  go_wp2
  go_loopw [3, 16] (fun o i wr => ∃ (k ob : Nat) (a1 : List Nat), k ≤ ls.length ∧ o = .slice (some ⟨ob, 0, none⟩) a1.length a1.length ∧ i = .int .i64 k ∧ Hid (ProdA ls k a1) ∧ Hid (CellsN .i64 wr (some ⟨ob, 0, none⟩) a1) ∧ Ext w wr) (fun _ i _ => ls.length - (intOf i).toNat)
  case atStart => exact ⟨0, w.heap.size, [1], by omega, rfl, rfl, ProdA.start ls, C0.out, E0⟩
  case round =>
    clear C0 E0
    obtain ⟨k, ob, a1, hk, rfl, rfl, HP, HA, he⟩ := hrel
    have hl1 := HP.out.l1
    have hl2 := HP.out.l2
    obtain ⟨wo, hwo⟩ : ∃ wo, wo = wr := ⟨wr, rfl⟩
    subst hwo
    by_cases h1 : k < ls.length
    · have hki : (k : Int) < (ls.length : Int) := by omega
      obtain ⟨b1, o1, ha1, p1⟩ := HC.out.ext he k h1
      subst ha1
      have hs60 := (HL.out k h1).2
      have HS := Lib.hid (HL.out k h1)
      obtain ⟨s, hs⟩ : ∃ s, s = ls.getD k [] := ⟨_, rfl⟩
      have HSE := Lib.hid hs
      rw [← hs] at p1 hs60 HS
      clear hs
      obtain ⟨N, hN⟩ : ∃ N, N = a1.length + s.length := ⟨_, rfl⟩
      have hmk : (Instr.makeSlice 22 (.int .i64 ((a1.length : Int) + (s.length : Int))) (.int .i64 ((a1.length : Int) + (s.length : Int)))).run Tryz.prog wo = .ok (.slice (some ⟨wo.heap.size, 0, none⟩) N N) (wo.alloc (.cells (madeCells #[.int .i64 0] N) 3)) := by
        rw [← Int.natCast_add, ← hN]
        exact run_make_row' _ _ (.int .i64 0) 8 Tryz.underlying22 infoI64 rfl _ _ N (by omega) (by omega) wo
      have O0 : Hid (OwnsN .i64 3 (wo.alloc (.cells (madeCells #[.int .i64 0] N) 3)) (.slice (some ⟨wo.heap.size, 0, none⟩) N N) (List.replicate N 0)) := madeN _ _ _ N (by omega)
      have E0 : Ext wo (wo.alloc (.cells (madeCells #[.int .i64 0] N) 3)) := (Ext.refl _).alloc _
      generalize hW : wo.alloc (.cells (madeCells #[.int .i64 0] N) 3) = W at hmk O0 E0
      clear hW
      obtain ⟨nb, hnb⟩ : ∃ nb, nb = wo.heap.size := ⟨_, rfl⟩
      rw [← hnb] at hmk O0
      have HNB := Lib.hid hnb
      have HNN := Lib.hid hN
      clear hN hnb
      have HI0 : Hid (MulK a1 (digL s) 0 0 (List.replicate N 0)) := by show MulK _ _ _ _ _; rw [HNN.out, ← digL_len s]; exact MulK.start _ _
      go_wp2
      clear hmk
      go_loopw [28] (fun i wr => ∃ (m : Nat), m ≤ a1.length ∧ i = .int .i64 m ∧ Hid (∃ o, MulK a1 (digL s) m 0 o ∧ OwnsN .i64 3 wr (.slice (some ⟨nb, 0, none⟩) N N) o) ∧ Ext wo wr) (fun i _ => a1.length - (intOf i).toNat)
      case atStart => exact ⟨0, by omega, rfl, ⟨_, HI0.out, O0.out⟩, E0⟩
      case round =>
        clear HI0 O0 E0 p1
        obtain ⟨m, hm, rfl, HW, hE⟩ := hrel
        by_cases h2 : m < a1.length
        · have hmi : (m : Int) < (a1.length : Int) := by omega
          obtain ⟨b2, o2, ha2, p2⟩ := HA.out.ext hE m h2
          cases ha2
          obtain ⟨x, hx⟩ : ∃ x, x = a1.getD m 0 := ⟨_, rfl⟩
          have hx9 : x < 10 := by rw [hx]; exact okB_getD HP.out.ok (by omega) m
          have HX := Lib.hid hx
          rw [← hx, Nat.zero_add] at p2
          clear hx
          obtain ⟨w1, hw1⟩ : ∃ w1, w1 = wr := ⟨wr, rfl⟩
          subst hw1
          go_wp2
          go_loopw [35] (fun i wr => ∃ (n : Nat), n ≤ s.length ∧ i = .int .i64 n ∧ Hid (∃ o, MulK a1 (digL s) m n o ∧ OwnsN .i64 3 wr (.slice (some ⟨nb, 0, none⟩) N N) o) ∧ Ext wo wr) (fun i _ => s.length - (intOf i).toNat)
          case atStart => exact ⟨0, by omega, rfl, HW.out, hE⟩
          case round =>
            clear HW p2 hE
            obtain ⟨n, hn2, rfl, HW, hE⟩ := hrel
            obtain ⟨o, HO1, HO2⟩ := HW.out
            have HOL := Lib.hid HO1.len
            have HOM := Lib.hid HO1
            have HO := Lib.hid HO2
            clear HO1 HO2 HW
            by_cases h3 : n < s.length
            · have hni : (n : Int) < (s.length : Int) := by omega
              have hmn : m + n < o.length := by have := HOL.out; rw [digL_len] at this; omega
              obtain ⟨s1, s2⟩ := HO.out.at hmn
              obtain ⟨y, hy⟩ : ∃ y, y = o.getD (m + n) 0 := ⟨_, rfl⟩
              have hyb : y ≤ 81 * m := by rw [hy]; exact HOM.out.bz _ (Nat.le_refl _)
              obtain ⟨q, hq⟩ : ∃ q, q = s.length - 1 - n := ⟨_, rfl⟩
              have hqs : q < s.length := by omega
              obtain ⟨c, hc⟩ : ∃ c, c = s[q]'hqs := ⟨_, rfl⟩
              have hget : ∀ h, (⟨s.toArray⟩ : ByteArray)[q]'h = c := fun h => by rw [hc]; rfl
              have hcd : 48 ≤ c.toNat ∧ c.toNat ≤ 57 := HS.out.1 c (by rw [hc]; exact List.getElem_mem _)
              have hnx := HOM.out.next HP.out.ok (digL_ok HS.out.1) h2 (by rw [digL_len]; exact h3)
              rw [digL_get s h3, ← hq, ← HX.out, ← hy, show s.getD q 0 = c by rw [hc]; simp [List.getD_eq_getElem?_getD, hqs]] at hnx
              rw [← hy] at s1
              obtain ⟨z, hz⟩ : ∃ z, z = x * (c.toNat - 48) := ⟨_, rfl⟩
              have hz81 : z ≤ 9 * 9 := by rw [hz]; exact Nat.mul_le_mul (by omega) (by omega)
              rw [← hz] at hnx
              have HNX := Lib.hid hnx
              have hw1 : IntKind.i64.wrap ((m : Int) + (n : Int)) = ((m + n : Nat) : Int) := by rw [IntKind.wrap_i64]; omega
              have hw2 : IntKind.i64.wrap ((s.length : Int) - 1) = (s.length : Int) - 1 := by rw [IntKind.wrap_i64]; omega
              have hw3 : IntKind.i64.wrap ((s.length : Int) - 1 - (n : Int)) = (q : Int) := by rw [IntKind.wrap_i64]; omega
              have hw4 : IntKind.u8.wrap ((c.toNat : Int) - 48) = (c.toNat : Int) - 48 := by rw [IntKind.wrap_u8]; omega
              have hw5 : IntKind.i64.wrap ((c.toNat : Int) - 48) = (c.toNat : Int) - 48 := by rw [IntKind.wrap_i64]; omega
              have hzz : (x : Int) * ((c.toNat : Int) - 48) = (z : Int) := by rw [hz, Int.natCast_mul, Int.natCast_sub hcd.1]; rfl
              have hw6 : IntKind.i64.wrap ((x : Int) * ((c.toNat : Int) - 48)) = (z : Int) := by rw [hzz, IntKind.wrap_i64]; omega
              have hw7 : IntKind.i64.wrap ((y : Int) + (z : Int)) = ((y + z : Nat) : Int) := by rw [IntKind.wrap_i64]; omega
              have hmN : m + n < N := by have := HNN.out; omega
              have hmNi : ((m + n : Nat) : Int) < (N : Int) := by omega
              have hqi : (q : Int) < (s.length : Int) := by omega
              have HO2 := Lib.hid ((HO.out.set (m + n) (y + z)).ext (Ext.refl _).drew)
              have E2 : Ext wo (wr.setCell ⟨nb, m + n, none⟩ (.int .i64 ((y + z : Nat) : Int))).drew := (Ext.set hE (by rw [HNB.out]; exact Nat.le_refl _) _).drew
              clear hnx hy hq hc hz hzz HO hyb hz81
              generalize m + n = r at *
              generalize y + z = t at *
              go_wp2
              go_region
              go_wp2
              refine ⟨⟨n + 1, by omega, by go_num, ⟨_, HNX.out, HO2.out⟩, E2⟩, by simp [intOf]; omega⟩
            · have hns : n = s.length := by omega
              have HN2 : Hid (∃ o, MulK a1 (digL s) (m + 1) 0 o ∧ OwnsN .i64 3 wr (.slice (some ⟨nb, 0, none⟩) N N) o) := by
                refine ⟨o, ?_, HO.out⟩
                have h := HOM.out
                rw [hns, ← digL_len s] at h
                exact h.outer
              clear HO HOM HOL hns
              go_wp2
              refine ⟨⟨m + 1, by omega, by go_num, HN2, hE⟩, by simp [intOf]; omega⟩
        · have hma : m = a1.length := by omega
          obtain ⟨o, hO1, hO2⟩ := HW.out
          rw [hma] at hO1
          obtain ⟨k1, k2, k3⟩ := hO1.done
          obtain ⟨T, hT⟩ : ∃ T, T = N - 1 := ⟨_, rfl⟩
          have hTN : T + 1 = N := by have := HNN.out; omega
          have HI1 : Hid (CarI (T + 1) (valB 10 a1 * valB 10 (digL s)) (81 * a1.length + 81) 0 o) := by
            have h := CarI.start k2
            rw [k1, k3, digL_len, ← HNN.out, ← hTN] at h
            exact h
          have HO1 := Lib.hid hO2
          have hTl : T ≤ 400 := by have := HNN.out; omega
          have hwT : IntKind.i64.wrap ((N : Int) - 1) = (T : Int) := by have := HNN.out; rw [IntKind.wrap_i64]; omega
          clear hO1 hO2 HW k1 k2 k3 hma hT hm
          obtain ⟨w1, hw1⟩ : ∃ w1, w1 = wr := ⟨wr, rfl⟩
          subst hw1
          go_wp2
          go_loopw [62] (fun i wr => ∃ (j : Nat), j ≤ T ∧ i = .int .i64 j ∧ Hid (∃ o, CarI (T + 1) (valB 10 a1 * valB 10 (digL s)) (81 * a1.length + 81) j o ∧ OwnsN .i64 3 wr (.slice (some ⟨nb, 0, none⟩) N N) o) ∧ Ext wo wr) (fun i _ => T - (intOf i).toNat)
          case atStart => exact ⟨0, by omega, rfl, ⟨_, HI1.out, HO1.out⟩, hE⟩
          case round =>
            clear HI1 HO1 hE
            obtain ⟨j, hj, rfl, HW, hE⟩ := hrel
            obtain ⟨o, hO1, hO2⟩ := HW.out
            have HOL := Lib.hid hO1.len
            have HOM := Lib.hid hO1
            have HO := Lib.hid hO2
            clear hO1 hO2 HW
            by_cases h3 : j < T
            · have hji : (j : Int) < (T : Int) := by omega
              obtain ⟨s1, s2⟩ := HO.out.at (i := j) (by have := HOL.out; omega)
              obtain ⟨r1, r2⟩ := HO.out.at (i := j + 1) (by have := HOL.out; omega)
              have hnx := HOM.out.next (by omega)
              have hbd := HOM.out.bd
              have hbr := HOM.out.br (j + 1) (by omega)
              have HO2 := HO.out.set (j + 1) (o.getD (j + 1) 0 + o.getD j 0 / 10)
              have f2 := HO2.at (i := j) (by rw [List.length_set]; have := HOL.out; omega)
              rw [getD_set_nat _ _ _ _ (by have := HOL.out; omega), if_neg (by omega)] at f2
              obtain ⟨t1, t2⟩ := f2
              have E2 : Ext wo (wr.setCell ⟨nb, j + 1, none⟩ (.int .i64 ((o.getD (j + 1) 0 + o.getD j 0 / 10 : Nat) : Int))).drew := (Ext.set hE (by rw [HNB.out]; exact Nat.le_refl _) _).drew
              have HO3 := ((HO2.ext (Ext.refl _).drew)).set j (o.getD j 0 % 10)
              have E3 := Ext.set E2 (b := nb) (o := j) (by rw [HNB.out]; exact Nat.le_refl _) (.int .i64 ((o.getD j 0 % 10 : Nat) : Int))
              replace t1 := ((Ext.refl _).drew).cell t1
              replace t2 : (wr.setCell ⟨nb, j + 1, none⟩ (.int .i64 ((o.getD (j + 1) 0 + o.getD j 0 / 10 : Nat) : Int))).drew.frozen? ⟨nb, j, none⟩ = false := by rw [World.frozen?_drew]; exact t2
              generalize hx : o.getD j 0 = x at *
              generalize hy : o.getD (j + 1) 0 = y at *
              obtain ⟨q, hq⟩ : ∃ q, q = x / 10 := ⟨_, rfl⟩
              obtain ⟨d, hd⟩ : ∃ d, d = x % 10 := ⟨_, rfl⟩
              rw [← hq] at hnx HO3 E2 E3 t1 t2
              rw [← hd] at hnx HO3 E3
              have hw1 : IntKind.i64.wrap ((j : Int) + 1) = (j : Int) + 1 := by rw [IntKind.wrap_i64]; omega
              have ht1 : (x : Int).tmod 10 = (d : Int) := by rw [Int.tmod_eq_emod_of_nonneg (by omega)]; omega
              have ht2 : (x : Int).tdiv 10 = (q : Int) := by rw [Int.tdiv_eq_ediv_of_nonneg (by omega)]; omega
              have hw2 : IntKind.i64.wrap (q : Int) = (q : Int) := by rw [IntKind.wrap_i64]; omega
              have hw3 : IntKind.i64.wrap ((y : Int) + (q : Int)) = ((y + q : Nat) : Int) := by rw [IntKind.wrap_i64]; omega
              have hw4 : IntKind.i64.wrap (d : Int) = (d : Int) := by rw [IntKind.wrap_i64]; omega
              have hb1 : (j : Int) + 1 < (N : Int) := by omega
              have hb2 : (j : Int) < (N : Int) := by omega
              have HNX := Lib.hid hnx
              have HOO := Lib.hid HO3
              clear hnx hx hy hq hd HO HO2 HO3 hbd hbr HOM
              generalize y + q = t at *
              go_wp2
              go_region
              go_wp2
              refine ⟨⟨j + 1, by omega, by go_num, ⟨_, HNX.out, HOO.out⟩, E3⟩, by simp [intOf]; omega⟩
            · have hjT : j = T := by omega
              have hPA : ProdA ls (k + 1) o := by
                have h := HOM.out
                rw [hjT, HSE.out] at h
                exact HP.out.next h1 (HL.out k h1) rfl (by rw [← HSE.out, ← HNN.out]; exact hTN) h
              have hlN : N = o.length := by rw [← hTN]; exact HOL.out.symm
              have HPA := Lib.hid hPA
              have hCC : CellsN .i64 wr (some ⟨nb, 0, none⟩) o := by
                obtain ⟨oa, oc, hov, hoc, _, _⟩ := HO.out.reads
                obtain ⟨e1, _, _⟩ := Value.slice.inj hov
                subst e1
                exact hoc
              have HCC := Lib.hid hCC
              have HlN := Lib.hid hlN
              clear hPA hCC hlN HOM HO HOL hjT
              go_wp2
              refine ⟨⟨k + 1, nb, o, by omega, by rw [HlN.out], by go_num, HPA, HCC, he.trans hE⟩, by simp [intOf]; omega⟩
    · have hkl : k = ls.length := by omega
      have HV : Hid (valB 10 a1 = prodV ls) := by
        show _ = _
        have h := HP.out.v
        rwa [hkl, List.take_length] at h
      have HOK := Lib.hid HP.out.ok
      have hl3 : a1.length ≤ 241 := by omega
      clear HP hkl hl2
      go_wp2
      go_loop [3] (fun v => ∃ t : Nat, 1 ≤ t ∧ t ≤ a1.length ∧ v = .slice (some ⟨ob, 0, none⟩) t a1.length ∧ Hid (valB 10 (a1.take t) = prodV ls)) (fun v => match v with | .slice _ n _ => n | _ => 0)
      case atStart => exact ⟨a1.length, hl1, Nat.le_refl _, rfl, by show _ = _; rw [List.take_length]; exact HV.out⟩
      case round =>
        obtain ⟨t, ht1, ht2, rfl, hz⟩ := hrel
        obtain ⟨q, rfl⟩ : ∃ q, t = q + 1 := ⟨t - 1, by omega⟩
        obtain ⟨b2, o2, ha2, p2⟩ := HA.out q (by omega)
        cases ha2
        rw [Nat.zero_add] at p2
        by_cases hgo : 0 < q ∧ a1.getD q 0 = 0
        · obtain ⟨h2, h3⟩ := hgo
          rw [h3] at p2
          have hz2 : Hid (valB 10 (a1.take q) = prodV ls) := by
            show _ = _
            rw [take_val h3]; exact hz.out
          clear h3 hz
          go_wp2
          refine ⟨⟨q, by omega, by omega, by first | rfl | go_num, hz2⟩, by simp⟩
        · have hstop : q = 0 ∨ (0 < q ∧ a1.getD q 0 ≠ 0) := by
            by_cases h : q = 0
            · exact .inl h
            · exact .inr ⟨by omega, fun e => hgo ⟨by omega, e⟩⟩
          have HT : Hid (digT (a1.take (q + 1)) = decDigits (prodV ls)) := by
            show _ = _
            have hlt : (a1.take (q + 1)).length = q + 1 := by rw [List.length_take]; omega
            rw [← hz.out]
            refine digT_dec (fun x hx => HOK.out x (List.mem_of_mem_take hx)) (by omega) ?_
            rw [hlt]
            rcases hstop with h | h
            · exact .inl (by omega)
            · right; rw [take_get (by omega)]; exact h.2
          have HDB := Lib.hid (fun (m : Nat) (hm : m < q + 1) => digT_take (t := a1.take (q + 1)) (k := m) (by rw [List.length_take]; omega))
          have HDL : Hid ((decDigits (prodV ls)).length = q + 1) := by show _ = _; rw [← HT.out, digT_len, List.length_take]; omega
          rw [HT.out] at HDB
          obtain ⟨D, hD⟩ : ∃ D, D = decDigits (prodV ls) := ⟨_, rfl⟩
          rw [← hD] at HDB HDL
          have HDE := Lib.hid hD
          clear hD
          have E1 : Ext wo (wo.alloc (.cells #[.pointer none, .slice none 0 0] 237)) := extA
          have hb3 : (wo.alloc (.cells #[.pointer none, .slice none 0 0] 237)).heap[wo.heap.size]? = some (.cells #[.pointer none, .slice none 0 0] 237 (0, 0)) := World.alloc_heap_new _ _
          have hs3 : (wo.alloc (.cells #[.pointer none, .slice none 0 0] 237)).heap.size = wo.heap.size + 1 := by simp
          have HB0 : Hid (BldW wo.heap.size (wo.heap.size + 1) (D.take 0) (wo.alloc (.cells #[.pointer none, .slice none 0 0] 237))) := BldW.fresh hb3
          have HA1 : Hid (CellsN .i64 (wo.alloc (.cells #[.pointer none, .slice none 0 0] 237)) (some ⟨ob, 0, none⟩) a1) := HA.out.ext E1
          have EE := he.trans E1
          have hob : ob < wo.heap.size := cell_lt p2
          have hws := he.size
          clear hb3 HT HV HA E1
          rcases hstop with hq | ⟨hq, hx⟩
          · have hqi : ¬ 0 < q := by omega
            clear p2 hq
            go_wp2
            go_loopw [105] (fun i W => ∃ m : Nat, m ≤ q + 1 ∧ i = .int .i64 m ∧ Hid (BldW wo.heap.size (wo.heap.size + 1) (D.take m) W) ∧ Hid (CellsN .i64 W (some ⟨ob, 0, none⟩) a1) ∧ Ext w W ∧ wo.heap.size + 1 ≤ W.heap.size) (fun i _ => q + 1 - (intOf i).toNat)
            case atStart => exact ⟨0, by omega, rfl, HB0.out, HA1.out, EE, by omega⟩
            case round =>
              clear HB0 HA1 EE hs3
              obtain ⟨m, hm, rfl, HB, HA, hE, hz⟩ := hrel
              obtain ⟨W0, hW0⟩ : ∃ W0, W0 = wr := ⟨wr, rfl⟩
              subst hW0
              by_cases h3 : m < q + 1
              · obtain ⟨r, hr⟩ : ∃ r, r = q - m := ⟨_, rfl⟩
                obtain ⟨b2, o2, ha2, p2⟩ := HA.out r (by omega)
                cases ha2
                rw [Nat.zero_add] at p2
                have hd := okB_getD HOK.out (by omega) r
                have hnx := HDB.out m h3
                rw [show (a1.take (q + 1)).length - 1 - m = r by rw [List.length_take]; omega, take_get (by omega)] at hnx
                generalize a1.getD r 0 = d at p2 hd hnx
                obtain ⟨c, hc⟩ : ∃ c, c = UInt8.ofNat (48 + d) := ⟨_, rfl⟩
                rw [← hc] at hnx
                have hcn : c.toNat = 48 + d := by rw [hc]; exact digit_toNat hd
                have hw2 : IntKind.i64.wrap ((q : Int) - (m : Int)) = (r : Int) := by rw [IntKind.wrap_i64]; omega
                have hw3 : IntKind.i64.wrap (48 + (d : Int)) = 48 + (d : Int) := by rw [IntKind.wrap_i64]; omega
                have hw4 : IntKind.u8.wrap (48 + (d : Int)) = (c.toNat : Int) := by rw [IntKind.wrap_u8, hcn]; omega
                have hri : (r : Int) < ((q + 1 : Nat) : Int) := by omega
                have hmi : (m : Int) < ((q + 1 : Nat) : Int) := by omega
                have HWB := Lib.hid (WriteByte_any wo.heap.size (wo.heap.size + 1) (D.take m) c W0 HB.out (by omega) hz (by have := HDL.out; rw [List.length_take]; omega))
                rw [← hnx] at HWB
                clear hr hc hcn hnx hd HB
                go_wp2_with (go_at_call 207; refine HWB.out.mono ?_; rintro e w5 ⟨rfl, hB5, hE5⟩)
                have HB5 := Lib.hid hB5
                have HA5 : Hid (CellsN .i64 w5 (some ⟨ob, 0, none⟩) a1) := fun i hi => by
                  obtain ⟨b, off, h1, h2⟩ := HA.out i hi
                  refine ⟨b, off, h1, ?_⟩
                  cases h1
                  rw [Below.cell hE5 (by show ob < wo.heap.size; exact hob)]
                  exact h2
                have E5 := hE.trans' hE5 hws
                have hz5 := hE5.size
                clear hB5 hE5 HWB HA p2
                go_wp2
                refine ⟨⟨m + 1, by omega, by go_num, HB5, HA5, E5, by omega⟩, by simp [intOf]; omega⟩
              · have hmt : D.take m = D := List.take_of_length_le (by have := HDL.out; omega)
                rw [hmt] at HB
                have HS := Lib.hid (Tryz.Builder_String_any wo.heap.size wo.heap.size D W0 (HB.out.is (by omega)) (by omega))
                have hmi : ¬ (m : Int) < ((q + 1 : Nat) : Int) := by omega
                clear hmt HB HA
                go_wp2_with (go_at_call 190; refine HS.out.mono ?_; rintro e w5 ⟨rfl, hE5⟩)
                refine bodyPost_ret (v := txt D) ((results_tmp (t := 2) rfl _ _ _).trans rfl) rfl ?_
                exact ⟨by rw [HDE.out], hE.trans' hE5 hws⟩
          · have hx2 : ((a1.getD q 0 : Int) == 0) = false := by rw [beq_eq_false_iff_ne]; omega
            generalize a1.getD q 0 = x at p2 hx2 hx
            go_wp2
            clear p2 hx2 hx
            go_loopw [105] (fun i W => ∃ m : Nat, m ≤ q + 1 ∧ i = .int .i64 m ∧ Hid (BldW wo.heap.size (wo.heap.size + 1) (D.take m) W) ∧ Hid (CellsN .i64 W (some ⟨ob, 0, none⟩) a1) ∧ Ext w W ∧ wo.heap.size + 1 ≤ W.heap.size) (fun i _ => q + 1 - (intOf i).toNat)
            case atStart => exact ⟨0, by omega, rfl, HB0.out, HA1.out, EE, by omega⟩
            case round =>
              clear HB0 HA1 EE hs3
              obtain ⟨m, hm, rfl, HB, HA, hE, hz⟩ := hrel
              obtain ⟨W0, hW0⟩ : ∃ W0, W0 = wr := ⟨wr, rfl⟩
              subst hW0
              by_cases h3 : m < q + 1
              · obtain ⟨r, hr⟩ : ∃ r, r = q - m := ⟨_, rfl⟩
                obtain ⟨b2, o2, ha2, p2⟩ := HA.out r (by omega)
                cases ha2
                rw [Nat.zero_add] at p2
                have hd := okB_getD HOK.out (by omega) r
                have hnx := HDB.out m h3
                rw [show (a1.take (q + 1)).length - 1 - m = r by rw [List.length_take]; omega, take_get (by omega)] at hnx
                generalize a1.getD r 0 = d at p2 hd hnx
                obtain ⟨c, hc⟩ : ∃ c, c = UInt8.ofNat (48 + d) := ⟨_, rfl⟩
                rw [← hc] at hnx
                have hcn : c.toNat = 48 + d := by rw [hc]; exact digit_toNat hd
                have hw2 : IntKind.i64.wrap ((q : Int) - (m : Int)) = (r : Int) := by rw [IntKind.wrap_i64]; omega
                have hw3 : IntKind.i64.wrap (48 + (d : Int)) = 48 + (d : Int) := by rw [IntKind.wrap_i64]; omega
                have hw4 : IntKind.u8.wrap (48 + (d : Int)) = (c.toNat : Int) := by rw [IntKind.wrap_u8, hcn]; omega
                have hri : (r : Int) < ((q + 1 : Nat) : Int) := by omega
                have hmi : (m : Int) < ((q + 1 : Nat) : Int) := by omega
                have HWB := Lib.hid (WriteByte_any wo.heap.size (wo.heap.size + 1) (D.take m) c W0 HB.out (by omega) hz (by have := HDL.out; rw [List.length_take]; omega))
                rw [← hnx] at HWB
                clear hr hc hcn hnx hd HB
                go_wp2_with (go_at_call 207; refine HWB.out.mono ?_; rintro e w5 ⟨rfl, hB5, hE5⟩)
                have HB5 := Lib.hid hB5
                have HA5 : Hid (CellsN .i64 w5 (some ⟨ob, 0, none⟩) a1) := fun i hi => by
                  obtain ⟨b, off, h1, h2⟩ := HA.out i hi
                  refine ⟨b, off, h1, ?_⟩
                  cases h1
                  rw [Below.cell hE5 (by show ob < wo.heap.size; exact hob)]
                  exact h2
                have E5 := hE.trans' hE5 hws
                have hz5 := hE5.size
                clear hB5 hE5 HWB HA p2
                go_wp2
                refine ⟨⟨m + 1, by omega, by go_num, HB5, HA5, E5, by omega⟩, by simp [intOf]; omega⟩
              · have hmt : D.take m = D := List.take_of_length_le (by have := HDL.out; omega)
                rw [hmt] at HB
                have HS := Lib.hid (Tryz.Builder_String_any wo.heap.size wo.heap.size D W0 (HB.out.is (by omega)) (by omega))
                have hmi : ¬ (m : Int) < ((q + 1 : Nat) : Int) := by omega
                clear hmt HB HA
                go_wp2_with (go_at_call 190; refine HS.out.mono ?_; rintro e w5 ⟨rfl, hE5⟩)
                refine bodyPost_ret (v := txt D) ((results_tmp (t := 2) rfl _ _ _).trans rfl) rfl ?_
                exact ⟨by rw [HDE.out], hE.trans' hE5 hws⟩
end Go.Proofs.YtlnonmmaknhppaaGreatDoor
namespace Go.Proofs.YtlnonmmaknhppaaGreatDoor
open Go.Lib (decDigits)
def absN (a : Txt) : Nat := decV (topS (bareS a))
def absD (a : Txt) : Nat := decV (lowS (bareS a))
def greaterE (x y : Txt × Txt) : Bool := decide (prodV [topS (bareS y.1), topS (bareS y.2), lowS (bareS x.1), lowS (bareS x.2)] < prodV [topS (bareS x.1), topS (bareS x.2), lowS (bareS y.1), lowS (bareS y.2)])
theorem prodV_four (a b c d : Txt) : prodV [a, b, c, d] = decV a * decV b * decV c * decV d := by simp [prodV]
theorem bare_top (a : Txt) : topS (bareS a) = bareS (topS a) ∧ lowS (bareS a) = lowS a ∧ negS (topS a) = negS a := by
  cases hn : negS a
  · rw [bare_pos hn]
    have h2 : negS (topS a) = false := by
      unfold negS at hn ⊢
      cases a with
      | nil => rfl
      | cons c a =>
        unfold topS
        rw [List.takeWhile_cons]
        split
        · exact hn
        · rfl
    rw [bare_pos h2]
    exact ⟨rfl, rfl, h2⟩
  · have e := neg_cons hn
    generalize bareS a = s at *
    subst e
    have h1 : topS (45 :: s) = 45 :: topS s := by
      unfold topS
      rw [List.takeWhile_cons, if_pos (by decide)]
    have h2 : lowS (45 :: s) = lowS s := by
      unfold lowS
      have hm : (47 ∈ (45 :: s : Txt)) ↔ 47 ∈ s := ⟨fun h => (List.mem_cons.1 h).resolve_left (by decide), fun h => List.mem_cons_of_mem _ h⟩
      by_cases k : 47 ∈ s
      · rw [if_pos k, if_pos (hm.2 k), List.dropWhile_cons, if_pos (by decide)]
      · rw [if_neg k, if_neg (fun h => k (hm.1 h))]
    rw [h1, h2]
    exact ⟨rfl, rfl, rfl⟩
theorem canon_len {s : Txt} {v : Nat} (h : CanonL s) (e : decV s = v) (hv : v < 10 ^ 60) : s.length ≤ 60 := by
  rw [← canon_back h, e]
  exact (digits_len_le v 60 (by omega)).2 hv
theorem right_parts {a : Txt} (h : fracE a = 0) : (DigitL (topS (bareS a)) ∧ (topS (bareS a)).length ≤ 60) ∧ (DigitL (lowS (bareS a)) ∧ (lowS (bareS a)).length ≤ 60) ∧
    absN a = (fracQ a).num.natAbs ∧ absD a = (fracQ a).den := by
  obtain ⟨h1, h2, h3, h4, h5, _, _⟩ := frac_parts h
  obtain ⟨k1, k2⟩ := frac_num h
  obtain ⟨b1, b2, _⟩ := bare_top a
  unfold absN absD
  rw [b1, b2, k1, k2, intV_abs]
  rw [intV_abs] at h2
  exact ⟨⟨h1.1.1, canon_len h1.1 rfl h2⟩, ⟨h3.1, canon_len h3 rfl h5⟩, rfl, rfl⟩
theorem decV_cons (c : UInt8) (l : Txt) : decV (c :: l) = (c.toNat - 48) * 10 ^ l.length + decV l := by
  rw [show c :: l = [c] ++ l from rfl, decV_append]
  congr 2
  simp [decV]
theorem bytes_less : ∀ {a b : Txt}, DigitL a → DigitL b → a.length = b.length → Op.bytesLess a b = decide (decV a < decV b)
  | [], [], _, _, _ => by simp [Op.bytesLess]
  | [], _ :: _, _, _, h => by simp at h
  | _ :: _, [], _, _, h => by simp at h
  | c :: a, d :: b, ha, hb, h => by
    have ha2 : DigitL a := fun x hx => ha x (List.mem_cons_of_mem _ hx)
    have hb2 : DigitL b := fun x hx => hb x (List.mem_cons_of_mem _ hx)
    have hl : a.length = b.length := by simpa using h
    have hc := ha c (List.mem_cons_self ..)
    have hd := hb d (List.mem_cons_self ..)
    have ih := bytes_less ha2 hb2 hl
    have k1 := decV_lt ha2
    have k2 := decV_lt hb2
    unfold Op.bytesLess
    rw [ih, decV_cons, decV_cons, hl]
    rw [hl] at k1
    generalize decV a = x at *
    generalize decV b = y at *
    generalize 10 ^ b.length = T at *
    rcases Nat.lt_trichotomy c.toNat d.toNat with e | e | e
    · have h1 : (c.toNat - 48) * T + T ≤ (d.toNat - 48) * T := by
        rw [← Nat.succ_mul]; exact Nat.mul_le_mul_right _ (by omega)
      have h2 : c < d := UInt8.lt_iff_toNat_lt.2 e
      have h9 : (c.toNat - 48) * T + x < (d.toNat - 48) * T + y := by omega
      rw [decide_eq_true h2, decide_eq_true h9]
      rfl
    · have e2 : c = d := UInt8.toNat_inj.1 e
      subst e2
      rw [decide_eq_false (fun h => Nat.lt_irrefl _ (UInt8.lt_iff_toNat_lt.1 h))]
      simp
    · have h1 : (d.toNat - 48) * T + T ≤ (c.toNat - 48) * T := by
        rw [← Nat.succ_mul]; exact Nat.mul_le_mul_right _ (by omega)
      have h2 : ¬ c < d := fun h => by have := UInt8.lt_iff_toNat_lt.1 h; omega
      have h3 : (c == d) = false := by rw [beq_eq_false_iff_ne]; intro h; rw [h] at e; omega
      have h9 : ¬ (c.toNat - 48) * T + x < (d.toNat - 48) * T + y := by omega
      rw [decide_eq_false h2, h3, decide_eq_false h9]
      rfl
theorem dec_len_lt {P Q : Nat} (h : (decDigits Q).length < (decDigits P).length) : Q < P := by
  have h0 : 1 ≤ (decDigits Q).length := by
    have := (digits_ok Q).2.2
    cases hd : decDigits Q with
    | nil => exact absurd hd this
    | cons _ _ => simp
  have h1 : ¬ P < 10 ^ (decDigits Q).length := fun h2 => by
    have := (digits_len_le P _ h0).2 h2
    omega
  have h3 := (digits_len_le Q _ h0).1 (Nat.le_refl _)
  omega
theorem dec_order_len {P Q : Nat} (h : (decDigits P).length ≠ (decDigits Q).length) : decide ((decDigits Q).length < (decDigits P).length) = decide (Q < P) := by
  by_cases k : (decDigits Q).length < (decDigits P).length
  · rw [decide_eq_true k, decide_eq_true (dec_len_lt k)]
  · have := dec_len_lt (P := Q) (Q := P) (by omega)
    rw [decide_eq_false k, decide_eq_false (by omega)]
theorem dec_order {P Q : Nat} (h : (decDigits P).length = (decDigits Q).length) : (!(Op.bytesLess (decDigits P) (decDigits Q) || decDigits P == decDigits Q)) = decide (Q < P) := by
  rw [bytes_less (digits_ok P).1 (digits_ok Q).1 h, (digits_ok P).2.1, (digits_ok Q).2.1]
  have he : (decDigits P == decDigits Q) = decide (P = Q) := by
    by_cases k : P = Q
    · subst k; simp
    · rw [decide_eq_false k, beq_eq_false_iff_ne]
      intro e
      have := congrArg decV e
      rw [(digits_ok P).2.1, (digits_ok Q).2.1] at this
      exact k this
  rw [he]
  by_cases k : Q < P
  · rw [decide_eq_true k, decide_eq_false (show ¬ P < Q by omega), decide_eq_false (show ¬ P = Q by omega)]; rfl
  · rw [decide_eq_false k]
    by_cases k2 : P < Q
    · rw [decide_eq_true k2]; rfl
    · rw [decide_eq_true (show P = Q by omega)]; simp
end Go.Proofs.YtlnonmmaknhppaaGreatDoor
namespace Go.Proofs.YtlnonmmaknhppaaGreatDoor
open Go.Lib (decDigits itoa)
def absQ (q : Rat) : Rat := if q < 0 then -q else q
theorem abs_num (q : Rat) : ((q.num.natAbs : Nat) : Rat) = absQ q * (q.den : Rat) := by
  have h := num_den q
  have e : ((q.num.natAbs : Nat) : Rat) = (((q.num.natAbs : Nat) : Int) : Rat) := by push_cast; rfl
  unfold absQ
  by_cases k : q < 0
  · have k2 := num_neg_iff.2 k
    rw [if_pos k, e, show ((q.num.natAbs : Nat) : Int) = -q.num by omega]
    push_cast
    grind
  · have k2 : ¬ q.num < 0 := fun x => k (num_neg_iff.1 x)
    rw [if_neg k, e, show ((q.num.natAbs : Nat) : Int) = q.num by omega]
    exact h
theorem den_pos (q : Rat) : 0 < (q.den : Rat) := by exact_mod_cast q.den_pos
theorem abs_less (x0 x1 y0 y1 : Rat) : y0.num.natAbs * y1.num.natAbs * x0.den * x1.den < x0.num.natAbs * x1.num.natAbs * y0.den * y1.den ↔ absQ y0 * absQ y1 < absQ x0 * absQ x1 := by
  have h0 := abs_num x0
  have h1 := abs_num x1
  have h2 := abs_num y0
  have h3 := abs_num y1
  have hD : 0 < (x0.den : Rat) * (x1.den : Rat) * (y0.den : Rat) * (y1.den : Rat) :=
    Rat.mul_pos (Rat.mul_pos (Rat.mul_pos (den_pos x0) (den_pos x1)) (den_pos y0)) (den_pos y1)
  have e : (y0.num.natAbs * y1.num.natAbs * x0.den * x1.den < x0.num.natAbs * x1.num.natAbs * y0.den * y1.den) ↔
      ((y0.num.natAbs : Nat) : Rat) * ((y1.num.natAbs : Nat) : Rat) * (x0.den : Rat) * (x1.den : Rat) < ((x0.num.natAbs : Nat) : Rat) * ((x1.num.natAbs : Nat) : Rat) * (y0.den : Rat) * (y1.den : Rat) := by
    constructor
    · intro h; exact_mod_cast h
    · intro h; exact_mod_cast h
  rw [e, h0, h1, h2, h3]
  generalize (x0.den : Rat) = a at *
  generalize (x1.den : Rat) = b at *
  generalize (y0.den : Rat) = c at *
  generalize (y1.den : Rat) = d at *
  generalize absQ x0 = p at *
  generalize absQ x1 = q at *
  generalize absQ y0 = r at *
  generalize absQ y1 = s at *
  have e1 : r * c * (s * d) * a * b = r * s * (a * b * c * d) := by grind
  have e2 : p * a * (q * b) * c * d = p * q * (a * b * c * d) := by grind
  rw [e1, e2]
  generalize a * b * c * d = D at *
  constructor
  · intro h
    rcases (Rat.le_total : p * q ≤ r * s ∨ r * s ≤ p * q) with k | k
    · have := mul_le k (Rat.le_of_lt hD)
      grind
    · grind
  · intro h
    have := Rat.mul_pos (show 0 < p * q - r * s by grind) hD
    grind
end Go.Proofs.YtlnonmmaknhppaaGreatDoor
namespace Go.Proofs.YtlnonmmaknhppaaGreatDoor
open Go.Lib (decDigits)
theorem greater_is {x0 x1 y0 y1 : Txt} (r1 : fracE x0 = 0) (r2 : fracE x1 = 0) (r3 : fracE y0 = 0) (r4 : fracE y1 = 0) :
    greaterE (x0, x1) (y0, y1) = decide (absQ (fracQ y0) * absQ (fracQ y1) < absQ (fracQ x0) * absQ (fracQ x1)) := by
  obtain ⟨_, _, n0, d0⟩ := right_parts r1
  obtain ⟨_, _, n1, d1⟩ := right_parts r2
  obtain ⟨_, _, n2, d2⟩ := right_parts r3
  obtain ⟨_, _, n3, d3⟩ := right_parts r4
  have h := abs_less (fracQ x0) (fracQ x1) (fracQ y0) (fracQ y1)
  rw [← n0, ← n1, ← n2, ← n3, ← d0, ← d1, ← d2, ← d3] at h
  unfold greaterE
  dsimp only
  rw [prodV_four, prodV_four]
  unfold absN absD at h
  simp only [h]
def extremesE (a b : Enc) : Enc × Enc :=
  if negS b.1 = false then ((a.1, if negS a.1 then b.2 else b.1), (a.2, if negS a.2 then b.1 else b.2))
  else if (negS b.2 || b.2 == [48]) = true then ((a.2, if negS a.2 then b.2 else b.1), (a.1, if negS a.1 then b.1 else b.2))
  else if negS a.1 = false then ((a.2, b.1), (a.2, b.2))
  else if (negS a.2 || a.2 == [48]) = true then ((a.1, b.2), (a.1, b.1))
  else (if greaterE (a.2, b.1) (a.1, b.2) then (a.2, b.1) else (a.1, b.2), if greaterE (a.2, b.2) (a.1, b.1) then (a.2, b.2) else (a.1, b.1))
structure ExtR (a b : Enc) (p : Enc × Enc) : Prop where
  lo : fracQ p.1.1 * fracQ p.1.2 = prodLo a b
  hi : fracQ p.2.1 * fracQ p.2.2 = prodHi a b
  l : RightP p.1
  h : RightP p.2
theorem pick_q {c : Prop} [Decidable c] (x y : Txt) : fracQ (if c then x else y) = if c then fracQ x else fracQ y := by split <;> rfl
theorem pick_e {c : Prop} [Decidable c] {x y : Txt} (hx : fracE x = 0) (hy : fracE y = 0) : fracE (if c then x else y) = 0 := by split <;> assumption
theorem extremes_is {a b : Enc} (ha : encE a = 0) (hb : encE b = 0) : ExtR a b (extremesE a b) := by
  obtain ⟨a1, a2, _⟩ := enc_right ha
  obtain ⟨b1, b2, _⟩ := enc_right hb
  have hal := enc_le ha
  have hbl := enc_le hb
  unfold extremesE
  simp only [negS_right a1, negS_right a2, negS_right b1, negS_right b2, zero_right b2, zero_right a2, decide_eq_true_eq, decide_eq_false_iff_not, Bool.or_eq_true]
  by_cases h1 : fracQ b.1 < 0
  · rw [if_neg (not_not_intro h1)]
    by_cases h2 : fracQ b.2 < 0 ∨ fracQ b.2 = 0
    · rw [if_pos h2]
      obtain ⟨k1, k2⟩ := ends2 hal hbl (show fracQ b.2 ≤ 0 by grind)
      exact ⟨by unfold prodLo; rw [k1, pick_q], by unfold prodHi; rw [k2, pick_q], ⟨a2, pick_e b2 b1⟩, ⟨a1, pick_e b1 b2⟩⟩
    · rw [if_neg h2]
      by_cases h3 : fracQ a.1 < 0
      · rw [if_neg (not_not_intro h3)]
        by_cases h4 : fracQ a.2 < 0 ∨ fracQ a.2 = 0
        · rw [if_pos h4]
          obtain ⟨k1, k2⟩ := ends4 hal hbl (show fracQ b.1 ≤ 0 by grind) (show 0 ≤ fracQ b.2 by grind) (show fracQ a.2 ≤ 0 by grind)
          exact ⟨by unfold prodLo; rw [k1], by unfold prodHi; rw [k2], ⟨a1, b2⟩, ⟨a1, b1⟩⟩
        · rw [if_neg h4]
          obtain ⟨k1, k2⟩ := ends5 (a := fracQ a.1) (A := fracQ a.2) (show fracQ b.1 ≤ 0 by grind) (show 0 ≤ fracQ b.2 by grind) (show fracQ a.1 ≤ 0 by grind) (show 0 ≤ fracQ a.2 by grind)
          rw [greater_is a2 b1 a1 b2, greater_is a2 b2 a1 b1]
          have e1 : absQ (fracQ a.1) = -fracQ a.1 := if_pos h3
          have e2 : absQ (fracQ a.2) = fracQ a.2 := if_neg (by grind)
          have e3 : absQ (fracQ b.1) = -fracQ b.1 := if_pos h1
          have e4 : absQ (fracQ b.2) = fracQ b.2 := if_neg (by grind)
          rw [e1, e2, e3, e4]
          simp only [decide_eq_true_eq]
          have c1 : -fracQ a.1 * fracQ b.2 < fracQ a.2 * -fracQ b.1 ↔ fracQ a.2 * fracQ b.1 < fracQ a.1 * fracQ b.2 := by constructor <;> intro <;> grind
          have c2 : -fracQ a.1 * -fracQ b.1 < fracQ a.2 * fracQ b.2 ↔ fracQ a.1 * fracQ b.1 < fracQ a.2 * fracQ b.2 := by constructor <;> intro <;> grind
          simp only [c1, c2]
          refine ⟨?_, ?_, ?_, ?_⟩
          · unfold prodLo; rw [k1]; by_cases z : fracQ a.2 * fracQ b.1 < fracQ a.1 * fracQ b.2 <;> simp only [z, if_true, if_false]
          · unfold prodHi; rw [k2]; by_cases z : fracQ a.1 * fracQ b.1 < fracQ a.2 * fracQ b.2 <;> simp only [z, if_true, if_false]
          · dsimp only; split
            · exact ⟨a2, b1⟩
            · exact ⟨a1, b2⟩
          · dsimp only; split
            · exact ⟨a2, b2⟩
            · exact ⟨a1, b1⟩
      · rw [if_pos h3]
        obtain ⟨k1, k2⟩ := ends3 hal hbl (show fracQ b.1 ≤ 0 by grind) (show 0 ≤ fracQ b.2 by grind) (show 0 ≤ fracQ a.1 by grind)
        exact ⟨by unfold prodLo; rw [k1], by unfold prodHi; rw [k2], ⟨a2, b1⟩, ⟨a2, b2⟩⟩
  · rw [if_pos h1]
    obtain ⟨k1, k2⟩ := ends1 hal hbl (show 0 ≤ fracQ b.1 by grind)
    exact ⟨by unfold prodLo; rw [k1, pick_q], by unfold prodHi; rw [k2, pick_q], ⟨a1, pick_e b2 b1⟩, ⟨a2, pick_e b1 b2⟩⟩
end Go.Proofs.YtlnonmmaknhppaaGreatDoor
namespace Go.Proofs.YtlnonmmaknhppaaGreatDoor
open Go.RowKit
open Go.Lib (decDigits)
attribute [local go_sem] Oper.semAt_some
set_option maxHeartbeats 2000000 in
theorem eParts_any (a : Txt) (w : World) (hG : Glob w) (hl : a.length ≤ 400) : Calls Tryz.prog 166 #[txt a] w fun e w' => e = .returned (.tuple #[txt (topS (bareS a)), txt (lowS (bareS a))]) ∧ Ext w w' := by
  have HT := Lib.hid (fun W => TrimPrefix_any a W)
  have HC := Lib.hid (Cut_any (bareS a) w hG (Nat.le_trans (bare_len a) (by omega)))
  clear hG hl
  generalize bareS a = s at *
  by_cases hs : 47 ∈ s
  · rw [if_pos hs, decide_eq_true hs] at HC
    clear hs
    generalize topS s = n at *
    generalize lowS s = d at *
    go_enter Tryz.func166, Tryz.ntmps166
    go_wp2_with (first
      | (go_at_call 148; (refine (HT.out _).mono ?_); rintro e w1 ⟨rfl, rfl⟩)
      | (go_at_call 113; (refine HC.out.mono ?_); rintro e w2 ⟨rfl, hE⟩))
    go_ret2
    exact ⟨rfl, hE⟩
  · rw [if_neg hs, decide_eq_false hs] at HC
    rw [(split_none hs).2]
    clear hs
    generalize topS s = n at *
    go_enter Tryz.func166, Tryz.ntmps166
    go_wp2_with (first
      | (go_at_call 148; (refine (HT.out _).mono ?_); rintro e w1 ⟨rfl, rfl⟩)
      | (go_at_call 113; (refine HC.out.mono ?_); rintro e w2 ⟨rfl, hE⟩))
    go_ret2
    exact ⟨rfl, hE⟩
structure FourAt (b : Nat) (W : World) (p q r s : Txt) : Prop where
  c0 : W.cell? ⟨b, 0, none⟩ = some (txt p)
  c1 : W.cell? ⟨b, 1, none⟩ = some (txt q)
  c2 : W.cell? ⟨b, 2, none⟩ = some (txt r)
  c3 : W.cell? ⟨b, 3, none⟩ = some (txt s)
  f0 : W.frozen? ⟨b, 0, none⟩ = false
  f1 : W.frozen? ⟨b, 1, none⟩ = false
  f2 : W.frozen? ⟨b, 2, none⟩ = false
  f3 : W.frozen? ⟨b, 3, none⟩ = false
theorem FourAt.ext {b : Nat} {A B : World} {p q r s : Txt} (x : FourAt b A p q r s) (e : Ext A B) : FourAt b B p q r s := by
  have hlt : b < A.heap.size := cell_lt x.c0
  exact ⟨e.cell x.c0, e.cell x.c1, e.cell x.c2, e.cell x.c3, by rw [Below.frozen e hlt]; exact x.f0, by rw [Below.frozen e hlt]; exact x.f1, by rw [Below.frozen e hlt]; exact x.f2, by rw [Below.frozen e hlt]; exact x.f3⟩
theorem FourAt.other {b c o : Nat} {A : World} {p q r s : Txt} {v : Value} (x : FourAt b A p q r s) (hn : b ≠ c) : FourAt b (A.setCell ⟨c, o, none⟩ v) p q r s :=
  ⟨by rw [World.cell?_setCell_other _ _ _ _ (fun h => by simp only [Addr.mk.injEq] at h; omega)]; exact x.c0, by rw [World.cell?_setCell_other _ _ _ _ (fun h => by simp only [Addr.mk.injEq] at h; omega)]; exact x.c1, by rw [World.cell?_setCell_other _ _ _ _ (fun h => by simp only [Addr.mk.injEq] at h; omega)]; exact x.c2, by rw [World.cell?_setCell_other _ _ _ _ (fun h => by simp only [Addr.mk.injEq] at h; omega)]; exact x.c3, by rw [World.frozen?_setCell]; exact x.f0, by rw [World.frozen?_setCell]; exact x.f1, by rw [World.frozen?_setCell]; exact x.f2, by rw [World.frozen?_setCell]; exact x.f3⟩
theorem FourAt.set0 {b : Nat} {A : World} {p q r s : Txt} (x : FourAt b A p q r s) (v : Txt) : FourAt b (A.setCell ⟨b, 0, none⟩ (txt v)) v q r s :=
  ⟨World.cell?_setCell_same _ _ _ x.c0, by rw [World.cell?_setCell_other _ _ _ _ (fun h => by simp only [Addr.mk.injEq] at h; omega)]; exact x.c1, by rw [World.cell?_setCell_other _ _ _ _ (fun h => by simp only [Addr.mk.injEq] at h; omega)]; exact x.c2, by rw [World.cell?_setCell_other _ _ _ _ (fun h => by simp only [Addr.mk.injEq] at h; omega)]; exact x.c3, by rw [World.frozen?_setCell]; exact x.f0, by rw [World.frozen?_setCell]; exact x.f1, by rw [World.frozen?_setCell]; exact x.f2, by rw [World.frozen?_setCell]; exact x.f3⟩
theorem FourAt.set1 {b : Nat} {A : World} {p q r s : Txt} (x : FourAt b A p q r s) (v : Txt) : FourAt b (A.setCell ⟨b, 1, none⟩ (txt v)) p v r s :=
  ⟨by rw [World.cell?_setCell_other _ _ _ _ (fun h => by simp only [Addr.mk.injEq] at h; omega)]; exact x.c0, World.cell?_setCell_same _ _ _ x.c1, by rw [World.cell?_setCell_other _ _ _ _ (fun h => by simp only [Addr.mk.injEq] at h; omega)]; exact x.c2, by rw [World.cell?_setCell_other _ _ _ _ (fun h => by simp only [Addr.mk.injEq] at h; omega)]; exact x.c3, by rw [World.frozen?_setCell]; exact x.f0, by rw [World.frozen?_setCell]; exact x.f1, by rw [World.frozen?_setCell]; exact x.f2, by rw [World.frozen?_setCell]; exact x.f3⟩
theorem FourAt.set2 {b : Nat} {A : World} {p q r s : Txt} (x : FourAt b A p q r s) (v : Txt) : FourAt b (A.setCell ⟨b, 2, none⟩ (txt v)) p q v s :=
  ⟨by rw [World.cell?_setCell_other _ _ _ _ (fun h => by simp only [Addr.mk.injEq] at h; omega)]; exact x.c0, by rw [World.cell?_setCell_other _ _ _ _ (fun h => by simp only [Addr.mk.injEq] at h; omega)]; exact x.c1, World.cell?_setCell_same _ _ _ x.c2, by rw [World.cell?_setCell_other _ _ _ _ (fun h => by simp only [Addr.mk.injEq] at h; omega)]; exact x.c3, by rw [World.frozen?_setCell]; exact x.f0, by rw [World.frozen?_setCell]; exact x.f1, by rw [World.frozen?_setCell]; exact x.f2, by rw [World.frozen?_setCell]; exact x.f3⟩
theorem FourAt.set3 {b : Nat} {A : World} {p q r s : Txt} (x : FourAt b A p q r s) (v : Txt) : FourAt b (A.setCell ⟨b, 3, none⟩ (txt v)) p q r v :=
  ⟨by rw [World.cell?_setCell_other _ _ _ _ (fun h => by simp only [Addr.mk.injEq] at h; omega)]; exact x.c0, by rw [World.cell?_setCell_other _ _ _ _ (fun h => by simp only [Addr.mk.injEq] at h; omega)]; exact x.c1, by rw [World.cell?_setCell_other _ _ _ _ (fun h => by simp only [Addr.mk.injEq] at h; omega)]; exact x.c2, World.cell?_setCell_same _ _ _ x.c3, by rw [World.frozen?_setCell]; exact x.f0, by rw [World.frozen?_setCell]; exact x.f1, by rw [World.frozen?_setCell]; exact x.f2, by rw [World.frozen?_setCell]; exact x.f3⟩
theorem cells_four {W : World} {b : Nat} {p q r s : Txt} (x : FourAt b W p q r s) : CellsT W (some ⟨b, 0, none⟩) [p, q, r, s] := fun i hi => by
  refine ⟨b, 0, rfl, ?_⟩
  rw [Nat.zero_add]
  match i, hi with
  | 0, _ => exact x.c0
  | 1, _ => exact x.c1
  | 2, _ => exact x.c2
  | 3, _ => exact x.c3
theorem prod_four (p q r s : Txt) (hp : DigitL p ∧ p.length ≤ 60) (hq : DigitL q ∧ q.length ≤ 60) (hr : DigitL r ∧ r.length ≤ 60) (hs : DigitL s ∧ s.length ≤ 60) (b : Nat) (W : World) (x : FourAt b W p q r s) :
    Calls Tryz.prog 167 #[.slice (some ⟨b, 0, none⟩) 4 4] W fun e w' => e = .returned (txt (decDigits (prodV [p, q, r, s]))) ∧ Ext W w' :=
  product_any [p, q, r, s] (some ⟨b, 0, none⟩) 4 W (cells_four x) (Nat.le_refl 4) (fun k hk => by
    match k, hk with
    | 0, _ => exact hp
    | 1, _ => exact hq
    | 2, _ => exact hr
    | 3, _ => exact hs)
set_option maxHeartbeats 8000000 in
set_option maxRecDepth 100000 in
theorem eGreater_any (x0 x1 y0 y1 : Txt) (w : World) (hG : Glob w) (h1 : x0.length ≤ 400) (h2 : x1.length ≤ 400) (h3 : y0.length ≤ 400) (h4 : y1.length ≤ 400)
    (r1 : fracE x0 = 0) (r2 : fracE x1 = 0) (r3 : fracE y0 = 0) (r4 : fracE y1 = 0) :
    Calls Tryz.prog 127 #[.agg #[txt x0, txt x1], .agg #[txt y0, txt y1]] w fun e w' => e = .returned (.bool (greaterE (x0, x1) (y0, y1))) ∧ Ext w w' := by
  have H0 := Lib.hid (fun W (h : Ext w W) => eParts_any x0 W (hG.ext h) h1)
  have H1 := Lib.hid (fun W (h : Ext w W) => eParts_any x1 W (hG.ext h) h2)
  have H2 := Lib.hid (fun W (h : Ext w W) => eParts_any y0 W (hG.ext h) h3)
  have H3 := Lib.hid (fun W (h : Ext w W) => eParts_any y1 W (hG.ext h) h4)
  obtain ⟨t0, l0, _⟩ := right_parts r1
  obtain ⟨t1, l1, _⟩ := right_parts r2
  obtain ⟨t2, l2, _⟩ := right_parts r3
  obtain ⟨t3, l3, _⟩ := right_parts r4
  have HP := Lib.hid (fun b W => prod_four _ _ _ _ t0 t1 l2 l3 b W)
  have HQ := Lib.hid (fun b W => prod_four _ _ _ _ t2 t3 l0 l1 b W)
  clear hG h1 h2 h3 h4 t0 t1 t2 t3 l0 l1 l2 l3 r1 r2 r3 r4
  obtain ⟨C, hC⟩ : ∃ C, C = greaterE (x0, x1) (y0, y1) := ⟨_, rfl⟩
  rw [← hC]
  unfold greaterE at hC
  dsimp only at hC
  generalize topS (bareS x0) = n0 at *
  generalize topS (bareS x1) = n1 at *
  generalize topS (bareS y0) = n2 at *
  generalize topS (bareS y1) = n3 at *
  generalize lowS (bareS x0) = d0 at *
  generalize lowS (bareS x1) = d1 at *
  generalize lowS (bareS y0) = d2 at *
  generalize lowS (bareS y1) = d3 at *
  generalize prodV [n0, n1, d2, d3] = A at *
  generalize prodV [n2, n3, d0, d1] = B at *
  have HC := Lib.hid hC
  clear hC
  have T : FourAt (w.heap.size + 1 + 1) (((((w.alloc (.cells #[txt x0, txt x1] 124)).alloc (.cells #[txt y0, txt y1] 124)).alloc (.cells #[.string ⟨#[]⟩, .string ⟨#[]⟩, .string ⟨#[]⟩, .string ⟨#[]⟩] 213)).alloc (.cells #[.string ⟨#[]⟩, .string ⟨#[]⟩, .string ⟨#[]⟩, .string ⟨#[]⟩] 213)).alloc (.cells #[txt x0, txt x1, txt y0, txt y1] 23)) [] [] [] [] := ⟨by go_simp, by go_simp, by go_simp, by go_simp, by go_simp, by go_simp, by go_simp, by go_simp⟩
  have L : FourAt (w.heap.size + 1 + 1 + 1) (((((w.alloc (.cells #[txt x0, txt x1] 124)).alloc (.cells #[txt y0, txt y1] 124)).alloc (.cells #[.string ⟨#[]⟩, .string ⟨#[]⟩, .string ⟨#[]⟩, .string ⟨#[]⟩] 213)).alloc (.cells #[.string ⟨#[]⟩, .string ⟨#[]⟩, .string ⟨#[]⟩, .string ⟨#[]⟩] 213)).alloc (.cells #[txt x0, txt x1, txt y0, txt y1] 23)) [] [] [] [] := ⟨by go_simp, by go_simp, by go_simp, by go_simp, by go_simp, by go_simp, by go_simp, by go_simp⟩
  have X : FourAt (w.heap.size + 1 + 1 + 1 + 1) (((((w.alloc (.cells #[txt x0, txt x1] 124)).alloc (.cells #[txt y0, txt y1] 124)).alloc (.cells #[.string ⟨#[]⟩, .string ⟨#[]⟩, .string ⟨#[]⟩, .string ⟨#[]⟩] 213)).alloc (.cells #[.string ⟨#[]⟩, .string ⟨#[]⟩, .string ⟨#[]⟩, .string ⟨#[]⟩] 213)).alloc (.cells #[txt x0, txt x1, txt y0, txt y1] 23)) x0 x1 y0 y1 := ⟨by go_simp, by go_simp, by go_simp, by go_simp, by go_simp, by go_simp, by go_simp, by go_simp⟩
  have E : Ext w (((((w.alloc (.cells #[txt x0, txt x1] 124)).alloc (.cells #[txt y0, txt y1] 124)).alloc (.cells #[.string ⟨#[]⟩, .string ⟨#[]⟩, .string ⟨#[]⟩, .string ⟨#[]⟩] 213)).alloc (.cells #[.string ⟨#[]⟩, .string ⟨#[]⟩, .string ⟨#[]⟩, .string ⟨#[]⟩] 213)).alloc (.cells #[txt x0, txt x1, txt y0, txt y1] 23)) := extA
  go_enter Tryz.func127, Tryz.ntmps127
  go_wp2
  generalize (((((w.alloc (.cells #[txt x0, txt x1] 124)).alloc (.cells #[txt y0, txt y1] 124)).alloc (.cells #[.string ⟨#[]⟩, .string ⟨#[]⟩, .string ⟨#[]⟩, .string ⟨#[]⟩] 213)).alloc (.cells #[.string ⟨#[]⟩, .string ⟨#[]⟩, .string ⟨#[]⟩, .string ⟨#[]⟩] 213)).alloc (.cells #[txt x0, txt x1, txt y0, txt y1] 23)) = w0 at T L X E ⊢
  refine wp_loop_rounds 5 ?_
  have X0 := X
  obtain ⟨c0, c1, c2, c3, _, _, _, _⟩ := X0
  rw [rounds_succ]
  go_wp2_with fail
  refine (H0.out _ E).mono ?_
  clear c0 c1 c2 c3
  rintro e w1 ⟨rfl, hE⟩
  replace T := T.ext hE
  replace L := L.ext hE
  replace X := X.ext hE
  replace E := E.trans hE
  clear hE
  have T0 := T
  have L0 := L
  obtain ⟨a0, a1, a2, a3, f0, f1, f2, f3⟩ := T0
  obtain ⟨b0, b1, b2, b3, g0, g1, g2, g3⟩ := L0
  go_wp2_with fail
  clear a0 a1 a2 a3 f0 f1 f2 f3 b0 b1 b2 b3 g0 g1 g2 g3
  replace T := (T.set0 n0).other (c := w.heap.size + 1 + 1 + 1) (o := 0) (v := txt d0) (by omega)
  replace L := (L.other (c := w.heap.size + 1 + 1) (o := 0) (v := txt n0) (by omega)).set0 d0
  replace X := (X.other (c := w.heap.size + 1 + 1) (o := 0) (v := txt n0) (by omega)).other (c := w.heap.size + 1 + 1 + 1) (o := 0) (v := txt d0) (by omega)
  replace E := (E.set (b := w.heap.size + 1 + 1) (o := 0) (by omega) (txt n0)).set (b := w.heap.size + 1 + 1 + 1) (o := 0) (by omega) (txt d0)
  generalize ((w1.setCell ⟨w.heap.size + 1 + 1, 0, none⟩ (txt n0)).setCell ⟨w.heap.size + 1 + 1 + 1, 0, none⟩ (txt d0)) = w1 at T L X E ⊢
  have X0 := X
  obtain ⟨c0, c1, c2, c3, _, _, _, _⟩ := X0
  rw [rounds_succ]
  go_wp2_with fail
  refine (H1.out _ E).mono ?_
  clear c0 c1 c2 c3
  rintro e w2 ⟨rfl, hE⟩
  replace T := T.ext hE
  replace L := L.ext hE
  replace X := X.ext hE
  replace E := E.trans hE
  clear hE
  have T0 := T
  have L0 := L
  obtain ⟨a0, a1, a2, a3, f0, f1, f2, f3⟩ := T0
  obtain ⟨b0, b1, b2, b3, g0, g1, g2, g3⟩ := L0
  go_wp2_with fail
  clear a0 a1 a2 a3 f0 f1 f2 f3 b0 b1 b2 b3 g0 g1 g2 g3
  replace T := (T.set1 n1).other (c := w.heap.size + 1 + 1 + 1) (o := 1) (v := txt d1) (by omega)
  replace L := (L.other (c := w.heap.size + 1 + 1) (o := 1) (v := txt n1) (by omega)).set1 d1
  replace X := (X.other (c := w.heap.size + 1 + 1) (o := 1) (v := txt n1) (by omega)).other (c := w.heap.size + 1 + 1 + 1) (o := 1) (v := txt d1) (by omega)
  replace E := (E.set (b := w.heap.size + 1 + 1) (o := 1) (by omega) (txt n1)).set (b := w.heap.size + 1 + 1 + 1) (o := 1) (by omega) (txt d1)
  generalize ((w2.setCell ⟨w.heap.size + 1 + 1, 1, none⟩ (txt n1)).setCell ⟨w.heap.size + 1 + 1 + 1, 1, none⟩ (txt d1)) = w2 at T L X E ⊢
  have X0 := X
  obtain ⟨c0, c1, c2, c3, _, _, _, _⟩ := X0
  rw [rounds_succ]
  go_wp2_with fail
  refine (H2.out _ E).mono ?_
  clear c0 c1 c2 c3
  rintro e w3 ⟨rfl, hE⟩
  replace T := T.ext hE
  replace L := L.ext hE
  replace X := X.ext hE
  replace E := E.trans hE
  clear hE
  have T0 := T
  have L0 := L
  obtain ⟨a0, a1, a2, a3, f0, f1, f2, f3⟩ := T0
  obtain ⟨b0, b1, b2, b3, g0, g1, g2, g3⟩ := L0
  go_wp2_with fail
  clear a0 a1 a2 a3 f0 f1 f2 f3 b0 b1 b2 b3 g0 g1 g2 g3
  replace T := (T.set2 n2).other (c := w.heap.size + 1 + 1 + 1) (o := 2) (v := txt d2) (by omega)
  replace L := (L.other (c := w.heap.size + 1 + 1) (o := 2) (v := txt n2) (by omega)).set2 d2
  replace X := (X.other (c := w.heap.size + 1 + 1) (o := 2) (v := txt n2) (by omega)).other (c := w.heap.size + 1 + 1 + 1) (o := 2) (v := txt d2) (by omega)
  replace E := (E.set (b := w.heap.size + 1 + 1) (o := 2) (by omega) (txt n2)).set (b := w.heap.size + 1 + 1 + 1) (o := 2) (by omega) (txt d2)
  generalize ((w3.setCell ⟨w.heap.size + 1 + 1, 2, none⟩ (txt n2)).setCell ⟨w.heap.size + 1 + 1 + 1, 2, none⟩ (txt d2)) = w3 at T L X E ⊢
  have X0 := X
  obtain ⟨c0, c1, c2, c3, _, _, _, _⟩ := X0
  rw [rounds_succ]
  go_wp2_with fail
  refine (H3.out _ E).mono ?_
  clear c0 c1 c2 c3
  rintro e w4 ⟨rfl, hE⟩
  replace T := T.ext hE
  replace L := L.ext hE
  replace X := X.ext hE
  replace E := E.trans hE
  clear hE
  have T0 := T
  have L0 := L
  obtain ⟨a0, a1, a2, a3, f0, f1, f2, f3⟩ := T0
  obtain ⟨b0, b1, b2, b3, g0, g1, g2, g3⟩ := L0
  go_wp2_with fail
  clear a0 a1 a2 a3 f0 f1 f2 f3 b0 b1 b2 b3 g0 g1 g2 g3
  replace T := (T.set3 n3).other (c := w.heap.size + 1 + 1 + 1) (o := 3) (v := txt d3) (by omega)
  replace L := (L.other (c := w.heap.size + 1 + 1) (o := 3) (v := txt n3) (by omega)).set3 d3
  replace X := (X.other (c := w.heap.size + 1 + 1) (o := 3) (v := txt n3) (by omega)).other (c := w.heap.size + 1 + 1 + 1) (o := 3) (v := txt d3) (by omega)
  replace E := (E.set (b := w.heap.size + 1 + 1) (o := 3) (by omega) (txt n3)).set (b := w.heap.size + 1 + 1 + 1) (o := 3) (by omega) (txt d3)
  generalize ((w4.setCell ⟨w.heap.size + 1 + 1, 3, none⟩ (txt n3)).setCell ⟨w.heap.size + 1 + 1 + 1, 3, none⟩ (txt d3)) = w4 at T L X E ⊢
  rw [rounds_succ]
  go_wp2_with fail
  have hD : Ext w4 w4.drew := extA
  have ED := E.trans hD
  obtain ⟨a0, a1, a2, a3, _, _, _, _⟩ := T
  obtain ⟨b0, b1, b2, b3, _, _, _, _⟩ := L
  have hS : w4.drew.cell? ⟨w.heap.size + 1 + 1, 0, none⟩ = some (txt n0) ∧ w4.drew.cell? ⟨w.heap.size + 1 + 1, 1, none⟩ = some (txt n1) ∧ w4.drew.cell? ⟨w.heap.size + 1 + 1, 2, none⟩ = some (txt n2) ∧ w4.drew.cell? ⟨w.heap.size + 1 + 1, 3, none⟩ = some (txt n3) ∧ w4.drew.cell? ⟨w.heap.size + 1 + 1 + 1, 0, none⟩ = some (txt d0) ∧ w4.drew.cell? ⟨w.heap.size + 1 + 1 + 1, 1, none⟩ = some (txt d1) ∧ w4.drew.cell? ⟨w.heap.size + 1 + 1 + 1, 2, none⟩ = some (txt d2) ∧ w4.drew.cell? ⟨w.heap.size + 1 + 1 + 1, 3, none⟩ = some (txt d3) := ⟨hD.cell a0, hD.cell a1, hD.cell a2, hD.cell a3, hD.cell b0, hD.cell b1, hD.cell b2, hD.cell b3⟩
  refine wp_region_heldE 99 (fun w' => w'.cell? ⟨w.heap.size + 1 + 1, 0, none⟩ = some (txt n0) ∧ w'.cell? ⟨w.heap.size + 1 + 1, 1, none⟩ = some (txt n1) ∧ w'.cell? ⟨w.heap.size + 1 + 1, 2, none⟩ = some (txt n2) ∧ w'.cell? ⟨w.heap.size + 1 + 1, 3, none⟩ = some (txt n3) ∧ w'.cell? ⟨w.heap.size + 1 + 1 + 1, 0, none⟩ = some (txt d0) ∧ w'.cell? ⟨w.heap.size + 1 + 1 + 1, 1, none⟩ = some (txt d1) ∧ w'.cell? ⟨w.heap.size + 1 + 1 + 1, 2, none⟩ = some (txt d2) ∧ w'.cell? ⟨w.heap.size + 1 + 1 + 1, 3, none⟩ = some (txt d3)) (by kernel_rfl) ?_
  clear a0 a1 a2 a3 b0 b1 b2 b3 E X hD
  generalize w4.drew = w5 at ED hS ⊢
  ((refine eTk 0 ?_); (refine eTk 1 ?_); (refine eTk 2 ?_); (refine eTk 3 ?_); (refine eTk 4 ?_); (refine eTk 5 ?_); (refine eTk 6 ?_); (refine eTk 7 ?_); (refine eTk 10 ?_); (refine eTk 11 ?_); (refine eTk 12 ?_); (refine eTk 13 ?_); (refine eTk 14 ?_); (refine eTk 15 ?_); (refine eTk 16 ?_); (refine eTk 17 ?_))
  refine wpAnyE_two (i := 8) (j := 18) (o := ?_) (p := ?_) (by (simp only [List.getElem?_toArray, List.getElem?_cons_succ, List.getElem?_cons_zero]; exact rfl)) (by (simp only [List.getElem?_toArray, List.getElem?_cons_succ, List.getElem?_cons_zero]; exact rfl)) (by kernel_rfl) (fun K hK => ?_) (fun K hK => ?_)
  · have FA : FourAt w5.heap.size (w5.alloc (.cells #[txt n0, txt n1, txt d2, txt d3] 9)) n0 n1 d2 d3 := ⟨by go_simp, by go_simp, by go_simp, by go_simp, by go_simp, by go_simp, by go_simp, by go_simp⟩
    have EB : Ext w5 (w5.alloc (.cells #[txt n0, txt n1, txt d2, txt d3] 9)) := extA
    go_simp
    refine hK.out _ _ ⟨EB.cell hS.1, EB.cell hS.2.1, EB.cell hS.2.2.1, EB.cell hS.2.2.2.1, EB.cell hS.2.2.2.2.1, EB.cell hS.2.2.2.2.2.1, EB.cell hS.2.2.2.2.2.2.1, EB.cell hS.2.2.2.2.2.2.2⟩ (fun _ => ?_)
    clear hK K
    (try simp only [Act.put, List.setIfInBounds_toArray, List.set_cons_zero, List.set_cons_succ])
    replace ED := ED.trans EB
    replace hS : (w5.alloc (.cells #[txt n0, txt n1, txt d2, txt d3] 9)).cell? ⟨w.heap.size + 1 + 1, 0, none⟩ = some (txt n0) ∧ (w5.alloc (.cells #[txt n0, txt n1, txt d2, txt d3] 9)).cell? ⟨w.heap.size + 1 + 1, 1, none⟩ = some (txt n1) ∧ (w5.alloc (.cells #[txt n0, txt n1, txt d2, txt d3] 9)).cell? ⟨w.heap.size + 1 + 1, 2, none⟩ = some (txt n2) ∧ (w5.alloc (.cells #[txt n0, txt n1, txt d2, txt d3] 9)).cell? ⟨w.heap.size + 1 + 1, 3, none⟩ = some (txt n3) ∧ (w5.alloc (.cells #[txt n0, txt n1, txt d2, txt d3] 9)).cell? ⟨w.heap.size + 1 + 1 + 1, 0, none⟩ = some (txt d0) ∧ (w5.alloc (.cells #[txt n0, txt n1, txt d2, txt d3] 9)).cell? ⟨w.heap.size + 1 + 1 + 1, 1, none⟩ = some (txt d1) ∧ (w5.alloc (.cells #[txt n0, txt n1, txt d2, txt d3] 9)).cell? ⟨w.heap.size + 1 + 1 + 1, 2, none⟩ = some (txt d2) ∧ (w5.alloc (.cells #[txt n0, txt n1, txt d2, txt d3] 9)).cell? ⟨w.heap.size + 1 + 1 + 1, 3, none⟩ = some (txt d3) := ⟨EB.cell hS.1, EB.cell hS.2.1, EB.cell hS.2.2.1, EB.cell hS.2.2.2.1, EB.cell hS.2.2.2.2.1, EB.cell hS.2.2.2.2.2.1, EB.cell hS.2.2.2.2.2.2.1, EB.cell hS.2.2.2.2.2.2.2⟩
    obtain ⟨ab, hab⟩ : ∃ b, b = w5.heap.size := ⟨_, rfl⟩
    rw [← hab] at FA ⊢
    generalize (w5.alloc (.cells #[txt n0, txt n1, txt d2, txt d3] 9)) = w6 at ED hS FA  ⊢
    clear hab EB
    refine wpAnyE_two (i := 9) (j := 18) (o := ?_) (p := ?_) (by (simp only [List.getElem?_toArray, List.getElem?_cons_succ, List.getElem?_cons_zero]; exact rfl)) (by (simp only [List.getElem?_toArray, List.getElem?_cons_succ, List.getElem?_cons_zero]; exact rfl)) (by kernel_rfl) (fun K hK => ?_) (fun K hK => ?_)
    · go_simp
      go_at_call 167
      refine (HP.out ab w6 FA).mono ?_
      rintro e w7 ⟨rfl, hE⟩
      go_wp2_with fail
      refine hK.out _ _ ⟨hE.cell hS.1, hE.cell hS.2.1, hE.cell hS.2.2.1, hE.cell hS.2.2.2.1, hE.cell hS.2.2.2.2.1, hE.cell hS.2.2.2.2.2.1, hE.cell hS.2.2.2.2.2.2.1, hE.cell hS.2.2.2.2.2.2.2⟩ (fun _ => ?_)
      clear hK K
      (try simp only [Act.put, List.setIfInBounds_toArray, List.set_cons_zero, List.set_cons_succ])
      replace ED := ED.trans hE
      replace hS : w7.cell? ⟨w.heap.size + 1 + 1, 0, none⟩ = some (txt n0) ∧ w7.cell? ⟨w.heap.size + 1 + 1, 1, none⟩ = some (txt n1) ∧ w7.cell? ⟨w.heap.size + 1 + 1, 2, none⟩ = some (txt n2) ∧ w7.cell? ⟨w.heap.size + 1 + 1, 3, none⟩ = some (txt n3) ∧ w7.cell? ⟨w.heap.size + 1 + 1 + 1, 0, none⟩ = some (txt d0) ∧ w7.cell? ⟨w.heap.size + 1 + 1 + 1, 1, none⟩ = some (txt d1) ∧ w7.cell? ⟨w.heap.size + 1 + 1 + 1, 2, none⟩ = some (txt d2) ∧ w7.cell? ⟨w.heap.size + 1 + 1 + 1, 3, none⟩ = some (txt d3) := ⟨hE.cell hS.1, hE.cell hS.2.1, hE.cell hS.2.2.1, hE.cell hS.2.2.2.1, hE.cell hS.2.2.2.2.1, hE.cell hS.2.2.2.2.2.1, hE.cell hS.2.2.2.2.2.2.1, hE.cell hS.2.2.2.2.2.2.2⟩
      clear hE FA
      have FB : FourAt w7.heap.size (w7.alloc (.cells #[txt n2, txt n3, txt d0, txt d1] 9)) n2 n3 d0 d1 := ⟨by go_simp, by go_simp, by go_simp, by go_simp, by go_simp, by go_simp, by go_simp, by go_simp⟩
      have EB : Ext w7 (w7.alloc (.cells #[txt n2, txt n3, txt d0, txt d1] 9)) := extA
      (refine wpAnyE_one (i := 18) (o := ?_) ?_ (by kernel_rfl) (fun K hK => ?_); rotate_left; (focus ((simp only [List.getElem?_toArray, List.getElem?_cons_succ, List.getElem?_cons_zero]; exact rfl))); go_simp; refine hK.out _ _ ?_ (fun hHeld => ?_); rotate_left; clear hK K; (try simp only [Act.put, List.setIfInBounds_toArray, List.set_cons_zero, List.set_cons_succ]))
      rotate_left
      · exact ⟨EB.cell hS.1, EB.cell hS.2.1, EB.cell hS.2.2.1, EB.cell hS.2.2.2.1, EB.cell hS.2.2.2.2.1, EB.cell hS.2.2.2.2.2.1, EB.cell hS.2.2.2.2.2.2.1, EB.cell hS.2.2.2.2.2.2.2⟩
      clear hHeld
      replace ED := ED.trans EB
      replace hS : (w7.alloc (.cells #[txt n2, txt n3, txt d0, txt d1] 9)).cell? ⟨w.heap.size + 1 + 1, 0, none⟩ = some (txt n0) ∧ (w7.alloc (.cells #[txt n2, txt n3, txt d0, txt d1] 9)).cell? ⟨w.heap.size + 1 + 1, 1, none⟩ = some (txt n1) ∧ (w7.alloc (.cells #[txt n2, txt n3, txt d0, txt d1] 9)).cell? ⟨w.heap.size + 1 + 1, 2, none⟩ = some (txt n2) ∧ (w7.alloc (.cells #[txt n2, txt n3, txt d0, txt d1] 9)).cell? ⟨w.heap.size + 1 + 1, 3, none⟩ = some (txt n3) ∧ (w7.alloc (.cells #[txt n2, txt n3, txt d0, txt d1] 9)).cell? ⟨w.heap.size + 1 + 1 + 1, 0, none⟩ = some (txt d0) ∧ (w7.alloc (.cells #[txt n2, txt n3, txt d0, txt d1] 9)).cell? ⟨w.heap.size + 1 + 1 + 1, 1, none⟩ = some (txt d1) ∧ (w7.alloc (.cells #[txt n2, txt n3, txt d0, txt d1] 9)).cell? ⟨w.heap.size + 1 + 1 + 1, 2, none⟩ = some (txt d2) ∧ (w7.alloc (.cells #[txt n2, txt n3, txt d0, txt d1] 9)).cell? ⟨w.heap.size + 1 + 1 + 1, 3, none⟩ = some (txt d3) := ⟨EB.cell hS.1, EB.cell hS.2.1, EB.cell hS.2.2.1, EB.cell hS.2.2.2.1, EB.cell hS.2.2.2.2.1, EB.cell hS.2.2.2.2.2.1, EB.cell hS.2.2.2.2.2.2.1, EB.cell hS.2.2.2.2.2.2.2⟩
      obtain ⟨bb, hbb⟩ : ∃ b, b = w7.heap.size := ⟨_, rfl⟩
      rw [← hbb] at FB ⊢
      generalize (w7.alloc (.cells #[txt n2, txt n3, txt d0, txt d1] 9)) = w8 at ED hS FB  ⊢
      clear hbb EB
      (refine wpAnyE_one (i := 19) (o := ?_) ?_ (by kernel_rfl) (fun K hK => ?_); rotate_left; (focus ((simp only [List.getElem?_toArray, List.getElem?_cons_succ, List.getElem?_cons_zero]; exact rfl))); go_simp; go_at_call 167; refine (HQ.out bb w8 FB).mono ?_; rintro e w9 ⟨rfl, hE⟩; go_wp2_with fail; refine hK.out _ _ ?_ (fun hHeld => ?_); rotate_left; clear hK K; (try simp only [Act.put, List.setIfInBounds_toArray, List.set_cons_zero, List.set_cons_succ]))
      rotate_left
      · exact ⟨hE.cell hS.1, hE.cell hS.2.1, hE.cell hS.2.2.1, hE.cell hS.2.2.2.1, hE.cell hS.2.2.2.2.1, hE.cell hS.2.2.2.2.2.1, hE.cell hS.2.2.2.2.2.2.1, hE.cell hS.2.2.2.2.2.2.2⟩
      clear hHeld
      replace ED := ED.trans hE
      replace hS : w9.cell? ⟨w.heap.size + 1 + 1, 0, none⟩ = some (txt n0) ∧ w9.cell? ⟨w.heap.size + 1 + 1, 1, none⟩ = some (txt n1) ∧ w9.cell? ⟨w.heap.size + 1 + 1, 2, none⟩ = some (txt n2) ∧ w9.cell? ⟨w.heap.size + 1 + 1, 3, none⟩ = some (txt n3) ∧ w9.cell? ⟨w.heap.size + 1 + 1 + 1, 0, none⟩ = some (txt d0) ∧ w9.cell? ⟨w.heap.size + 1 + 1 + 1, 1, none⟩ = some (txt d1) ∧ w9.cell? ⟨w.heap.size + 1 + 1 + 1, 2, none⟩ = some (txt d2) ∧ w9.cell? ⟨w.heap.size + 1 + 1 + 1, 3, none⟩ = some (txt d3) := ⟨hE.cell hS.1, hE.cell hS.2.1, hE.cell hS.2.2.1, hE.cell hS.2.2.2.1, hE.cell hS.2.2.2.2.1, hE.cell hS.2.2.2.2.2.1, hE.cell hS.2.2.2.2.2.2.1, hE.cell hS.2.2.2.2.2.2.2⟩
      clear hE FB
      ((refine ePu 20 ?_); (refine ePu 21 ?_))
      refine wpAnyE_done (by kernel_rfl) ?_ _
      clear hS
      by_cases hle : (decDigits A).length = (decDigits B).length
      · have g1 : ((((decDigits A).length : Nat) : Int) != (((decDigits B).length : Nat) : Int)) = false := by rw [hle]; simp
        have HF := Lib.hid ((HC.out.trans (dec_order hle).symm).trans (Bool.not_or _ _))
        clear hle
        go_wp2
        go_ret
        exact ⟨by rw [HF.out]; rfl, extA⟩
      · have g1 : ((((decDigits A).length : Nat) : Int) != (((decDigits B).length : Nat) : Int)) = true := by rw [bne_iff_ne]; omega
        have HF := Lib.hid (HC.out.trans (dec_order_len hle).symm)
        clear hle
        go_wp2
        go_ret
        exact ⟨by rw [HF.out]; simp, extA⟩
    · have FB : FourAt w6.heap.size (w6.alloc (.cells #[txt n2, txt n3, txt d0, txt d1] 9)) n2 n3 d0 d1 := ⟨by go_simp, by go_simp, by go_simp, by go_simp, by go_simp, by go_simp, by go_simp, by go_simp⟩
      have EB : Ext w6 (w6.alloc (.cells #[txt n2, txt n3, txt d0, txt d1] 9)) := extA
      go_simp
      refine hK.out _ _ ⟨EB.cell hS.1, EB.cell hS.2.1, EB.cell hS.2.2.1, EB.cell hS.2.2.2.1, EB.cell hS.2.2.2.2.1, EB.cell hS.2.2.2.2.2.1, EB.cell hS.2.2.2.2.2.2.1, EB.cell hS.2.2.2.2.2.2.2⟩ (fun _ => ?_)
      clear hK K
      (try simp only [Act.put, List.setIfInBounds_toArray, List.set_cons_zero, List.set_cons_succ])
      replace ED := ED.trans EB
      replace hS : (w6.alloc (.cells #[txt n2, txt n3, txt d0, txt d1] 9)).cell? ⟨w.heap.size + 1 + 1, 0, none⟩ = some (txt n0) ∧ (w6.alloc (.cells #[txt n2, txt n3, txt d0, txt d1] 9)).cell? ⟨w.heap.size + 1 + 1, 1, none⟩ = some (txt n1) ∧ (w6.alloc (.cells #[txt n2, txt n3, txt d0, txt d1] 9)).cell? ⟨w.heap.size + 1 + 1, 2, none⟩ = some (txt n2) ∧ (w6.alloc (.cells #[txt n2, txt n3, txt d0, txt d1] 9)).cell? ⟨w.heap.size + 1 + 1, 3, none⟩ = some (txt n3) ∧ (w6.alloc (.cells #[txt n2, txt n3, txt d0, txt d1] 9)).cell? ⟨w.heap.size + 1 + 1 + 1, 0, none⟩ = some (txt d0) ∧ (w6.alloc (.cells #[txt n2, txt n3, txt d0, txt d1] 9)).cell? ⟨w.heap.size + 1 + 1 + 1, 1, none⟩ = some (txt d1) ∧ (w6.alloc (.cells #[txt n2, txt n3, txt d0, txt d1] 9)).cell? ⟨w.heap.size + 1 + 1 + 1, 2, none⟩ = some (txt d2) ∧ (w6.alloc (.cells #[txt n2, txt n3, txt d0, txt d1] 9)).cell? ⟨w.heap.size + 1 + 1 + 1, 3, none⟩ = some (txt d3) := ⟨EB.cell hS.1, EB.cell hS.2.1, EB.cell hS.2.2.1, EB.cell hS.2.2.2.1, EB.cell hS.2.2.2.2.1, EB.cell hS.2.2.2.2.2.1, EB.cell hS.2.2.2.2.2.2.1, EB.cell hS.2.2.2.2.2.2.2⟩
      replace FA := FA.ext EB
      obtain ⟨bb, hbb⟩ : ∃ b, b = w6.heap.size := ⟨_, rfl⟩
      rw [← hbb] at FB ⊢
      generalize (w6.alloc (.cells #[txt n2, txt n3, txt d0, txt d1] 9)) = w7 at ED hS FB FA ⊢
      clear hbb EB
      (refine wpAnyE_one (i := 9) (o := ?_) ?_ (by kernel_rfl) (fun K hK => ?_); rotate_left; (focus ((simp only [List.getElem?_toArray, List.getElem?_cons_succ, List.getElem?_cons_zero]; exact rfl))); go_simp; go_at_call 167; refine (HP.out ab w7 FA).mono ?_; rintro e w8 ⟨rfl, hE⟩; go_wp2_with fail; refine hK.out _ _ ?_ (fun hHeld => ?_); rotate_left; clear hK K; (try simp only [Act.put, List.setIfInBounds_toArray, List.set_cons_zero, List.set_cons_succ]))
      rotate_left
      · exact ⟨hE.cell hS.1, hE.cell hS.2.1, hE.cell hS.2.2.1, hE.cell hS.2.2.2.1, hE.cell hS.2.2.2.2.1, hE.cell hS.2.2.2.2.2.1, hE.cell hS.2.2.2.2.2.2.1, hE.cell hS.2.2.2.2.2.2.2⟩
      clear hHeld
      replace ED := ED.trans hE
      replace hS : w8.cell? ⟨w.heap.size + 1 + 1, 0, none⟩ = some (txt n0) ∧ w8.cell? ⟨w.heap.size + 1 + 1, 1, none⟩ = some (txt n1) ∧ w8.cell? ⟨w.heap.size + 1 + 1, 2, none⟩ = some (txt n2) ∧ w8.cell? ⟨w.heap.size + 1 + 1, 3, none⟩ = some (txt n3) ∧ w8.cell? ⟨w.heap.size + 1 + 1 + 1, 0, none⟩ = some (txt d0) ∧ w8.cell? ⟨w.heap.size + 1 + 1 + 1, 1, none⟩ = some (txt d1) ∧ w8.cell? ⟨w.heap.size + 1 + 1 + 1, 2, none⟩ = some (txt d2) ∧ w8.cell? ⟨w.heap.size + 1 + 1 + 1, 3, none⟩ = some (txt d3) := ⟨hE.cell hS.1, hE.cell hS.2.1, hE.cell hS.2.2.1, hE.cell hS.2.2.2.1, hE.cell hS.2.2.2.2.1, hE.cell hS.2.2.2.2.2.1, hE.cell hS.2.2.2.2.2.2.1, hE.cell hS.2.2.2.2.2.2.2⟩
      replace FB := FB.ext hE
      clear hE FA
      (refine wpAnyE_one (i := 19) (o := ?_) ?_ (by kernel_rfl) (fun K hK => ?_); rotate_left; (focus ((simp only [List.getElem?_toArray, List.getElem?_cons_succ, List.getElem?_cons_zero]; exact rfl))); go_simp; go_at_call 167; refine (HQ.out bb w8 FB).mono ?_; rintro e w9 ⟨rfl, hE⟩; go_wp2_with fail; refine hK.out _ _ ?_ (fun hHeld => ?_); rotate_left; clear hK K; (try simp only [Act.put, List.setIfInBounds_toArray, List.set_cons_zero, List.set_cons_succ]))
      rotate_left
      · exact ⟨hE.cell hS.1, hE.cell hS.2.1, hE.cell hS.2.2.1, hE.cell hS.2.2.2.1, hE.cell hS.2.2.2.2.1, hE.cell hS.2.2.2.2.2.1, hE.cell hS.2.2.2.2.2.2.1, hE.cell hS.2.2.2.2.2.2.2⟩
      clear hHeld
      replace ED := ED.trans hE
      replace hS : w9.cell? ⟨w.heap.size + 1 + 1, 0, none⟩ = some (txt n0) ∧ w9.cell? ⟨w.heap.size + 1 + 1, 1, none⟩ = some (txt n1) ∧ w9.cell? ⟨w.heap.size + 1 + 1, 2, none⟩ = some (txt n2) ∧ w9.cell? ⟨w.heap.size + 1 + 1, 3, none⟩ = some (txt n3) ∧ w9.cell? ⟨w.heap.size + 1 + 1 + 1, 0, none⟩ = some (txt d0) ∧ w9.cell? ⟨w.heap.size + 1 + 1 + 1, 1, none⟩ = some (txt d1) ∧ w9.cell? ⟨w.heap.size + 1 + 1 + 1, 2, none⟩ = some (txt d2) ∧ w9.cell? ⟨w.heap.size + 1 + 1 + 1, 3, none⟩ = some (txt d3) := ⟨hE.cell hS.1, hE.cell hS.2.1, hE.cell hS.2.2.1, hE.cell hS.2.2.2.1, hE.cell hS.2.2.2.2.1, hE.cell hS.2.2.2.2.2.1, hE.cell hS.2.2.2.2.2.2.1, hE.cell hS.2.2.2.2.2.2.2⟩
      clear hE FB
      ((refine ePu 20 ?_); (refine ePu 21 ?_))
      refine wpAnyE_done (by kernel_rfl) ?_ _
      clear hS
      by_cases hle : (decDigits A).length = (decDigits B).length
      · have g1 : ((((decDigits A).length : Nat) : Int) != (((decDigits B).length : Nat) : Int)) = false := by rw [hle]; simp
        have HF := Lib.hid ((HC.out.trans (dec_order hle).symm).trans (Bool.not_or _ _))
        clear hle
        go_wp2
        go_ret
        exact ⟨by rw [HF.out]; rfl, extA⟩
      · have g1 : ((((decDigits A).length : Nat) : Int) != (((decDigits B).length : Nat) : Int)) = true := by rw [bne_iff_ne]; omega
        have HF := Lib.hid (HC.out.trans (dec_order_len hle).symm)
        clear hle
        go_wp2
        go_ret
        exact ⟨by rw [HF.out]; simp, extA⟩
  · have FB : FourAt w5.heap.size (w5.alloc (.cells #[txt n2, txt n3, txt d0, txt d1] 9)) n2 n3 d0 d1 := ⟨by go_simp, by go_simp, by go_simp, by go_simp, by go_simp, by go_simp, by go_simp, by go_simp⟩
    have EB : Ext w5 (w5.alloc (.cells #[txt n2, txt n3, txt d0, txt d1] 9)) := extA
    go_simp
    refine hK.out _ _ ⟨EB.cell hS.1, EB.cell hS.2.1, EB.cell hS.2.2.1, EB.cell hS.2.2.2.1, EB.cell hS.2.2.2.2.1, EB.cell hS.2.2.2.2.2.1, EB.cell hS.2.2.2.2.2.2.1, EB.cell hS.2.2.2.2.2.2.2⟩ (fun _ => ?_)
    clear hK K
    (try simp only [Act.put, List.setIfInBounds_toArray, List.set_cons_zero, List.set_cons_succ])
    replace ED := ED.trans EB
    replace hS : (w5.alloc (.cells #[txt n2, txt n3, txt d0, txt d1] 9)).cell? ⟨w.heap.size + 1 + 1, 0, none⟩ = some (txt n0) ∧ (w5.alloc (.cells #[txt n2, txt n3, txt d0, txt d1] 9)).cell? ⟨w.heap.size + 1 + 1, 1, none⟩ = some (txt n1) ∧ (w5.alloc (.cells #[txt n2, txt n3, txt d0, txt d1] 9)).cell? ⟨w.heap.size + 1 + 1, 2, none⟩ = some (txt n2) ∧ (w5.alloc (.cells #[txt n2, txt n3, txt d0, txt d1] 9)).cell? ⟨w.heap.size + 1 + 1, 3, none⟩ = some (txt n3) ∧ (w5.alloc (.cells #[txt n2, txt n3, txt d0, txt d1] 9)).cell? ⟨w.heap.size + 1 + 1 + 1, 0, none⟩ = some (txt d0) ∧ (w5.alloc (.cells #[txt n2, txt n3, txt d0, txt d1] 9)).cell? ⟨w.heap.size + 1 + 1 + 1, 1, none⟩ = some (txt d1) ∧ (w5.alloc (.cells #[txt n2, txt n3, txt d0, txt d1] 9)).cell? ⟨w.heap.size + 1 + 1 + 1, 2, none⟩ = some (txt d2) ∧ (w5.alloc (.cells #[txt n2, txt n3, txt d0, txt d1] 9)).cell? ⟨w.heap.size + 1 + 1 + 1, 3, none⟩ = some (txt d3) := ⟨EB.cell hS.1, EB.cell hS.2.1, EB.cell hS.2.2.1, EB.cell hS.2.2.2.1, EB.cell hS.2.2.2.2.1, EB.cell hS.2.2.2.2.2.1, EB.cell hS.2.2.2.2.2.2.1, EB.cell hS.2.2.2.2.2.2.2⟩
    obtain ⟨bb, hbb⟩ : ∃ b, b = w5.heap.size := ⟨_, rfl⟩
    rw [← hbb] at FB ⊢
    generalize (w5.alloc (.cells #[txt n2, txt n3, txt d0, txt d1] 9)) = w6 at ED hS FB  ⊢
    clear hbb EB
    have FA : FourAt w6.heap.size (w6.alloc (.cells #[txt n0, txt n1, txt d2, txt d3] 9)) n0 n1 d2 d3 := ⟨by go_simp, by go_simp, by go_simp, by go_simp, by go_simp, by go_simp, by go_simp, by go_simp⟩
    have EB : Ext w6 (w6.alloc (.cells #[txt n0, txt n1, txt d2, txt d3] 9)) := extA
    (refine wpAnyE_one (i := 8) (o := ?_) ?_ (by kernel_rfl) (fun K hK => ?_); rotate_left; (focus ((simp only [List.getElem?_toArray, List.getElem?_cons_succ, List.getElem?_cons_zero]; exact rfl))); go_simp; refine hK.out _ _ ?_ (fun hHeld => ?_); rotate_left; clear hK K; (try simp only [Act.put, List.setIfInBounds_toArray, List.set_cons_zero, List.set_cons_succ]))
    rotate_left
    · exact ⟨EB.cell hS.1, EB.cell hS.2.1, EB.cell hS.2.2.1, EB.cell hS.2.2.2.1, EB.cell hS.2.2.2.2.1, EB.cell hS.2.2.2.2.2.1, EB.cell hS.2.2.2.2.2.2.1, EB.cell hS.2.2.2.2.2.2.2⟩
    clear hHeld
    replace ED := ED.trans EB
    replace hS : (w6.alloc (.cells #[txt n0, txt n1, txt d2, txt d3] 9)).cell? ⟨w.heap.size + 1 + 1, 0, none⟩ = some (txt n0) ∧ (w6.alloc (.cells #[txt n0, txt n1, txt d2, txt d3] 9)).cell? ⟨w.heap.size + 1 + 1, 1, none⟩ = some (txt n1) ∧ (w6.alloc (.cells #[txt n0, txt n1, txt d2, txt d3] 9)).cell? ⟨w.heap.size + 1 + 1, 2, none⟩ = some (txt n2) ∧ (w6.alloc (.cells #[txt n0, txt n1, txt d2, txt d3] 9)).cell? ⟨w.heap.size + 1 + 1, 3, none⟩ = some (txt n3) ∧ (w6.alloc (.cells #[txt n0, txt n1, txt d2, txt d3] 9)).cell? ⟨w.heap.size + 1 + 1 + 1, 0, none⟩ = some (txt d0) ∧ (w6.alloc (.cells #[txt n0, txt n1, txt d2, txt d3] 9)).cell? ⟨w.heap.size + 1 + 1 + 1, 1, none⟩ = some (txt d1) ∧ (w6.alloc (.cells #[txt n0, txt n1, txt d2, txt d3] 9)).cell? ⟨w.heap.size + 1 + 1 + 1, 2, none⟩ = some (txt d2) ∧ (w6.alloc (.cells #[txt n0, txt n1, txt d2, txt d3] 9)).cell? ⟨w.heap.size + 1 + 1 + 1, 3, none⟩ = some (txt d3) := ⟨EB.cell hS.1, EB.cell hS.2.1, EB.cell hS.2.2.1, EB.cell hS.2.2.2.1, EB.cell hS.2.2.2.2.1, EB.cell hS.2.2.2.2.2.1, EB.cell hS.2.2.2.2.2.2.1, EB.cell hS.2.2.2.2.2.2.2⟩
    replace FB := FB.ext EB
    obtain ⟨ab, hab⟩ : ∃ b, b = w6.heap.size := ⟨_, rfl⟩
    rw [← hab] at FA ⊢
    generalize (w6.alloc (.cells #[txt n0, txt n1, txt d2, txt d3] 9)) = w7 at ED hS FA FB ⊢
    clear hab EB
    (refine wpAnyE_one (i := 9) (o := ?_) ?_ (by kernel_rfl) (fun K hK => ?_); rotate_left; (focus ((simp only [List.getElem?_toArray, List.getElem?_cons_succ, List.getElem?_cons_zero]; exact rfl))); go_simp; go_at_call 167; refine (HP.out ab w7 FA).mono ?_; rintro e w8 ⟨rfl, hE⟩; go_wp2_with fail; refine hK.out _ _ ?_ (fun hHeld => ?_); rotate_left; clear hK K; (try simp only [Act.put, List.setIfInBounds_toArray, List.set_cons_zero, List.set_cons_succ]))
    rotate_left
    · exact ⟨hE.cell hS.1, hE.cell hS.2.1, hE.cell hS.2.2.1, hE.cell hS.2.2.2.1, hE.cell hS.2.2.2.2.1, hE.cell hS.2.2.2.2.2.1, hE.cell hS.2.2.2.2.2.2.1, hE.cell hS.2.2.2.2.2.2.2⟩
    clear hHeld
    replace ED := ED.trans hE
    replace hS : w8.cell? ⟨w.heap.size + 1 + 1, 0, none⟩ = some (txt n0) ∧ w8.cell? ⟨w.heap.size + 1 + 1, 1, none⟩ = some (txt n1) ∧ w8.cell? ⟨w.heap.size + 1 + 1, 2, none⟩ = some (txt n2) ∧ w8.cell? ⟨w.heap.size + 1 + 1, 3, none⟩ = some (txt n3) ∧ w8.cell? ⟨w.heap.size + 1 + 1 + 1, 0, none⟩ = some (txt d0) ∧ w8.cell? ⟨w.heap.size + 1 + 1 + 1, 1, none⟩ = some (txt d1) ∧ w8.cell? ⟨w.heap.size + 1 + 1 + 1, 2, none⟩ = some (txt d2) ∧ w8.cell? ⟨w.heap.size + 1 + 1 + 1, 3, none⟩ = some (txt d3) := ⟨hE.cell hS.1, hE.cell hS.2.1, hE.cell hS.2.2.1, hE.cell hS.2.2.2.1, hE.cell hS.2.2.2.2.1, hE.cell hS.2.2.2.2.2.1, hE.cell hS.2.2.2.2.2.2.1, hE.cell hS.2.2.2.2.2.2.2⟩
    replace FB := FB.ext hE
    clear hE FA
    (refine wpAnyE_one (i := 19) (o := ?_) ?_ (by kernel_rfl) (fun K hK => ?_); rotate_left; (focus ((simp only [List.getElem?_toArray, List.getElem?_cons_succ, List.getElem?_cons_zero]; exact rfl))); go_simp; go_at_call 167; refine (HQ.out bb w8 FB).mono ?_; rintro e w9 ⟨rfl, hE⟩; go_wp2_with fail; refine hK.out _ _ ?_ (fun hHeld => ?_); rotate_left; clear hK K; (try simp only [Act.put, List.setIfInBounds_toArray, List.set_cons_zero, List.set_cons_succ]))
    rotate_left
    · exact ⟨hE.cell hS.1, hE.cell hS.2.1, hE.cell hS.2.2.1, hE.cell hS.2.2.2.1, hE.cell hS.2.2.2.2.1, hE.cell hS.2.2.2.2.2.1, hE.cell hS.2.2.2.2.2.2.1, hE.cell hS.2.2.2.2.2.2.2⟩
    clear hHeld
    replace ED := ED.trans hE
    replace hS : w9.cell? ⟨w.heap.size + 1 + 1, 0, none⟩ = some (txt n0) ∧ w9.cell? ⟨w.heap.size + 1 + 1, 1, none⟩ = some (txt n1) ∧ w9.cell? ⟨w.heap.size + 1 + 1, 2, none⟩ = some (txt n2) ∧ w9.cell? ⟨w.heap.size + 1 + 1, 3, none⟩ = some (txt n3) ∧ w9.cell? ⟨w.heap.size + 1 + 1 + 1, 0, none⟩ = some (txt d0) ∧ w9.cell? ⟨w.heap.size + 1 + 1 + 1, 1, none⟩ = some (txt d1) ∧ w9.cell? ⟨w.heap.size + 1 + 1 + 1, 2, none⟩ = some (txt d2) ∧ w9.cell? ⟨w.heap.size + 1 + 1 + 1, 3, none⟩ = some (txt d3) := ⟨hE.cell hS.1, hE.cell hS.2.1, hE.cell hS.2.2.1, hE.cell hS.2.2.2.1, hE.cell hS.2.2.2.2.1, hE.cell hS.2.2.2.2.2.1, hE.cell hS.2.2.2.2.2.2.1, hE.cell hS.2.2.2.2.2.2.2⟩
    clear hE FB
    ((refine ePu 20 ?_); (refine ePu 21 ?_))
    refine wpAnyE_done (by kernel_rfl) ?_ _
    clear hS
    by_cases hle : (decDigits A).length = (decDigits B).length
    · have g1 : ((((decDigits A).length : Nat) : Int) != (((decDigits B).length : Nat) : Int)) = false := by rw [hle]; simp
      have HF := Lib.hid ((HC.out.trans (dec_order hle).symm).trans (Bool.not_or _ _))
      clear hle
      go_wp2
      go_ret
      exact ⟨by rw [HF.out]; rfl, extA⟩
    · have g1 : ((((decDigits A).length : Nat) : Int) != (((decDigits B).length : Nat) : Int)) = true := by rw [bne_iff_ne]; omega
      have HF := Lib.hid (HC.out.trans (dec_order_len hle).symm)
      clear hle
      go_wp2
      go_ret
      exact ⟨by rw [HF.out]; simp, extA⟩
end Go.Proofs.YtlnonmmaknhppaaGreatDoor
namespace Go.Proofs.YtlnonmmaknhppaaGreatDoor
open Go.RowKit
theorem eChoose_any (m : Bool) (x y : Txt) (w : World) : Calls Tryz.prog 125 #[.bool m, txt x, txt y] w fun e w' => e = .returned (txt (if m then x else y)) ∧ w' = w := by
  cases m
  · go_enter Tryz.func125, Tryz.ntmps125
    go_wp2
    go_ret
    exact ⟨rfl, rfl⟩
  · go_enter Tryz.func125, Tryz.ntmps125
    go_wp2
    go_ret
    exact ⟨rfl, rfl⟩
def pairsV (p : Enc × Enc) : Value := .agg #[txt p.1.1, txt p.1.2, txt p.2.1, txt p.2.2]
set_option maxHeartbeats 16000000 in
set_option maxRecDepth 100000 in
theorem eExtremes_any (a b : Enc) (w : World) (hG : Glob w) (hl : LenE a) (hm : LenE b) (ha : encE a = 0) (hb : encE b = 0) :
    Calls Tryz.prog 85 #[encV a, encV b] w fun e w' => e = .returned (pairsV (extremesE a b)) ∧ Ext w w' := by
  obtain ⟨a1, a2, _⟩ := enc_right ha
  obtain ⟨b1, b2, _⟩ := enc_right hb
  have G1 := Lib.hid (fun W (e : Ext w W) => eGreater_any a.2 b.1 a.1 b.2 W (hG.ext e) hl.2 hm.1 hl.1 hm.2 a2 b1 a1 b2)
  have G2 := Lib.hid (fun W (e : Ext w W) => eGreater_any a.2 b.2 a.1 b.1 W (hG.ext e) hl.2 hm.2 hl.1 hm.1 a2 b2 a1 b1)
  clear hG hl hm ha hb a1 a2 b1 b2
  obtain ⟨C, hC⟩ : ∃ C, C = extremesE a b := ⟨_, rfl⟩
  rw [← hC]
  unfold extremesE at hC
  obtain ⟨l, h⟩ := a
  obtain ⟨m, k⟩ := b
  dsimp only [encV] at *
  have HB1 := Lib.hid (fun W => eBelow_any m W)
  have HB2 := Lib.hid (fun W => eBelow_any k W)
  have HA1 := Lib.hid (fun W => eBelow_any l W)
  have HA2 := Lib.hid (fun W => eBelow_any h W)
  generalize negS l = nl at *
  generalize negS h = nh at *
  generalize negS m = nm at *
  generalize negS k = nk at *
  obtain ⟨zk, hzk⟩ : ∃ z, z = (k == [48]) := ⟨_, rfl⟩
  obtain ⟨zh, hzh⟩ : ∃ z, z = (h == [48]) := ⟨_, rfl⟩
  rw [← hzk, ← hzh] at hC
  have HC := Lib.hid hC
  clear hC
  have zk1 := hzk.symm
  have zh1 := hzh.symm
  clear hzk hzh
  have c0 : (((w.alloc (.cells #[txt l, txt h] 35)).alloc (.cells #[txt m, txt k] 35)).alloc (.cells #[.string ⟨#[]⟩, .string ⟨#[]⟩, .string ⟨#[]⟩, .string ⟨#[]⟩] 125)).cell? ⟨w.heap.size, 0, none⟩ = some (txt l) := by go_simp
  have c1 : (((w.alloc (.cells #[txt l, txt h] 35)).alloc (.cells #[txt m, txt k] 35)).alloc (.cells #[.string ⟨#[]⟩, .string ⟨#[]⟩, .string ⟨#[]⟩, .string ⟨#[]⟩] 125)).cell? ⟨w.heap.size, 1, none⟩ = some (txt h) := by go_simp
  have c2 : (((w.alloc (.cells #[txt l, txt h] 35)).alloc (.cells #[txt m, txt k] 35)).alloc (.cells #[.string ⟨#[]⟩, .string ⟨#[]⟩, .string ⟨#[]⟩, .string ⟨#[]⟩] 125)).cell? ⟨w.heap.size + 1, 0, none⟩ = some (txt m) := by go_simp
  have c3 : (((w.alloc (.cells #[txt l, txt h] 35)).alloc (.cells #[txt m, txt k] 35)).alloc (.cells #[.string ⟨#[]⟩, .string ⟨#[]⟩, .string ⟨#[]⟩, .string ⟨#[]⟩] 125)).cell? ⟨w.heap.size + 1, 1, none⟩ = some (txt k) := by go_simp
  have X : FourAt (w.heap.size + 1 + 1) (((w.alloc (.cells #[txt l, txt h] 35)).alloc (.cells #[txt m, txt k] 35)).alloc (.cells #[.string ⟨#[]⟩, .string ⟨#[]⟩, .string ⟨#[]⟩, .string ⟨#[]⟩] 125)) [] [] [] [] := ⟨by go_simp, by go_simp, by go_simp, by go_simp, by go_simp, by go_simp, by go_simp, by go_simp⟩
  have E : Ext w (((w.alloc (.cells #[txt l, txt h] 35)).alloc (.cells #[txt m, txt k] 35)).alloc (.cells #[.string ⟨#[]⟩, .string ⟨#[]⟩, .string ⟨#[]⟩, .string ⟨#[]⟩] 125)) := extA
  go_enter Tryz.func85, Tryz.ntmps85
  go_wp2_with fail
  generalize (((w.alloc (.cells #[txt l, txt h] 35)).alloc (.cells #[txt m, txt k] 35)).alloc (.cells #[.string ⟨#[]⟩, .string ⟨#[]⟩, .string ⟨#[]⟩, .string ⟨#[]⟩] 125)) = w0 at c0 c1 c2 c3 X E ⊢
  refine (HB1.out _).mono ?_
  rintro e w' ⟨rfl, hw⟩; obtain rfl := hw.symm; clear hw
  have zX := cell_lt X.c0
  have z0 := cell_lt c0
  have z2 := cell_lt c2
  dsimp only at zX z0 z2
  clear HB1
  cases nm
  · have HR : Hid (C = ((l, if nl then k else m), (h, if nh then m else k))) := HC.out
    clear HC HB2 G1 G2 zk1 zh1
    go_wp2_with fail
    have K1 := Lib.hid (fun W => eChoose_any nl k m W)
    have K2 := Lib.hid (fun W => eChoose_any nh m k W)
    obtain ⟨r2, hr2⟩ : ∃ r, r = (if nl = true then k else m) := ⟨_, rfl⟩
    obtain ⟨r4, hr4⟩ : ∃ r, r = (if nh = true then m else k) := ⟨_, rfl⟩
    rw [← hr2] at HR K1
    rw [← hr4] at HR K2
    clear hr2 hr4
    have hD : Ext w0 w0.drew := extA
    replace X := X.ext hD
    replace E := E.trans hD
    have hS : w0.drew.cell? ⟨w.heap.size, 0, none⟩ = some (txt l) ∧ w0.drew.cell? ⟨w.heap.size, 1, none⟩ = some (txt h) ∧ w0.drew.cell? ⟨w.heap.size + 1, 0, none⟩ = some (txt m) ∧ w0.drew.cell? ⟨w.heap.size + 1, 1, none⟩ = some (txt k) := ⟨hD.cell c0, hD.cell c1, hD.cell c2, hD.cell c3⟩
    refine wp_region_heldE 99 (fun w' => w'.cell? ⟨w.heap.size, 0, none⟩ = some (txt l) ∧ w'.cell? ⟨w.heap.size, 1, none⟩ = some (txt h) ∧ w'.cell? ⟨w.heap.size + 1, 0, none⟩ = some (txt m) ∧ w'.cell? ⟨w.heap.size + 1, 1, none⟩ = some (txt k)) (by kernel_rfl) ?_
    clear c0 c1 c2 c3 hD zX z0 z2
    generalize w0.drew = w1 at X E hS ⊢
    have zX := cell_lt X.c0
    dsimp only at zX
    ((refine eTk 0 ?_); (refine eTk 1 ?_); (refine eTk 2 ?_); (refine eTk 3 ?_); (refine eTk 4 ?_); (refine eTk 6 ?_); (refine eTk 7 ?_); (refine eTk 8 ?_); (refine eTk 9 ?_); (refine eTk 12 ?_); (refine eTk 13 ?_); (refine eTk 14 ?_); (refine eTk 15 ?_); (refine eTk 16 ?_); (refine eTk 18 ?_); (refine eTk 19 ?_); (refine eTk 20 ?_); (refine eTk 21 ?_))
    (refine wpAnyE_one (i := 5) (o := ?_) ?_ (by kernel_rfl) (fun K hK => ?_); rotate_left; (focus ((simp only [List.getElem?_toArray, List.getElem?_cons_succ, List.getElem?_cons_zero]; exact rfl))); go_simp; go_at_call 126; refine (HA1.out _).mono ?_; rintro e w' ⟨rfl, rfl⟩; go_wp2_with fail; refine hK.out _ _ ?_ (fun hHeld => ?_); rotate_left; clear hK K; (try simp only [Act.put, List.setIfInBounds_toArray, List.set_cons_zero, List.set_cons_succ]))
    rotate_left
    · exact hS
    clear hHeld
    (refine wpAnyE_one (i := 10) (o := ?_) ?_ (by kernel_rfl) (fun K hK => ?_); rotate_left; (focus ((simp only [List.getElem?_toArray, List.getElem?_cons_succ, List.getElem?_cons_zero]; exact rfl))); go_simp; go_at_call 125; refine (K1.out _).mono ?_; rintro e w' ⟨rfl, rfl⟩; go_wp2_with fail; refine hK.out _ _ ?_ (fun hHeld => ?_); rotate_left; clear hK K; (try simp only [Act.put, List.setIfInBounds_toArray, List.set_cons_zero, List.set_cons_succ]))
    rotate_left
    · exact hS
    clear hHeld
    ((refine eTk 11 ?_))
    (refine wpAnyE_one (i := 17) (o := ?_) ?_ (by kernel_rfl) (fun K hK => ?_); rotate_left; (focus ((simp only [List.getElem?_toArray, List.getElem?_cons_succ, List.getElem?_cons_zero]; exact rfl))); go_simp; go_at_call 126; refine (HA2.out _).mono ?_; rintro e w' ⟨rfl, rfl⟩; go_wp2_with fail; refine hK.out _ _ ?_ (fun hHeld => ?_); rotate_left; clear hK K; (try simp only [Act.put, List.setIfInBounds_toArray, List.set_cons_zero, List.set_cons_succ]))
    rotate_left
    · exact hS
    clear hHeld
    (refine wpAnyE_one (i := 22) (o := ?_) ?_ (by kernel_rfl) (fun K hK => ?_); rotate_left; (focus ((simp only [List.getElem?_toArray, List.getElem?_cons_succ, List.getElem?_cons_zero]; exact rfl))); go_simp; go_at_call 125; refine (K2.out _).mono ?_; rintro e w' ⟨rfl, rfl⟩; go_wp2_with fail; refine hK.out _ _ ?_ (fun hHeld => ?_); rotate_left; clear hK K; (try simp only [Act.put, List.setIfInBounds_toArray, List.set_cons_zero, List.set_cons_succ]))
    rotate_left
    · exact hS
    clear hHeld
    ((refine eTk 23 ?_); (refine eTk 24 ?_))
    obtain ⟨c0, c1, c2, c3⟩ := hS
    obtain ⟨x0, x1, x2, x3, f0, f1, f2, f3⟩ := X
    (refine wpAnyE_one (i := 25) (o := ?_) ?_ (by kernel_rfl) (fun K hK => ?_); rotate_left; (focus ((simp only [List.getElem?_toArray, List.getElem?_cons_succ, List.getElem?_cons_zero]; exact rfl))); go_simp; refine hK.out _ _ ?_ (fun hHeld => ?_); rotate_left; clear hK K; (try simp only [Act.put, List.setIfInBounds_toArray, List.set_cons_zero, List.set_cons_succ]))
    rotate_left
    · exact ⟨by go_simp, by go_simp, by go_simp, by go_simp⟩
    clear hHeld c0 c1 c2 c3
    refine wpAnyE_done (by kernel_rfl) ?_ _
    go_wp2_with fail
    refine bodyPost_ret (v := .agg #[txt l, txt r2, txt h, txt r4]) (by rw [results_cell1 rfl]; go_simp) rfl ?_
    exact ⟨by rw [HR.out]; rfl, extA⟩
  · go_wp2_with fail
    refine (HB2.out _).mono ?_
    rintro e w' ⟨rfl, hw⟩; obtain rfl := hw.symm; clear hw
    clear HB2
    cases nk
    rotate_left
    · have HR : Hid (C = ((h, if nh then k else m), (l, if nl then m else k))) := HC.out
      clear HC G1 G2 zk1 zh1
      go_wp2_with fail
      have K1 := Lib.hid (fun W => eChoose_any nh k m W)
      have K2 := Lib.hid (fun W => eChoose_any nl m k W)
      obtain ⟨r2, hr2⟩ : ∃ r, r = (if nh = true then k else m) := ⟨_, rfl⟩
      obtain ⟨r4, hr4⟩ : ∃ r, r = (if nl = true then m else k) := ⟨_, rfl⟩
      rw [← hr2] at HR K1
      rw [← hr4] at HR K2
      clear hr2 hr4
      have hD : Ext w0 w0.drew := extA
      replace X := X.ext hD
      replace E := E.trans hD
      have hS : w0.drew.cell? ⟨w.heap.size, 0, none⟩ = some (txt l) ∧ w0.drew.cell? ⟨w.heap.size, 1, none⟩ = some (txt h) ∧ w0.drew.cell? ⟨w.heap.size + 1, 0, none⟩ = some (txt m) ∧ w0.drew.cell? ⟨w.heap.size + 1, 1, none⟩ = some (txt k) := ⟨hD.cell c0, hD.cell c1, hD.cell c2, hD.cell c3⟩
      refine wp_region_heldE 99 (fun w' => w'.cell? ⟨w.heap.size, 0, none⟩ = some (txt l) ∧ w'.cell? ⟨w.heap.size, 1, none⟩ = some (txt h) ∧ w'.cell? ⟨w.heap.size + 1, 0, none⟩ = some (txt m) ∧ w'.cell? ⟨w.heap.size + 1, 1, none⟩ = some (txt k)) (by kernel_rfl) ?_
      clear c0 c1 c2 c3 hD zX z0 z2
      generalize w0.drew = w1 at X E hS ⊢
      have zX := cell_lt X.c0
      dsimp only at zX
      ((refine eTk 0 ?_); (refine eTk 1 ?_); (refine eTk 2 ?_); (refine eTk 3 ?_); (refine eTk 4 ?_); (refine eTk 6 ?_); (refine eTk 7 ?_); (refine eTk 8 ?_); (refine eTk 9 ?_); (refine eTk 12 ?_); (refine eTk 13 ?_); (refine eTk 14 ?_); (refine eTk 15 ?_); (refine eTk 16 ?_); (refine eTk 18 ?_); (refine eTk 19 ?_); (refine eTk 20 ?_); (refine eTk 21 ?_))
      (refine wpAnyE_one (i := 5) (o := ?_) ?_ (by kernel_rfl) (fun K hK => ?_); rotate_left; (focus ((simp only [List.getElem?_toArray, List.getElem?_cons_succ, List.getElem?_cons_zero]; exact rfl))); go_simp; go_at_call 126; refine (HA2.out _).mono ?_; rintro e w' ⟨rfl, rfl⟩; go_wp2_with fail; refine hK.out _ _ ?_ (fun hHeld => ?_); rotate_left; clear hK K; (try simp only [Act.put, List.setIfInBounds_toArray, List.set_cons_zero, List.set_cons_succ]))
      rotate_left
      · exact hS
      clear hHeld
      (refine wpAnyE_one (i := 10) (o := ?_) ?_ (by kernel_rfl) (fun K hK => ?_); rotate_left; (focus ((simp only [List.getElem?_toArray, List.getElem?_cons_succ, List.getElem?_cons_zero]; exact rfl))); go_simp; go_at_call 125; refine (K1.out _).mono ?_; rintro e w' ⟨rfl, rfl⟩; go_wp2_with fail; refine hK.out _ _ ?_ (fun hHeld => ?_); rotate_left; clear hK K; (try simp only [Act.put, List.setIfInBounds_toArray, List.set_cons_zero, List.set_cons_succ]))
      rotate_left
      · exact hS
      clear hHeld
      ((refine eTk 11 ?_))
      (refine wpAnyE_one (i := 17) (o := ?_) ?_ (by kernel_rfl) (fun K hK => ?_); rotate_left; (focus ((simp only [List.getElem?_toArray, List.getElem?_cons_succ, List.getElem?_cons_zero]; exact rfl))); go_simp; go_at_call 126; refine (HA1.out _).mono ?_; rintro e w' ⟨rfl, rfl⟩; go_wp2_with fail; refine hK.out _ _ ?_ (fun hHeld => ?_); rotate_left; clear hK K; (try simp only [Act.put, List.setIfInBounds_toArray, List.set_cons_zero, List.set_cons_succ]))
      rotate_left
      · exact hS
      clear hHeld
      (refine wpAnyE_one (i := 22) (o := ?_) ?_ (by kernel_rfl) (fun K hK => ?_); rotate_left; (focus ((simp only [List.getElem?_toArray, List.getElem?_cons_succ, List.getElem?_cons_zero]; exact rfl))); go_simp; go_at_call 125; refine (K2.out _).mono ?_; rintro e w' ⟨rfl, rfl⟩; go_wp2_with fail; refine hK.out _ _ ?_ (fun hHeld => ?_); rotate_left; clear hK K; (try simp only [Act.put, List.setIfInBounds_toArray, List.set_cons_zero, List.set_cons_succ]))
      rotate_left
      · exact hS
      clear hHeld
      ((refine eTk 23 ?_); (refine eTk 24 ?_))
      obtain ⟨c0, c1, c2, c3⟩ := hS
      obtain ⟨x0, x1, x2, x3, f0, f1, f2, f3⟩ := X
      (refine wpAnyE_one (i := 25) (o := ?_) ?_ (by kernel_rfl) (fun K hK => ?_); rotate_left; (focus ((simp only [List.getElem?_toArray, List.getElem?_cons_succ, List.getElem?_cons_zero]; exact rfl))); go_simp; refine hK.out _ _ ?_ (fun hHeld => ?_); rotate_left; clear hK K; (try simp only [Act.put, List.setIfInBounds_toArray, List.set_cons_zero, List.set_cons_succ]))
      rotate_left
      · exact ⟨by go_simp, by go_simp, by go_simp, by go_simp⟩
      clear hHeld c0 c1 c2 c3
      refine wpAnyE_done (by kernel_rfl) ?_ _
      go_wp2_with fail
      refine bodyPost_ret (v := .agg #[txt h, txt r2, txt l, txt r4]) (by rw [results_cell1 rfl]; go_simp) rfl ?_
      exact ⟨by rw [HR.out]; rfl, extA⟩
    · cases zk
      rotate_left
      · have HR : Hid (C = ((h, if nh then k else m), (l, if nl then m else k))) := HC.out
        clear HC G1 G2 zh1
        go_wp2_with fail
        have K1 := Lib.hid (fun W => eChoose_any nh k m W)
        have K2 := Lib.hid (fun W => eChoose_any nl m k W)
        obtain ⟨r2, hr2⟩ : ∃ r, r = (if nh = true then k else m) := ⟨_, rfl⟩
        obtain ⟨r4, hr4⟩ : ∃ r, r = (if nl = true then m else k) := ⟨_, rfl⟩
        rw [← hr2] at HR K1
        rw [← hr4] at HR K2
        clear hr2 hr4
        have hD : Ext w0 w0.drew := extA
        replace X := X.ext hD
        replace E := E.trans hD
        have hS : w0.drew.cell? ⟨w.heap.size, 0, none⟩ = some (txt l) ∧ w0.drew.cell? ⟨w.heap.size, 1, none⟩ = some (txt h) ∧ w0.drew.cell? ⟨w.heap.size + 1, 0, none⟩ = some (txt m) ∧ w0.drew.cell? ⟨w.heap.size + 1, 1, none⟩ = some (txt k) := ⟨hD.cell c0, hD.cell c1, hD.cell c2, hD.cell c3⟩
        refine wp_region_heldE 99 (fun w' => w'.cell? ⟨w.heap.size, 0, none⟩ = some (txt l) ∧ w'.cell? ⟨w.heap.size, 1, none⟩ = some (txt h) ∧ w'.cell? ⟨w.heap.size + 1, 0, none⟩ = some (txt m) ∧ w'.cell? ⟨w.heap.size + 1, 1, none⟩ = some (txt k)) (by kernel_rfl) ?_
        clear c0 c1 c2 c3 hD zX z0 z2
        generalize w0.drew = w1 at X E hS ⊢
        have zX := cell_lt X.c0
        dsimp only at zX
        ((refine eTk 0 ?_); (refine eTk 1 ?_); (refine eTk 2 ?_); (refine eTk 3 ?_); (refine eTk 4 ?_); (refine eTk 6 ?_); (refine eTk 7 ?_); (refine eTk 8 ?_); (refine eTk 9 ?_); (refine eTk 12 ?_); (refine eTk 13 ?_); (refine eTk 14 ?_); (refine eTk 15 ?_); (refine eTk 16 ?_); (refine eTk 18 ?_); (refine eTk 19 ?_); (refine eTk 20 ?_); (refine eTk 21 ?_))
        (refine wpAnyE_one (i := 5) (o := ?_) ?_ (by kernel_rfl) (fun K hK => ?_); rotate_left; (focus ((simp only [List.getElem?_toArray, List.getElem?_cons_succ, List.getElem?_cons_zero]; exact rfl))); go_simp; go_at_call 126; refine (HA2.out _).mono ?_; rintro e w' ⟨rfl, rfl⟩; go_wp2_with fail; refine hK.out _ _ ?_ (fun hHeld => ?_); rotate_left; clear hK K; (try simp only [Act.put, List.setIfInBounds_toArray, List.set_cons_zero, List.set_cons_succ]))
        rotate_left
        · exact hS
        clear hHeld
        (refine wpAnyE_one (i := 10) (o := ?_) ?_ (by kernel_rfl) (fun K hK => ?_); rotate_left; (focus ((simp only [List.getElem?_toArray, List.getElem?_cons_succ, List.getElem?_cons_zero]; exact rfl))); go_simp; go_at_call 125; refine (K1.out _).mono ?_; rintro e w' ⟨rfl, rfl⟩; go_wp2_with fail; refine hK.out _ _ ?_ (fun hHeld => ?_); rotate_left; clear hK K; (try simp only [Act.put, List.setIfInBounds_toArray, List.set_cons_zero, List.set_cons_succ]))
        rotate_left
        · exact hS
        clear hHeld
        ((refine eTk 11 ?_))
        (refine wpAnyE_one (i := 17) (o := ?_) ?_ (by kernel_rfl) (fun K hK => ?_); rotate_left; (focus ((simp only [List.getElem?_toArray, List.getElem?_cons_succ, List.getElem?_cons_zero]; exact rfl))); go_simp; go_at_call 126; refine (HA1.out _).mono ?_; rintro e w' ⟨rfl, rfl⟩; go_wp2_with fail; refine hK.out _ _ ?_ (fun hHeld => ?_); rotate_left; clear hK K; (try simp only [Act.put, List.setIfInBounds_toArray, List.set_cons_zero, List.set_cons_succ]))
        rotate_left
        · exact hS
        clear hHeld
        (refine wpAnyE_one (i := 22) (o := ?_) ?_ (by kernel_rfl) (fun K hK => ?_); rotate_left; (focus ((simp only [List.getElem?_toArray, List.getElem?_cons_succ, List.getElem?_cons_zero]; exact rfl))); go_simp; go_at_call 125; refine (K2.out _).mono ?_; rintro e w' ⟨rfl, rfl⟩; go_wp2_with fail; refine hK.out _ _ ?_ (fun hHeld => ?_); rotate_left; clear hK K; (try simp only [Act.put, List.setIfInBounds_toArray, List.set_cons_zero, List.set_cons_succ]))
        rotate_left
        · exact hS
        clear hHeld
        ((refine eTk 23 ?_); (refine eTk 24 ?_))
        obtain ⟨c0, c1, c2, c3⟩ := hS
        obtain ⟨x0, x1, x2, x3, f0, f1, f2, f3⟩ := X
        (refine wpAnyE_one (i := 25) (o := ?_) ?_ (by kernel_rfl) (fun K hK => ?_); rotate_left; (focus ((simp only [List.getElem?_toArray, List.getElem?_cons_succ, List.getElem?_cons_zero]; exact rfl))); go_simp; refine hK.out _ _ ?_ (fun hHeld => ?_); rotate_left; clear hK K; (try simp only [Act.put, List.setIfInBounds_toArray, List.set_cons_zero, List.set_cons_succ]))
        rotate_left
        · exact ⟨by go_simp, by go_simp, by go_simp, by go_simp⟩
        clear hHeld c0 c1 c2 c3
        refine wpAnyE_done (by kernel_rfl) ?_ _
        go_wp2_with fail
        refine bodyPost_ret (v := .agg #[txt h, txt r2, txt l, txt r4]) (by rw [results_cell1 rfl]; go_simp) rfl ?_
        exact ⟨by rw [HR.out]; rfl, extA⟩
      · go_wp2_with fail
        refine (HA1.out _).mono ?_
        rintro e w' ⟨rfl, hw⟩; obtain rfl := hw.symm; clear hw
        clear HA1
        obtain ⟨x0, x1, x2, x3, f0, f1, f2, f3⟩ := X
        cases nl
        · have HR : Hid (C = ((h, m), (h, k))) := HC.out
          clear HC G1 G2
          go_wp2_with fail
          refine bodyPost_ret (v := .agg #[txt h, txt m, txt h, txt k]) (by rw [results_cell1 rfl]; go_simp) rfl ?_
          exact ⟨by rw [HR.out]; rfl, extA⟩
        · go_wp2_with fail
          refine (HA2.out _).mono ?_
          rintro e w' ⟨rfl, hw⟩; obtain rfl := hw.symm; clear hw
          clear HA2
          cases nh
          rotate_left
          · have HR : Hid (C = ((l, k), (l, m))) := HC.out
            clear HC G1 G2
            go_wp2_with fail
            refine bodyPost_ret (v := .agg #[txt l, txt k, txt l, txt m]) (by rw [results_cell1 rfl]; go_simp) rfl ?_
            exact ⟨by rw [HR.out]; rfl, extA⟩
          · cases zh
            rotate_left
            · have HR : Hid (C = ((l, k), (l, m))) := HC.out
              clear HC G1 G2
              go_wp2_with fail
              refine bodyPost_ret (v := .agg #[txt l, txt k, txt l, txt m]) (by rw [results_cell1 rfl]; go_simp) rfl ?_
              exact ⟨by rw [HR.out]; rfl, extA⟩
            · go_wp2_with fail
              have HR : Hid (C = (if greaterE (h, m) (l, k) = true then (h, m) else (l, k), if greaterE (h, k) (l, m) = true then (h, k) else (l, m))) := HC.out
              clear HC zk1 zh1
              generalize greaterE (h, m) (l, k) = b1 at *
              generalize greaterE (h, k) (l, m) = b2 at *
              have OUT : FourAt w0.heap.size ((w0.alloc (.cells #[txt l, txt k, txt l, txt m] 125)).alloc (.cells #[txt h, txt m] 124)) l k l m := ⟨by go_simp, by go_simp, by go_simp, by go_simp, by go_simp, by go_simp, by go_simp, by go_simp⟩
              have T7 : EncAt (w0.heap.size + 1) ((w0.alloc (.cells #[txt l, txt k, txt l, txt m] 125)).alloc (.cells #[txt h, txt m] 124)) h m := ⟨by go_simp, by go_simp, by go_simp, by go_simp⟩
              have EA : Ext w0 ((w0.alloc (.cells #[txt l, txt k, txt l, txt m] 125)).alloc (.cells #[txt h, txt m] 124)) := extA
              have X := (FourAt.mk x0 x1 x2 x3 f0 f1 f2 f3).ext EA
              have E := E.trans EA
              have HCC : ((w0.alloc (.cells #[txt l, txt k, txt l, txt m] 125)).alloc (.cells #[txt h, txt m] 124)).cell? ⟨w.heap.size, 0, none⟩ = some (txt l) ∧ ((w0.alloc (.cells #[txt l, txt k, txt l, txt m] 125)).alloc (.cells #[txt h, txt m] 124)).cell? ⟨w.heap.size, 1, none⟩ = some (txt h) ∧ ((w0.alloc (.cells #[txt l, txt k, txt l, txt m] 125)).alloc (.cells #[txt h, txt m] 124)).cell? ⟨w.heap.size + 1, 0, none⟩ = some (txt m) ∧ ((w0.alloc (.cells #[txt l, txt k, txt l, txt m] 125)).alloc (.cells #[txt h, txt m] 124)).cell? ⟨w.heap.size + 1, 1, none⟩ = some (txt k) := ⟨EA.cell c0, EA.cell c1, EA.cell c2, EA.cell c3⟩
              go_wp2_with fail
              obtain ⟨ob, hob⟩ : ∃ ob, ob = w0.heap.size := ⟨_, rfl⟩
              rw [← hob] at OUT T7 zX z0 z2 ⊢
              generalize ((w0.alloc (.cells #[txt l, txt k, txt l, txt m] 125)).alloc (.cells #[txt h, txt m] 124)) = w1 at T7 OUT X E HCC ⊢
              clear EA c0 c1 c2 c3 x0 x1 x2 x3 f0 f1 f2 f3 hob
              refine (G1.out _ E).mono ?_
              clear G1
              rintro e w2 ⟨rfl, hE⟩
              replace T7 := T7.ext hE
              replace OUT := OUT.ext hE
              replace X := X.ext hE
              replace E := E.trans hE
              replace HCC : w2.cell? ⟨w.heap.size, 0, none⟩ = some (txt l) ∧ w2.cell? ⟨w.heap.size, 1, none⟩ = some (txt h) ∧ w2.cell? ⟨w.heap.size + 1, 0, none⟩ = some (txt m) ∧ w2.cell? ⟨w.heap.size + 1, 1, none⟩ = some (txt k) := ⟨hE.cell HCC.1, hE.cell HCC.2.1, hE.cell HCC.2.2.1, hE.cell HCC.2.2.2⟩
              clear hE
              have zO := cell_lt OUT.c0
              dsimp only at zO
              obtain ⟨c0, c1, c2, c3⟩ := HCC
              have OUT0 := OUT
              obtain ⟨y0, y1, y2, y3, p0, p1, p2, p3⟩ := OUT0
              cases b1
              · replace HR : Hid (C = ((l, k), if b2 = true then (h, k) else (l, m))) := HR.out
                clear T7
                have T8 : EncAt w2.heap.size (w2.alloc (.cells #[txt h, txt k] 124)) h k := ⟨by go_simp, by go_simp, by go_simp, by go_simp⟩
                have EA : Ext w2 (w2.alloc (.cells #[txt h, txt k] 124)) := extA
                replace OUT := OUT.ext EA
                replace X := X.ext EA
                replace E := E.trans EA
                go_wp2_with fail
                obtain ⟨tb, htb⟩ : ∃ tb, tb = w2.heap.size := ⟨_, rfl⟩
                have hto : ob < tb := by omega
                rw [← htb] at T8 ⊢
                generalize (w2.alloc (.cells #[txt h, txt k] 124)) = w4 at T8 OUT X E ⊢
                clear EA c0 c1 c2 c3 z0 z2 y0 y1 y2 y3 p0 p1 p2 p3 htb
                refine (G2.out _ E).mono ?_
                clear G2
                rintro e w5 ⟨rfl, hE⟩
                replace T8 := T8.ext hE
                replace OUT := OUT.ext hE
                replace X := X.ext hE
                replace E := E.trans hE
                clear hE
                cases b2
                · have HR2 : Hid (C = ((l, k), (l, m))) := HR.out
                  obtain ⟨y0, y1, y2, y3, p0, p1, p2, p3⟩ := OUT
                  obtain ⟨x0, x1, x2, x3, f0, f1, f2, f3⟩ := X
                  clear T8 HR
                  go_wp2_with fail
                  refine bodyPost_ret (v := .agg #[txt l, txt k, txt l, txt m]) (by rw [results_cell1 rfl]; go_simp) rfl ?_
                  exact ⟨by rw [HR2.out]; rfl, extA⟩
                · have HR2 : Hid (C = ((l, k), (h, k))) := HR.out
                  obtain ⟨t0, t1, _, _⟩ := T8
                  obtain ⟨y0, y1, y2, y3, p0, p1, p2, p3⟩ := OUT
                  obtain ⟨x0, x1, x2, x3, f0, f1, f2, f3⟩ := X
                  clear HR
                  go_wp2_with fail
                  refine bodyPost_ret (v := .agg #[txt l, txt k, txt h, txt k]) (by rw [results_cell1 rfl]; go_simp) rfl ?_
                  exact ⟨by rw [HR2.out]; rfl, extA⟩
              · replace HR : Hid (C = ((h, m), if b2 = true then (h, k) else (l, m))) := HR.out
                obtain ⟨t0, t1, _, _⟩ := T7
                replace OUT := (OUT.set0 h).set1 m
                replace X := (X.other (c := ob) (o := 0) (v := txt h) (by omega)).other (c := ob) (o := 1) (v := txt m) (by omega)
                replace E := (E.set (b := ob) (o := 0) (by omega) (txt h)).set (b := ob) (o := 1) (by omega) (txt m)
                have T8 : EncAt w2.heap.size (((w2.setCell ⟨ob, 0, none⟩ (txt h)).setCell ⟨ob, 1, none⟩ (txt m)).alloc (.cells #[txt h, txt k] 124)) h k := ⟨by go_simp, by go_simp, by go_simp, by go_simp⟩
                have EA : Ext ((w2.setCell ⟨ob, 0, none⟩ (txt h)).setCell ⟨ob, 1, none⟩ (txt m)) (((w2.setCell ⟨ob, 0, none⟩ (txt h)).setCell ⟨ob, 1, none⟩ (txt m)).alloc (.cells #[txt h, txt k] 124)) := extA
                replace OUT := OUT.ext EA
                replace X := X.ext EA
                replace E := E.trans EA
                go_wp2_with fail
                obtain ⟨tb, htb⟩ : ∃ tb, tb = w2.heap.size := ⟨_, rfl⟩
                have hto : ob < tb := by omega
                rw [← htb] at T8 ⊢
                generalize (((w2.setCell ⟨ob, 0, none⟩ (txt h)).setCell ⟨ob, 1, none⟩ (txt m)).alloc (.cells #[txt h, txt k] 124)) = w4 at T8 OUT X E ⊢
                clear EA c0 c1 c2 c3 z0 z2 y0 y1 y2 y3 p0 p1 p2 p3 htb
                refine (G2.out _ E).mono ?_
                clear G2
                rintro e w5 ⟨rfl, hE⟩
                replace T8 := T8.ext hE
                replace OUT := OUT.ext hE
                replace X := X.ext hE
                replace E := E.trans hE
                clear hE
                cases b2
                · have HR2 : Hid (C = ((h, m), (l, m))) := HR.out
                  obtain ⟨y0, y1, y2, y3, p0, p1, p2, p3⟩ := OUT
                  obtain ⟨x0, x1, x2, x3, f0, f1, f2, f3⟩ := X
                  clear T8 HR
                  go_wp2_with fail
                  refine bodyPost_ret (v := .agg #[txt h, txt m, txt l, txt m]) (by rw [results_cell1 rfl]; go_simp) rfl ?_
                  exact ⟨by rw [HR2.out]; rfl, extA⟩
                · have HR2 : Hid (C = ((h, m), (h, k))) := HR.out
                  obtain ⟨t0, t1, _, _⟩ := T8
                  obtain ⟨y0, y1, y2, y3, p0, p1, p2, p3⟩ := OUT
                  obtain ⟨x0, x1, x2, x3, f0, f1, f2, f3⟩ := X
                  clear HR
                  go_wp2_with fail
                  refine bodyPost_ret (v := .agg #[txt h, txt m, txt h, txt k]) (by rw [results_cell1 rfl]; go_simp) rfl ?_
                  exact ⟨by rw [HR2.out]; rfl, extA⟩
end Go.Proofs.YtlnonmmaknhppaaGreatDoor
