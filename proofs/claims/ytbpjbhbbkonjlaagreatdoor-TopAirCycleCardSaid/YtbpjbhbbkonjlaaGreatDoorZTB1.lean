/- Steps of the proof: FDec, FFrac, FNum, FFit, FOrd, FSpec, FRing, ESpec, ELaw, ELaw2, ELaw3, ELaw4, ELaw5, Air1, Air2, Air3, Air4, Air5, Air6, Air7, Air8, Air9, Base, Range, Own, FOwn, FNat, FNatL, FDig. No conditions. -/
import Derived.Lib.ItoaMem
import Derived.Lib.ParseIntB
import Derived.Lib.Atoi
import Derived.Test.YtbpjbhbbkonjlaaGreatDoorRows
import Derived.WalkKit
import Derived.WalkLawsBesides
import Derived.WalkSpells
import Derived.BigQuiet
import Derived.Deep.QuietTactic
import Derived.StillTailTactics
import Derived.Deep.RegionHeld3
import Derived.Deep.LoopGhost
import Derived.Deep.DeepCutAuto
import Derived.Deep.DeepFit
import Derived.Lib.Hide
import Derived.RowKit3
import Derived.RangeFuncNested
import Derived.RangeFuncBound
import Derived.RangeFuncCalls
import Derived.RangeFuncLeaves
import Derived.Shelf.Abstract
import Derived.OwnWalkIn
import Derived.TacticsInMore
import Derived.LoopNIn
import Derived.LoopIn
import Derived.Deep.AppendSrc
namespace Go.Proofs.YtbpjbhbbkonjlaaGreatDoor
open Go.Lib (decDigits decFrom)
theorem snocRec {α : Type} {P : List α → Prop} (nil : P []) (snoc : ∀ l a, P l → P (l ++ [a])) (l : List α) : P l := by
  have h : ∀ m : List α, P m.reverse := fun m => by
    induction m with
    | nil => exact nil
    | cons a m ih => rw [List.reverse_cons]; exact snoc _ _ ih
  have := h l.reverse
  rwa [List.reverse_reverse] at this
def DigitL (l : List UInt8) : Prop := ∀ c ∈ l, 48 ≤ c.toNat ∧ c.toNat ≤ 57
instance (l : List UInt8) : Decidable (DigitL l) := by unfold DigitL; infer_instance
def decV (l : List UInt8) : Nat := l.foldl (fun v c => 10 * v + (c.toNat - 48)) 0
theorem decV_snoc (l : List UInt8) (c : UInt8) : decV (l ++ [c]) = 10 * decV l + (c.toNat - 48) := by
  unfold decV; rw [List.foldl_append]; rfl
theorem decV_append (l m : List UInt8) : decV (l ++ m) = decV l * 10 ^ m.length + decV m := by
  induction m using snocRec with
  | nil => simp [decV]
  | snoc m c ih =>
    rw [← List.append_assoc, decV_snoc, decV_snoc, ih, List.length_append, List.length_singleton, Nat.pow_succ, Nat.mul_add,
      Nat.mul_comm (10 ^ m.length) 10, ← Nat.mul_assoc, ← Nat.mul_assoc, Nat.mul_comm 10, Nat.add_assoc]
theorem DigitL.left {l m : List UInt8} (h : DigitL (l ++ m)) : DigitL l := fun c hc => h c (List.mem_append_left _ hc)
theorem DigitL.right {l m : List UInt8} (h : DigitL (l ++ m)) : DigitL m := fun c hc => h c (List.mem_append_right _ hc)
theorem DigitL.app {l m : List UInt8} (h : DigitL l) (k : DigitL m) : DigitL (l ++ m) := fun c hc => (List.mem_append.1 hc).elim (h c) (k c)
theorem DigitL.of_take {l : List UInt8} (h : DigitL l) (i : Nat) : DigitL (l.take i) := fun c hc => h c (List.mem_of_mem_take hc)
theorem DigitL.of_drop {l : List UInt8} (h : DigitL l) (i : Nat) : DigitL (l.drop i) := fun c hc => h c (List.mem_of_mem_drop hc)
theorem decV_lt {l : List UInt8} (h : DigitL l) : decV l < 10 ^ l.length := by
  induction l using snocRec with
  | nil => simp [decV]
  | snoc l c ih =>
    have h1 := ih h.left
    have h2 := h.right c (List.mem_singleton.2 rfl)
    rw [decV_snoc, List.length_append, List.length_singleton, Nat.pow_succ]
    omega
theorem parse_eq {l : List UInt8} (h : DigitL l) (hne : l ≠ []) (hl : l.length ≤ 18) : Go.Lib.parseUintB 64 l = .ok (decV l) := by
  have key : ∀ (m : List UInt8) (acc k : Nat), DigitL m → acc < 10 ^ k → k + m.length ≤ 18 →
      Go.Lib.parseUintM (2 ^ 64 - 1) acc m = .ok (acc * 10 ^ m.length + decV m) := by
    intro m
    induction m with
    | nil => intro acc k _ _ _; simp [Go.Lib.parseUintM, decV]
    | cons c m ih =>
      intro acc k hd ha hk
      have h1 := hd c (List.mem_cons_self ..)
      have h2 : DigitL m := fun d hd' => hd d (List.mem_cons_of_mem _ hd')
      have h5 : 10 ^ k ≤ 10 ^ 17 := Nat.pow_le_pow_right (by omega) (by simp at hk; omega)
      have h6 : acc * 10 + (c.toNat - 48) < 10 ^ (k + 1) := by rw [Nat.pow_succ]; omega
      have h4 : decV (c :: m) = (c.toNat - 48) * 10 ^ m.length + decV m := by
        rw [show c :: m = [c] ++ m from rfl, decV_append]
        congr 2
        simp [decV]
      simp only [Go.Lib.parseUintM]
      rw [if_pos h1, if_neg (by omega), if_neg (by omega), ih _ (k + 1) h2 h6 (by simp at hk; omega), h4, List.length_cons, Nat.pow_succ, Nat.add_mul,
        Nat.mul_comm (10 ^ m.length) 10, Nat.mul_assoc, Nat.add_assoc]
  unfold Go.Lib.parseUintB
  rw [if_neg hne, key l 0 0 h (by simp) (by omega)]
  simp
theorem digit_toNat {d : Nat} (h : d < 10) : (UInt8.ofNat (48 + d)).toNat = 48 + d := by
  rw [UInt8.toNat_ofNat']; exact Nat.mod_eq_of_lt (by omega)
theorem digits_small {n : Nat} (h : n < 10) : decDigits n = [UInt8.ofNat (48 + n)] := by rw [decDigits, dif_pos h]
theorem digits_big {n : Nat} (h : 10 ≤ n) : decDigits n = decDigits (n / 10) ++ [UInt8.ofNat (48 + n % 10)] := by rw [decDigits, dif_neg (by omega)]
theorem digits_ok (n : Nat) : DigitL (decDigits n) ∧ decV (decDigits n) = n ∧ decDigits n ≠ [] := by
  induction n using Nat.strongRecOn with
  | ind n ih =>
    by_cases h : n < 10
    · rw [digits_small h]
      refine ⟨?_, ?_, by simp⟩
      · intro c hc
        rw [List.mem_singleton.1 hc, digit_toNat h]; omega
      · show 10 * 0 + ((UInt8.ofNat (48 + n)).toNat - 48) = n
        rw [digit_toNat h]; omega
    · rw [digits_big (by omega)]
      obtain ⟨h1, h2, _⟩ := ih (n / 10) (by omega)
      refine ⟨h1.app ?_, ?_, by simp⟩
      · intro c hc
        rw [List.mem_singleton.1 hc, digit_toNat (Nat.mod_lt _ (by omega))]; omega
      · rw [decV_snoc, h2, digit_toNat (Nat.mod_lt _ (by omega))]; omega
theorem digits_head (n : Nat) (hn : n ≠ 0) : (decDigits n).head? ≠ some 48 := by
  induction n using Nat.strongRecOn with
  | ind n ih =>
    by_cases h : n < 10
    · rw [digits_small h]
      intro h2
      have h3 : UInt8.ofNat (48 + n) = 48 := by simpa using h2
      have h4 := digit_toNat h
      rw [h3] at h4
      simp at h4
      omega
    · rw [digits_big (by omega)]
      have h1 := ih (n / 10) (by omega) (by omega)
      have h2 := (digits_ok (n / 10)).2.2
      revert h1 h2
      cases decDigits (n / 10) with
      | nil => exact fun _ h2 => absurd rfl h2
      | cons c m => exact fun h1 _ => h1
def CanonL (l : List UInt8) : Prop := DigitL l ∧ l ≠ [] ∧ (l.head? ≠ some 48 ∨ l = [48])
instance (l : List UInt8) : Decidable (CanonL l) := by unfold CanonL; infer_instance
theorem canon_digits (n : Nat) : CanonL (decDigits n) := by
  obtain ⟨h1, _, h3⟩ := digits_ok n
  refine ⟨h1, h3, ?_⟩
  by_cases h : n = 0
  · right; subst h; rw [digits_small (by omega)]; rfl
  · left; exact digits_head n h
theorem decV_pos {c : UInt8} {l : List UInt8} (h : DigitL (c :: l)) (hc : c ≠ 48) : 10 ^ l.length ≤ decV (c :: l) := by
  have h1 := h c (List.mem_cons_self ..)
  have h4 : decV (c :: l) = (c.toNat - 48) * 10 ^ l.length + decV l := by
    rw [show c :: l = [c] ++ l from rfl, decV_append]
    congr 2
    simp [decV]
  have h5 : c.toNat ≠ 48 := fun e => hc (UInt8.toNat_inj.1 (by rw [e]; rfl))
  rw [h4]
  have := Nat.mul_le_mul_right (10 ^ l.length) (show 1 ≤ c.toNat - 48 by omega)
  omega
theorem digit_back {c : UInt8} (h : 48 ≤ c.toNat ∧ c.toNat ≤ 57) : UInt8.ofNat (48 + (c.toNat - 48)) = c := by
  apply UInt8.toNat_inj.1
  rw [digit_toNat (by omega)]; omega
theorem canon_back {l : List UInt8} (h : CanonL l) : decDigits (decV l) = l := by
  obtain ⟨h1, h2, h3⟩ := h
  have key : ∀ (m : List UInt8) (c : UInt8), DigitL (c :: m) → c ≠ 48 → decDigits (decV (c :: m)) = c :: m := by
    intro m
    induction m using snocRec with
    | nil =>
      intro c hd _
      have hc := hd c (List.mem_cons_self ..)
      have : decV [c] = c.toNat - 48 := by simp [decV]
      rw [this, digits_small (by omega), digit_back hc]
    | snoc m d ih =>
      intro c hd hc
      have hd1 : DigitL (c :: m) := DigitL.left (m := [d]) (by simpa using hd)
      have hd2 := hd d (by simp)
      have h5 := decV_pos hd1 hc
      have h6 : 0 < 10 ^ m.length := Nat.pow_pos (by omega)
      have h7 : decV (c :: (m ++ [d])) = 10 * decV (c :: m) + (d.toNat - 48) := by
        rw [show c :: (m ++ [d]) = (c :: m) ++ [d] from rfl, decV_snoc]
      rw [h7, digits_big (by omega), show (10 * decV (c :: m) + (d.toNat - 48)) / 10 = decV (c :: m) by omega,
        show (10 * decV (c :: m) + (d.toNat - 48)) % 10 = d.toNat - 48 by omega, ih c hd1 hc, digit_back hd2]
      rfl
  rcases h3 with h3 | h3
  · cases l with
    | nil => exact absurd rfl h2
    | cons c m => exact key m c h1 (by simpa using h3)
  · subst h3
    have : decV [48] = 0 := by simp [decV]
    rw [this, digits_small (by omega)]
    rfl
theorem canon_inj {l m : List UInt8} (h : CanonL l) (k : CanonL m) (e : decV l = decV m) : l = m := by
  rw [← canon_back h, ← canon_back k, e]
theorem digits_len_le (n k : Nat) (hk : 1 ≤ k) : (decDigits n).length ≤ k ↔ n < 10 ^ k := by
  constructor
  · intro h
    have h1 := decV_lt (digits_ok n).1
    rw [(digits_ok n).2.1] at h1
    exact Nat.lt_of_lt_of_le h1 (Nat.pow_le_pow_right (by omega) h)
  · intro h
    have h1 := canon_digits n
    have h2 := (digits_ok n).2.1
    revert h1 h2
    generalize decDigits n = l
    intro h1 h2
    obtain ⟨h3, h4, h5⟩ := h1
    rcases h5 with h5 | h5
    · cases l with
      | nil => exact absurd rfl h4
      | cons c m =>
        have h6 := decV_pos h3 (by simpa using h5)
        rw [h2] at h6
        have h7 : 10 ^ m.length < 10 ^ k := Nat.lt_of_le_of_lt h6 h
        have h8 := (Nat.pow_lt_pow_iff_right (by omega : 1 < 10)).1 h7
        simp; omega
    · subst h5; simpa using hk
def padD : Nat → Nat → List UInt8
  | 0, _ => []
  | k + 1, x => padD k (x / 10) ++ [UInt8.ofNat (48 + x % 10)]
theorem digits_chunk (k : Nat) : ∀ {n x : Nat}, 0 < n → x < 10 ^ k → decDigits (n * 10 ^ k + x) = decDigits n ++ padD k x := by
  induction k with
  | zero => intro n x _ hx; rw [Nat.pow_zero] at hx; rw [show x = 0 by omega]; simp [padD]
  | succ k ih =>
    intro n x hn hx
    have h0 : 0 < 10 ^ k := Nat.pow_pos (by omega)
    have h1 : n * 10 ^ (k + 1) + x = 10 * (n * 10 ^ k) + x := by rw [Nat.pow_succ, Nat.mul_comm (10 ^ k) 10, Nat.mul_left_comm]
    have h2 : 1 ≤ n * 10 ^ k := Nat.mul_pos hn h0
    rw [Nat.pow_succ] at hx
    rw [h1, digits_big (by omega), show (10 * (n * 10 ^ k) + x) / 10 = n * 10 ^ k + x / 10 by omega, show (10 * (n * 10 ^ k) + x) % 10 = x % 10 by omega,
      ih hn (by omega), padD, List.append_assoc]
theorem padD_zero (k : Nat) : padD k 0 = List.replicate k 48 := by
  induction k with
  | zero => rfl
  | succ k ih => rw [padD, Nat.zero_div, ih, List.replicate_succ']; rfl
theorem padD_eq (k : Nat) : ∀ {x : Nat}, x < 10 ^ k → 1 ≤ k → padD k x = List.replicate (k - (decDigits x).length) 48 ++ decDigits x := by
  induction k with
  | zero => intro x _ h; omega
  | succ k ih =>
    intro x hx _
    rw [padD]
    by_cases h : x < 10
    · rw [show x / 10 = 0 by omega, padD_zero, digits_small h, Nat.mod_eq_of_lt h]
      simp
    · have hk : 1 ≤ k := by
        rcases k with _ | k
        · simp at hx; omega
        · omega
      rw [Nat.pow_succ] at hx
      have h1 := ih (show x / 10 < 10 ^ k by omega) hk
      have h2 := digits_big (n := x) (by omega)
      have h3 : (decDigits x).length = (decDigits (x / 10)).length + 1 := by rw [h2, List.length_append]; rfl
      rw [h1, h3, h2, List.append_assoc, show k + 1 - ((decDigits (x / 10)).length + 1) = k - (decDigits (x / 10)).length by omega]
theorem digits_text (x : Nat) (h : x < 10 ^ 9) : (decDigits x).length ≤ 9 := (digits_len_le x 9 (by omega)).2 h
end Go.Proofs.YtbpjbhbbkonjlaaGreatDoor
namespace Go.Proofs.YtbpjbhbbkonjlaaGreatDoor
open Go.Lib (decDigits itoa)
def negS (s : List UInt8) : Bool := s.head? == some 45
def bareS (s : List UInt8) : List UInt8 := if negS s then s.tail else s
def IntS (s : List UInt8) : Prop := CanonL (bareS s) ∧ s ≠ [45, 48]
instance (s : List UInt8) : Decidable (IntS s) := by unfold IntS; infer_instance
def intV (s : List UInt8) : Int := if negS s then -(decV (bareS s) : Int) else decV (bareS s)
def intE (s : List UInt8) : Nat := if ¬ IntS s then 3 else if 60 < (bareS s).length then 11 else 0
theorem intV_abs (s : List UInt8) : (intV s).natAbs = decV (bareS s) := by unfold intV; split <;> omega
theorem canon_pos {s : List UInt8} (h : CanonL s) : negS s = false := by
  unfold negS
  cases s with
  | nil => rfl
  | cons c s =>
    have h1 := h.1 c (List.mem_cons_self ..)
    have h2 : c ≠ 45 := fun e => by rw [e] at h1; simp at h1
    simpa using h2
theorem canon_zero {s : List UInt8} (h : CanonL s) (h0 : decV s = 0) : s = [48] := by
  rw [← canon_back h, h0, digits_small (by omega)]; rfl
theorem bare_pos {s : List UInt8} (h : negS s = false) : bareS s = s := by unfold bareS; rw [h]; rfl
theorem neg_cons {s : List UInt8} (h : negS s = true) : s = 45 :: bareS s := by
  unfold bareS
  rw [if_pos h]
  unfold negS at h
  cases s with
  | nil => cases h
  | cons c s => simp at h; subst h; rfl
theorem int_back {s : List UInt8} (h : IntS s) : itoa (intV s) = s := by
  obtain ⟨h1, h2⟩ := h
  unfold intV
  cases hn : negS s
  · rw [if_neg (by simp), Go.Lib.itoa_nonneg, canon_back h1, bare_pos hn]
  · have h3 := neg_cons hn
    have h4 : decV (bareS s) ≠ 0 := fun e => h2 (by rw [h3, canon_zero h1 e])
    rw [if_pos rfl, Go.Lib.itoa_neg _ (by omega), canon_back h1, ← h3]
theorem itoa_eq (n : Int) : itoa n = if n < 0 then 45 :: decDigits n.natAbs else decDigits n.natAbs := by
  unfold itoa
  split
  · rfl
  · congr 1; omega
theorem itoa_bare (n : Int) : negS (itoa n) = decide (n < 0) ∧ bareS (itoa n) = decDigits n.natAbs := by
  rw [itoa_eq]
  by_cases h : n < 0
  · rw [if_pos h, decide_eq_true h]
    exact ⟨rfl, rfl⟩
  · rw [if_neg h, decide_eq_false h]
    have h1 := canon_pos (canon_digits n.natAbs)
    exact ⟨h1, bare_pos h1⟩
theorem int_of (n : Int) : IntS (itoa n) ∧ intV (itoa n) = n := by
  obtain ⟨h1, h2⟩ := itoa_bare n
  refine ⟨⟨h2 ▸ canon_digits _, ?_⟩, ?_⟩
  · intro e
    rw [e] at h1 h2
    have h3 : n < 0 := by
      have : negS [45, 48] = true := rfl
      rw [this] at h1
      exact of_decide_eq_true h1.symm
    have h4 : decV (bareS [45, 48]) = 0 := by rfl
    rw [h2, (digits_ok _).2.1] at h4
    omega
  · unfold intV
    rw [h1, h2, (digits_ok _).2.1]
    by_cases h : n < 0
    · rw [decide_eq_true h, if_pos rfl]; omega
    · rw [decide_eq_false h, if_neg (by simp)]; omega
def topS (a : List UInt8) : List UInt8 := a.takeWhile (· != 47)
def lowS (a : List UInt8) : List UInt8 := if 47 ∈ a then (a.dropWhile (· != 47)).tail else [49]
def fracE (a : List UInt8) : Nat :=
  if intE (topS a) = 3 ∨ intE (lowS a) = 3 then 3
  else if intE (topS a) ≠ 0 ∨ intE (lowS a) ≠ 0 then 11
  else if 47 ∉ a then 0
  else if negS (lowS a) = true ∨ decV (lowS a) ≤ 1 ∨ Nat.gcd (decV (bareS (topS a))) (decV (lowS a)) ≠ 1 then 3
  else 0
def fracQ (a : List UInt8) : Rat := mkRat (intV (topS a)) (decV (lowS a))
def fracT (q : Rat) : List UInt8 := itoa q.num ++ (if q.den = 1 then [] else 47 :: decDigits q.den)
theorem split_none {a : List UInt8} (h : 47 ∉ a) : topS a = a ∧ lowS a = [49] := by
  refine ⟨?_, by unfold lowS; rw [if_neg h]⟩
  unfold topS
  induction a with
  | nil => rfl
  | cons c a ih =>
    have h1 : c ≠ 47 := fun e => h (by rw [e]; exact List.mem_cons_self ..)
    have h2 : 47 ∉ a := fun e => h (List.mem_cons_of_mem _ e)
    rw [List.takeWhile_cons, if_pos (by simpa using h1), ih h2]
theorem split_app (s t : List UInt8) (h : 47 ∉ s) : topS (s ++ 47 :: t) = s ∧ lowS (s ++ 47 :: t) = t := by
  unfold topS lowS
  rw [if_pos (by simp)]
  induction s with
  | nil => exact ⟨by simp, by simp⟩
  | cons c s ih =>
    have h1 : c ≠ 47 := fun e => h (by rw [e]; exact List.mem_cons_self ..)
    have h2 : 47 ∉ s := fun e => h (List.mem_cons_of_mem _ e)
    obtain ⟨i1, i2⟩ := ih h2
    rw [List.cons_append, List.takeWhile_cons, if_pos (by simpa using h1), List.dropWhile_cons, if_pos (by simpa using h1), i1, i2]
    exact ⟨rfl, rfl⟩
theorem split_some {a : List UInt8} (h : 47 ∈ a) : a = topS a ++ 47 :: lowS a := by
  unfold topS lowS
  rw [if_pos h]
  induction a with
  | nil => cases h
  | cons c a ih =>
    by_cases h1 : c = 47
    · subst h1; simp
    · have h2 : 47 ∈ a := (List.mem_cons.1 h).resolve_left (fun e => h1 e.symm)
      rw [List.takeWhile_cons, if_pos (by simpa using h1), List.dropWhile_cons, if_pos (by simpa using h1), List.cons_append, ← ih h2]
theorem intE_zero {s : List UInt8} (h : intE s = 0) : IntS s ∧ (intV s).natAbs < 10 ^ 60 := by
  unfold intE at h
  split at h
  · cases h
  · rename_i h1
    split at h
    · cases h
    · rename_i h2
      have h1 : IntS s := Decidable.not_not.1 h1
      refine ⟨h1, ?_⟩
      rw [intV_abs]
      exact Nat.lt_of_lt_of_le (decV_lt h1.1.1) (Nat.pow_le_pow_right (by omega) (by omega))
theorem intE_of {n : Int} (h : n.natAbs < 10 ^ 60) : intE (itoa n) = 0 := by
  unfold intE
  rw [if_neg (not_not_intro (int_of n).1), (itoa_bare n).2, if_neg]
  have := (digits_len_le n.natAbs 60 (by omega)).2 h
  omega
theorem intE_ofNat {n : Nat} (h : n < 10 ^ 60) : intE (decDigits n) = 0 := by
  have := intE_of (n := (n : Int)) (by simpa using h)
  rwa [Go.Lib.itoa_nonneg] at this
theorem decV_one : decV [49] = 1 := rfl
theorem frac_parts {a : List UInt8} (h : fracE a = 0) : IntS (topS a) ∧ (intV (topS a)).natAbs < 10 ^ 60 ∧ CanonL (lowS a) ∧
    0 < decV (lowS a) ∧ decV (lowS a) < 10 ^ 60 ∧ Nat.gcd (intV (topS a)).natAbs (decV (lowS a)) = 1 ∧ (47 ∈ a ↔ decV (lowS a) ≠ 1) := by
  unfold fracE at h
  split at h
  · cases h
  · rename_i h1
    split at h
    · cases h
    · rename_i h2
      obtain ⟨h3, h4⟩ := intE_zero (Decidable.not_not.1 fun e => h2 (Or.inl e))
      obtain ⟨h5, h6⟩ := intE_zero (Decidable.not_not.1 fun e => h2 (Or.inr e))
      split at h
      · rename_i h7
        have h8 := (split_none h7).2
        rw [h8]
        refine ⟨h3, h4, by decide, by decide, by decide, by rw [decV_one, Nat.gcd_one_right], ?_⟩
        exact ⟨fun e => absurd e h7, fun e => absurd decV_one e⟩
      · rename_i h7
        split at h
        · cases h
        · rename_i h8
          simp only [not_or, Nat.not_le, Decidable.not_not] at h8 h7
          obtain ⟨k1, k2, k3⟩ := h8
          have k1 : negS (lowS a) = false := by simpa using k1
          have k4 := bare_pos k1
          rw [intV_abs, k4] at h6
          have k5 := h5.1
          rw [k4] at k5
          refine ⟨h3, h4, k5, by omega, h6, by rw [intV_abs]; exact k3, ⟨fun _ => by omega, fun _ => h7⟩⟩
theorem frac_num {a : List UInt8} (h : fracE a = 0) : (fracQ a).num = intV (topS a) ∧ (fracQ a).den = decV (lowS a) := by
  obtain ⟨_, _, _, h4, _, h6, _⟩ := frac_parts h
  unfold fracQ
  rw [Rat.num_mkRat, Rat.den_mkRat, if_neg (by omega), if_neg (by omega), Nat.gcd_comm, h6]
  exact ⟨by simp, by simp⟩
theorem frac_back {a : List UInt8} (h : fracE a = 0) : fracT (fracQ a) = a := by
  obtain ⟨h1, _, h3, _, _, _, h7⟩ := frac_parts h
  obtain ⟨k1, k2⟩ := frac_num h
  unfold fracT
  rw [k1, k2, int_back h1, canon_back h3]
  by_cases hs : 47 ∈ a
  · rw [if_neg (h7.1 hs)]
    exact (split_some hs).symm
  · rw [if_pos (Decidable.not_not.1 fun e => hs (h7.2 e)), List.append_nil]
    exact (split_none hs).1
theorem no_slash (n : Int) : 47 ∉ itoa n := by
  rw [itoa_eq]
  have h1 : (47 : UInt8) ∉ decDigits n.natAbs := fun h => by
    have := (digits_ok n.natAbs).1 47 h
    simp at this
  split
  · intro h
    rcases List.mem_cons.1 h with h | h
    · cases h
    · exact h1 h
  · exact h1
def FitQ (q : Rat) : Prop := q.num.natAbs < 10 ^ 60 ∧ q.den < 10 ^ 60
instance (q : Rat) : Decidable (FitQ q) := by unfold FitQ; infer_instance
theorem frac_fit {a : List UInt8} (h : fracE a = 0) : FitQ (fracQ a) := by
  obtain ⟨_, h2, _, _, h5, _, _⟩ := frac_parts h
  obtain ⟨k1, k2⟩ := frac_num h
  unfold FitQ
  rw [k1, k2]; exact ⟨h2, h5⟩
theorem frac_of {q : Rat} (h : FitQ q) : fracE (fracT q) = 0 ∧ fracQ (fracT q) = q := by
  obtain ⟨h1, h2⟩ := h
  have hr := q.reduced
  have hd := q.den_nz
  have e : topS (fracT q) = itoa q.num ∧ lowS (fracT q) = decDigits q.den ∧ (47 ∈ fracT q ↔ q.den ≠ 1) := by
    unfold fracT
    by_cases h3 : q.den = 1
    · rw [if_pos h3, List.append_nil, h3]
      obtain ⟨a, b⟩ := split_none (no_slash q.num)
      exact ⟨a, b.trans (digits_small (n := 1) (by omega)).symm, ⟨fun e => absurd e (no_slash _), fun e => absurd rfl e⟩⟩
    · rw [if_neg h3]
      obtain ⟨a, b⟩ := split_app (itoa q.num) (decDigits q.den) (no_slash q.num)
      exact ⟨a, b, ⟨fun _ => h3, fun _ => by simp⟩⟩
  obtain ⟨e1, e2, e3⟩ := e
  constructor
  · unfold fracE
    rw [e1, e2, intE_of h1, intE_ofNat h2, if_neg (by simp), if_neg (by simp), (itoa_bare q.num).2, (digits_ok _).2.1, (digits_ok _).2.1]
    split
    · rfl
    · rename_i h4
      rw [if_neg]
      have h5 := e3.1 (Decidable.not_not.1 h4)
      have h6 := canon_pos (canon_digits q.den)
      rintro (h | h | h)
      · rw [h6] at h; cases h
      · omega
      · exact h hr
  · unfold fracQ
    rw [e1, e2, (int_of _).2, (digits_ok _).2.1, Rat.mkRat_self]
theorem frac_inj {a b : List UInt8} (ha : fracE a = 0) (hb : fracE b = 0) (h : fracQ a = fracQ b) : a = b := by
  rw [← frac_back ha, ← frac_back hb, h]
def madeT (q : Rat) : List UInt8 := if FitQ q then fracT q else []
def madeE (q : Rat) : Nat := if FitQ q then 0 else 11
end Go.Proofs.YtbpjbhbbkonjlaaGreatDoor
namespace Go.Proofs.YtbpjbhbbkonjlaaGreatDoor
open Go.Lib (decDigits itoa)
def sgnI (s : Bool) (t : Nat) : Int := if s then -(t : Int) else t
def numQ (s : Bool) (t d : Nat) : Rat := mkRat (sgnI s t) d
theorem sgnI_abs (s : Bool) (t : Nat) : (sgnI s t).natAbs = t := by unfold sgnI; split <;> omega
theorem num_of {s : Bool} {t d : Nat} (hd : d ≠ 0) : (numQ s t d).num = sgnI s (t / Nat.gcd t d) ∧ (numQ s t d).den = d / Nat.gcd t d := by
  unfold numQ
  rw [Rat.num_mkRat, Rat.den_mkRat, if_neg hd, if_neg hd, sgnI_abs, Nat.gcd_comm d t]
  refine ⟨?_, rfl⟩
  unfold sgnI
  cases s
  · simp
  · have h : ((Nat.gcd t d : Nat) : Int) ∣ (t : Int) := Int.natCast_dvd_natCast.2 (Nat.gcd_dvd_left t d)
    simp only [if_true]
    rw [Int.neg_ediv_of_dvd h, ← Int.natCast_ediv]
theorem num_neg (s : Bool) (t d : Nat) : numQ (!s) t d = -numQ s t d := by
  unfold numQ
  rw [Rat.neg_mkRat]
  congr 1
  unfold sgnI
  cases s <;> simp
theorem num_same (s : Bool) (a b c d : Nat) (hb : b ≠ 0) (hd : d ≠ 0) : numQ s (a * d + c * b) (b * d) = numQ s a b + numQ s c d := by
  unfold numQ
  rw [Rat.mkRat_add_mkRat _ _ hb hd]
  congr 1
  unfold sgnI
  cases s
  · simp
  · simp only [if_true]
    rw [Int.natCast_add, Int.natCast_mul, Int.natCast_mul, Int.neg_mul, Int.neg_mul]
    omega
theorem num_less (s u : Bool) (hsu : s ≠ u) (a b c d : Nat) (hb : b ≠ 0) (hd : d ≠ 0) (h : c * b ≤ a * d) :
    numQ s (a * d - c * b) (b * d) = numQ s a b + numQ u c d := by
  unfold numQ
  rw [Rat.mkRat_add_mkRat _ _ hb hd]
  congr 1
  have hu : u = !s := by cases s <;> cases u <;> simp_all
  subst hu
  unfold sgnI
  cases s
  · simp only [Bool.not_false, if_true, Bool.false_eq_true, if_false]
    rw [Int.ofNat_sub h, Int.natCast_mul, Int.natCast_mul, Int.neg_mul]
    omega
  · simp only [Bool.not_true, if_true, Bool.false_eq_true, if_false]
    rw [Int.ofNat_sub h, Int.natCast_mul, Int.natCast_mul, Int.neg_mul]
    omega
theorem num_more (s u : Bool) (hsu : s ≠ u) (a b c d : Nat) (hb : b ≠ 0) (hd : d ≠ 0) (h : a * d ≤ c * b) :
    numQ u (c * b - a * d) (b * d) = numQ s a b + numQ u c d := by
  rw [Nat.mul_comm b d, num_less u s (fun e => hsu e.symm) c d a b hd hb h, Rat.add_comm]
theorem num_mul (s u : Bool) (a b c d : Nat) : numQ (s != u) (a * c) (b * d) = numQ s a b * numQ u c d := by
  unfold numQ
  rw [Rat.mkRat_mul_mkRat]
  congr 1
  unfold sgnI
  cases s <;> cases u <;> simp [Int.neg_mul, Int.mul_neg]
theorem num_zero {s : Bool} {t d : Nat} (hd : d ≠ 0) : numQ s t d = 0 ↔ t = 0 := by
  unfold numQ
  rw [Rat.mkRat_eq_zero hd]
  unfold sgnI
  split <;> omega
theorem num_div (s u : Bool) (a b c d : Nat) (hd : d ≠ 0) (hc : c ≠ 0) : numQ (s != u) (a * d) (b * c) = numQ s a b / numQ u c d := by
  have h1 : numQ u c d ≠ 0 := fun e => hc ((num_zero hd).1 e)
  have h2 : numQ (s != u) (a * d) (b * c) * numQ u c d = numQ s a b := by
    rw [← num_mul, Nat.mul_assoc, Nat.mul_assoc, Nat.mul_comm d c]
    unfold numQ
    have h3 : sgnI ((s != u) != u) (a * (c * d)) = sgnI s a * ((c * d : Nat) : Int) := by
      unfold sgnI
      cases s <;> cases u <;> simp [Int.neg_mul]
    rw [h3, Rat.mkRat_mul_right (Nat.mul_ne_zero hc hd)]
  rw [← h2, Rat.mul_div_cancel h1]
theorem num_text {s : Bool} {t d : Nat} (hd : d ≠ 0) : fracT (numQ s t d) =
    (if s && decide (t / Nat.gcd t d ≠ 0) then 45 :: decDigits (t / Nat.gcd t d) else decDigits (t / Nat.gcd t d)) ++
      (if d / Nat.gcd t d = 1 then [] else 47 :: decDigits (d / Nat.gcd t d)) := by
  obtain ⟨h1, h2⟩ := num_of (s := s) (t := t) hd
  unfold fracT
  rw [h1, h2, itoa_eq, sgnI_abs]
  generalize t / Nat.gcd t d = x
  congr 1
  unfold sgnI
  cases s
  · simp
  · by_cases h : x = 0
    · subst h; simp
    · rw [if_pos (by simp; omega), if_pos (by simpa using h)]
theorem num_fit {s : Bool} {t d : Nat} (hd : d ≠ 0) : FitQ (numQ s t d) ↔
    (decDigits (t / Nat.gcd t d)).length ≤ 60 ∧ (decDigits (d / Nat.gcd t d)).length ≤ 60 := by
  obtain ⟨h1, h2⟩ := num_of (s := s) (t := t) hd
  unfold FitQ
  rw [h1, h2, sgnI_abs, digits_len_le _ _ (by omega), digits_len_le _ _ (by omega)]
theorem num_sign {s : Bool} {t d : Nat} (hd : d ≠ 0) : (numQ s t d).num.sign = if t = 0 then 0 else if s then -1 else 1 := by
  obtain ⟨h1, _⟩ := num_of (s := s) (t := t) hd
  rw [h1]
  have hg : 0 < Nat.gcd t d := Nat.gcd_pos_of_pos_right t (Nat.pos_of_ne_zero hd)
  by_cases h : t = 0
  · subst h
    rw [if_pos rfl, Nat.zero_div]
    unfold sgnI
    cases s <;> rfl
  · rw [if_neg h]
    have h2 : 0 < t / Nat.gcd t d := Nat.div_pos (Nat.le_of_dvd (by omega) (Nat.gcd_dvd_left t d)) hg
    generalize t / Nat.gcd t d = x at h2
    unfold sgnI
    cases s
    · simp only [Bool.false_eq_true, if_false]
      exact Int.sign_eq_one_of_pos (by omega)
    · simp only [if_true]
      exact Int.sign_eq_neg_one_of_neg (by omega)
abbrev Num := Bool × Nat × Nat
def valQ (x : Num) : Rat := numQ x.1 x.2.1 x.2.2
def sumN (x y : Num) : Num :=
  if x.1 = y.1 then (x.1, x.2.1 * y.2.2 + y.2.1 * x.2.2, x.2.2 * y.2.2)
  else if y.2.1 * x.2.2 ≤ x.2.1 * y.2.2 then (x.1, x.2.1 * y.2.2 - y.2.1 * x.2.2, x.2.2 * y.2.2)
  else (y.1, y.2.1 * x.2.2 - x.2.1 * y.2.2, x.2.2 * y.2.2)
def negN (x : Num) : Num := (!x.1, x.2.1, x.2.2)
def mulN (x y : Num) : Num := (x.1 != y.1, x.2.1 * y.2.1, x.2.2 * y.2.2)
theorem sumN_val {x y : Num} (hx : x.2.2 ≠ 0) (hy : y.2.2 ≠ 0) : valQ (sumN x y) = valQ x + valQ y ∧ (sumN x y).2.2 ≠ 0 := by
  obtain ⟨s, a, b⟩ := x
  obtain ⟨u, c, d⟩ := y
  unfold sumN valQ
  dsimp only at *
  have hbd : b * d ≠ 0 := Nat.mul_ne_zero hx hy
  by_cases h : s = u
  · subst h
    rw [if_pos rfl]
    exact ⟨num_same s a b c d hx hy, hbd⟩
  · rw [if_neg h]
    by_cases k : c * b ≤ a * d
    · rw [if_pos k]
      exact ⟨num_less s u h a b c d hx hy k, hbd⟩
    · rw [if_neg k]
      exact ⟨num_more s u h a b c d hx hy (by omega), hbd⟩
theorem negN_val (x : Num) : valQ (negN x) = -valQ x := num_neg _ _ _
theorem mulN_val (x y : Num) : valQ (mulN x y) = valQ x * valQ y := num_mul _ _ _ _ _ _
def numOf (a : List UInt8) : Num := (negS (topS a), decV (bareS (topS a)), decV (lowS a))
theorem numOf_val (a : List UInt8) : valQ (numOf a) = fracQ a := rfl
end Go.Proofs.YtbpjbhbbkonjlaaGreatDoor
namespace Go.Proofs.YtbpjbhbbkonjlaaGreatDoor
open Go.Lib (decDigits itoa)
def FitB (K : Nat) (q : Rat) : Prop := q.num.natAbs < 10 ^ K ∧ q.den < 10 ^ K
theorem FitB.mono {K L : Nat} {q : Rat} (h : FitB K q) (hk : K ≤ L) : FitB L q :=
  ⟨Nat.lt_of_lt_of_le h.1 (Nat.pow_le_pow_right (by omega) hk), Nat.lt_of_lt_of_le h.2 (Nat.pow_le_pow_right (by omega) hk)⟩
theorem FitB.fit {K : Nat} {q : Rat} (h : FitB K q) (hk : K ≤ 60) : FitQ q := h.mono hk
theorem pow_mul_lt {a b K L : Nat} (h : a < 10 ^ K) (k : b < 10 ^ L) : a * b < 10 ^ (K + L) := by
  rw [Nat.pow_add]
  exact Nat.mul_lt_mul'' h k
theorem fit_mk {n : Int} {d K : Nat} (hd : d ≠ 0) (hn : n.natAbs < 10 ^ K) (h : d < 10 ^ K) : FitB K (mkRat n d) := by
  unfold FitB
  rw [Rat.num_mkRat, Rat.den_mkRat, if_neg hd, if_neg hd]
  exact ⟨Nat.lt_of_le_of_lt (Int.natAbs_ediv_le_natAbs _ _) hn, Nat.lt_of_le_of_lt (Nat.div_le_self _ _) h⟩
theorem FitB.mul {K L : Nat} {q r : Rat} (h : FitB K q) (k : FitB L r) : FitB (K + L) (q * r) := by
  rw [Rat.mul_def']
  refine fit_mk (Nat.mul_ne_zero q.den_nz r.den_nz) ?_ (pow_mul_lt h.2 k.2)
  rw [Int.natAbs_mul]
  exact pow_mul_lt h.1 k.1
theorem FitB.add {K L : Nat} {q r : Rat} (h : FitB K q) (k : FitB L r) : FitB (K + L + 1) (q + r) := by
  rw [Rat.add_def']
  have h1 := pow_mul_lt h.1 k.2
  have h2 := pow_mul_lt h.2 k.1
  have h3 := pow_mul_lt h.2 k.2
  have e : 10 ^ (K + L + 1) = 10 * 10 ^ (K + L) := by rw [Nat.pow_succ, Nat.mul_comm]
  refine fit_mk (Nat.mul_ne_zero q.den_nz r.den_nz) ?_ (by omega)
  have h4 := Int.natAbs_add_le (q.num * r.den) (r.num * q.den)
  rw [Int.natAbs_mul, Int.natAbs_mul] at h4
  simp only [Int.natAbs_natCast] at h4
  rw [Nat.mul_comm r.num.natAbs] at h4
  omega
theorem FitB.neg {K : Nat} {q : Rat} (h : FitB K q) : FitB K (-q) := by
  unfold FitB
  rw [Rat.neg_num, Rat.neg_den, Int.natAbs_neg]
  exact h
theorem FitB.sub {K L : Nat} {q r : Rat} (h : FitB K q) (k : FitB L r) : FitB (K + L + 1) (q - r) := by
  rw [Rat.sub_eq_add_neg]; exact h.add k.neg
theorem short_fit {a : List UInt8} (h : fracE a = 0) (hl : a.length ≤ 10) : FitB 10 (fracQ a) := by
  obtain ⟨h1, _, h3, _, _, _, h7⟩ := frac_parts h
  obtain ⟨k1, k2⟩ := frac_num h
  have hlt : (topS a).length ≤ 10 ∧ (lowS a).length ≤ 10 := by
    by_cases hs : 47 ∈ a
    · have e := congrArg List.length (split_some hs)
      rw [List.length_append, List.length_cons] at e
      omega
    · obtain ⟨a1, a2⟩ := split_none hs
      rw [a1, a2]
      exact ⟨hl, by simp⟩
  have hb : (bareS (topS a)).length ≤ (topS a).length := by
    unfold bareS
    split
    · rw [List.length_tail]; omega
    · exact Nat.le_refl _
  unfold FitB
  rw [k1, k2, intV_abs]
  exact ⟨Nat.lt_of_lt_of_le (decV_lt h1.1.1) (Nat.pow_le_pow_right (by omega) (by omega)),
    Nat.lt_of_lt_of_le (decV_lt h3.1) (Nat.pow_le_pow_right (by omega) (by omega))⟩
theorem made_fit {q : Rat} (h : FitQ q) : madeE q = 0 ∧ madeT q = fracT q := by
  unfold madeE madeT
  rw [if_pos h, if_pos h]
  exact ⟨rfl, rfl⟩
theorem made_right {q : Rat} (h : FitQ q) : fracE (madeT q) = 0 ∧ fracQ (madeT q) = q := by
  rw [(made_fit h).2]; exact frac_of h
theorem fracT_int (n : Int) : fracT (n : Rat) = itoa n := by
  unfold fracT
  rw [Rat.num_intCast, Rat.den_intCast, if_pos rfl, List.append_nil]
theorem fit_int {n : Int} {K : Nat} (hK : 0 < K) (h : n.natAbs < 10 ^ K) : FitB K (n : Rat) := by
  unfold FitB
  rw [Rat.num_intCast, Rat.den_intCast]
  refine ⟨h, ?_⟩
  have := Nat.pow_le_pow_right (n := 10) (by omega) (show 1 ≤ K by omega)
  omega
end Go.Proofs.YtbpjbhbbkonjlaaGreatDoor
namespace Go.Proofs.YtbpjbhbbkonjlaaGreatDoor
open Go.Lib (decDigits itoa)
theorem num_neg_iff {q : Rat} : q.num < 0 ↔ q < 0 := by
  rw [← Rat.not_le, ← Rat.num_nonneg]; omega
theorem sgn_zero {q r : Rat} : (q - r).num.sign = 0 ↔ q = r := by
  rw [Int.sign_eq_zero_iff_zero, Rat.num_eq_zero]
  constructor
  · intro h
    have := congrArg (· + r) h
    simp only [Rat.sub_add_cancel, Rat.zero_add] at this
    exact this
  · rintro rfl; exact Rat.sub_self
theorem sgn_lt {q r : Rat} : (q - r).num.sign < 0 ↔ q < r := by
  have h : q - r < 0 ↔ q < r := by
    rw [Rat.sub_lt_iff, Rat.zero_add]
  rw [← h, ← num_neg_iff]
  constructor
  · intro k
    exact Int.sign_neg_iff.1 k
  · intro k
    exact Int.sign_neg_iff.2 k
theorem sgn_le {q r : Rat} : (q - r).num.sign ≤ 0 ↔ q ≤ r := by
  rw [Rat.le_iff_lt_or_eq, ← sgn_lt, ← sgn_zero]
  omega
theorem sgn_swap (q r : Rat) : (r - q).num.sign = -(q - r).num.sign := by
  rw [← Rat.neg_sub, Rat.neg_num, Int.sign_neg]
end Go.Proofs.YtbpjbhbbkonjlaaGreatDoor
namespace Go.Proofs.YtbpjbhbbkonjlaaGreatDoor
open Go.Lib (decDigits itoa)
abbrev Txt := List UInt8
abbrev Res := Txt × Nat
def resQ (q : Rat) : Res := (madeT q, madeE q)
def ifOk {α : Type} (e : Nat) (bad : Nat → α) (good : α) : α := if e = 0 then good else bad e
def bothE (a b : Txt) : Nat := if fracE a = 0 then fracE b else fracE a
def badR (e : Nat) : Res := ([], e)
def addS (a b : Txt) : Res := ifOk (bothE a b) badR (resQ (fracQ a + fracQ b))
def subS (a b : Txt) : Res := ifOk (bothE a b) badR (resQ (fracQ a - fracQ b))
def mulS (a b : Txt) : Res := ifOk (bothE a b) badR (resQ (fracQ a * fracQ b))
def cmpS (a b : Txt) : Int × Nat := ifOk (bothE a b) (fun e => (0, e)) ((fracQ a - fracQ b).num.sign, 0)
def signS (a : Txt) : Int × Nat := ifOk (fracE a) (fun e => (0, e)) ((fracQ a).num.sign, 0)
def negR (a : Txt) : Res := ifOk (fracE a) badR (fracT (-fracQ a), 0)
def makeR (s t : Txt) : Res := ifOk (intE s) badR (ifOk (intE t) badR (if t = [48] then ([], 10) else resQ ((intV s : Rat) / (intV t : Rat))))
theorem int_div {z y : Int} (hy : y ≠ 0) : numQ (decide (z < 0) != decide (y < 0)) z.natAbs y.natAbs = (z : Rat) / (y : Rat) := by
  have key : ∀ x : Int, (x : Rat) = numQ (decide (x < 0)) x.natAbs 1 := fun x => by
    apply Rat.ext
    · rw [(num_of (by omega)).1, Rat.num_intCast, Nat.gcd_one_right, Nat.div_one]
      unfold sgnI
      by_cases h : x < 0
      · rw [decide_eq_true h, if_pos rfl]; omega
      · rw [decide_eq_false h, if_neg (by simp)]; omega
    · rw [(num_of (by omega)).2, Rat.den_intCast, Nat.gcd_one_right, Nat.div_one]
  rw [key z, key y, ← num_div _ _ _ _ _ _ (by omega) (by omega), Nat.mul_one, Nat.one_mul]
theorem int_zero {s : Txt} (h : IntS s) : s = [48] ↔ intV s = 0 := by
  constructor
  · rintro rfl; rfl
  · intro e
    rw [← int_back h, e]
    exact (Go.Lib.itoa_nonneg 0).trans (digits_small (by omega))
end Go.Proofs.YtbpjbhbbkonjlaaGreatDoor
namespace Go.Proofs.YtbpjbhbbkonjlaaGreatDoor
open Go.Lib (decDigits itoa)
structure Good (K : Nat) (t : Txt) (q : Rat) : Prop where
  ok : fracE t = 0
  val : fracQ t = q
  fit : FitB K q
theorem Good.short {a : Txt} (h : fracE a = 0) (hl : a.length ≤ 10) : Good 10 a (fracQ a) := ⟨h, rfl, short_fit h hl⟩
theorem Good.of {K : Nat} {q : Rat} (h : FitB K q) (hK : K ≤ 60) : resQ q = (fracT q, 0) ∧ Good K (fracT q) q := by
  obtain ⟨h1, h2⟩ := made_fit (h.fit hK)
  obtain ⟨h3, h4⟩ := frac_of (h.fit hK)
  exact ⟨by unfold resQ; rw [h1, h2], ⟨h3, h4, h⟩⟩
theorem Good.both {K L : Nat} {s t : Txt} {q r : Rat} (h : Good K s q) (k : Good L t r) : bothE s t = 0 := by
  unfold bothE; rw [if_pos h.ok]; exact k.ok
theorem Good.add {K L : Nat} {s t : Txt} {q r : Rat} (h : Good K s q) (k : Good L t r) (hK : K + L + 1 ≤ 60) : addS s t = (fracT (q + r), 0) ∧ Good (K + L + 1) (fracT (q + r)) (q + r) := by
  obtain ⟨h1, h2⟩ := Good.of (h.fit.add k.fit) hK
  refine ⟨?_, h2⟩
  unfold addS ifOk
  rw [if_pos (h.both k), h.val, k.val, h1]
theorem Good.sub {K L : Nat} {s t : Txt} {q r : Rat} (h : Good K s q) (k : Good L t r) (hK : K + L + 1 ≤ 60) : subS s t = (fracT (q - r), 0) ∧ Good (K + L + 1) (fracT (q - r)) (q - r) := by
  obtain ⟨h1, h2⟩ := Good.of (h.fit.sub k.fit) hK
  refine ⟨?_, h2⟩
  unfold subS ifOk
  rw [if_pos (h.both k), h.val, k.val, h1]
theorem Good.mul {K L : Nat} {s t : Txt} {q r : Rat} (h : Good K s q) (k : Good L t r) (hK : K + L ≤ 60) : mulS s t = (fracT (q * r), 0) ∧ Good (K + L) (fracT (q * r)) (q * r) := by
  obtain ⟨h1, h2⟩ := Good.of (h.fit.mul k.fit) hK
  refine ⟨?_, h2⟩
  unfold mulS ifOk
  rw [if_pos (h.both k), h.val, k.val, h1]
theorem int_good {n : Int} {K : Nat} (hK : 0 < K) (h60 : K ≤ 60) (h : n.natAbs < 10 ^ K) : Good K (itoa n) (n : Rat) := by
  rw [← fracT_int]
  exact (Good.of (fit_int hK h) h60).2
theorem zero_good : Good 1 [48] 0 := by
  have h := int_good (n := 0) (K := 1) (by omega) (by omega) (by decide)
  rwa [show itoa 0 = [48] from (Go.Lib.itoa_nonneg 0).trans (digits_small (by omega)), Rat.intCast_zero] at h
theorem Good.inj {K L : Nat} {s t : Txt} {q : Rat} (h : Good K s q) (k : Good L t q) : s = t := frac_inj h.ok k.ok (h.val.trans k.val.symm)
theorem Good.zero {K : Nat} {s : Txt} {q : Rat} (h : Good K s q) : s = [48] ↔ q = 0 := by
  constructor
  · rintro rfl; rw [← h.val]; exact zero_good.val
  · rintro rfl; exact h.inj zero_good
theorem Good.neg {K : Nat} {s : Txt} {q : Rat} (h : Good K s q) (hK : K ≤ 60) : negR s = (fracT (-q), 0) ∧ Good K (fracT (-q)) (-q) := by
  refine ⟨?_, (Good.of h.fit.neg hK).2⟩
  unfold negR ifOk
  rw [if_pos h.ok, h.val]
theorem Good.sign {K : Nat} {s : Txt} {q : Rat} (h : Good K s q) : signS s = (q.num.sign, 0) := by
  unfold signS ifOk
  rw [if_pos h.ok, h.val]
end Go.Proofs.YtbpjbhbbkonjlaaGreatDoor
namespace Go.Proofs.YtbpjbhbbkonjlaaGreatDoor
open Go.Lib (decDigits itoa)
abbrev Enc := Txt × Txt
abbrev EncR := Enc × Nat
def ordQ (a b : Txt) : Int := (fracQ a - fracQ b).num.sign
def encE (a : Enc) : Nat := if bothE a.1 a.2 = 0 then (if 0 < ordQ a.1 a.2 then 9 else 0) else bothE a.1 a.2
def bothEE (a b : Enc) : Nat := if encE a = 0 then encE b else encE a
def badEnc (e : Nat) : EncR := (([], []), e)
def endsR (r s : Res) : EncR := if r.2 ≠ 0 then badEnc r.2 else if s.2 ≠ 0 then badEnc s.2 else ((r.1, s.1), 0)
def inE (a : Enc) (x : Txt) : Bool := decide (ordQ a.1 x ≤ 0) && decide (ordQ x a.2 ≤ 0)
def containsE (a : Enc) (x : Txt) : Bool × Nat := if encE a ≠ 0 then (false, encE a) else if fracE x ≠ 0 then (false, fracE x) else (inE a x, 0)
def sureE (a b : Enc) : Int := if ordQ a.2 b.1 < 0 then -1 else if 0 < ordQ a.1 b.2 then 1 else 0
def compareE (a b : Enc) : Int × Nat := if bothEE a b ≠ 0 then (0, bothEE a b) else (sureE a b, 0)
def widthE (a : Enc) : Res := if encE a ≠ 0 then badR (encE a) else subS a.2 a.1
def withinE (a b : Enc) : Bool × Nat := if bothEE a b ≠ 0 then (false, bothEE a b) else (decide (ordQ b.1 a.1 ≤ 0) && decide (ordQ a.2 b.2 ≤ 0), 0)
def ofE (l h : Txt) : EncR := if encE (l, h) ≠ 0 then badEnc (encE (l, h)) else ((l, h), 0)
def pointE (x : Txt) : EncR := if fracE x ≠ 0 then badEnc (fracE x) else ((x, x), 0)
def lowHull (a b : Enc) : Txt := if ordQ b.1 a.1 < 0 then b.1 else a.1
def highHull (a b : Enc) : Txt := if 0 < ordQ b.2 a.2 then b.2 else a.2
def hullE (a b : Enc) : EncR := if bothEE a b ≠ 0 then badEnc (bothEE a b) else ((lowHull a b, highHull a b), 0)
def lowMeet (a b : Enc) : Txt := if 0 < ordQ b.1 a.1 then b.1 else a.1
def highMeet (a b : Enc) : Txt := if ordQ b.2 a.2 < 0 then b.2 else a.2
def commonE (a b : Enc) : Enc × Bool := if 0 < ordQ (lowMeet a b) (highMeet a b) then (([], []), false) else ((lowMeet a b, highMeet a b), true)
def meetE (a b : Enc) : Enc × Bool × Nat := if bothEE a b ≠ 0 then (([], []), false, bothEE a b) else ((commonE a b).1, (commonE a b).2, 0)
def addE (a b : Enc) : EncR := if bothEE a b ≠ 0 then badEnc (bothEE a b) else endsR (addS a.1 b.1) (addS a.2 b.2)
def subE (a b : Enc) : EncR := if bothEE a b ≠ 0 then badEnc (bothEE a b) else endsR (subS a.1 b.2) (subS a.2 b.1)
def LenE (a : Enc) : Prop := a.1.length ≤ 400 ∧ a.2.length ≤ 400
theorem enc_right {a : Enc} (h : encE a = 0) : fracE a.1 = 0 ∧ fracE a.2 = 0 ∧ ordQ a.1 a.2 ≤ 0 := by
  unfold encE at h
  by_cases hb : bothE a.1 a.2 = 0
  · rw [if_pos hb] at h
    have h2 : fracE a.1 = 0 ∧ fracE a.2 = 0 := by
      unfold bothE at hb
      by_cases k : fracE a.1 = 0
      · rw [if_pos k] at hb; exact ⟨k, hb⟩
      · rw [if_neg k] at hb; exact absurd hb k
    refine ⟨h2.1, h2.2, ?_⟩
    by_cases h3 : 0 < ordQ a.1 a.2
    · rw [if_pos h3] at h; cases h
    · omega
  · rw [if_neg hb] at h
    exact absurd h hb
end Go.Proofs.YtbpjbhbbkonjlaaGreatDoor
namespace Go.Proofs.YtbpjbhbbkonjlaaGreatDoor
open Go.Lib (decDigits itoa)
def lo2 (x y : Rat) : Rat := if y < x then y else x
def hi2 (x y : Rat) : Rat := if x < y then y else x
def lo4 (a b c d : Rat) : Rat := lo2 (lo2 (lo2 a b) c) d
def hi4 (a b c d : Rat) : Rat := hi2 (hi2 (hi2 a b) c) d
theorem lo4_is {p a b c d : Rat} (ha : p ≤ a) (hb : p ≤ b) (hc : p ≤ c) (hd : p ≤ d) (h : p = a ∨ p = b ∨ p = c ∨ p = d) : lo4 a b c d = p := by
  unfold lo4 lo2; grind
theorem hi4_is {p a b c d : Rat} (ha : a ≤ p) (hb : b ≤ p) (hc : c ≤ p) (hd : d ≤ p) (h : p = a ∨ p = b ∨ p = c ∨ p = d) : hi4 a b c d = p := by
  unfold hi4 hi2; grind
theorem lo4_le (a b c d : Rat) : lo4 a b c d ≤ a ∧ lo4 a b c d ≤ b ∧ lo4 a b c d ≤ c ∧ lo4 a b c d ≤ d ∧ (lo4 a b c d = a ∨ lo4 a b c d = b ∨ lo4 a b c d = c ∨ lo4 a b c d = d) := by
  unfold lo4 lo2; grind
theorem le_hi4 (a b c d : Rat) : a ≤ hi4 a b c d ∧ b ≤ hi4 a b c d ∧ c ≤ hi4 a b c d ∧ d ≤ hi4 a b c d ∧ (hi4 a b c d = a ∨ hi4 a b c d = b ∨ hi4 a b c d = c ∨ hi4 a b c d = d) := by
  unfold hi4 hi2; grind
theorem mul_le {x y c : Rat} (h : x ≤ y) (hc : 0 ≤ c) : x * c ≤ y * c := by
  have := Rat.mul_nonneg (show 0 ≤ y - x by grind) hc
  grind
theorem mul_ge {x y c : Rat} (h : x ≤ y) (hc : c ≤ 0) : y * c ≤ x * c := by
  have := Rat.mul_nonneg (show 0 ≤ y - x by grind) (show 0 ≤ -c by grind)
  grind
theorem ends1 {a A b B : Rat} (h : a ≤ A) (k : b ≤ B) (hb : 0 ≤ b) :
    lo4 (a * b) (a * B) (A * b) (A * B) = a * (if a < 0 then B else b) ∧ hi4 (a * b) (a * B) (A * b) (A * B) = A * (if A < 0 then b else B) := by
  have h1 := mul_le h hb
  have h2 := mul_le h (Rat.le_trans hb k)
  have h3 : 0 ≤ a → a * b ≤ a * B := fun e => by have := mul_le k e; grind
  have h4 : a ≤ 0 → a * B ≤ a * b := fun e => by have := mul_ge k e; grind
  have h5 : 0 ≤ A → A * b ≤ A * B := fun e => by have := mul_le k e; grind
  have h6 : A ≤ 0 → A * B ≤ A * b := fun e => by have := mul_ge k e; grind
  constructor
  · split <;> exact lo4_is (by grind) (by grind) (by grind) (by grind) (by grind)
  · split <;> exact hi4_is (by grind) (by grind) (by grind) (by grind) (by grind)
theorem ends2 {a A b B : Rat} (h : a ≤ A) (k : b ≤ B) (hb : B ≤ 0) :
    lo4 (a * b) (a * B) (A * b) (A * B) = A * (if A < 0 then B else b) ∧ hi4 (a * b) (a * B) (A * b) (A * B) = a * (if a < 0 then b else B) := by
  have h1 := mul_ge h hb
  have h2 := mul_ge h (Rat.le_trans k hb)
  have h3 : 0 ≤ a → a * b ≤ a * B := fun e => by have := mul_le k e; grind
  have h4 : a ≤ 0 → a * B ≤ a * b := fun e => by have := mul_ge k e; grind
  have h5 : 0 ≤ A → A * b ≤ A * B := fun e => by have := mul_le k e; grind
  have h6 : A ≤ 0 → A * B ≤ A * b := fun e => by have := mul_ge k e; grind
  constructor
  · split <;> exact lo4_is (by grind) (by grind) (by grind) (by grind) (by grind)
  · split <;> exact hi4_is (by grind) (by grind) (by grind) (by grind) (by grind)
theorem ends3 {a A b B : Rat} (h : a ≤ A) (k : b ≤ B) (hb : b ≤ 0) (hB : 0 ≤ B) (ha : 0 ≤ a) :
    lo4 (a * b) (a * B) (A * b) (A * B) = A * b ∧ hi4 (a * b) (a * B) (A * b) (A * B) = A * B := by
  have h1 := mul_ge h hb
  have h2 := mul_le h hB
  have h3 := mul_le k ha
  have h4 := mul_le k (Rat.le_trans ha h)
  exact ⟨lo4_is (by grind) (by grind) (by grind) (by grind) (by grind), hi4_is (by grind) (by grind) (by grind) (by grind) (by grind)⟩
theorem ends4 {a A b B : Rat} (h : a ≤ A) (k : b ≤ B) (hb : b ≤ 0) (hB : 0 ≤ B) (ha : A ≤ 0) :
    lo4 (a * b) (a * B) (A * b) (A * B) = a * B ∧ hi4 (a * b) (a * B) (A * b) (A * B) = a * b := by
  have h1 := mul_ge h hb
  have h2 := mul_le h hB
  have h3 := mul_ge k ha
  have h4 := mul_ge k (Rat.le_trans h ha)
  exact ⟨lo4_is (by grind) (by grind) (by grind) (by grind) (by grind), hi4_is (by grind) (by grind) (by grind) (by grind) (by grind)⟩
theorem ends5 {a A b B : Rat} (hb : b ≤ 0) (hB : 0 ≤ B) (ha : a ≤ 0) (hA : 0 ≤ A) :
    lo4 (a * b) (a * B) (A * b) (A * B) = (if A * b < a * B then A * b else a * B) ∧ hi4 (a * b) (a * B) (A * b) (A * B) = (if a * b < A * B then A * B else a * b) := by
  have h1 := mul_ge ha hb
  have h2 := mul_le ha hB
  have h3 := mul_ge hA hb
  have h4 := mul_le hA hB
  constructor
  · split <;> exact lo4_is (by grind) (by grind) (by grind) (by grind) (by grind)
  · split <;> exact hi4_is (by grind) (by grind) (by grind) (by grind) (by grind)
theorem negS_top (a : Txt) : negS (topS a) = negS a := by
  unfold negS topS
  cases a with
  | nil => rfl
  | cons c a =>
    rw [List.takeWhile_cons]
    split
    · rfl
    · rename_i h
      have : c = 47 := by simpa using h
      subst this
      rfl
theorem negS_right {a : Txt} (h : fracE a = 0) : negS a = decide (fracQ a < 0) := by
  obtain ⟨⟨h1, h2⟩, _, _, _, _, _, _⟩ := frac_parts h
  obtain ⟨k1, _⟩ := frac_num h
  rw [← negS_top a]
  have e : fracQ a < 0 ↔ intV (topS a) < 0 := by rw [← num_neg_iff, k1]
  generalize topS a = s at *
  unfold intV at e
  cases hn : negS s
  · rw [hn] at e
    symm
    rw [decide_eq_false_iff_not, e]
    simp
  · rw [hn, if_pos rfl] at e
    symm
    rw [decide_eq_true_iff, e]
    have h4 : decV (bareS s) ≠ 0 := fun e => h2 (by rw [neg_cons hn, canon_zero h1 e])
    omega
theorem zero_right {a : Txt} (h : fracE a = 0) : (a == [48]) = decide (fracQ a = 0) := by
  by_cases e : a = [48]
  · subst e
    rw [decide_eq_true (by decide)]
    rfl
  · rw [decide_eq_false (fun k => e (frac_inj h (by decide) (by rw [k]; decide))), beq_eq_false_iff_ne]
    exact e
def prodLo (a b : Enc) : Rat := lo4 (fracQ a.1 * fracQ b.1) (fracQ a.1 * fracQ b.2) (fracQ a.2 * fracQ b.1) (fracQ a.2 * fracQ b.2)
def prodHi (a b : Enc) : Rat := hi4 (fracQ a.1 * fracQ b.1) (fracQ a.1 * fracQ b.2) (fracQ a.2 * fracQ b.1) (fracQ a.2 * fracQ b.2)
def has0 (b : Enc) : Bool := decide (fracQ b.1 ≤ 0) && decide (0 ≤ fracQ b.2)
def mulE (a b : Enc) : EncR := if bothEE a b ≠ 0 then badEnc (bothEE a b) else endsR (resQ (prodLo a b)) (resQ (prodHi a b))
def sqLo (a : Enc) : Rat := if has0 a then 0 else lo2 (fracQ a.1 * fracQ a.1) (fracQ a.2 * fracQ a.2)
def sqHi (a : Enc) : Rat := hi2 (fracQ a.1 * fracQ a.1) (fracQ a.2 * fracQ a.2)
def squareE (a : Enc) : EncR := if encE a ≠ 0 then badEnc (encE a) else endsR (resQ (sqLo a)) (resQ (sqHi a))
theorem mulS_right {a b : Txt} (ha : fracE a = 0) (hb : fracE b = 0) : mulS a b = resQ (fracQ a * fracQ b) := by
  unfold mulS ifOk bothE
  rw [if_pos ha, if_pos hb]
theorem enc_le {a : Enc} (h : encE a = 0) : fracQ a.1 ≤ fracQ a.2 := sgn_le.1 (enc_right h).2.2
end Go.Proofs.YtbpjbhbbkonjlaaGreatDoor
namespace Go.Proofs.YtbpjbhbbkonjlaaGreatDoor
open Go.Lib (decDigits itoa)
structure RightP (p : Txt × Txt) : Prop where
  x : fracE p.1 = 0
  y : fracE p.2 = 0
theorem resQ_right {q : Rat} (h : (resQ q).2 = 0) : fracE (resQ q).1 = 0 ∧ fracQ (resQ q).1 = q ∧ (resQ q).1 = fracT q ∧ FitQ q := by
  unfold resQ madeE at h
  dsimp only at h
  by_cases hf : FitQ q
  · have k := made_right hf
    exact ⟨k.1, k.2, (made_fit hf).2, hf⟩
  · rw [if_neg hf] at h; cases h
theorem len_right {a : Txt} (h : fracE a = 0) : a.length ≤ 400 := by
  obtain ⟨h1, h2, h3, h4, h5, _, _⟩ := frac_parts h
  have hb : (bareS (topS a)).length ≤ 60 := by
    rw [← canon_back h1.1]
    rw [intV_abs] at h2
    exact (digits_len_le _ 60 (by omega)).2 h2
  have hd : (lowS a).length ≤ 60 := by
    rw [← canon_back h3]
    exact (digits_len_le _ 60 (by omega)).2 h5
  have ht : (topS a).length ≤ (bareS (topS a)).length + 1 := by
    unfold bareS
    split
    · rw [List.length_tail]; omega
    · omega
  by_cases hs : 47 ∈ a
  · have e := congrArg List.length (split_some hs)
    rw [List.length_append, List.length_cons] at e
    omega
  · have e := (split_none hs).1
    rw [e] at ht hb
    omega
theorem ord_lt {a b : Txt} : ordQ a b < 0 ↔ fracQ a < fracQ b := sgn_lt
theorem ord_gt {a b : Txt} : 0 < ordQ a b ↔ fracQ b < fracQ a := by
  unfold ordQ
  rw [← sgn_lt, sgn_swap]; omega
theorem ord_le' {a b : Txt} : ordQ a b ≤ 0 ↔ fracQ a ≤ fracQ b := sgn_le
theorem prod_le (a b : Enc) : prodLo a b ≤ prodHi a b := by
  unfold prodLo prodHi
  have h1 := lo4_le (fracQ a.1 * fracQ b.1) (fracQ a.1 * fracQ b.2) (fracQ a.2 * fracQ b.1) (fracQ a.2 * fracQ b.2)
  have h2 := le_hi4 (fracQ a.1 * fracQ b.1) (fracQ a.1 * fracQ b.2) (fracQ a.2 * fracQ b.1) (fracQ a.2 * fracQ b.2)
  exact Rat.le_trans h1.1 h2.1
end Go.Proofs.YtbpjbhbbkonjlaaGreatDoor
namespace Go.Proofs.YtbpjbhbbkonjlaaGreatDoor
open Go.Lib (decDigits itoa)
structure GoodE (K : Nat) (a : Enc) (p q : Rat) : Prop where
  lo : Good K a.1 p
  hi : Good K a.2 q
  le : p ≤ q
def ShortR (a : Enc) : Prop := encE a = 0 ∧ a.1.length ≤ 10 ∧ a.2.length ≤ 10
theorem ShortR.good {a : Enc} (h : ShortR a) : GoodE 10 a (fracQ a.1) (fracQ a.2) :=
  ⟨Good.short (enc_right h.1).1 h.2.1, Good.short (enc_right h.1).2.1 h.2.2, enc_le h.1⟩
theorem GoodE.ok {K : Nat} {a : Enc} {p q : Rat} (h : GoodE K a p q) : encE a = 0 := by
  unfold encE bothE
  rw [if_pos h.lo.ok, if_pos h.hi.ok, if_neg]
  rw [ord_gt, h.lo.val, h.hi.val]
  have := h.le
  grind
theorem GoodE.both {K L : Nat} {a b : Enc} {p q r s : Rat} (h : GoodE K a p q) (k : GoodE L b r s) : bothEE a b = 0 := by
  unfold bothEE; rw [if_pos h.ok]; exact k.ok
def encT (p q : Rat) : Enc := (fracT p, fracT q)
theorem GoodE.of {K : Nat} {p q : Rat} (h : FitB K p) (k : FitB K q) (hK : K ≤ 60) (hl : p ≤ q) : endsR (resQ p) (resQ q) = (encT p q, 0) ∧ GoodE K (encT p q) p q := by
  obtain ⟨h1, h2⟩ := Good.of h hK
  obtain ⟨k1, k2⟩ := Good.of k hK
  refine ⟨?_, ⟨h2, k2, hl⟩⟩
  rw [h1, k1]; rfl
theorem add_le {p q r s : Rat} (h : p ≤ q) (k : r ≤ s) : p + r ≤ q + s := by grind
theorem sub_le {p q r s : Rat} (h : p ≤ q) (k : r ≤ s) : p - s ≤ q - r := by grind
theorem GoodE.add {K L : Nat} {a b : Enc} {p q r s : Rat} (h : GoodE K a p q) (k : GoodE L b r s) (hK : K + L + 1 ≤ 60) :
    addE a b = (encT (p + r) (q + s), 0) ∧ GoodE (K + L + 1) (encT (p + r) (q + s)) (p + r) (q + s) := by
  obtain ⟨h1, h2⟩ := h.lo.add k.lo hK
  obtain ⟨k1, k2⟩ := h.hi.add k.hi hK
  refine ⟨?_, ⟨h2, k2, add_le h.le k.le⟩⟩
  unfold addE
  rw [if_neg (not_not_intro (h.both k)), h1, k1]; rfl
theorem GoodE.sub {K L : Nat} {a b : Enc} {p q r s : Rat} (h : GoodE K a p q) (k : GoodE L b r s) (hK : K + L + 1 ≤ 60) :
    subE a b = (encT (p - s) (q - r), 0) ∧ GoodE (K + L + 1) (encT (p - s) (q - r)) (p - s) (q - r) := by
  obtain ⟨h1, h2⟩ := h.lo.sub k.hi hK
  obtain ⟨k1, k2⟩ := h.hi.sub k.lo hK
  refine ⟨?_, ⟨h2, k2, sub_le h.le k.le⟩⟩
  unfold subE
  rw [if_neg (not_not_intro (h.both k)), h1, k1]; rfl
theorem fit_lo4 {K : Nat} {a b c d : Rat} (ha : FitB K a) (hb : FitB K b) (hc : FitB K c) (hd : FitB K d) : FitB K (lo4 a b c d) := by
  rcases (lo4_le a b c d).2.2.2.2 with e | e | e | e <;> rw [e] <;> assumption
theorem fit_hi4 {K : Nat} {a b c d : Rat} (ha : FitB K a) (hb : FitB K b) (hc : FitB K c) (hd : FitB K d) : FitB K (hi4 a b c d) := by
  rcases (le_hi4 a b c d).2.2.2.2 with e | e | e | e <;> rw [e] <;> assumption
theorem GoodE.mul {K L : Nat} {a b : Enc} {p q r s : Rat} (h : GoodE K a p q) (k : GoodE L b r s) (hK : K + L ≤ 60) :
    mulE a b = (encT (prodLo a b) (prodHi a b), 0) ∧ GoodE (K + L) (encT (prodLo a b) (prodHi a b)) (prodLo a b) (prodHi a b) := by
  have e1 := h.lo.val
  have e2 := h.hi.val
  have e3 := k.lo.val
  have e4 := k.hi.val
  have f1 : FitB (K + L) (prodLo a b) := by
    unfold prodLo; rw [e1, e2, e3, e4]
    exact fit_lo4 (h.lo.fit.mul k.lo.fit) (h.lo.fit.mul k.hi.fit) (h.hi.fit.mul k.lo.fit) (h.hi.fit.mul k.hi.fit)
  have f2 : FitB (K + L) (prodHi a b) := by
    unfold prodHi; rw [e1, e2, e3, e4]
    exact fit_hi4 (h.lo.fit.mul k.lo.fit) (h.lo.fit.mul k.hi.fit) (h.hi.fit.mul k.lo.fit) (h.hi.fit.mul k.hi.fit)
  obtain ⟨h1, h2⟩ := GoodE.of f1 f2 hK (prod_le a b)
  refine ⟨?_, h2⟩
  unfold mulE
  rw [if_neg (not_not_intro (h.both k)), h1]
theorem GoodE.contains {K L : Nat} {a : Enc} {x : Txt} {p q r : Rat} (h : GoodE K a p q) (k : Good L x r) (h1 : p ≤ r) (h2 : r ≤ q) : containsE a x = (true, 0) := by
  unfold containsE inE
  rw [if_neg (not_not_intro h.ok), if_neg (not_not_intro k.ok), decide_eq_true, decide_eq_true]
  · rfl
  · rw [ord_le', h.hi.val, k.val]; exact h2
  · rw [ord_le', h.lo.val, k.val]; exact h1
theorem GoodE.mono {K L : Nat} {a : Enc} {p q : Rat} (h : GoodE K a p q) (hk : K ≤ L) : GoodE L a p q := ⟨⟨h.lo.ok, h.lo.val, h.lo.fit.mono hk⟩, ⟨h.hi.ok, h.hi.val, h.hi.fit.mono hk⟩, h.le⟩
theorem GoodE.hull {K : Nat} {a b : Enc} {p q r s : Rat} (h : GoodE K a p q) (k : GoodE K b r s) :
    hullE a b = ((lowHull a b, highHull a b), 0) ∧ GoodE K (lowHull a b, highHull a b) (lo2 p r) (hi2 q s) := by
  have e1 : ordQ b.1 a.1 < 0 ↔ r < p := by rw [ord_lt, h.lo.val, k.lo.val]
  have e2 : 0 < ordQ b.2 a.2 ↔ q < s := by rw [ord_gt, h.hi.val, k.hi.val]
  have hl := h.le
  have kl := k.le
  refine ⟨by unfold hullE; rw [if_neg (not_not_intro (h.both k))], ?_, ?_, ?_⟩
  · unfold lowHull lo2; dsimp only; simp only [e1]
    split
    · exact k.lo
    · exact h.lo
  · unfold highHull hi2; dsimp only; simp only [e2]
    split
    · exact k.hi
    · exact h.hi
  · unfold lo2 hi2; grind
end Go.Proofs.YtbpjbhbbkonjlaaGreatDoor
namespace Go.Proofs.YtbpjbhbbkonjlaaGreatDoor
open Go.Lib (decDigits itoa)
theorem num_den (p : Rat) : (p.num : Rat) = p * (p.den : Rat) := by
  have := Rat.mkRat_self p
  rw [Rat.mkRat_eq_div] at this
  have hd : (p.den : Rat) ≠ 0 := by exact_mod_cast p.den_nz
  grind
end Go.Proofs.YtbpjbhbbkonjlaaGreatDoor
namespace Go.Proofs.YtbpjbhbbkonjlaaGreatDoor
open Go.Lib (decDigits itoa)
theorem Good.len {K : Nat} {t : Txt} {q : Rat} (h : Good K t q) : t.length ≤ 400 := len_right h.ok
theorem GoodE.len {K : Nat} {a : Enc} {p q : Rat} (h : GoodE K a p q) : LenE a := ⟨h.lo.len, h.hi.len⟩
structure InR (r : EncR) (o : Res) : Prop where
  e : r.2 = 0
  f : o.2 = 0
  c : containsE r.1 o.1 = (true, 0)
  l : LenE r.1
  m : o.1.length ≤ 400
structure NarR (r s : EncR) : Prop where
  e : r.2 = 0
  f : s.2 = 0
  c : withinE r.1 s.1 = (true, 0)
  l : LenE r.1
  m : LenE s.1
structure Narrow (a b n : Enc) : Prop where
  len : LenE n
  inn : withinE n a = (true, 0)
  ab : (compareE a b).2 = 0
  nb : (compareE n b).2 = 0
  same : (compareE a b).1 ≠ 0 → (compareE n b).1 = (compareE a b).1
  add : NarR (addE n b) (addE a b)
  sub : NarR (subE n b) (subE a b)
  mul : NarR (mulE n b) (mulE a b)
  hull : NarR (hullE n b) (hullE a b)
structure MeetsR (a b : Enc) : Prop where
  e : (meetE a b).2.2 = 0
  f : (hullE a b).2 = 0
  g : (compareE a b).2 = 0
  i : (compareE b a).2 = 0
  ok : (meetE a b).2.1 = decide ((compareE a b).1 = 0)
  n : (compareE b a).1 = -(compareE a b).1
  ha : withinE a (hullE a b).1 = (true, 0)
  hb : withinE b (hullE a b).1 = (true, 0)
  ca : (meetE a b).2.1 = true → withinE (meetE a b).1 a = (true, 0)
  cb : (meetE a b).2.1 = true → withinE (meetE a b).1 b = (true, 0)
  lh : LenE (hullE a b).1
  lm : LenE (meetE a b).1
structure SelfR (a b : Enc) : Prop where
  e : (squareE a).2 = 0
  f : (mulE a a).2 = 0
  w : withinE (squareE a).1 (mulE a a).1 = (true, 0)
  h : (signS (squareE a).1.1).2 = 0
  n : 0 ≤ (signS (squareE a).1.1).1
  i : (addE a b).2 = 0
  j : (widthE a).2 = 0
  k : (widthE b).2 = 0
  l : (widthE (addE a b).1).2 = 0
  m : (addS (widthE a).1 (widthE b).1).2 = 0
  z : (addS (widthE a).1 (widthE b).1).1 = (widthE (addE a b).1).1
  l1 : LenE (squareE a).1
  l2 : LenE (mulE a a).1
  l3 : LenE (addE a b).1
  l4 : (widthE a).1.length ≤ 400
  l5 : (widthE b).1.length ≤ 400
end Go.Proofs.YtbpjbhbbkonjlaaGreatDoor
namespace Go.Proofs.YtbpjbhbbkonjlaaGreatDoor
open Go.Lib (decDigits itoa)
structure Cyl where
  bore : Int
  rod : Int
  stroke : Int
def cylB (c : Cyl) : Bool := decide (c.bore < 1) || decide (500 < c.bore) || decide (c.rod < 0) || decide (c.bore ≤ c.rod) || decide (c.stroke < 1) || decide (3000 < c.stroke)
def presB (p : Int) : Bool := decide (p < 1) || decide (2000 < p)
def cylE (c : Cyl) : Nat := if cylB c = true then 2 else 0
def presE (c : Cyl) (p : Int) : Nat := if cylE c ≠ 0 then cylE c else if presB p = true then 2 else 0
structure CylOk (c : Cyl) : Prop where
  b1 : 1 ≤ c.bore
  b2 : c.bore ≤ 500
  r1 : 0 ≤ c.rod
  r2 : c.rod < c.bore
  s1 : 1 ≤ c.stroke
  s2 : c.stroke ≤ 3000
theorem cylOk_of {c : Cyl} (h : cylE c = 0) : CylOk c := by
  unfold cylE cylB at h
  split at h
  · cases h
  · rename_i g
    simp only [Bool.or_eq_true, decide_eq_true_eq, not_or] at g
    exact ⟨by omega, by omega, by omega, by omega, by omega, by omega⟩
theorem presOk_of {c : Cyl} {p : Int} (h : presE c p = 0) : CylOk c ∧ 1 ≤ p ∧ p ≤ 2000 := by
  unfold presE at h
  split at h
  · rename_i g; exact absurd h g
  · rename_i g
    split at h
    · cases h
    · rename_i g2
      unfold presB at g2
      simp only [Bool.or_eq_true, decide_eq_true_eq, not_or] at g2
      exact ⟨cylOk_of (by omega), by omega, by omega⟩
theorem intCast_div (n d : Int) (hd : 0 < d) : (n : Rat) / (d : Rat) = mkRat n d.toNat := by
  rw [Rat.mkRat_eq_div]
  congr 1
  have : ((d.toNat : Int) : Rat) = (d : Rat) := by rw [Int.toNat_of_nonneg (by omega)]
  exact_mod_cast this.symm
theorem quo_good {n d : Int} {K : Nat} (hd : 0 < d) (h1 : n.natAbs < 10 ^ K) (h2 : d.toNat < 10 ^ K) (h60 : K ≤ 60) :
    makeR (itoa n) (itoa d) = (fracT ((n : Rat) / (d : Rat)), 0) ∧ Good K (fracT ((n : Rat) / (d : Rat))) ((n : Rat) / (d : Rat)) := by
  have hf : FitB K ((n : Rat) / (d : Rat)) := by
    rw [intCast_div n d hd]
    exact fit_mk (by omega) h1 h2
  obtain ⟨g1, g2⟩ := Good.of hf h60
  refine ⟨?_, g2⟩
  have hp : (10 : Nat) ^ K ≤ 10 ^ 60 := Nat.pow_le_pow_right (by omega) h60
  have i1 := int_of n
  have i2 := int_of d
  have n1 : intE (itoa n) = 0 := intE_of (Nat.lt_of_lt_of_le h1 hp)
  have n2 : intE (itoa d) = 0 := intE_of (Nat.lt_of_lt_of_le (by omega) hp)
  have nz : itoa d ≠ [48] := fun e => by
    have := (int_zero i2.1).1 e
    rw [i2.2] at this
    omega
  unfold makeR ifOk
  rw [if_pos n1, if_pos n2, if_neg nz, i1.2, i2.2, ← g1]
theorem Good.point {K : Nat} {x : Txt} {r : Rat} (h : Good K x r) : pointE x = ((x, x), 0) ∧ GoodE K (x, x) r r :=
  ⟨by unfold pointE; rw [if_neg (not_not_intro h.ok)], ⟨h, h, Rat.le_refl⟩⟩
theorem GoodE.times {K L : Nat} {a : Enc} {x : Txt} {p q r : Rat} (h : GoodE K a p q) (k : Good L x r) (h0 : 0 ≤ r) (hK : K + L ≤ 60) :
    mulE a (x, x) = (encT (p * r) (q * r), 0) ∧ GoodE (K + L) (encT (p * r) (q * r)) (p * r) (q * r) := by
  obtain ⟨h1, h2⟩ := h.mul k.point.2 hK
  have hm := mul_le h.le h0
  have e1 : prodLo a (x, x) = p * r := by
    unfold prodLo
    rw [h.lo.val, h.hi.val, k.val]
    exact lo4_is (Rat.le_refl) (Rat.le_refl) hm hm (.inl rfl)
  have e2 : prodHi a (x, x) = q * r := by
    unfold prodHi
    rw [h.lo.val, h.hi.val, k.val]
    exact hi4_is hm hm (Rat.le_refl) (Rat.le_refl) (.inr (.inr (.inl rfl)))
  rw [e1, e2] at h1 h2
  exact ⟨h1, h2⟩
def piE : Enc := ([50, 50, 51, 47, 55, 49], [50, 50, 47, 55])
theorem pi_good : GoodE 3 piE (223 / 71) (22 / 7) := ⟨⟨by decide +kernel, by decide +kernel, by unfold FitB; decide +kernel⟩, ⟨by decide +kernel, by decide +kernel, by unfold FitB; decide +kernel⟩, by decide +kernel⟩
theorem quo_nn {n d : Int} (hn : 0 ≤ n) (hd : 0 < d) : (0 : Rat) ≤ (n : Rat) / (d : Rat) := by
  rw [intCast_div n d hd, ← Rat.num_nonneg, Rat.num_mkRat]
  split
  · decide
  · exact Int.ediv_nonneg hn (by omega)
structure Quo (K L : Nat) (a : Enc) (p q : Rat) (n d : Int) : Prop where
  of : makeR (itoa n) (itoa d) = (fracT ((n : Rat) / (d : Rat)), 0)
  len : (fracT ((n : Rat) / (d : Rat))).length ≤ 400
  pt : pointE (fracT ((n : Rat) / (d : Rat))) = ((fracT ((n : Rat) / (d : Rat)), fracT ((n : Rat) / (d : Rat))), 0)
  mul : mulE a (fracT ((n : Rat) / (d : Rat)), fracT ((n : Rat) / (d : Rat))) = (encT (p * ((n : Rat) / (d : Rat))) (q * ((n : Rat) / (d : Rat))), 0)
  good : GoodE (K + L) (encT (p * ((n : Rat) / (d : Rat))) (q * ((n : Rat) / (d : Rat)))) (p * ((n : Rat) / (d : Rat))) (q * ((n : Rat) / (d : Rat)))
theorem GoodE.quo {K L : Nat} {a : Enc} {p q : Rat} {n d : Int} (h : GoodE K a p q) (hn : 0 ≤ n) (hd : 0 < d) (h1 : n < 10 ^ L) (h2 : d < 10 ^ L) (hK : K + L ≤ 60) : Quo K L a p q n d := by
  have hc : ((10 ^ L : Nat) : Int) = (10 : Int) ^ L := by push_cast; rfl
  obtain ⟨g1, g2⟩ := quo_good (n := n) (d := d) (K := L) hd (by omega) (by omega) (by omega)
  obtain ⟨t1, t2⟩ := h.times g2 (quo_nn hn hd) hK
  exact ⟨g1, g2.len, g2.point.1, t1, t2⟩
def faceN (c : Cyl) (out : Bool) : Int := if out = true then c.bore * c.bore else c.bore * c.bore - c.rod * c.rod
theorem faceN_bd {c : Cyl} (h : CylOk c) (out : Bool) : 1 ≤ faceN c out ∧ faceN c out ≤ 250000 := by
  have b1 := h.b1
  have b2 := h.b2
  have r1 := h.r1
  have r2 := h.r2
  have q1 : c.bore * c.bore ≤ 500 * 500 := Int.mul_le_mul b2 b2 (by omega) (by omega)
  have q2 : 0 ≤ c.rod * c.rod := Int.mul_nonneg r1 r1
  have q3 : c.rod * c.rod ≤ (c.bore - 1) * (c.bore - 1) := Int.mul_le_mul (by omega) (by omega) r1 (by omega)
  have q4 : (c.bore - 1) * (c.bore - 1) = c.bore * c.bore - 2 * c.bore + 1 := by grind
  unfold faceN
  split <;> omega
def byQ (p : Rat) (n d : Int) : Rat := p * ((n : Rat) / (d : Rat))
def faceL (c : Cyl) (out : Bool) : Rat := byQ (223 / 71) (faceN c out) 4
def faceH (c : Cyl) (out : Bool) : Rat := byQ (22 / 7) (faceN c out) 4
def faceT (c : Cyl) (out : Bool) : Enc := encT (faceL c out) (faceH c out)
def volT (c : Cyl) (out : Bool) : Enc := encT (byQ (faceL c out) c.stroke 1) (byQ (faceH c out) c.stroke 1)
def litT (c : Cyl) (out : Bool) (p : Int) : Enc := encT (byQ (byQ (faceL c out) c.stroke 1) (p + 101) 101000000) (byQ (byQ (faceH c out) c.stroke 1) (p + 101) 101000000)
theorem face_quo {c : Cyl} (h : CylOk c) (out : Bool) : Quo 3 6 piE (223 / 71) (22 / 7) (faceN c out) 4 := by
  have := faceN_bd h out
  exact pi_good.quo (by omega) (by omega) (by omega) (by omega) (by omega)
theorem face_good {c : Cyl} (h : CylOk c) (out : Bool) : GoodE 9 (faceT c out) (faceL c out) (faceH c out) := (face_quo h out).good
theorem vol_quo {c : Cyl} (h : CylOk c) (out : Bool) : Quo 9 4 (faceT c out) (faceL c out) (faceH c out) c.stroke 1 := by
  have h1 := h.s1
  have h2 := h.s2
  exact (face_good h out).quo (by omega) (by omega) (by omega) (by omega) (by omega)
theorem vol_good {c : Cyl} (h : CylOk c) (out : Bool) : GoodE 13 (volT c out) (byQ (faceL c out) c.stroke 1) (byQ (faceH c out) c.stroke 1) := (vol_quo h out).good
theorem lit_quo {c : Cyl} (h : CylOk c) (out : Bool) {p : Int} (h1 : 1 ≤ p) (h2 : p ≤ 2000) : Quo 13 9 (volT c out) (byQ (faceL c out) c.stroke 1) (byQ (faceH c out) c.stroke 1) (p + 101) 101000000 :=
  (vol_good h out).quo (by omega) (by omega) (by omega) (by omega) (by omega)
def strokeS (c : Cyl) (out : Bool) (p : Int) : EncR := if presE c p ≠ 0 then badEnc (presE c p) else (litT c out p, 0)
end Go.Proofs.YtbpjbhbbkonjlaaGreatDoor
namespace Go.Proofs.YtbpjbhbbkonjlaaGreatDoor
theorem cyl_of {c : Cyl} (h : CylOk c) : cylE c = 0 := by
  have h1 : cylB c = false := by
    unfold cylB
    simp only [Bool.or_eq_false_iff, decide_eq_false_iff_not]
    have := h.b1
    have := h.b2
    have := h.r1
    have := h.r2
    have := h.s1
    have := h.s2
    omega
  unfold cylE
  rw [h1]
  rfl
theorem pres_of {c : Cyl} {p : Int} (h : CylOk c) (h1 : 1 ≤ p) (h2 : p ≤ 2000) : presE c p = 0 := by
  have h3 : presB p = false := by
    unfold presB
    simp only [Bool.or_eq_false_iff, decide_eq_false_iff_not]
    omega
  unfold presE
  rw [cyl_of h, h3]
  rfl
end Go.Proofs.YtbpjbhbbkonjlaaGreatDoor
namespace Go.Proofs.YtbpjbhbbkonjlaaGreatDoor
end Go.Proofs.YtbpjbhbbkonjlaaGreatDoor
namespace Go.Proofs.YtbpjbhbbkonjlaaGreatDoor
def litN (c : Cyl) (out : Bool) (p : Int) : Int := faceN c out * c.stroke * (p + 101)
theorem litN_bd {c : Cyl} (h : CylOk c) (out : Bool) {p : Int} (h1 : 1 ≤ p) (h2 : p ≤ 2000) : 0 ≤ litN c out p ∧ litN c out p ≤ 1575750000000 := by
  obtain ⟨a1, a2⟩ := faceN_bd h out
  have s1 := h.s1
  have s2 := h.s2
  have b1 : 0 ≤ faceN c out * c.stroke := Int.mul_nonneg (by omega) (by omega)
  have b2 : faceN c out * c.stroke ≤ 250000 * 3000 := Int.mul_le_mul a2 s2 (by omega) (by omega)
  refine ⟨Int.mul_nonneg b1 (by omega), ?_⟩
  have b3 : faceN c out * c.stroke * (p + 101) ≤ 250000 * 3000 * 2101 := Int.mul_le_mul b2 (by omega) (by omega) (by omega)
  unfold litN
  omega
def sumL (M : Int) : Rat := ((223 * M : Int) : Rat) / ((28684000000 : Int) : Rat)
def sumH (M : Int) : Rat := ((22 * M : Int) : Rat) / ((2828000000 : Int) : Rat)
def sumT (M : Int) : Enc := encT (sumL M) (sumH M)
theorem cast_num : ((223 : Int) : Rat) = 223 ∧ ((22 : Int) : Rat) = 22 ∧ ((28684000000 : Int) : Rat) = 28684000000 ∧ ((2828000000 : Int) : Rat) = 2828000000 ∧ ((101000000 : Int) : Rat) = 101000000 ∧ ((4 : Int) : Rat) = 4 ∧ ((1 : Int) : Rat) = 1 := ⟨rfl, rfl, rfl, rfl, rfl, rfl, rfl⟩
theorem sum_le {M : Int} (h : 0 ≤ M) : sumL M ≤ sumH M := by
  unfold sumL sumH
  rw [Rat.intCast_mul, Rat.intCast_mul, cast_num.1, cast_num.2.1, cast_num.2.2.1, cast_num.2.2.2.1]
  have : (0 : Rat) ≤ (M : Rat) := by exact_mod_cast h
  grind
theorem sum_good {M : Int} (h : 0 ≤ M) (h2 : M ≤ 10 ^ 20) : GoodE 30 (sumT M) (sumL M) (sumH M) ∧ endsR (resQ (sumL M)) (resQ (sumH M)) = (sumT M, 0) := by
  have f1 : FitB 30 (sumL M) := by
    unfold sumL
    rw [intCast_div _ _ (by decide)]
    exact fit_mk (by decide) (by omega) (by decide)
  have f2 : FitB 30 (sumH M) := by
    unfold sumH
    rw [intCast_div _ _ (by decide)]
    exact fit_mk (by decide) (by omega) (by decide)
  obtain ⟨g1, g2⟩ := GoodE.of f1 f2 (by omega) (sum_le h)
  exact ⟨g2, g1⟩
theorem lit_sum (c : Cyl) (out : Bool) (p : Int) : byQ (byQ (faceL c out) c.stroke 1) (p + 101) 101000000 = sumL (litN c out p) ∧ byQ (byQ (faceH c out) c.stroke 1) (p + 101) 101000000 = sumH (litN c out p) := by
  unfold faceL faceH byQ sumL sumH litN
  simp only [Rat.intCast_mul, cast_num]
  generalize ((p + 101 : Int) : Rat) = y
  generalize (faceN c out : Rat) = x
  generalize (c.stroke : Rat) = z
  constructor <;> grind
theorem litT_is (c : Cyl) (out : Bool) (p : Int) : litT c out p = sumT (litN c out p) := by
  unfold litT sumT
  rw [(lit_sum c out p).1, (lit_sum c out p).2]
theorem sumQ_add (M N : Int) : sumL M + sumL N = sumL (M + N) ∧ sumH M + sumH N = sumH (M + N) := by
  unfold sumL sumH
  simp only [Rat.intCast_mul, Rat.intCast_add, cast_num]
  constructor <;> grind
theorem sum_add {M N : Int} (hM : 0 ≤ M) (hN : 0 ≤ N) (h : M + N ≤ 10 ^ 20) : addE (sumT M) (sumT N) = (sumT (M + N), 0) ∧ LenE (sumT M) ∧ LenE (sumT N) ∧ LenE (sumT (M + N)) := by
  obtain ⟨g1, _⟩ := sum_good hM (by omega)
  obtain ⟨g2, _⟩ := sum_good hN (by omega)
  obtain ⟨g3, e3⟩ := sum_good (M := M + N) (by omega) h
  refine ⟨?_, g1.len, g2.len, g3.len⟩
  unfold addE
  rw [if_neg (not_not_intro (g1.both g2))]
  have a1 : addS (sumT M).1 (sumT N).1 = resQ (sumL M + sumL N) := by
    unfold addS
    simp [ifOk, bothE, g1.lo.ok, g2.lo.ok, g1.lo.val, g2.lo.val]
  have a2 : addS (sumT M).2 (sumT N).2 = resQ (sumH M + sumH N) := by
    unfold addS
    simp [ifOk, bothE, g1.hi.ok, g2.hi.ok, g1.hi.val, g2.hi.val]
  rw [a1, a2, (sumQ_add M N).1, (sumQ_add M N).2]
  exact e3
theorem sum_zero : sumT 0 = ([48], [48]) := by decide +kernel
end Go.Proofs.YtbpjbhbbkonjlaaGreatDoor
namespace Go.Proofs.YtbpjbhbbkonjlaaGreatDoor
structure Bores (l : List Int) : Prop where
  range : ∀ k, k < l.length → 1 ≤ l.getD k 0 ∧ l.getD k 0 ≤ 500
  rises : ∀ k, k + 1 < l.length → l.getD k 0 < l.getD (k + 1) 0
theorem Bores.mono {l : List Int} (h : Bores l) : ∀ a b, a ≤ b → b < l.length → l.getD a 0 ≤ l.getD b 0 := by
  intro a b hab
  induction b with
  | zero => intro _; obtain rfl : a = 0 := by omega
            exact Int.le_refl _
  | succ b ih =>
    intro hb
    by_cases e : a = b + 1
    · subst e; exact Int.le_refl _
    · have h1 := ih (by omega) (by omega)
      have h2 := h.rises b hb
      omega
end Go.Proofs.YtbpjbhbbkonjlaaGreatDoor
namespace Go.Proofs.YtbpjbhbbkonjlaaGreatDoor
open Go.Lib (decDigits itoa)
def quoS (n d : Int) : EncR := if (makeR (itoa n) (itoa d)).2 ≠ 0 then badEnc (makeR (itoa n) (itoa d)).2 else pointE (makeR (itoa n) (itoa d)).1
def timesE (a : Enc) : List (Int × Int) → EncR
  | [] => (a, 0)
  | x :: l => if (quoS x.1 x.2).2 ≠ 0 then badEnc (quoS x.1 x.2).2 else if (mulE a (quoS x.1 x.2).1).2 ≠ 0 then badEnc (mulE a (quoS x.1 x.2).1).2 else timesE (mulE a (quoS x.1 x.2).1).1 l
theorem Quo.quo {K L : Nat} {a : Enc} {p q : Rat} {n d : Int} (h : Quo K L a p q n d) : quoS n d = ((fracT ((n : Rat) / (d : Rat)), fracT ((n : Rat) / (d : Rat))), 0) := by
  unfold quoS
  rw [h.of, if_neg (by simp), h.pt]
theorem Quo.times {K L : Nat} {a : Enc} {p q : Rat} {n d : Int} (h : Quo K L a p q n d) (l : List (Int × Int)) : timesE a ((n, d) :: l) = timesE (encT (byQ p n d) (byQ q n d)) l := by
  conv => lhs; unfold timesE
  rw [h.quo, if_neg (by simp), h.mul, if_neg (by simp)]
  rfl
theorem lit_times {c : Cyl} (h : CylOk c) (out : Bool) {p : Int} (h1 : 1 ≤ p) (h2 : p ≤ 2000) : timesE piE [(faceN c out, 4), (c.stroke, 1), (p + 101, 101000000)] = (litT c out p, 0) := by
  rw [(face_quo h out).times]
  show timesE (faceT c out) _ = _
  rw [(vol_quo h out).times]
  show timesE (volT c out) _ = _
  rw [(lit_quo h out h1 h2).times]; rfl
theorem mulE_len {a b : Enc} (h : (mulE a b).2 = 0) : LenE (mulE a b).1 := by
  unfold mulE at h ⊢
  split at h
  · rename_i g; exact absurd h g
  · rename_i g
    rw [if_neg g]
    unfold endsR at h ⊢
    split at h
    · rename_i g1; exact absurd h g1
    · rename_i g1
      split at h
      · rename_i g2; exact absurd h g2
      · rename_i g2
        rw [if_neg g1, if_neg g2]
        exact ⟨len_right (resQ_right (by omega)).1, len_right (resQ_right (by omega)).1⟩
end Go.Proofs.YtbpjbhbbkonjlaaGreatDoor
namespace Go.Proofs.YtbpjbhbbkonjlaaGreatDoor
open Go.Lib (decDigits itoa)
end Go.Proofs.YtbpjbhbbkonjlaaGreatDoor
namespace Go.Proofs.YtbpjbhbbkonjlaaGreatDoor
end Go.Proofs.YtbpjbhbbkonjlaaGreatDoor
namespace Go.Proofs.YtbpjbhbbkonjlaaGreatDoor
end Go.Proofs.YtbpjbhbbkonjlaaGreatDoor
namespace Go.Proofs.YtbpjbhbbkonjlaaGreatDoor
open Go.RowKit
def Ext (w w' : World) : Prop := Below w.heap.size w w'
theorem Ext.refl (w : World) : Ext w w := Below.refl _ _
theorem Ext.trans {a b c : World} (h : Ext a b) (k : Ext b c) : Ext a c := Below.trans h (Below.mono k h.size)
theorem Ext.trans' {a b c : World} (h : Ext a b) {n : Nat} (k : Below n b c) (hn : a.heap.size ≤ n) : Ext a c := Below.trans h (Below.mono k hn)
theorem cell_lt {w : World} {p : Addr} {v : Value} (h : w.cell? p = some v) : p.block < w.heap.size := by
  by_cases hp : p.block < w.heap.size
  · exact hp
  · exfalso
    have : w.heap[p.block]? = none := by simp; omega
    simp [World.cell?, this] at h
theorem Ext.cell {w w' : World} (h : Ext w w') {p : Addr} {v : Value} (hc : w.cell? p = some v) : w'.cell? p = some v := (Below.cell h (cell_lt hc)).trans hc
theorem Ext.alloc {a w : World} (h : Ext a w) (o : Obj) : Ext a (w.alloc o) := Below.alloc h h.size o
theorem Ext.drew {a w : World} (h : Ext a w) : Ext a w.drew := Below.drew h
theorem Ext.size_lt {w w' : World} (h : Ext w w') {n : Nat} (hn : n < w.heap.size) : n < w'.heap.size := Nat.lt_of_lt_of_le hn h.size
abbrev Sees (W w' : World) : Prop := (∀ b o, b < W.heap.size → w'.cell? ⟨b, o, none⟩ = W.cell? ⟨b, o, none⟩) ∧ (∀ b o, b < W.heap.size → w'.frozen? ⟨b, o, none⟩ = W.frozen? ⟨b, o, none⟩) ∧ Ext W w'
theorem sees {W w' : World} (h : Ext W w') : Sees W w' := ⟨fun b o hb => Below.cell (p := ⟨b, o, none⟩) h hb, fun b o hb => Below.frozen (p := ⟨b, o, none⟩) h hb, h⟩
theorem Sees.refl (w : World) : Sees w w := sees (Ext.refl w)
theorem Sees.alloc {a w : World} (h : Sees a w) (o : Obj) : Sees a (w.alloc o) := sees (h.2.2.alloc o)
theorem Sees.drew {a w : World} (h : Sees a w) : Sees a w.drew := sees h.2.2.drew
theorem Sees.ext {a b c : World} (h : Sees a b) (k : Ext b c) : Sees a c := sees (h.2.2.trans k)
theorem Ext.drewN {a w : World} (h : Ext a w) (n : Nat) : Ext a (w.drewN n) := ⟨h.os, h.tape, h.output, h.size, h.block⟩
theorem Ext.set {w A : World} (h : Ext w A) {b o : Nat} (hb : w.heap.size ≤ b) (v : Value) : Ext w (A.setCell ⟨b, o, none⟩ v) := Below.setCell (p := ⟨b, o, none⟩) h hb v
theorem ret_bool {a b : Bool} (h : a = b) : Ending.returned (.bool a) = .returned (.bool b) := by rw [h]
theorem ret_int {k : IntKind} {a b : Int} (h : a = b) : Ending.returned (.int k a) = .returned (.int k b) := by rw [h]
theorem extA {A B : World} (h : Ext A B := by repeat (first | with_reducible exact Ext.refl _ | with_reducible assumption | with_reducible apply Ext.drewN | with_reducible apply Ext.drew | with_reducible apply Ext.alloc | ((with_reducible refine Ext.set ?_ ?_ _); rotate_left; first | omega | (simp; omega)) | (with_reducible refine Ext.trans ?_ (by with_reducible assumption)))) : Ext A B := h
end Go.Proofs.YtbpjbhbbkonjlaaGreatDoor
namespace Go.Proofs.YtbpjbhbbkonjlaaGreatDoor
open Go.RowKit
def rngOf : Code → List (Code × Code)
  | .seq a b => rngOf a ++ rngOf b
  | .block _ c => rngOf c
  | .loop c => rngOf c
  | .cond _ a b => rngOf a ++ rngOf b
  | .rangeFunc _ _ a b => [(a, b)]
  | _ => []
def isRec : Obj → Bool
  | .loop _ => true
  | .deferred _ => true
  | _ => false
def Keep (n : Nat) (A B : World) : Prop := Below n A B ∧ ∀ (k : Nat) (o : Obj), A.heap[k]? = some o → isRec o = false → B.heap[k]? = some o
theorem Keep.refl (n : Nat) (A : World) : Keep n A A := ⟨Below.refl _ _, fun _ _ h _ => h⟩
theorem Keep.trans {n : Nat} {A B C : World} (h : Keep n A B) (k : Keep n B C) : Keep n A C := ⟨h.1.trans k.1, fun i o hi ho => k.2 i o (h.2 i o hi ho) ho⟩
theorem Keep.alloc {n : Nat} {A : World} (hn : n ≤ A.heap.size) (o : Obj) : Keep n A (A.alloc o) :=
  ⟨(Below.refl _ _).alloc hn o, fun k o' h _ => by
    have hk : k < A.heap.size := (Array.getElem?_eq_some_iff.1 h).1
    rw [Below.heap_alloc _ _ _ hk]; exact h⟩
theorem Keep.turn {n l : Nat} {A : World} {o o' : Obj} (hn : n ≤ l) (h : A.heap[l]? = some o) (hr : isRec o = true) : Keep n A (A.putObj l o') :=
  ⟨(Below.refl _ _).grown (grownBy_putObj' A l o') (by have := (Array.getElem?_eq_some_iff.1 h).1; omega) (fun k e => by cases e; exact hn), fun k x hx hxr => by
    have : k ≠ l := fun e => by subst e; rw [h] at hx; cases hx; rw [hr] at hxr; cases hxr
    rw [World.putObj_heap_other this]; exact hx⟩
theorem Keep.ext {n : Nat} {A B : World} (h : Ext A B) (hn : n ≤ A.heap.size) : Keep n A B :=
  ⟨h.mono hn, fun k o hk _ => by
    have hk' : k < A.heap.size := (Array.getElem?_eq_some_iff.1 hk).1
    rw [Below.block h k hk']; exact hk⟩
def Kept (Kd : Nat → Prop) (n : Nat) (A B : World) : Prop := A.heap.size ≤ B.heap.size ∧ ∀ (k : Nat) (o : Obj), Kd k → A.heap[k]? = some o → (isRec o = false ∨ n ≤ k) → B.heap[k]? = some o
theorem Kept.refl (Kd : Nat → Prop) (n : Nat) (A : World) : Kept Kd n A A := ⟨Nat.le_refl _, fun _ _ _ h _ => h⟩
theorem Kept.trans {Kd : Nat → Prop} {n : Nat} {A B C : World} (h : Kept Kd n A B) (k : Kept Kd n B C) : Kept Kd n A C := ⟨Nat.le_trans h.1 k.1, fun i o hd hi ho => k.2 i o hd (h.2 i o hd hi ho) ho⟩
theorem Kept.turn {Kd : Nat → Prop} {n l : Nat} {A : World} {o o' : Obj} (hn : l < n) (h : A.heap[l]? = some o) (hr : isRec o = true) : Kept Kd n A (A.putObj l o') :=
  ⟨(grownBy_putObj' A l o').size, fun k x _ hx hxr => by
    have : k ≠ l := fun e => by
      subst e; rw [h] at hx; cases hx
      rcases hxr with hxr | hxr
      · rw [hr] at hxr; cases hxr
      · omega
    rw [World.putObj_heap_other this]; exact hx⟩
theorem Kept.ext {A B : World} (h : Ext A B) (Kd : Nat → Prop) (n : Nat) : Kept Kd n A B :=
  ⟨h.size, fun k o _ hk _ => by rw [Below.block h k (Array.getElem?_eq_some_iff.1 hk).1]; exact hk⟩
def Iter {α : Type} (P : Program) (g : Nat) (lb : Array Value) (encs : α → Array Value) (xs : List α) (R : Nat → World → World → Prop) (Kd : Nat → Nat → Prop) (m : Nat) (w : World) : Prop :=
  ∀ (l : Nat) (J Jx : List α → World → Prop) (W : World), Ext w W →
    (∀ pre A B, J pre A → R W.heap.size A B → J pre B) → (∀ pre A B, Jx pre A → R W.heap.size A B → Jx pre B) →
    (∀ pre x W1, pre ++ [x] <+: xs → W.heap.size + m ≤ W1.heap.size → J pre W1 → YieldAt Fence.wide 0 P l (encs x) W1 fun e W' =>
      (e = .returned (.bool true) ∧ J (pre ++ [x]) W' ∧ Kept (Kd W.heap.size) W.heap.size W1 W') ∨ (e = .returned (.bool false) ∧ Jx (pre ++ [x]) W' ∧ Kept (Kd W.heap.size) W.heap.size W1 W')) →
    J [] W →
    CallsIn Fence.wide 0 P g (#[.func (.yield l) #[] #[]] ++ lb) W fun e W' => (∃ v, e = .returned v) ∧ (J xs W' ∨ ∃ pre, pre <+: xs ∧ Jx pre W')
def roundQ {α : Type} (Kd : Nat → Prop) (n : Nat) (I : List α → World → Prop) (Ix : Code → List α → World → Prop) (xs : List α) (w0 W : World) : Exit → Act → World → Prop
  | .normal, _, W' => Kept Kd n W W' ∧ KeepsFrom w0.heap.size W W' ∧ I xs W'
  | .ret, _, W' => Kept Kd n W W' ∧ KeepsFrom w0.heap.size W W' ∧ Ix .ret xs W'
  | .exit id, _, W' => Kept Kd n W W' ∧ KeepsFrom w0.heap.size W W' ∧ Ix (.exit id) xs W'
  | .goto t, _, W' => Kept Kd n W W' ∧ KeepsFrom w0.heap.size W W' ∧ Ix (.goto t) xs W'
  | .panic _, _, _ => False
  | .outgrown, _, _ => False
theorem wp_range {α : Type} {P : Program} {n : Nat} {g : Operand} {ps : Array Tmp} {assign body : Code} {Q : Exit → Act → World → Prop} {a : Act} {w : World}
    {gf : Nat} {lb : Array Value} (hg : a.eval g = .func (.func gf) #[] lb) (eg : ∀ args w, (callFunc gf args).run P w = .ok (.enter gf args) w)
    {encs : α → Array Value} {xs : List α} {R : Nat → World → World → Prop} {Kd : Nat → Nat → Prop} {m : Nat} (hseq : Iter P gf lb encs xs R Kd m w)
    (hps : ∀ x, (encs x).size = ps.size)
    (hR : ∀ A B, R (w.heap.size + 2) A B → ∀ (k : Nat) (o : Obj), k < w.heap.size + 2 → A.heap[k]? = some o → B.heap[k]? = some o)
    (I : List α → World → Prop) (Ix : Code → List α → World → Prop)
    (hIR : ∀ pre A B, I pre A → R (w.heap.size + 2) A B → I pre B) (hIxR : ∀ c pre A B, Ix c pre A → R (w.heap.size + 2) A B → Ix c pre B)
    (hIK : ∀ pre A B, I pre A → Keep w.heap.size A B → I pre B) (hIxK : ∀ c pre A B, Ix c pre A → Keep w.heap.size A B → Ix c pre B)
    (h0 : I [] w) (Ax : α → Act → World → Prop) (hAxK : ∀ x a' A B, Ax x a' A → Keep w.heap.size A B → Ax x a' B)
    (hassign : ∀ (l : Nat) (pre : List α) (x : α) (W : World) (K : Act → World → Prop), w.heap.size + 2 + m ≤ W.heap.size → I pre W → (∀ a' W', Ext W W' → Ax x a' W' → K a' W') →
      assign.wpIn (Fence.wide.inRound l) 0 P (Exit.then K (fun _ _ _ => False)) { tmps := (ps.zip (encs x)).foldl (fun t (p, v) => t.setIfInBounds p v) a.tmps, defers := [] } W)
    (hbody : ∀ (l : Nat) (pre : List α) (x : α) (a' : Act) (W : World), pre ++ [x] <+: xs → w.heap.size + 2 + m ≤ W.heap.size → I pre W → Ax x a' W →
      body.wpIn (Fence.wide.inRound l) 0 P (roundQ (Kd (w.heap.size + 2)) (w.heap.size + 2) I Ix (pre ++ [x]) w W) a' W)
    (hIE : ∀ pre A B, I pre A → Ext A B → I pre B)
    (hdone : ∀ (D : Nat) (W : World), w.heap.size ≤ D → D < W.heap.size → I xs W → W.heap[D]? = some (.deferred (some [])) → Q .normal { a with defers := { target := .collected D, args := #[] } :: a.defers } W)
    (hstop : ∀ (D : Nat) (c : Code) (pre : List α) (W : World), w.heap.size ≤ D → D < W.heap.size → pre <+: xs → Ix c pre W → W.heap[D]? = some (.deferred (some [])) → c.wp P Q { a with defers := { target := .collected D, args := #[] } :: a.defers } W) :
    (Code.rangeFunc g ps assign body).wp P Q a w := by
  refine (wpIn_wide (n := n)).1 (wpIn_rangeFunc ?_)
  intro fn hfn
  obtain ⟨rec, hrec⟩ : ∃ rec : LoopState → Option Code → Loop, rec = fun st pe => { state := st, pending := pe, fn, tmps := a.tmps, params := ps, assign, body, defers := w.heap.size } := ⟨_, rfl⟩
  obtain ⟨W1, hW1⟩ : ∃ W1, (w.alloc (.deferred (some []))).alloc (.loop (rec .ready none)) = W1 := ⟨_, rfl⟩
  have hsz : W1.heap.size = w.heap.size + 2 := by rw [← hW1]; simp
  have hL1 : W1.heap[w.heap.size + 1]? = some (.loop (rec .ready none)) := by
    rw [← hW1]; have := World.alloc_heap_new (w.alloc (.deferred (some []))) (.loop (rec .ready none)); rwa [World.size_alloc] at this
  have hD1 : W1.heap[w.heap.size]? = some (.deferred (some [])) := by
    rw [← hW1]; exact (Below.heap_alloc _ _ _ (by simp)).trans (World.alloc_heap_new w _)
  have hE1 : Ext w W1 := by rw [← hW1]; exact ((Ext.refl w).alloc _).alloc _
  have hI1 : I [] W1 := hIE _ _ _ h0 hE1
  refine ⟨w.heap.size + 1, [{ target := .collected w.heap.size, args := #[] }], W1, { target := .fn (.func gf) lb, args := #[.func (.yield (w.heap.size + 1)) #[] #[]] }, W1, gf,
    #[.func (.yield (w.heap.size + 1)) #[] #[]] ++ lb, W1, ?_, ?_, fun _ _ => trivial, ?_, (fun h => by cases h), ?_⟩
  · rw [← hW1, hrec]; exact run_enterLoop_outer _ _ _ _ _
  · simp only [resolve, hg]
    simp [go_sem]
  · simp [invoke, go_sem, eg]
  have wide0 : ∀ {f : FuncId} {args : Array Value} {v : World} {T : Ending → World → Prop}, CallsIn Fence.wide 0 P f args v T → CallsIn Fence.wide (n - 1) P f args v T := fun h => callsIn_wide.2 (callsIn_wide.1 h)
  refine wide0 ?_
  have key := hseq (w.heap.size + 1)
    (fun pre W => I pre W ∧ W.heap[w.heap.size + 1]? = some (.loop (rec .ready none)) ∧ W.heap[w.heap.size]? = some (.deferred (some [])))
    (fun pre W => ∃ c, Ix c pre W ∧ W.heap[w.heap.size + 1]? = some (.loop (rec .done (some c))) ∧ W.heap[w.heap.size]? = some (.deferred (some [])))
    W1 hE1
  rw [hsz] at key
  have key2 := key
    (fun pre A B h hr => ⟨hIR _ _ _ h.1 hr, hR _ _ hr _ _ (by omega) h.2.1, hR _ _ hr _ _ (by omega) h.2.2⟩)
    (fun pre A B h hr => by
      obtain ⟨c, h1, h2, h3⟩ := h
      exact ⟨c, hIxR _ _ _ _ h1 hr, hR _ _ hr _ _ (by omega) h2, hR _ _ hr _ _ (by omega) h3⟩)
  clear key
  refine CallsIn.mono (key2 ?_ ⟨hI1, hL1, hD1⟩) ?_
  · 
    rintro pre x W hpre hm ⟨hi, hl, hd⟩
    have hy := run_yield (P := P) (args := encs x) hl (by rw [hrec]; exact hps x)
    rw [hrec] at hy
    refine ⟨fn, _, assign, body, hy, roundIn_of_wpIn hfn (hassign _ pre x W _ hm hi ?_)⟩
    clear hy
    intro a' Wa hEa hAx
    have hla : Wa.heap[w.heap.size + 1]? = some (.loop (rec .ready none)) := (Below.block hEa _ (Array.getElem?_eq_some_iff.1 hl).1).trans hl
    have hda : Wa.heap[w.heap.size]? = some (.deferred (some [])) := (Below.block hEa _ (Array.getElem?_eq_some_iff.1 hd).1).trans hd
    have hia : I pre Wa := hIE _ _ _ hi hEa
    have hlt : w.heap.size + 1 < Wa.heap.size := (Array.getElem?_eq_some_iff.1 hla).1
    refine ⟨_, run_beginRound hla (by rw [hrec]), ?_⟩
    obtain ⟨W2, hW2⟩ : ∃ W2, Wa.putObj (w.heap.size + 1) (.loop { rec .ready none with state := .busy }) = W2 := ⟨_, rfl⟩
    have hT : Keep w.heap.size Wa W2 := by rw [← hW2]; exact Keep.turn (by omega) hla rfl
    have hl2 : W2.heap[w.heap.size + 1]? = some (.loop { rec .ready none with state := .busy }) := by rw [← hW2]; exact World.putObj_heap_same hlt
    have hd2 : W2.heap[w.heap.size]? = some (.deferred (some [])) := by rw [← hW2]; exact (World.putObj_heap_other (by omega)).trans hda
    rw [hW2]
    refine wpIn_mono (hbody _ pre x a' W2 hpre (Nat.le_trans hm (Nat.le_trans hEa.size hT.1.size)) (hIK _ _ _ hia hT) (hAxK _ _ _ _ hAx hT)) ?_
    have fin : ∀ (jump : Option Code) (W3 : World), KeepsFrom w.heap.size W2 W3 →
        ∃ W4, (Instr.endRound (w.heap.size + 1) jump).run P W3 = .ok (.bool jump.isNone) W4 ∧ Keep w.heap.size W3 W4 ∧ Kept (Kd (w.heap.size + 2)) (w.heap.size + 2) W3 W4 ∧
          W4.heap[w.heap.size + 1]? = some (.loop (rec (if jump.isNone then .ready else .done) jump)) ∧ W4.heap[w.heap.size]? = some (.deferred (some [])) := fun jump W3 hk3 => by
      have hl3 := hk3.same _ _ (by omega) hl2 rfl
      have hd3 := hk3.same _ _ (Nat.le_refl _) hd2 rfl
      have hr3 := run_endRound (P := P) jump hl3
      have hlt3 := (Array.getElem?_eq_some_iff.1 hl3).1
      rw [hrec] at hr3 ⊢
      exact ⟨_, hr3, Keep.turn (by omega) hl3 rfl, Kept.turn (by omega) hl3 rfl, World.putObj_heap_same hlt3, (World.putObj_heap_other (by omega)).trans hd3⟩
    rintro e a3 W3 hp
    have hW02 : Kept (Kd (w.heap.size + 2)) (w.heap.size + 2) W W2 := (Kept.ext hEa _ _).trans (by rw [← hW2]; exact Kept.turn (by omega) hla rfl)
    cases e with
    | normal =>
      obtain ⟨hkp, hk3, hi3⟩ := hp
      obtain ⟨W4, hr4, hT4, hK4, hl4, hd4⟩ := fin none W3 hk3
      exact ⟨_, _, hr4, .inl ⟨rfl, ⟨hIK _ _ _ hi3 hT4, hl4, hd4⟩, (hW02.trans hkp).trans hK4⟩⟩
    | ret =>
      obtain ⟨hkp, hk3, hi3⟩ := hp
      obtain ⟨W4, hr4, hT4, hK4, hl4, hd4⟩ := fin (some .ret) W3 hk3
      exact ⟨_, _, hr4, .inr ⟨rfl, ⟨_, hIxK _ _ _ _ hi3 hT4, hl4, hd4⟩, (hW02.trans hkp).trans hK4⟩⟩
    | exit id =>
      obtain ⟨hkp, hk3, hi3⟩ := hp
      obtain ⟨W4, hr4, hT4, hK4, hl4, hd4⟩ := fin (some (.exit id)) W3 hk3
      exact ⟨_, _, hr4, .inr ⟨rfl, ⟨_, hIxK _ _ _ _ hi3 hT4, hl4, hd4⟩, (hW02.trans hkp).trans hK4⟩⟩
    | goto t =>
      obtain ⟨hkp, hk3, hi3⟩ := hp
      obtain ⟨W4, hr4, hT4, hK4, hl4, hd4⟩ := fin (some (.goto t)) W3 hk3
      exact ⟨_, _, hr4, .inr ⟨rfl, ⟨_, hIxK _ _ _ _ hi3 hT4, hl4, hd4⟩, (hW02.trans hkp).trans hK4⟩⟩
    | panic ch => exact hp.elim
    | outgrown => exact hp.elim
  · 
    rintro e W2 ⟨⟨v, rfl⟩, (⟨hi, hl, hd⟩ | ⟨pre, hpre, c, hi, hl, hd⟩)⟩
    · have hr := run_endLoop (P := P) hl (by rw [hrec]; simp)
      have hT : Keep w.heap.size W2 _ := Keep.turn (n := w.heap.size) (l := w.heap.size + 1) (A := W2) (o' := .loop { rec .ready none with state := .exhausted }) (by omega) hl rfl
      rw [hrec] at hr hT
      have hd' := (World.putObj_heap_other (w := W2) (r := w.heap.size + 1) (o := .loop { rec .ready none with state := .exhausted }) (k := w.heap.size) (by omega)).trans hd
      rw [hrec] at hd'
      exact ⟨none, _, hr, hdone _ _ (Nat.le_refl _) (Array.getElem?_eq_some_iff.1 hd').1 (hIK _ _ _ hi hT) hd'⟩
    · have hr := run_endLoop (P := P) hl (by rw [hrec]; simp)
      have hT : Keep w.heap.size W2 _ := Keep.turn (n := w.heap.size) (l := w.heap.size + 1) (A := W2) (o' := .loop { rec .done (some c) with state := .exhausted }) (by omega) hl rfl
      rw [hrec] at hr hT
      have hd' := (World.putObj_heap_other (w := W2) (r := w.heap.size + 1) (o := .loop { rec .done (some c) with state := .exhausted }) (k := w.heap.size) (by omega)).trans hd
      rw [hrec] at hd'
      exact ⟨some c, _, hr, wpIn_wide.2 (hstop _ c pre _ (Nat.le_refl _) (Array.getElem?_eq_some_iff.1 hd').1 hpre (hIxK _ _ _ _ hi hT) hd')⟩
def mark (D : Nat) : Deferred := { target := .collected D, args := #[] }
def Marks (n : Nat) (ds : List Deferred) (w : World) : Prop := ∃ Ds : List Nat, ds = Ds.map mark ∧ Ds.Nodup ∧ ∀ D ∈ Ds, n ≤ D ∧ w.heap[D]? = some (.deferred (some []))
theorem Marks.nil (n : Nat) (w : World) : Marks n [] w := ⟨[], rfl, List.nodup_nil, fun _ h => by cases h⟩
theorem Marks.kept {n : Nat} {ds : List Deferred} {A B : World} (h : Marks n ds A) (hk : ∀ D, n ≤ D → A.heap[D]? = some (.deferred (some [])) → B.heap[D]? = some (.deferred (some []))) : Marks n ds B := by
  obtain ⟨Ds, h1, h2, h3⟩ := h
  exact ⟨Ds, h1, h2, fun D hD => ⟨(h3 D hD).1, hk D (h3 D hD).1 (h3 D hD).2⟩⟩
theorem Marks.ext {n : Nat} {ds : List Deferred} {A B : World} (h : Marks n ds A) (he : Ext A B) : Marks n ds B :=
  h.kept fun D _ hD => by rw [Below.block he D (Array.getElem?_eq_some_iff.1 hD).1]; exact hD
theorem Marks.cons {n D : Nat} {ds : List Deferred} {A B : World} (h : Marks n ds A) (hA : A.heap.size ≤ D) (hn : n ≤ D) (hk : Marks n ds B) (hD : B.heap[D]? = some (.deferred (some []))) : Marks n (mark D :: ds) B := by
  obtain ⟨Ds, h1, h2, h3⟩ := h
  obtain ⟨Es, k1, k2, k3⟩ := hk
  refine ⟨D :: Ds, by rw [h1]; rfl, List.nodup_cons.2 ⟨fun hm => ?_, h2⟩, fun E hE => ?_⟩
  · have := (Array.getElem?_eq_some_iff.1 (h3 D hm).2).1
    omega
  · rcases List.mem_cons.1 hE with rfl | hE
    · exact ⟨hn, hD⟩
    · have hEs : Es = Ds := by
        have : Es.map mark = Ds.map mark := by rw [← k1, h1]
        exact List.map_inj_right (fun a b hab => by cases hab; rfl) |>.1 this
      exact k3 E (hEs ▸ hE)
end Go.Proofs.YtbpjbhbbkonjlaaGreatDoor
namespace Go.Proofs.YtbpjbhbbkonjlaaGreatDoor
open Go.RowKit
def AppEnd (w w' : World) (v v' : Value) : Prop := (v'.ownBlock = v.ownBlock ∧ v.ownBlock ≠ none ∧ w.grownBy w' v.ownBlock) ∨ (v'.ownBlock = some w.heap.size ∧ Ext w w')
theorem run_append1 {P : Program} (w : World) (t ty e : TypeId) (i : TypeInfo) (z : Value) (size bytes : Nat) (ht : P.underlying t = some (.slice e)) (hi : P.info? e = some i) (hz : i.zero = some z)
    (hsize : i.size = size) (hby : i.bytes = bytes) (hzs : z.cells.size = size) (hsz : 0 < size)
    (v : Value) (n : Nat) (xs : List Value) (hown : w.ownsRow 0 e size v n xs)
    (a : Addr) (m c : Nat) (hm : 0 < m) (news : List Value) (hl : news.length = m * size) (hnews : ∀ j u, news[j]? = some u → w.cell? (a.add j) = some u) (h1 : ∀ u ∈ news, u.oneCell' = true)
    (h63 : n + m ≤ maxLen) (hbytes : (n + m) * bytes ≤ 140737488355328) :
    ∃ v' w', (Builtin.append_ #[t, t] ty #[v, .slice (some a) m c]).run P w = .ok v' w' ∧ w'.ownsRow 0 e size v' (n + m) (xs ++ news) ∧ AppEnd w w' v v' := by
  obtain ⟨v', w', hr, h2, h3, h4⟩ := run_append_own (P := P) w 0 t ty e i z size bytes ht hi hz hsize hby hzs hsz v n xs hown a m c news hl hnews h1 h63 hbytes (Nat.zero_le _)
  refine ⟨v', w', hr, h2, ?_⟩
  subst hsize
  subst hby
  have hsmall : n + m ≤ 9223372036854775807 := by simp only [maxLen] at h63; omega
  rcases hown.2 with ⟨rfl, rfl⟩ | ⟨g, cap, cur, rfl, hbg, hg, hnc, hcm, hcs, htake⟩
  · have hx := run_append_nil (P := P) w t ty e i z ht hi hz a m c news hl hnews hm (by omega) (by have hb := hbytes; simp only [Nat.zero_add] at hb; omega)
    rw [hr] at hx
    injection hx with e1 e2
    subst e1; subst e2
    exact .inr ⟨rfl, (Ext.refl _).drew.alloc _⟩
  · by_cases hroom : n + m ≤ cap
    · have hfit : n * i.size + news.length ≤ cur.size := by rw [hl, hcs, ← Nat.add_mul]; exact Nat.mul_le_mul_right _ hroom
      have hx := run_append_room (P := P) w t ty e i ht hi g n cap cur hg a m c news hl hnews h1 hroom hfit
      rw [hr] at hx
      injection hx with e1 e2
      subst e1
      exact .inl ⟨rfl, by simp [Value.ownBlock], h3⟩
    · have holds : ∀ j u, xs[j]? = some u → w.cell? ((⟨g, 0, none⟩ : Addr).add j) = some u := hown.cells (g := g) rfl
      have hx := run_append_grow (P := P) w t ty e i z ht hi hz ⟨g, 0, none⟩ n cap xs hown.1 holds a m c news hl hnews (by omega) (by omega) (growslice_fits (by omega) hbytes)
      rw [hr] at hx
      injection hx with e1 e2
      subst e1; subst e2
      exact .inr ⟨rfl, (Ext.refl _).drew.alloc _⟩
theorem wpList_append1 {P : Program} (w : World) {ops : Array Oper} {rest : List Oper} {o : Oper} {a : Act} {Q : Exit → Act → World → Prop} (hgd : o.guard = none) (s x : Operand) (t : TypeId)
    (ho : o.op = .call { callee := .builtin .append, args := #[s, x], argTypes := #[t, t] })
    (e : TypeId) (i : TypeInfo) (z : Value) (size bytes : Nat) (ht : P.underlying t = some (.slice e)) (hi : P.info? e = some i) (hz : i.zero = some z)
    (hsize : i.size = size) (hby : i.bytes = bytes) (hzs : z.cells.size = size) (hsz : 0 < size)
    (v : Value) (n : Nat) (xs : List Value) (hs : a.eval s = v) (hown : w.ownsRow 0 e size v n xs)
    (ad : Addr) (m c : Nat) (hm : 0 < m) (news : List Value) (hx : a.eval x = .slice (some ad) m c) (hl : news.length = m * size) (hnews : ∀ j u, news[j]? = some u → w.cell? (ad.add j) = some u) (h1 : ∀ u ∈ news, u.oneCell' = true)
    (h63 : n + m ≤ maxLen) (hbytes : (n + m) * bytes ≤ 140737488355328)
    (h : ∀ v' w', w'.ownsRow 0 e size v' (n + m) (xs ++ news) → AppEnd w w' v v' → wpList P ops Q rest (a.put o.dst v') w') : wpList P ops Q (o :: rest) a w := by
  obtain ⟨v', w', hr, h2, h3⟩ := run_append1 (P := P) w t o.type e i z size bytes ht hi hz hsize hby hzs hsz v n xs hown ad m c hm news hl hnews h1 h63 hbytes
  refine wpList_plain hgd fun K hK => ?_
  unfold Oper.wp execOp
  simp only [ho, resolve, invoke, builtin, Sem.run_bind, Sem.run_pure, Result.andThen_ok, List.map_toArray, List.map_cons, List.map_nil, hs, hx, hr]
  exact hK _ _ (h v' w' h2 h3)
end Go.Proofs.YtbpjbhbbkonjlaaGreatDoor
namespace Go.Proofs.YtbpjbhbbkonjlaaGreatDoor
open Go.RowKit
theorem rowExt {A B : World} {e : TypeId} {s : Nat} {v : Value} {n : Nat} {xs : List Value} (h : A.ownsRow 0 e s v n xs) (k : Ext A B) : B.ownsRow 0 e s v n xs := by
  obtain ⟨h1, h2⟩ := h
  refine ⟨h1, ?_⟩
  rcases h2 with h2 | ⟨g, cap, cur, hv, hg, hh, r⟩
  · exact .inl h2
  · exact .inr ⟨g, cap, cur, hv, hg, (Below.block k g (Array.getElem?_eq_some_iff.1 hh).1).trans hh, r⟩
theorem rowSame {A B : World} {e : TypeId} {s : Nat} {v : Value} {n : Nat} {xs : List Value} (h : A.ownsRow 0 e s v n xs) (k : ∀ b, v.ownBlock = some b → B.heap[b]? = A.heap[b]?) : B.ownsRow 0 e s v n xs := by
  obtain ⟨h1, h2⟩ := h
  refine ⟨h1, ?_⟩
  rcases h2 with h2 | ⟨g, cap, cur, hv, hg, hh, r⟩
  · exact .inl h2
  · exact .inr ⟨g, cap, cur, hv, hg, (k g (by rw [hv]; rfl)).trans hh, r⟩
theorem rowLt {A : World} {e : TypeId} {s : Nat} {v : Value} {n : Nat} {xs : List Value} (h : A.ownsRow 0 e s v n xs) {b : Nat} (hb : v.ownBlock = some b) : b < A.heap.size := (World.ownsRow.lt h b hb).2
theorem rowReads {A : World} {e : TypeId} {s : Nat} {v : Value} {n : Nat} {xs : List Value} (h : A.ownsRow 0 e s v n xs) :
    ∃ a cap, v = .slice a n cap ∧ n ≤ maxLen ∧ ∀ j u, xs[j]? = some u → ∃ b, a = some ⟨b, 0, none⟩ ∧ v.ownBlock = some b ∧ A.cell? ⟨b, j, none⟩ = some u ∧ A.frozen? ⟨b, j, none⟩ = false := by
  rcases h.2 with ⟨hv, hn⟩ | ⟨g, cap, cur, hv, hg, hh, hnc, hm, hcs, ht⟩
  · subst hn
    exact ⟨none, 0, hv, by simp [maxLen], fun j u hj => by
      have := h.1
      simp at this; subst this; simp at hj⟩
  · refine ⟨some ⟨g, 0, none⟩, cap, hv, by omega, fun j u hj => ⟨g, rfl, by rw [hv]; rfl, ?_, ?_⟩⟩
    · have hc := World.ownsRow.cells h (g := g) (by rw [hv]; rfl) j u hj
      rwa [Addr.add_lit, Nat.zero_add] at hc
    · rw [hv] at h
      exact h.frozenAt j
theorem AppEnd.chg {A B : World} {v v' : Value} (h : AppEnd A B v v') : (∀ b, b < A.heap.size → v.ownBlock ≠ some b → B.heap[b]? = A.heap[b]?) ∧ A.heap.size ≤ B.heap.size ∧ ∀ b, v'.ownBlock = some b → v.ownBlock = some b ∨ A.heap.size ≤ b := by
  rcases h with ⟨h1, _, hg⟩ | ⟨h1, he⟩
  · exact ⟨fun b hb hne => hg.block b hb hne.symm, hg.size, fun b hb => .inl (h1 ▸ hb)⟩
  · exact ⟨fun b hb _ => Below.block he b hb, he.size, fun b hb => .inr (by rw [h1] at hb; cases hb; exact Nat.le_refl _)⟩
theorem AppEnd.below {n : Nat} {A B : World} {v v' : Value} (h : AppEnd A B v v') (hn : n ≤ A.heap.size) (hv : ∀ b, v.ownBlock = some b → n ≤ b) : Below n A B := by
  rcases h with ⟨_, _, hg⟩ | ⟨_, he⟩
  · exact (Below.refl _ _).grown hg hn hv
  · exact he.mono hn
theorem AppEnd.ge {n : Nat} {A B : World} {v v' : Value} (h : AppEnd A B v v') (hn : n ≤ A.heap.size) (hv : ∀ b, v.ownBlock = some b → n ≤ b) : ∀ b, v'.ownBlock = some b → n ≤ b := fun b hb => by
  rcases h with ⟨h1, _, _⟩ | ⟨h1, _⟩
  · exact hv b (h1 ▸ hb)
  · rw [h1] at hb; cases hb; exact hn
theorem cellB {n : Nat} {A B : World} (h : Below n A B) {p : Addr} {v : Value} (hp : p.block < n) (hc : A.cell? p = some v) : B.cell? p = some v := (Below.cell h hp).trans hc
def flat2 (l : List (Value × Value)) : List Value := l.flatMap fun p => [p.1, p.2]
theorem flat2_append (l m : List (Value × Value)) : flat2 (l ++ m) = flat2 l ++ flat2 m := by simp [flat2]
theorem flat2_length (l : List (Value × Value)) : (flat2 l).length = l.length * 2 := by
  induction l with
  | nil => rfl
  | cons a l ih => simp only [flat2, List.flatMap_cons, List.length_append, List.length_cons, List.length_nil] at *; omega
theorem flat2_get (l : List (Value × Value)) (i : Nat) (h : i < l.length) : (flat2 l)[i * 2]? = some l[i].1 ∧ (flat2 l)[i * 2 + 1]? = some l[i].2 := by
  induction l generalizing i with
  | nil => simp at h
  | cons a l ih =>
    cases i with
    | zero => simp [flat2]
    | succ i =>
      have := ih i (by simpa using h)
      rw [show (i + 1) * 2 = i * 2 + 2 from by omega]
      simpa [flat2] using this
theorem cells_one (w : World) (xs : List Value) (t : TypeId) : ∀ j u, xs[j]? = some u → (w.alloc (.cells xs.toArray t)).cell? ((⟨w.heap.size, 0, none⟩ : Addr).add j) = some u := by
  intro j u h
  rw [Addr.add_lit, World.cell?_alloc_new, Nat.zero_add]
  simpa using h
end Go.Proofs.YtbpjbhbbkonjlaaGreatDoor
namespace Go.Proofs.YtbpjbhbbkonjlaaGreatDoor
def valB (B : Nat) : List Nat → Nat
  | [] => 0
  | x :: l => x + B * valB B l
def OkB (B : Nat) (l : List Nat) : Prop := ∀ x ∈ l, x < B
def Trim (l : List Nat) : Prop := l.getLast? ≠ some 0
def toB (B n : Nat) : List Nat := if _h : n = 0 ∨ B < 2 then [] else n % B :: toB B (n / B)
termination_by n
decreasing_by exact Nat.div_lt_self (by omega) (by omega)
theorem toB_zero (B : Nat) : toB B 0 = [] := by rw [toB]; simp
theorem toB_pos {B n : Nat} (hB : 2 ≤ B) (hn : n ≠ 0) : toB B n = n % B :: toB B (n / B) := by rw [toB, dif_neg (by omega)]
theorem valB_append (B : Nat) (l m : List Nat) : valB B (l ++ m) = valB B l + B ^ l.length * valB B m := by
  induction l with
  | nil => simp [valB]
  | cons x l ih =>
    show x + B * valB B (l ++ m) = x + B * valB B l + B ^ (l.length + 1) * valB B m
    rw [ih, Nat.pow_succ, Nat.mul_add, Nat.add_assoc]
    congr 2
    rw [← Nat.mul_assoc, Nat.mul_comm B]
theorem valB_lt {B : Nat} {l : List Nat} (h : OkB B l) : valB B l < B ^ l.length := by
  induction l with
  | nil => simp [valB]
  | cons x l ih =>
    have h1 := h x (List.mem_cons_self ..)
    have h2 := ih fun y hy => h y (List.mem_cons_of_mem _ hy)
    show x + B * valB B l < B ^ (l.length + 1)
    have h3 : B * (valB B l + 1) ≤ B * B ^ l.length := Nat.mul_le_mul_left B h2
    rw [Nat.pow_succ, Nat.mul_comm (B ^ l.length)]
    rw [Nat.mul_add] at h3
    omega
theorem valB_toB {B : Nat} (hB : 2 ≤ B) (n : Nat) : valB B (toB B n) = n := by
  induction n using Nat.strongRecOn with
  | ind n ih =>
    by_cases h : n = 0
    · subst h; rw [toB_zero]; rfl
    · rw [toB_pos hB h]
      show n % B + B * valB B (toB B (n / B)) = n
      rw [ih _ (Nat.div_lt_self (by omega) (by omega)), Nat.mod_add_div]
theorem okB_toB {B : Nat} (hB : 2 ≤ B) (n : Nat) : OkB B (toB B n) := by
  induction n using Nat.strongRecOn with
  | ind n ih =>
    by_cases h : n = 0
    · subst h; rw [toB_zero]; intro x hx; cases hx
    · rw [toB_pos hB h]
      intro x hx
      rcases List.mem_cons.1 hx with rfl | hx
      · exact Nat.mod_lt _ (by omega)
      · exact ih _ (Nat.div_lt_self (by omega) (by omega)) x hx
theorem trim_cons {x : Nat} {l : List Nat} (h : Trim l) (hx : l ≠ [] ∨ x ≠ 0) : Trim (x :: l) := by
  unfold Trim at *
  cases l with
  | nil => rcases hx with hx | hx <;> simp_all
  | cons y l => rw [List.getLast?_cons_cons]; exact h
theorem trim_tail {x : Nat} {l : List Nat} (h : Trim (x :: l)) : Trim l := by
  unfold Trim at *
  cases l with
  | nil => simp
  | cons y l => rw [List.getLast?_cons_cons] at h; exact h
theorem trim_toB {B : Nat} (hB : 2 ≤ B) (n : Nat) : Trim (toB B n) := by
  induction n using Nat.strongRecOn with
  | ind n ih =>
    by_cases h : n = 0
    · subst h; rw [toB_zero]; unfold Trim; simp
    · rw [toB_pos hB h]
      refine trim_cons (ih _ (Nat.div_lt_self (by omega) (by omega))) ?_
      by_cases h2 : n / B = 0
      · right
        have := (Nat.div_eq_zero_iff_lt (by omega)).1 h2
        rw [Nat.mod_eq_of_lt this]; exact h
      · left
        rw [toB_pos hB h2]; simp
theorem val_zero {B : Nat} {l : List Nat} (ht : Trim l) (hv : valB B l = 0) (hB : 2 ≤ B) : l = [] := by
  induction l with
  | nil => rfl
  | cons x l ih =>
    have h1 : x + B * valB B l = 0 := hv
    have h2 : valB B l = 0 := by
      rcases Nat.mul_eq_zero.1 (show B * valB B l = 0 by omega) with h | h
      · omega
      · exact h
    have h3 := ih (trim_tail ht) h2
    subst h3
    have : x = 0 := by omega
    subst this
    exact absurd rfl ht
theorem eq_toB {B : Nat} (hB : 2 ≤ B) {l : List Nat} (hk : OkB B l) (ht : Trim l) : l = toB B (valB B l) := by
  induction l with
  | nil => rw [show valB B [] = 0 from rfl, toB_zero]
  | cons x l ih =>
    have hx := hk x (List.mem_cons_self ..)
    have ih := ih (fun y hy => hk y (List.mem_cons_of_mem _ hy)) (trim_tail ht)
    have hne : valB B (x :: l) ≠ 0 := fun h => by have := val_zero ht h hB; cases this
    rw [toB_pos hB hne]
    have e1 : valB B (x :: l) % B = x := by
      show (x + B * valB B l) % B = x
      rw [Nat.add_mul_mod_self_left, Nat.mod_eq_of_lt hx]
    have e2 : valB B (x :: l) / B = valB B l := by
      show (x + B * valB B l) / B = valB B l
      rw [Nat.add_mul_div_left _ _ (by omega), Nat.div_eq_of_lt hx, Nat.zero_add]
    rw [e1, e2, ← ih]
def trimL (l : List Nat) : List Nat := (l.reverse.dropWhile (· == 0)).reverse
theorem trimL_spec (l : List Nat) : ∃ k, l = trimL l ++ List.replicate k 0 ∧ Trim (trimL l) := by
  have key : ∀ r : List Nat, ∃ k, r.reverse = (r.dropWhile (· == 0)).reverse ++ List.replicate k 0 ∧ Trim (r.dropWhile (· == 0)).reverse := by
    intro r
    induction r with
    | nil => exact ⟨0, by simp, by simp [Trim]⟩
    | cons x r ih =>
      by_cases h : x = 0
      · subst h
        obtain ⟨k, h1, h2⟩ := ih
        refine ⟨k + 1, ?_, by simpa using h2⟩
        rw [List.reverse_cons, h1, List.replicate_succ', List.append_assoc]
        simp
      · exact ⟨0, by simp [h], by simp [h, Trim]⟩
  obtain ⟨k, h1, h2⟩ := key l.reverse
  rw [List.reverse_reverse] at h1
  exact ⟨k, h1, h2⟩
theorem valB_zeros (B k : Nat) : valB B (List.replicate k 0) = 0 := by
  induction k with
  | zero => rfl
  | succ k ih => rw [List.replicate_succ]; show 0 + B * valB B _ = 0; rw [ih]; omega
theorem valB_trimL (B : Nat) (l : List Nat) : valB B (trimL l) = valB B l := by
  obtain ⟨k, h, _⟩ := trimL_spec l
  conv => rhs; rw [h, valB_append, valB_zeros]
  omega
theorem trimL_toB {B : Nat} (hB : 2 ≤ B) {l : List Nat} (hk : OkB B l) : trimL l = toB B (valB B l) := by
  obtain ⟨k, h, ht⟩ := trimL_spec l
  have h2 : OkB B (trimL l) := fun x hx => hk x (by rw [h]; exact List.mem_append.2 (.inl hx))
  rw [← valB_trimL B l]
  exact eq_toB hB h2 ht
end Go.Proofs.YtbpjbhbbkonjlaaGreatDoor
namespace Go.Proofs.YtbpjbhbbkonjlaaGreatDoor
theorem trim_of_big {B : Nat} {l : List Nat} (hk : OkB B l) (h : l = [] ∨ B ^ (l.length - 1) ≤ valB B l) : Trim l := by
  obtain ⟨k, h1, h2⟩ := trimL_spec l
  cases k with
  | zero => rw [List.replicate_zero, List.append_nil] at h1; rw [h1]; exact h2
  | succ k =>
    exfalso
    have hlen : l.length = (trimL l).length + (k + 1) := by
      have := congrArg List.length h1
      rw [List.length_append, List.length_replicate] at this
      exact this
    have hne : l ≠ [] := fun e => by rw [e] at hlen; simp at hlen
    have hbig := h.resolve_left hne
    have hlt := valB_lt (B := B) (l := trimL l) (fun x hx => hk x (by rw [h1]; exact List.mem_append.2 (.inl hx)))
    rw [valB_trimL] at hlt
    have h3 : l.length - 1 = (trimL l).length + k := by omega
    rw [h3, Nat.pow_add] at hbig
    have hB : 0 < B ∨ B = 0 := by omega
    rcases hB with hB | hB
    · have : 1 ≤ B ^ k := Nat.pow_pos hB
      have h4 : B ^ (trimL l).length * 1 ≤ B ^ (trimL l).length * B ^ k := Nat.mul_le_mul_left _ this
      omega
    · subst hB
      cases l with
      | nil => exact hne rfl
      | cons x l => have := hk x (List.mem_cons_self ..); omega
theorem big_of_trim {B : Nat} {l : List Nat} (ht : Trim l) (hne : l ≠ []) : B ^ (l.length - 1) ≤ valB B l := by
  induction l with
  | nil => exact absurd rfl hne
  | cons x l ih =>
    by_cases hl : l = []
    · subst hl
      have hx : x ≠ 0 := fun e => by subst e; exact ht rfl
      show B ^ 0 ≤ x + B * valB B []
      rw [Nat.pow_zero]; omega
    · have h1 := ih (trim_tail ht) hl
      have hlen : 0 < l.length := List.length_pos_iff.2 hl
      show B ^ (l.length + 1 - 1) ≤ x + B * valB B l
      rw [show l.length + 1 - 1 = (l.length - 1) + 1 from by omega, Nat.pow_succ, Nat.mul_comm]
      have := Nat.mul_le_mul_left B h1
      omega
theorem valB_snoc (B : Nat) (l : List Nat) (x : Nat) : valB B (l ++ [x]) = valB B l + B ^ l.length * x := by
  rw [valB_append]; show _ + _ * (x + B * 0) = _; rw [Nat.mul_zero, Nat.add_zero]
theorem okB_snoc {B : Nat} {l : List Nat} {x : Nat} (h : OkB B l) (hx : x < B) : OkB B (l ++ [x]) := fun y hy => by
  rcases List.mem_append.1 hy with hy | hy
  · exact h y hy
  · rw [List.mem_singleton] at hy; subst hy; exact hx
theorem valB_drop (B : Nat) (l : List Nat) (i : Nat) : valB B (l.drop i) = l.getD i 0 + B * valB B (l.drop (i + 1)) := by
  by_cases h : i < l.length
  · rw [List.drop_eq_getElem_cons h, List.getD_eq_getElem?_getD, List.getElem?_eq_getElem h]; rfl
  · rw [List.drop_eq_nil_of_le (by omega), List.drop_eq_nil_of_le (by omega), List.getD_eq_getElem?_getD, List.getElem?_eq_none (by omega)]
    simp [valB]
theorem valB_take_succ (B : Nat) (l : List Nat) (i : Nat) : valB B (l.take (i + 1)) = valB B (l.take i) + B ^ i * l.getD i 0 := by
  by_cases h : i < l.length
  · rw [List.take_succ_eq_append_getElem h, valB_snoc, List.length_take, Nat.min_eq_left (by omega), List.getD_eq_getElem?_getD, List.getElem?_eq_getElem h]; rfl
  · rw [List.take_of_length_le (by omega), List.take_of_length_le (by omega), List.getD_eq_getElem?_getD, List.getElem?_eq_none (by omega)]
    simp
theorem okB_getD {B : Nat} {l : List Nat} (h : OkB B l) (hB : 0 < B) (i : Nat) : l.getD i 0 < B := by
  by_cases hi : i < l.length
  · rw [List.getD_eq_getElem?_getD, List.getElem?_eq_getElem hi]; exact h _ (List.getElem_mem hi)
  · rw [List.getD_eq_getElem?_getD, List.getElem?_eq_none (by omega)]; exact hB
theorem valB_set (B : Nat) (l : List Nat) {j : Nat} (h : j < l.length) (x : Nat) : valB B (l.set j x) + B ^ j * l.getD j 0 = valB B l + B ^ j * x := by
  induction l generalizing j with
  | nil => simp at h
  | cons y l ih =>
    cases j with
    | zero => show x + B * valB B l + B ^ 0 * y = y + B * valB B l + B ^ 0 * x; rw [Nat.pow_zero]; omega
    | succ j =>
      have := ih (j := j) (by simpa using h)
      show y + B * valB B (l.set j x) + B ^ (j + 1) * l.getD j 0 = y + B * valB B l + B ^ (j + 1) * x
      rw [Nat.pow_succ, Nat.mul_comm (B ^ j), Nat.mul_assoc, Nat.mul_assoc]
      have h2 : B * (valB B (l.set j x) + B ^ j * l.getD j 0) = B * (valB B l + B ^ j * x) := by rw [this]
      rw [Nat.mul_add, Nat.mul_add] at h2
      omega
theorem okB_set {B : Nat} {l : List Nat} (h : OkB B l) (j : Nat) {x : Nat} (hx : x < B) : OkB B (l.set j x) := fun y hy => by
  rcases List.mem_or_eq_of_mem_set hy with hy | rfl
  · exact h y hy
  · exact hx
structure PlusI (B : Nat) (a b : List Nat) (i c : Nat) (o : List Nat) : Prop where
  len : o.length = i
  ok : OkB B o
  c1 : c ≤ 1
  v : valB B o + B ^ i * (c + valB B (a.drop i) + valB B (b.drop i)) = valB B a + valB B b
theorem PlusI.start (B : Nat) (a b : List Nat) : PlusI B a b 0 0 [] := ⟨rfl, (fun x hx => by cases hx), by omega, by simp [valB]⟩
theorem PlusI.next {B : Nat} (hB : 2 ≤ B) {a b : List Nat} (ha : OkB B a) (hb : OkB B b) {i c : Nat} {o : List Nat} (h : PlusI B a b i c o) :
    PlusI B a b (i + 1) ((c + a.getD i 0 + b.getD i 0) / B) (o ++ [(c + a.getD i 0 + b.getD i 0) % B]) := by
  have h1 := okB_getD ha (by omega) i
  have h2 := okB_getD hb (by omega) i
  have h3 := h.c1
  have hv := h.v
  rw [valB_drop B a i, valB_drop B b i] at hv
  generalize a.getD i 0 = x at *
  generalize b.getD i 0 = y at *
  refine ⟨by rw [List.length_append, h.len]; rfl, okB_snoc h.ok (Nat.mod_lt _ (by omega)), ?_, ?_⟩
  · have : (c + x + y) / B < 2 := Nat.div_lt_of_lt_mul (by omega)
    omega
  · rw [valB_snoc, h.len, ← hv, Nat.pow_succ]
    have e := Nat.mod_add_div (c + x + y) B
    generalize (c + x + y) % B = r at *
    generalize (c + x + y) / B = q at *
    generalize valB B (List.drop (i + 1) a) = s
    generalize valB B (List.drop (i + 1) b) = t
    have e2 : c + (x + B * s) + (y + B * t) = r + B * (q + s + t) := by rw [Nat.mul_add, Nat.mul_add]; omega
    rw [e2, Nat.mul_add (B ^ i) r, Nat.mul_assoc, Nat.add_assoc]
theorem PlusI.done {B : Nat} (hB : 2 ≤ B) {a b : List Nat} (ta : Trim a) (tb : Trim b) {i : Nat} {o : List Nat} (h : PlusI B a b i 0 o) (hi : a.length ≤ i ∧ b.length ≤ i) (hs : i = max a.length b.length ∨ (B ^ (i - 1) ≤ valB B o)) : o = toB B (valB B a + valB B b) := by
  have hv := h.v
  rw [List.drop_eq_nil_of_le hi.1, List.drop_eq_nil_of_le hi.2] at hv
  have hv : valB B o = valB B a + valB B b := by simpa [valB] using hv
  rw [← hv]
  refine eq_toB hB h.ok (trim_of_big h.ok ?_)
  rw [h.len]
  rcases hs with hs | hs
  · by_cases h0 : i = 0
    · left
      exact List.eq_nil_of_length_eq_zero (by rw [h.len]; exact h0)
    · right
      rw [hv]
      by_cases hab : a.length ≤ b.length
      · have hne : b ≠ [] := fun e => by rw [e] at hs hab; simp at hs hab; subst hab; simp at hs; exact h0 hs
        have := big_of_trim (B := B) tb hne
        rw [show i = b.length from by omega]
        omega
      · have hne : a ≠ [] := fun e => by rw [e] at hab; simp at hab
        have := big_of_trim (B := B) ta hne
        rw [show i = a.length from by omega]
        omega
  · exact .inr hs
end Go.Proofs.YtbpjbhbbkonjlaaGreatDoor
namespace Go.Proofs.YtbpjbhbbkonjlaaGreatDoor
open Go.Lib (decDigits)
theorem drop_toB {B : Nat} (hB : 2 ≤ B) (j : Nat) : ∀ n, (toB B n).drop j = toB B (n / B ^ j) := by
  induction j with
  | zero => intro n; simp
  | succ j ih =>
    intro n
    by_cases h : n = 0
    · subst h; rw [toB_zero, Nat.zero_div, toB_zero]; rfl
    · rw [toB_pos hB h, List.drop_succ_cons, ih, Nat.div_div_eq_div_mul, Nat.pow_succ, Nat.mul_comm B]
theorem len_toB {B : Nat} (hB : 2 ≤ B) (i n : Nat) : i < (toB B n).length ↔ n / B ^ i ≠ 0 := by
  have h1 : ((toB B n).drop i).length = (toB B n).length - i := List.length_drop
  rw [drop_toB hB] at h1
  constructor
  · intro h e
    rw [e, toB_zero] at h1
    simp at h1; omega
  · intro h
    rw [toB_pos hB h] at h1
    simp at h1; omega
theorem getD_toB {B : Nat} (hB : 2 ≤ B) (i n : Nat) : (toB B n).getD i 0 = n / B ^ i % B := by
  have h1 : (toB B n).getD i 0 = ((toB B n).drop i).getD 0 0 := by simp [List.getD_eq_getElem?_getD]
  rw [h1, drop_toB hB]
  by_cases h : n / B ^ i = 0
  · rw [h, toB_zero, Nat.zero_mod]; rfl
  · rw [toB_pos hB h]; rfl
structure ReadI (k : Nat) (s : List UInt8) (o : List Nat) : Prop where
  ok : OkB (10 ^ k) o
  v : valB (10 ^ k) o + (10 ^ k) ^ o.length * decV (s.take (s.length - k * o.length)) = decV s
theorem ReadI.start (k : Nat) (s : List UInt8) : ReadI k s [] := ⟨(fun x hx => by cases hx), by simp [valB]⟩
theorem ReadI.next {k : Nat} (_ : 0 < k) {s : List UInt8} (hs : DigitL s) {o : List Nat} (h : ReadI k s o) :
    ReadI k s (o ++ [decV ((s.take (s.length - k * o.length)).drop (s.length - k * o.length - k))]) := by
  have hv := h.v
  have hl : (o ++ [decV ((s.take (s.length - k * o.length)).drop (s.length - k * o.length - k))]).length = o.length + 1 := by simp
  generalize he : s.length - k * o.length = e at *
  have hee : e ≤ s.length := by omega
  have hc : ((s.take e).drop (e - k)).length ≤ k := by rw [List.length_drop, List.length_take]; omega
  have hlt : decV ((s.take e).drop (e - k)) < 10 ^ k := Nat.lt_of_lt_of_le (decV_lt ((hs.of_take e).of_drop _)) (Nat.pow_le_pow_right (by omega) hc)
  refine ⟨okB_snoc h.ok hlt, ?_⟩
  have he2 : s.length - k * (o.length + 1) = e - k := by rw [Nat.mul_add]; omega
  rw [hl, he2, valB_snoc, ← hv, Nat.pow_succ]
  have e1 : s.take e = s.take (e - k) ++ (s.take e).drop (e - k) := by
    have h1 := (List.take_append_drop (e - k) (s.take e)).symm
    rw [List.take_take, Nat.min_eq_left (by omega)] at h1
    exact h1
  have e2 : decV (s.take e) = 10 ^ k * decV (s.take (e - k)) + decV ((s.take e).drop (e - k)) := by
    conv => lhs; rw [e1, decV_append]
    by_cases hk : k ≤ e
    · rw [show ((s.take e).drop (e - k)).length = k by rw [List.length_drop, List.length_take]; omega, Nat.mul_comm]
    · rw [show e - k = 0 by omega]; simp [decV]
  rw [e2, Nat.mul_add, Nat.mul_assoc]
  omega
theorem ReadI.done {k : Nat} (hk : 0 < k) {s : List UInt8} {o : List Nat} (h : ReadI k s o) (he : s.length ≤ k * o.length) : trimL o = toB (10 ^ k) (decV s) := by
  have h2 : 2 ≤ 10 ^ k := by
    rcases k with _ | k
    · omega
    · rw [Nat.pow_succ]; have := Nat.pow_pos (n := k) (by omega : 0 < 10); omega
  have hv := h.v
  rw [Nat.sub_eq_zero_of_le he, List.take_zero, show decV [] = 0 from rfl, Nat.mul_zero, Nat.add_zero] at hv
  rw [trimL_toB h2 h.ok, hv]
theorem text_next {k n i : Nat} (hk : 0 < k) (h0 : n / (10 ^ k) ^ (i + 1) ≠ 0) :
    decDigits (n / (10 ^ k) ^ i) = decDigits (n / (10 ^ k) ^ (i + 1)) ++
      (List.replicate (k - (decDigits (n / (10 ^ k) ^ i % 10 ^ k)).length) 48 ++ decDigits (n / (10 ^ k) ^ i % 10 ^ k)) := by
  have h1 : n / (10 ^ k) ^ (i + 1) = n / (10 ^ k) ^ i / 10 ^ k := by rw [Nat.pow_succ, Nat.div_div_eq_div_mul]
  rw [h1] at h0 ⊢
  generalize n / (10 ^ k) ^ i = m at *
  have hp : 0 < 10 ^ k := Nat.pow_pos (by omega)
  have hm := Nat.div_add_mod m (10 ^ k)
  have hlt := Nat.mod_lt m hp
  conv => lhs; rw [← hm, Nat.mul_comm (10 ^ k)]
  rw [digits_chunk k (Nat.pos_of_ne_zero h0) hlt, padD_eq k hlt hk]
theorem text_first {k n i : Nat} (h0 : n / (10 ^ k) ^ (i + 1) = 0) : n / (10 ^ k) ^ i % 10 ^ k = n / (10 ^ k) ^ i := by
  rw [Nat.pow_succ, ← Nat.div_div_eq_div_mul] at h0
  exact Nat.mod_eq_of_lt ((Nat.div_eq_zero_iff_lt (Nat.pow_pos (by omega))).1 h0)
theorem padD_cons (p : Nat) : ∀ n, padD (p + 1) n = UInt8.ofNat (48 + n / 10 ^ p % 10) :: padD p n := by
  induction p with
  | zero => intro n; simp [padD]
  | succ p ih =>
    intro n
    rw [padD, ih, padD]
    simp only [List.cons_append]
    rw [Nat.div_div_eq_div_mul, Nat.pow_succ, Nat.mul_comm 10]
theorem padD_all {p n : Nat} (hp : 0 < p) (h1 : n < 10 ^ p) (h2 : 10 ^ (p - 1) ≤ n) : padD p n = decDigits n := by
  rw [padD_eq p h1 hp]
  have h3 := (digits_len_le n p hp).2 h1
  have h4 : ¬ (decDigits n).length ≤ p - 1 := fun h => by
    by_cases hp1 : p = 1
    · subst hp1
      have := (digits_ok n).2.2
      simp at h; exact this h
    · have := (digits_len_le n (p - 1) (by omega)).1 h
      omega
  rw [show p - (decDigits n).length = 0 by omega]; rfl
end Go.Proofs.YtbpjbhbbkonjlaaGreatDoor
