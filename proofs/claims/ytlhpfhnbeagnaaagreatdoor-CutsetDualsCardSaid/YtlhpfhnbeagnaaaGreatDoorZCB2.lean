/- Steps of the proof: FNatL, FDec, FDig, FNatM, FGcd, FCells, FTrim, FPlus, FTimes, FBwd, FBy, FRng, CHld, CFls. No conditions. -/
import Derived.Lib.ItoaMem
import Derived.Lib.ParseIntB
import Derived.Lib.Atoi
import Derived.Deep.OwnRows
import Derived.OwnWalk
import Derived.Laws.EntriesVeiled
import Derived.Laws.Bits64b
import Derived.Test.YtlhpfhnbeagnaaaGreatDoorZCB1
namespace Go.Proofs.YtlhpfhnbeagnaaaGreatDoor
theorem trim_of_big {B : Nat} {l : List Nat} (hk : OkB B l) (h : l = [] ∨ B ^ (l.length - 1) ≤ valB B l) : Trim l := by
  obtain ⟨k, h1, h2⟩ := trimL_spec l
  cases k with
  | zero => rw [List.replicate_zero, List.append_nil] at h1; rw [h1]; exact h2
  | succ k =>
    exfalso
    have hlen : l.length = (trimL l).length + (k + 1) := by
      have := congrArg List.length h1
      rw [List.length_append, List.length_replicate] at this
      exact this
    have hne : l ≠ [] := fun e => by rw [e] at hlen; simp at hlen
    have hbig := h.resolve_left hne
    have hlt := valB_lt (B := B) (l := trimL l) (fun x hx => hk x (by rw [h1]; exact List.mem_append.2 (.inl hx)))
    rw [valB_trimL] at hlt
    have h3 : l.length - 1 = (trimL l).length + k := by omega
    rw [h3, Nat.pow_add] at hbig
    have hB : 0 < B ∨ B = 0 := by omega
    rcases hB with hB | hB
    · have : 1 ≤ B ^ k := Nat.pow_pos hB
      have h4 : B ^ (trimL l).length * 1 ≤ B ^ (trimL l).length * B ^ k := Nat.mul_le_mul_left _ this
      omega
    · subst hB
      cases l with
      | nil => exact hne rfl
      | cons x l => have := hk x (List.mem_cons_self ..); omega
theorem big_of_trim {B : Nat} {l : List Nat} (ht : Trim l) (hne : l ≠ []) : B ^ (l.length - 1) ≤ valB B l := by
  induction l with
  | nil => exact absurd rfl hne
  | cons x l ih =>
    by_cases hl : l = []
    · subst hl
      have hx : x ≠ 0 := fun e => by subst e; exact ht rfl
      show B ^ 0 ≤ x + B * valB B []
      rw [Nat.pow_zero]; omega
    · have h1 := ih (trim_tail ht) hl
      have hlen : 0 < l.length := List.length_pos_iff.2 hl
      show B ^ (l.length + 1 - 1) ≤ x + B * valB B l
      rw [show l.length + 1 - 1 = (l.length - 1) + 1 from by omega, Nat.pow_succ, Nat.mul_comm]
      have := Nat.mul_le_mul_left B h1
      omega
theorem valB_snoc (B : Nat) (l : List Nat) (x : Nat) : valB B (l ++ [x]) = valB B l + B ^ l.length * x := by
  rw [valB_append]; show _ + _ * (x + B * 0) = _; rw [Nat.mul_zero, Nat.add_zero]
theorem okB_snoc {B : Nat} {l : List Nat} {x : Nat} (h : OkB B l) (hx : x < B) : OkB B (l ++ [x]) := fun y hy => by
  rcases List.mem_append.1 hy with hy | hy
  · exact h y hy
  · rw [List.mem_singleton] at hy; subst hy; exact hx
theorem valB_drop (B : Nat) (l : List Nat) (i : Nat) : valB B (l.drop i) = l.getD i 0 + B * valB B (l.drop (i + 1)) := by
  by_cases h : i < l.length
  · rw [List.drop_eq_getElem_cons h, List.getD_eq_getElem?_getD, List.getElem?_eq_getElem h]; rfl
  · rw [List.drop_eq_nil_of_le (by omega), List.drop_eq_nil_of_le (by omega), List.getD_eq_getElem?_getD, List.getElem?_eq_none (by omega)]
    simp [valB]
theorem valB_take_succ (B : Nat) (l : List Nat) (i : Nat) : valB B (l.take (i + 1)) = valB B (l.take i) + B ^ i * l.getD i 0 := by
  by_cases h : i < l.length
  · rw [List.take_succ_eq_append_getElem h, valB_snoc, List.length_take, Nat.min_eq_left (by omega), List.getD_eq_getElem?_getD, List.getElem?_eq_getElem h]; rfl
  · rw [List.take_of_length_le (by omega), List.take_of_length_le (by omega), List.getD_eq_getElem?_getD, List.getElem?_eq_none (by omega)]
    simp
theorem okB_getD {B : Nat} {l : List Nat} (h : OkB B l) (hB : 0 < B) (i : Nat) : l.getD i 0 < B := by
  by_cases hi : i < l.length
  · rw [List.getD_eq_getElem?_getD, List.getElem?_eq_getElem hi]; exact h _ (List.getElem_mem hi)
  · rw [List.getD_eq_getElem?_getD, List.getElem?_eq_none (by omega)]; exact hB
theorem valB_set (B : Nat) (l : List Nat) {j : Nat} (h : j < l.length) (x : Nat) : valB B (l.set j x) + B ^ j * l.getD j 0 = valB B l + B ^ j * x := by
  induction l generalizing j with
  | nil => simp at h
  | cons y l ih =>
    cases j with
    | zero => show x + B * valB B l + B ^ 0 * y = y + B * valB B l + B ^ 0 * x; rw [Nat.pow_zero]; omega
    | succ j =>
      have := ih (j := j) (by simpa using h)
      show y + B * valB B (l.set j x) + B ^ (j + 1) * l.getD j 0 = y + B * valB B l + B ^ (j + 1) * x
      rw [Nat.pow_succ, Nat.mul_comm (B ^ j), Nat.mul_assoc, Nat.mul_assoc]
      have h2 : B * (valB B (l.set j x) + B ^ j * l.getD j 0) = B * (valB B l + B ^ j * x) := by rw [this]
      rw [Nat.mul_add, Nat.mul_add] at h2
      omega
theorem okB_set {B : Nat} {l : List Nat} (h : OkB B l) (j : Nat) {x : Nat} (hx : x < B) : OkB B (l.set j x) := fun y hy => by
  rcases List.mem_or_eq_of_mem_set hy with hy | rfl
  · exact h y hy
  · exact hx
structure PlusI (B : Nat) (a b : List Nat) (i c : Nat) (o : List Nat) : Prop where
  len : o.length = i
  ok : OkB B o
  c1 : c ≤ 1
  v : valB B o + B ^ i * (c + valB B (a.drop i) + valB B (b.drop i)) = valB B a + valB B b
theorem PlusI.start (B : Nat) (a b : List Nat) : PlusI B a b 0 0 [] := ⟨rfl, (fun x hx => by cases hx), by omega, by simp [valB]⟩
theorem PlusI.next {B : Nat} (hB : 2 ≤ B) {a b : List Nat} (ha : OkB B a) (hb : OkB B b) {i c : Nat} {o : List Nat} (h : PlusI B a b i c o) :
    PlusI B a b (i + 1) ((c + a.getD i 0 + b.getD i 0) / B) (o ++ [(c + a.getD i 0 + b.getD i 0) % B]) := by
  have h1 := okB_getD ha (by omega) i
  have h2 := okB_getD hb (by omega) i
  have h3 := h.c1
  have hv := h.v
  rw [valB_drop B a i, valB_drop B b i] at hv
  generalize a.getD i 0 = x at *
  generalize b.getD i 0 = y at *
  refine ⟨by rw [List.length_append, h.len]; rfl, okB_snoc h.ok (Nat.mod_lt _ (by omega)), ?_, ?_⟩
  · have : (c + x + y) / B < 2 := Nat.div_lt_of_lt_mul (by omega)
    omega
  · rw [valB_snoc, h.len, ← hv, Nat.pow_succ]
    have e := Nat.mod_add_div (c + x + y) B
    generalize (c + x + y) % B = r at *
    generalize (c + x + y) / B = q at *
    generalize valB B (List.drop (i + 1) a) = s
    generalize valB B (List.drop (i + 1) b) = t
    have e2 : c + (x + B * s) + (y + B * t) = r + B * (q + s + t) := by rw [Nat.mul_add, Nat.mul_add]; omega
    rw [e2, Nat.mul_add (B ^ i) r, Nat.mul_assoc, Nat.add_assoc]
theorem PlusI.done {B : Nat} (hB : 2 ≤ B) {a b : List Nat} (ta : Trim a) (tb : Trim b) {i : Nat} {o : List Nat} (h : PlusI B a b i 0 o) (hi : a.length ≤ i ∧ b.length ≤ i) (hs : i = max a.length b.length ∨ (B ^ (i - 1) ≤ valB B o)) : o = toB B (valB B a + valB B b) := by
  have hv := h.v
  rw [List.drop_eq_nil_of_le hi.1, List.drop_eq_nil_of_le hi.2] at hv
  have hv : valB B o = valB B a + valB B b := by simpa [valB] using hv
  rw [← hv]
  refine eq_toB hB h.ok (trim_of_big h.ok ?_)
  rw [h.len]
  rcases hs with hs | hs
  · by_cases h0 : i = 0
    · left
      exact List.eq_nil_of_length_eq_zero (by rw [h.len]; exact h0)
    · right
      rw [hv]
      by_cases hab : a.length ≤ b.length
      · have hne : b ≠ [] := fun e => by rw [e] at hs hab; simp at hs hab; subst hab; simp at hs; exact h0 hs
        have := big_of_trim (B := B) tb hne
        rw [show i = b.length from by omega]
        omega
      · have hne : a ≠ [] := fun e => by rw [e] at hab; simp at hab
        have := big_of_trim (B := B) ta hne
        rw [show i = a.length from by omega]
        omega
  · exact .inr hs
end Go.Proofs.YtlhpfhnbeagnaaaGreatDoor
namespace Go.Proofs.YtlhpfhnbeagnaaaGreatDoor
open Go.Lib (decDigits decFrom)
theorem snocRec {α : Type} {P : List α → Prop} (nil : P []) (snoc : ∀ l a, P l → P (l ++ [a])) (l : List α) : P l := by
  have h : ∀ m : List α, P m.reverse := fun m => by
    induction m with
    | nil => exact nil
    | cons a m ih => rw [List.reverse_cons]; exact snoc _ _ ih
  have := h l.reverse
  rwa [List.reverse_reverse] at this
def DigitL (l : List UInt8) : Prop := ∀ c ∈ l, 48 ≤ c.toNat ∧ c.toNat ≤ 57
instance (l : List UInt8) : Decidable (DigitL l) := by unfold DigitL; infer_instance
def decV (l : List UInt8) : Nat := l.foldl (fun v c => 10 * v + (c.toNat - 48)) 0
theorem decV_snoc (l : List UInt8) (c : UInt8) : decV (l ++ [c]) = 10 * decV l + (c.toNat - 48) := by
  unfold decV; rw [List.foldl_append]; rfl
theorem decV_append (l m : List UInt8) : decV (l ++ m) = decV l * 10 ^ m.length + decV m := by
  induction m using snocRec with
  | nil => simp [decV]
  | snoc m c ih =>
    rw [← List.append_assoc, decV_snoc, decV_snoc, ih, List.length_append, List.length_singleton, Nat.pow_succ, Nat.mul_add,
      Nat.mul_comm (10 ^ m.length) 10, ← Nat.mul_assoc, ← Nat.mul_assoc, Nat.mul_comm 10, Nat.add_assoc]
theorem DigitL.left {l m : List UInt8} (h : DigitL (l ++ m)) : DigitL l := fun c hc => h c (List.mem_append_left _ hc)
theorem DigitL.right {l m : List UInt8} (h : DigitL (l ++ m)) : DigitL m := fun c hc => h c (List.mem_append_right _ hc)
theorem DigitL.app {l m : List UInt8} (h : DigitL l) (k : DigitL m) : DigitL (l ++ m) := fun c hc => (List.mem_append.1 hc).elim (h c) (k c)
theorem DigitL.of_take {l : List UInt8} (h : DigitL l) (i : Nat) : DigitL (l.take i) := fun c hc => h c (List.mem_of_mem_take hc)
theorem DigitL.of_drop {l : List UInt8} (h : DigitL l) (i : Nat) : DigitL (l.drop i) := fun c hc => h c (List.mem_of_mem_drop hc)
theorem decV_lt {l : List UInt8} (h : DigitL l) : decV l < 10 ^ l.length := by
  induction l using snocRec with
  | nil => simp [decV]
  | snoc l c ih =>
    have h1 := ih h.left
    have h2 := h.right c (List.mem_singleton.2 rfl)
    rw [decV_snoc, List.length_append, List.length_singleton, Nat.pow_succ]
    omega
theorem parse_eq {l : List UInt8} (h : DigitL l) (hne : l ≠ []) (hl : l.length ≤ 18) : Go.Lib.parseUintB 64 l = .ok (decV l) := by
  have key : ∀ (m : List UInt8) (acc k : Nat), DigitL m → acc < 10 ^ k → k + m.length ≤ 18 →
      Go.Lib.parseUintM (2 ^ 64 - 1) acc m = .ok (acc * 10 ^ m.length + decV m) := by
    intro m
    induction m with
    | nil => intro acc k _ _ _; simp [Go.Lib.parseUintM, decV]
    | cons c m ih =>
      intro acc k hd ha hk
      have h1 := hd c (List.mem_cons_self ..)
      have h2 : DigitL m := fun d hd' => hd d (List.mem_cons_of_mem _ hd')
      have h5 : 10 ^ k ≤ 10 ^ 17 := Nat.pow_le_pow_right (by omega) (by simp at hk; omega)
      have h6 : acc * 10 + (c.toNat - 48) < 10 ^ (k + 1) := by rw [Nat.pow_succ]; omega
      have h4 : decV (c :: m) = (c.toNat - 48) * 10 ^ m.length + decV m := by
        rw [show c :: m = [c] ++ m from rfl, decV_append]
        congr 2
        simp [decV]
      simp only [Go.Lib.parseUintM]
      rw [if_pos h1, if_neg (by omega), if_neg (by omega), ih _ (k + 1) h2 h6 (by simp at hk; omega), h4, List.length_cons, Nat.pow_succ, Nat.add_mul,
        Nat.mul_comm (10 ^ m.length) 10, Nat.mul_assoc, Nat.add_assoc]
  unfold Go.Lib.parseUintB
  rw [if_neg hne, key l 0 0 h (by simp) (by omega)]
  simp
theorem digit_toNat {d : Nat} (h : d < 10) : (UInt8.ofNat (48 + d)).toNat = 48 + d := by
  rw [UInt8.toNat_ofNat']; exact Nat.mod_eq_of_lt (by omega)
theorem digits_small {n : Nat} (h : n < 10) : decDigits n = [UInt8.ofNat (48 + n)] := by rw [decDigits, dif_pos h]
theorem digits_big {n : Nat} (h : 10 ≤ n) : decDigits n = decDigits (n / 10) ++ [UInt8.ofNat (48 + n % 10)] := by rw [decDigits, dif_neg (by omega)]
theorem digits_ok (n : Nat) : DigitL (decDigits n) ∧ decV (decDigits n) = n ∧ decDigits n ≠ [] := by
  induction n using Nat.strongRecOn with
  | ind n ih =>
    by_cases h : n < 10
    · rw [digits_small h]
      refine ⟨?_, ?_, by simp⟩
      · intro c hc
        rw [List.mem_singleton.1 hc, digit_toNat h]; omega
      · show 10 * 0 + ((UInt8.ofNat (48 + n)).toNat - 48) = n
        rw [digit_toNat h]; omega
    · rw [digits_big (by omega)]
      obtain ⟨h1, h2, _⟩ := ih (n / 10) (by omega)
      refine ⟨h1.app ?_, ?_, by simp⟩
      · intro c hc
        rw [List.mem_singleton.1 hc, digit_toNat (Nat.mod_lt _ (by omega))]; omega
      · rw [decV_snoc, h2, digit_toNat (Nat.mod_lt _ (by omega))]; omega
theorem digits_head (n : Nat) (hn : n ≠ 0) : (decDigits n).head? ≠ some 48 := by
  induction n using Nat.strongRecOn with
  | ind n ih =>
    by_cases h : n < 10
    · rw [digits_small h]
      intro h2
      have h3 : UInt8.ofNat (48 + n) = 48 := by simpa using h2
      have h4 := digit_toNat h
      rw [h3] at h4
      simp at h4
      omega
    · rw [digits_big (by omega)]
      have h1 := ih (n / 10) (by omega) (by omega)
      have h2 := (digits_ok (n / 10)).2.2
      revert h1 h2
      cases decDigits (n / 10) with
      | nil => exact fun _ h2 => absurd rfl h2
      | cons c m => exact fun h1 _ => h1
def CanonL (l : List UInt8) : Prop := DigitL l ∧ l ≠ [] ∧ (l.head? ≠ some 48 ∨ l = [48])
instance (l : List UInt8) : Decidable (CanonL l) := by unfold CanonL; infer_instance
theorem canon_digits (n : Nat) : CanonL (decDigits n) := by
  obtain ⟨h1, _, h3⟩ := digits_ok n
  refine ⟨h1, h3, ?_⟩
  by_cases h : n = 0
  · right; subst h; rw [digits_small (by omega)]; rfl
  · left; exact digits_head n h
theorem decV_pos {c : UInt8} {l : List UInt8} (h : DigitL (c :: l)) (hc : c ≠ 48) : 10 ^ l.length ≤ decV (c :: l) := by
  have h1 := h c (List.mem_cons_self ..)
  have h4 : decV (c :: l) = (c.toNat - 48) * 10 ^ l.length + decV l := by
    rw [show c :: l = [c] ++ l from rfl, decV_append]
    congr 2
    simp [decV]
  have h5 : c.toNat ≠ 48 := fun e => hc (UInt8.toNat_inj.1 (by rw [e]; rfl))
  rw [h4]
  have := Nat.mul_le_mul_right (10 ^ l.length) (show 1 ≤ c.toNat - 48 by omega)
  omega
theorem digit_back {c : UInt8} (h : 48 ≤ c.toNat ∧ c.toNat ≤ 57) : UInt8.ofNat (48 + (c.toNat - 48)) = c := by
  apply UInt8.toNat_inj.1
  rw [digit_toNat (by omega)]; omega
theorem canon_back {l : List UInt8} (h : CanonL l) : decDigits (decV l) = l := by
  obtain ⟨h1, h2, h3⟩ := h
  have key : ∀ (m : List UInt8) (c : UInt8), DigitL (c :: m) → c ≠ 48 → decDigits (decV (c :: m)) = c :: m := by
    intro m
    induction m using snocRec with
    | nil =>
      intro c hd _
      have hc := hd c (List.mem_cons_self ..)
      have : decV [c] = c.toNat - 48 := by simp [decV]
      rw [this, digits_small (by omega), digit_back hc]
    | snoc m d ih =>
      intro c hd hc
      have hd1 : DigitL (c :: m) := DigitL.left (m := [d]) (by simpa using hd)
      have hd2 := hd d (by simp)
      have h5 := decV_pos hd1 hc
      have h6 : 0 < 10 ^ m.length := Nat.pow_pos (by omega)
      have h7 : decV (c :: (m ++ [d])) = 10 * decV (c :: m) + (d.toNat - 48) := by
        rw [show c :: (m ++ [d]) = (c :: m) ++ [d] from rfl, decV_snoc]
      rw [h7, digits_big (by omega), show (10 * decV (c :: m) + (d.toNat - 48)) / 10 = decV (c :: m) by omega,
        show (10 * decV (c :: m) + (d.toNat - 48)) % 10 = d.toNat - 48 by omega, ih c hd1 hc, digit_back hd2]
      rfl
  rcases h3 with h3 | h3
  · cases l with
    | nil => exact absurd rfl h2
    | cons c m => exact key m c h1 (by simpa using h3)
  · subst h3
    have : decV [48] = 0 := by simp [decV]
    rw [this, digits_small (by omega)]
    rfl
theorem digits_len_le (n k : Nat) (hk : 1 ≤ k) : (decDigits n).length ≤ k ↔ n < 10 ^ k := by
  constructor
  · intro h
    have h1 := decV_lt (digits_ok n).1
    rw [(digits_ok n).2.1] at h1
    exact Nat.lt_of_lt_of_le h1 (Nat.pow_le_pow_right (by omega) h)
  · intro h
    have h1 := canon_digits n
    have h2 := (digits_ok n).2.1
    revert h1 h2
    generalize decDigits n = l
    intro h1 h2
    obtain ⟨h3, h4, h5⟩ := h1
    rcases h5 with h5 | h5
    · cases l with
      | nil => exact absurd rfl h4
      | cons c m =>
        have h6 := decV_pos h3 (by simpa using h5)
        rw [h2] at h6
        have h7 : 10 ^ m.length < 10 ^ k := Nat.lt_of_le_of_lt h6 h
        have h8 := (Nat.pow_lt_pow_iff_right (by omega : 1 < 10)).1 h7
        simp; omega
    · subst h5; simpa using hk
def padD : Nat → Nat → List UInt8
  | 0, _ => []
  | k + 1, x => padD k (x / 10) ++ [UInt8.ofNat (48 + x % 10)]
theorem digits_chunk (k : Nat) : ∀ {n x : Nat}, 0 < n → x < 10 ^ k → decDigits (n * 10 ^ k + x) = decDigits n ++ padD k x := by
  induction k with
  | zero => intro n x _ hx; rw [Nat.pow_zero] at hx; rw [show x = 0 by omega]; simp [padD]
  | succ k ih =>
    intro n x hn hx
    have h0 : 0 < 10 ^ k := Nat.pow_pos (by omega)
    have h1 : n * 10 ^ (k + 1) + x = 10 * (n * 10 ^ k) + x := by rw [Nat.pow_succ, Nat.mul_comm (10 ^ k) 10, Nat.mul_left_comm]
    have h2 : 1 ≤ n * 10 ^ k := Nat.mul_pos hn h0
    rw [Nat.pow_succ] at hx
    rw [h1, digits_big (by omega), show (10 * (n * 10 ^ k) + x) / 10 = n * 10 ^ k + x / 10 by omega, show (10 * (n * 10 ^ k) + x) % 10 = x % 10 by omega,
      ih hn (by omega), padD, List.append_assoc]
theorem padD_zero (k : Nat) : padD k 0 = List.replicate k 48 := by
  induction k with
  | zero => rfl
  | succ k ih => rw [padD, Nat.zero_div, ih, List.replicate_succ']; rfl
theorem padD_eq (k : Nat) : ∀ {x : Nat}, x < 10 ^ k → 1 ≤ k → padD k x = List.replicate (k - (decDigits x).length) 48 ++ decDigits x := by
  induction k with
  | zero => intro x _ h; omega
  | succ k ih =>
    intro x hx _
    rw [padD]
    by_cases h : x < 10
    · rw [show x / 10 = 0 by omega, padD_zero, digits_small h, Nat.mod_eq_of_lt h]
      simp
    · have hk : 1 ≤ k := by
        rcases k with _ | k
        · simp at hx; omega
        · omega
      rw [Nat.pow_succ] at hx
      have h1 := ih (show x / 10 < 10 ^ k by omega) hk
      have h2 := digits_big (n := x) (by omega)
      have h3 : (decDigits x).length = (decDigits (x / 10)).length + 1 := by rw [h2, List.length_append]; rfl
      rw [h1, h3, h2, List.append_assoc, show k + 1 - ((decDigits (x / 10)).length + 1) = k - (decDigits (x / 10)).length by omega]
theorem digits_text (x : Nat) (h : x < 10 ^ 9) : (decDigits x).length ≤ 9 := (digits_len_le x 9 (by omega)).2 h
end Go.Proofs.YtlhpfhnbeagnaaaGreatDoor
namespace Go.Proofs.YtlhpfhnbeagnaaaGreatDoor
open Go.Lib (decDigits)
theorem drop_toB {B : Nat} (hB : 2 ≤ B) (j : Nat) : ∀ n, (toB B n).drop j = toB B (n / B ^ j) := by
  induction j with
  | zero => intro n; simp
  | succ j ih =>
    intro n
    by_cases h : n = 0
    · subst h; rw [toB_zero, Nat.zero_div, toB_zero]; rfl
    · rw [toB_pos hB h, List.drop_succ_cons, ih, Nat.div_div_eq_div_mul, Nat.pow_succ, Nat.mul_comm B]
theorem len_toB {B : Nat} (hB : 2 ≤ B) (i n : Nat) : i < (toB B n).length ↔ n / B ^ i ≠ 0 := by
  have h1 : ((toB B n).drop i).length = (toB B n).length - i := List.length_drop
  rw [drop_toB hB] at h1
  constructor
  · intro h e
    rw [e, toB_zero] at h1
    simp at h1; omega
  · intro h
    rw [toB_pos hB h] at h1
    simp at h1; omega
theorem getD_toB {B : Nat} (hB : 2 ≤ B) (i n : Nat) : (toB B n).getD i 0 = n / B ^ i % B := by
  have h1 : (toB B n).getD i 0 = ((toB B n).drop i).getD 0 0 := by simp [List.getD_eq_getElem?_getD]
  rw [h1, drop_toB hB]
  by_cases h : n / B ^ i = 0
  · rw [h, toB_zero, Nat.zero_mod]; rfl
  · rw [toB_pos hB h]; rfl
structure ReadI (k : Nat) (s : List UInt8) (o : List Nat) : Prop where
  ok : OkB (10 ^ k) o
  v : valB (10 ^ k) o + (10 ^ k) ^ o.length * decV (s.take (s.length - k * o.length)) = decV s
theorem ReadI.start (k : Nat) (s : List UInt8) : ReadI k s [] := ⟨(fun x hx => by cases hx), by simp [valB]⟩
theorem ReadI.next {k : Nat} (_ : 0 < k) {s : List UInt8} (hs : DigitL s) {o : List Nat} (h : ReadI k s o) :
    ReadI k s (o ++ [decV ((s.take (s.length - k * o.length)).drop (s.length - k * o.length - k))]) := by
  have hv := h.v
  have hl : (o ++ [decV ((s.take (s.length - k * o.length)).drop (s.length - k * o.length - k))]).length = o.length + 1 := by simp
  generalize he : s.length - k * o.length = e at *
  have hee : e ≤ s.length := by omega
  have hc : ((s.take e).drop (e - k)).length ≤ k := by rw [List.length_drop, List.length_take]; omega
  have hlt : decV ((s.take e).drop (e - k)) < 10 ^ k := Nat.lt_of_lt_of_le (decV_lt ((hs.of_take e).of_drop _)) (Nat.pow_le_pow_right (by omega) hc)
  refine ⟨okB_snoc h.ok hlt, ?_⟩
  have he2 : s.length - k * (o.length + 1) = e - k := by rw [Nat.mul_add]; omega
  rw [hl, he2, valB_snoc, ← hv, Nat.pow_succ]
  have e1 : s.take e = s.take (e - k) ++ (s.take e).drop (e - k) := by
    have h1 := (List.take_append_drop (e - k) (s.take e)).symm
    rw [List.take_take, Nat.min_eq_left (by omega)] at h1
    exact h1
  have e2 : decV (s.take e) = 10 ^ k * decV (s.take (e - k)) + decV ((s.take e).drop (e - k)) := by
    conv => lhs; rw [e1, decV_append]
    by_cases hk : k ≤ e
    · rw [show ((s.take e).drop (e - k)).length = k by rw [List.length_drop, List.length_take]; omega, Nat.mul_comm]
    · rw [show e - k = 0 by omega]; simp [decV]
  rw [e2, Nat.mul_add, Nat.mul_assoc]
  omega
theorem ReadI.done {k : Nat} (hk : 0 < k) {s : List UInt8} {o : List Nat} (h : ReadI k s o) (he : s.length ≤ k * o.length) : trimL o = toB (10 ^ k) (decV s) := by
  have h2 : 2 ≤ 10 ^ k := by
    rcases k with _ | k
    · omega
    · rw [Nat.pow_succ]; have := Nat.pow_pos (n := k) (by omega : 0 < 10); omega
  have hv := h.v
  rw [Nat.sub_eq_zero_of_le he, List.take_zero, show decV [] = 0 from rfl, Nat.mul_zero, Nat.add_zero] at hv
  rw [trimL_toB h2 h.ok, hv]
theorem text_next {k n i : Nat} (hk : 0 < k) (h0 : n / (10 ^ k) ^ (i + 1) ≠ 0) :
    decDigits (n / (10 ^ k) ^ i) = decDigits (n / (10 ^ k) ^ (i + 1)) ++
      (List.replicate (k - (decDigits (n / (10 ^ k) ^ i % 10 ^ k)).length) 48 ++ decDigits (n / (10 ^ k) ^ i % 10 ^ k)) := by
  have h1 : n / (10 ^ k) ^ (i + 1) = n / (10 ^ k) ^ i / 10 ^ k := by rw [Nat.pow_succ, Nat.div_div_eq_div_mul]
  rw [h1] at h0 ⊢
  generalize n / (10 ^ k) ^ i = m at *
  have hp : 0 < 10 ^ k := Nat.pow_pos (by omega)
  have hm := Nat.div_add_mod m (10 ^ k)
  have hlt := Nat.mod_lt m hp
  conv => lhs; rw [← hm, Nat.mul_comm (10 ^ k)]
  rw [digits_chunk k (Nat.pos_of_ne_zero h0) hlt, padD_eq k hlt hk]
theorem text_first {k n i : Nat} (h0 : n / (10 ^ k) ^ (i + 1) = 0) : n / (10 ^ k) ^ i % 10 ^ k = n / (10 ^ k) ^ i := by
  rw [Nat.pow_succ, ← Nat.div_div_eq_div_mul] at h0
  exact Nat.mod_eq_of_lt ((Nat.div_eq_zero_iff_lt (Nat.pow_pos (by omega))).1 h0)
theorem padD_cons (p : Nat) : ∀ n, padD (p + 1) n = UInt8.ofNat (48 + n / 10 ^ p % 10) :: padD p n := by
  induction p with
  | zero => intro n; simp [padD]
  | succ p ih =>
    intro n
    rw [padD, ih, padD]
    simp only [List.cons_append]
    rw [Nat.div_div_eq_div_mul, Nat.pow_succ, Nat.mul_comm 10]
theorem padD_all {p n : Nat} (hp : 0 < p) (h1 : n < 10 ^ p) (h2 : 10 ^ (p - 1) ≤ n) : padD p n = decDigits n := by
  rw [padD_eq p h1 hp]
  have h3 := (digits_len_le n p hp).2 h1
  have h4 : ¬ (decDigits n).length ≤ p - 1 := fun h => by
    by_cases hp1 : p = 1
    · subst hp1
      have := (digits_ok n).2.2
      simp at h; exact this h
    · have := (digits_len_le n (p - 1) (by omega)).1 h
      omega
  rw [show p - (decDigits n).length = 0 by omega]; rfl
end Go.Proofs.YtlhpfhnbeagnaaaGreatDoor
namespace Go.Proofs.YtlhpfhnbeagnaaaGreatDoor
structure MinusI (B : Nat) (a b : List Nat) (i br : Nat) (o : List Nat) : Prop where
  len : o.length = i
  ok : OkB B o
  b1 : br ≤ 1
  v : valB B o + B ^ i * valB B (a.drop i) + valB B b = valB B a + B ^ i * (valB B (b.drop i) + br)
theorem MinusI.start (B : Nat) (a b : List Nat) : MinusI B a b 0 0 [] := ⟨rfl, (fun x hx => by cases hx), by omega, by simp [valB]⟩
theorem MinusI.next {B : Nat} {a b : List Nat} {i br : Nat} {o : List Nat} (h : MinusI B a b i br o) {d br' : Nat} (hd : d < B) (hb : br' ≤ 1) (e : d + b.getD i 0 + br = a.getD i 0 + B * br') :
    MinusI B a b (i + 1) br' (o ++ [d]) := by
  have hv := h.v
  rw [valB_drop B a i, valB_drop B b i] at hv
  generalize a.getD i 0 = x at *
  generalize b.getD i 0 = y at *
  refine ⟨by rw [List.length_append, h.len]; rfl, okB_snoc h.ok hd, hb, ?_⟩
  rw [valB_snoc, h.len, Nat.pow_succ]
  generalize valB B (List.drop (i + 1) a) = s at *
  generalize valB B (List.drop (i + 1) b) = t at *
  generalize B ^ i = P at *
  have e2 : P * (d + y + br) = P * (x + B * br') := by rw [e]
  simp only [Nat.mul_add] at hv e2 ⊢
  simp only [← Nat.mul_assoc] at hv e2 ⊢
  omega
theorem valB_le_len {B : Nat} {a b : List Nat} (ha : OkB B a) (tb : Trim b) (hv : valB B b ≤ valB B a) (hB : 0 < B) : b.length ≤ a.length := by
  rcases Nat.lt_or_ge a.length b.length with h | h
  · have hne : b ≠ [] := fun e => by rw [e] at h; simp at h
    have h1 := big_of_trim (B := B) tb hne
    have h2 := valB_lt ha
    have h3 : B ^ a.length ≤ B ^ (b.length - 1) := Nat.pow_le_pow_right hB (by omega)
    omega
  · exact h
theorem MinusI.done {B : Nat} (hB : 2 ≤ B) {a b : List Nat} (ha : OkB B a) (tb : Trim b) (hv : valB B b ≤ valB B a) {br : Nat} {o : List Nat} (h : MinusI B a b a.length br o) : trimL o = toB B (valB B a - valB B b) := by
  have hlen := valB_le_len ha tb hv (by omega)
  have h1 := h.v
  rw [List.drop_eq_nil_of_le (Nat.le_refl _), List.drop_eq_nil_of_le hlen] at h1
  have h1 : valB B o + valB B b = valB B a + B ^ a.length * br := by simpa [valB] using h1
  have h2 := valB_lt h.ok
  rw [h.len] at h2
  have hbr : br = 0 := by
    rcases Nat.lt_or_ge 0 br with hb | hb
    · have : br = 1 := by have := h.b1; omega
      subst this
      omega
    · omega
  subst hbr
  rw [trimL_toB hB h.ok]
  congr 1
  omega
structure TimesI (B : Nat) (a b : List Nat) (i : Nat) (o : List Nat) : Prop where
  len : o.length = a.length + b.length
  ok : OkB B o
  z : ∀ j, i + b.length ≤ j → o.getD j 0 = 0
  v : valB B o = valB B (a.take i) * valB B b
structure TimesK (B : Nat) (a b : List Nat) (i k c : Nat) (o : List Nat) : Prop where
  len : o.length = a.length + b.length
  ok : OkB B o
  cB : c < B
  z : ∀ j, i + b.length ≤ j → o.getD j 0 = 0
  v : valB B o + B ^ (i + k) * c = valB B (a.take i) * valB B b + B ^ i * (a.getD i 0 * valB B (b.take k))
theorem TimesI.start {B : Nat} (hB : 2 ≤ B) (a b : List Nat) : TimesI B a b 0 (List.replicate (a.length + b.length) 0) :=
  ⟨List.length_replicate, fun x hx => by rw [List.mem_replicate] at hx; omega, fun j _ => by
    rw [List.getD_eq_getElem?_getD, List.getElem?_replicate]; split <;> rfl, by rw [valB_zeros]; simp [valB]⟩
theorem TimesI.inner {B : Nat} (hB : 2 ≤ B) {a b : List Nat} {i : Nat} {o : List Nat} (h : TimesI B a b i o) : TimesK B a b i 0 0 o :=
  ⟨h.len, h.ok, by omega, h.z, by rw [h.v]; simp [valB]⟩
theorem getD_set_nat (l : List Nat) (i j x : Nat) (h : i < l.length) : (l.set i x).getD j 0 = if i = j then x else l.getD j 0 := by
  rw [List.getD_eq_getElem?_getD, List.getElem?_set]
  by_cases e : i = j
  · subst e; simp [h]
  · simp [e]
theorem TimesK.next {B : Nat} (hB : 2 ≤ B) {a b : List Nat} (ha : OkB B a) (hb : OkB B b) {i k c : Nat} {o : List Nat} (h : TimesK B a b i k c o) (hi : i < a.length) (hk : k < b.length) :
    c + o.getD (i + k) 0 + a.getD i 0 * b.getD k 0 < B * B ∧ TimesK B a b i (k + 1) ((c + o.getD (i + k) 0 + a.getD i 0 * b.getD k 0) / B) (o.set (i + k) ((c + o.getD (i + k) 0 + a.getD i 0 * b.getD k 0) % B)) := by
  have h1 := okB_getD ha (by omega) i
  have h2 := okB_getD hb (by omega) k
  have h3 := okB_getD h.ok (by omega) (i + k)
  have h4 := h.cB
  have hlen := h.len
  have hv := h.v
  have hs := valB_set B o (j := i + k) (by omega) ((c + o.getD (i + k) 0 + a.getD i 0 * b.getD k 0) % B)
  have hz := h.z
  have htk := valB_take_succ B b k
  have hxy : a.getD i 0 * b.getD k 0 ≤ (B - 1) * (B - 1) := Nat.mul_le_mul (by omega) (by omega)
  obtain ⟨C, rfl⟩ : ∃ C, B = C + 1 := ⟨B - 1, by omega⟩
  have hBB : (C + 1) * (C + 1) = C * C + C + C + 1 := by rw [Nat.add_mul, Nat.mul_add]; omega
  rw [show C + 1 - 1 = C from rfl] at hxy
  have hlt : c + o.getD (i + k) 0 + a.getD i 0 * b.getD k 0 < (C + 1) * (C + 1) := by omega
  refine ⟨hlt, by rw [List.length_set]; exact hlen, okB_set h.ok _ (Nat.mod_lt _ (by omega)), Nat.div_lt_of_lt_mul hlt, fun j hj => ?_, ?_⟩
  · rw [getD_set_nat _ _ _ _ (by omega), if_neg (by omega)]
    exact hz j hj
  · have e := Nat.mod_add_div (c + o.getD (i + k) 0 + a.getD i 0 * b.getD k 0) (C + 1)
    rw [htk]
    have hp : (C + 1) ^ (i + (k + 1)) = (C + 1) ^ (i + k) * (C + 1) := by rw [← Nat.add_assoc, Nat.pow_succ]
    have hq : (C + 1) ^ (i + k) = (C + 1) ^ i * (C + 1) ^ k := Nat.pow_add ..
    rw [hp]
    generalize (c + o.getD (i + k) 0 + a.getD i 0 * b.getD k 0) % (C + 1) = r at *
    generalize (c + o.getD (i + k) 0 + a.getD i 0 * b.getD k 0) / (C + 1) = q at *
    generalize valB (C + 1) (o.set (i + k) r) = vo at *
    generalize valB (C + 1) o = v0 at *
    generalize o.getD (i + k) 0 = oj at *
    generalize a.getD i 0 = x at *
    generalize b.getD k 0 = y at *
    generalize valB (C + 1) (b.take k) = vb at *
    generalize valB (C + 1) (a.take i) * valB (C + 1) b = V at *
    have e2 : (C + 1) ^ (i + k) * (r + (C + 1) * q) = (C + 1) ^ (i + k) * (c + oj + x * y) := by rw [e]
    have e3 : (C + 1) ^ i * (x * (vb + (C + 1) ^ k * y)) = (C + 1) ^ i * (x * vb) + (C + 1) ^ (i + k) * (x * y) := by
      rw [hq, Nat.mul_add x, Nat.mul_add ((C + 1) ^ i), Nat.mul_assoc ((C + 1) ^ i) ((C + 1) ^ k)]
      congr 2
      rw [Nat.mul_left_comm]
    rw [e3]
    rw [Nat.mul_add, Nat.mul_add, Nat.mul_add] at e2
    rw [Nat.mul_assoc]
    omega
theorem TimesK.outer {B : Nat} {a b : List Nat} {i c : Nat} {o : List Nat} (h : TimesK B a b i b.length c o) (hi : i < a.length) : TimesI B a b (i + 1) (o.set (i + b.length) c) := by
  have hlen := h.len
  have hs := valB_set B o (j := i + b.length) (by omega) c
  rw [h.z (i + b.length) (Nat.le_refl _)] at hs
  have hv := h.v
  rw [List.take_length] at hv
  refine ⟨by rw [List.length_set]; exact hlen, okB_set h.ok _ h.cB, fun j hj => ?_, ?_⟩
  · rw [getD_set_nat _ _ _ _ (by omega), if_neg (by omega)]
    exact h.z j (by omega)
  · rw [valB_take_succ, Nat.add_mul, Nat.mul_assoc]
    rw [Nat.mul_zero, Nat.add_zero] at hs
    omega
theorem TimesI.done {B : Nat} (hB : 2 ≤ B) {a b : List Nat} {o : List Nat} (h : TimesI B a b a.length o) : trimL o = toB B (valB B a * valB B b) := by
  rw [trimL_toB hB h.ok, h.v, List.take_length]
structure HalfI (B : Nat) (a : List Nat) (i c : Nat) (o : List Nat) : Prop where
  len : o.length = a.length
  ok : OkB B o
  c1 : c = valB B (a.drop i) % 2
  v : valB B (o.drop i) = valB B (a.drop i) / 2
theorem HalfI.start {B : Nat} {a : List Nat} (ha : OkB B a) : HalfI B a a.length 0 a :=
  ⟨rfl, ha, by rw [List.drop_eq_nil_of_le (Nat.le_refl _)]; rfl, by rw [List.drop_eq_nil_of_le (Nat.le_refl _)]; simp [valB]⟩
theorem drop_set_same {l : List Nat} {i x : Nat} (h : i < l.length) : (l.set i x).drop i = x :: l.drop (i + 1) := by
  rw [List.drop_eq_getElem_cons (by rw [List.length_set]; exact h), List.getElem_set_self, List.drop_set_of_lt (by omega)]
theorem HalfI.next {B : Nat} (hB : 2 ≤ B) (h2 : B % 2 = 0) {a : List Nat} (ha : OkB B a) {i c : Nat} {o : List Nat} (h : HalfI B a (i + 1) c o) (hi : i < a.length) :
    (c * B + a.getD i 0) / 2 < B ∧ HalfI B a i ((c * B + a.getD i 0) % 2) (o.set i ((c * B + a.getD i 0) / 2)) := by
  have h1 := okB_getD ha (by omega) i
  have hc := h.c1
  have hv := h.v
  have hlen := h.len
  have hd := valB_drop B a i
  obtain ⟨D, rfl⟩ : ∃ D, B = 2 * D := ⟨B / 2, by omega⟩
  have hc2 : c = 0 ∨ c = 1 := by omega
  generalize valB (2 * D) (a.drop (i + 1)) = s at *
  generalize a.getD i 0 = x at *
  have hlt : (c * (2 * D) + x) / 2 < 2 * D := by rcases hc2 with rfl | rfl <;> omega
  have hs : s = 2 * (s / 2) + c := by omega
  have e : (c * (2 * D) + x) / 2 + 2 * D * (s / 2) = (x + 2 * D * s) / 2 ∧ (c * (2 * D) + x) % 2 = (x + 2 * D * s) % 2 := by
    have e1 : 2 * D * s = 2 * (D * s) := Nat.mul_assoc ..
    have e2 : 2 * D * (s / 2) = 2 * (D * (s / 2)) := Nat.mul_assoc ..
    have e3 : D * s = 2 * (D * (s / 2)) + D * c := by
      conv => lhs; rw [hs]
      rw [Nat.mul_add, Nat.mul_left_comm]
    rw [e1, e2, e3]
    rcases hc2 with rfl | rfl
    · simp; omega
    · simp; omega
  refine ⟨hlt, by rw [List.length_set]; exact hlen, okB_set h.ok _ hlt, by rw [hd]; exact e.2, ?_⟩
  rw [drop_set_same (by omega), hd, ← e.1]
  show (c * (2 * D) + x) / 2 + 2 * D * valB (2 * D) (o.drop (i + 1)) = _
  rw [hv]
theorem HalfI.done {B : Nat} (hB : 2 ≤ B) {a : List Nat} {c : Nat} {o : List Nat} (h : HalfI B a 0 c o) : trimL o = toB B (valB B a / 2) := by
  rw [trimL_toB hB h.ok, show o = o.drop 0 from rfl, h.v]; rfl
structure OverI (B : Nat) (a : List Nat) (m i r : Nat) (q : List Nat) : Prop where
  len : q.length = a.length
  ok : OkB B q
  lt : r < m
  v : valB B (a.drop i) = valB B (q.drop i) * m + r
theorem OverI.start {B : Nat} (hB : 2 ≤ B) (a : List Nat) {m : Nat} (hm : 0 < m) : OverI B a m a.length 0 (List.replicate a.length 0) :=
  ⟨List.length_replicate, fun x hx => by rw [List.mem_replicate] at hx; omega, hm, by
    rw [List.drop_eq_nil_of_le (Nat.le_refl _), List.drop_eq_nil_of_le (by simp)]; simp [valB]⟩
theorem OverI.next {B : Nat} (hB : 2 ≤ B) {a : List Nat} (ha : OkB B a) {m i r : Nat} {q : List Nat} (h : OverI B a m (i + 1) r q) (hi : i < a.length) :
    (a.getD i 0 + B * r) / m < B ∧ OverI B a m i ((a.getD i 0 + B * r) % m) (q.set i ((a.getD i 0 + B * r) / m)) := by
  have h1 := okB_getD ha (by omega) i
  have hr := h.lt
  have hv := h.v
  have hlen := h.len
  have hd := valB_drop B a i
  generalize a.getD i 0 = x at *
  have hlt : (x + B * r) / m < B := by
    refine Nat.div_lt_of_lt_mul ?_
    have h3 : B * (r + 1) ≤ B * m := Nat.mul_le_mul_left B hr
    rw [Nat.mul_add] at h3
    rw [Nat.mul_comm m B]
    omega
  refine ⟨hlt, by rw [List.length_set]; exact hlen, okB_set h.ok _ hlt, Nat.mod_lt _ (by omega), ?_⟩
  rw [drop_set_same (by omega), hd, hv]
  show x + B * (valB B (q.drop (i + 1)) * m + r) = ((x + B * r) / m + B * valB B (q.drop (i + 1))) * m + (x + B * r) % m
  have e := Nat.div_add_mod (x + B * r) m
  rw [Nat.add_mul, Nat.mul_add, Nat.mul_comm ((x + B * r) / m) m, Nat.mul_assoc]
  omega
theorem OverI.done {B : Nat} (hB : 2 ≤ B) {a : List Nat} {m r : Nat} {q : List Nat} (h : OverI B a m 0 r q) : trimL q = toB B (valB B a / m) ∧ r = valB B a % m := by
  have hv : valB B a = valB B q * m + r := h.v
  have hm := h.lt
  have e1 : valB B a / m = valB B q := by
    rw [hv, Nat.mul_comm, Nat.mul_add_div (by omega), Nat.div_eq_of_lt hm, Nat.add_zero]
  have e2 : valB B a % m = r := by
    rw [hv, Nat.mul_comm, Nat.mul_add_mod, Nat.mod_eq_of_lt hm]
  exact ⟨by rw [trimL_toB hB h.ok, e1], e2.symm⟩
def ordN (a b : Nat) : Int := if a < b then -1 else if b < a then 1 else 0
theorem ord_len {B : Nat} {a b : List Nat} (hB : 0 < B) (ha : OkB B a) (tb : Trim b) (h : a.length < b.length) : valB B a < valB B b := by
  have hne : b ≠ [] := fun e => by rw [e] at h; simp at h
  have h1 := big_of_trim (B := B) tb hne
  have h2 := valB_lt ha
  have h3 : B ^ a.length ≤ B ^ (b.length - 1) := Nat.pow_le_pow_right hB (by omega)
  omega
theorem ord_step {B : Nat} {a b : List Nat} (ha : OkB B a) (hb : OkB B b) (i : Nat) (h : valB B (a.drop (i + 1)) = valB B (b.drop (i + 1))) (hla : i < a.length) (hlb : i < b.length) :
    (a.getD i 0 < b.getD i 0 → valB B a < valB B b) ∧ (b.getD i 0 < a.getD i 0 → valB B b < valB B a) ∧ (a.getD i 0 = b.getD i 0 → valB B (a.drop i) = valB B (b.drop i)) := by
  have key : ∀ a b : List Nat, OkB B a → i < a.length → i < b.length → valB B (a.drop (i + 1)) = valB B (b.drop (i + 1)) → a.getD i 0 < b.getD i 0 → valB B a < valB B b := fun a b ha hla hlb h hx => by
    have e1 : a = a.take i ++ a.drop i := (List.take_append_drop i a).symm
    have e2 : b = b.take i ++ b.drop i := (List.take_append_drop i b).symm
    have l1 : (a.take i).length = i := by rw [List.length_take]; omega
    have l2 : (b.take i).length = i := by rw [List.length_take]; omega
    have v1 : valB B a = valB B (a.take i) + B ^ i * valB B (a.drop i) := by conv => lhs; rw [e1, valB_append, l1]
    have v2 : valB B b = valB B (b.take i) + B ^ i * valB B (b.drop i) := by conv => lhs; rw [e2, valB_append, l2]
    have hlt := valB_lt (B := B) (l := a.take i) (fun x hx => ha x (List.mem_of_mem_take hx))
    rw [l1] at hlt
    rw [v1, v2, valB_drop B a i, valB_drop B b i, h]
    generalize valB B (b.drop (i + 1)) = s
    have h5 : B ^ i * (a.getD i 0 + B * s + 1) ≤ B ^ i * (b.getD i 0 + B * s) := Nat.mul_le_mul_left _ (by omega)
    rw [Nat.mul_add (B ^ i) _ 1, Nat.mul_one] at h5
    omega
  refine ⟨key a b ha hla hlb h, key b a hb hlb hla h.symm, fun e => ?_⟩
  rw [valB_drop B a i, valB_drop B b i, e, h]
end Go.Proofs.YtlhpfhnbeagnaaaGreatDoor
namespace Go.Proofs.YtlhpfhnbeagnaaaGreatDoor
theorem gcd_halves {a b : Nat} (ha : a % 2 = 0) (hb : b % 2 = 0) : Nat.gcd a b = 2 * Nat.gcd (a / 2) (b / 2) := by
  have h := Nat.gcd_mul_left 2 (a / 2) (b / 2)
  rwa [show 2 * (a / 2) = a by omega, show 2 * (b / 2) = b by omega] at h
theorem gcd_half {a b : Nat} (ha : a % 2 = 0) (hb : b % 2 ≠ 0) : Nat.gcd (a / 2) b = Nat.gcd a b := by
  have hc : Nat.Coprime 2 b := by
    unfold Nat.Coprime
    rw [Nat.gcd_rec, show b % 2 = 1 by omega]
    rfl
  have h := Nat.Coprime.gcd_mul_left_cancel (a / 2) hc
  rw [show 2 * (a / 2) = a by omega] at h
  exact h.symm
theorem gcd_half' {a b : Nat} (ha : a % 2 ≠ 0) (hb : b % 2 = 0) : Nat.gcd a (b / 2) = Nat.gcd a b := by
  rw [Nat.gcd_comm, gcd_half hb ha, Nat.gcd_comm]
theorem gcd_less {a b : Nat} (h : b ≤ a) : Nat.gcd (a - b) b = Nat.gcd a b := Nat.gcd_sub_self_left h
theorem gcd_less' {a b : Nat} (h : a ≤ b) : Nat.gcd a (b - a) = Nat.gcd a b := Nat.gcd_sub_self_right h
structure GcdI (a₀ b₀ a b t : Nat) : Prop where
  gcd : Nat.gcd a₀ b₀ = 2 ^ t * Nat.gcd a b
  pos : 0 < a + b
  le : (a + b) * 2 ^ t ≤ a₀ + b₀
theorem GcdI.start {a b : Nat} (h : 0 < a + b) : GcdI a b a b 0 := ⟨by simp, h, by simp⟩
theorem GcdI.both {a₀ b₀ a b t : Nat} (h : GcdI a₀ b₀ a b t) (pa : 0 < a) (ha : a % 2 = 0) (hb : b % 2 = 0) :
    GcdI a₀ b₀ (a / 2) (b / 2) (t + 1) := by
  refine ⟨?_, by omega, ?_⟩
  · rw [h.gcd, gcd_halves ha hb, Nat.pow_succ, Nat.mul_assoc]
  · have h3 : (a / 2 + b / 2) * 2 ^ (t + 1) = (a + b) * 2 ^ t := by
      rw [Nat.pow_succ, Nat.mul_comm (2 ^ t), ← Nat.mul_assoc]
      congr 1
      omega
    rw [h3]; exact h.le
theorem GcdI.left {a₀ b₀ a b t : Nat} (h : GcdI a₀ b₀ a b t) (pa : 0 < a) (ha : a % 2 = 0) (hb : b % 2 ≠ 0) :
    GcdI a₀ b₀ (a / 2) b t :=
  ⟨by rw [gcd_half ha hb]; exact h.gcd, by omega, Nat.le_trans (Nat.mul_le_mul_right _ (by omega)) h.le⟩
theorem GcdI.right {a₀ b₀ a b t : Nat} (h : GcdI a₀ b₀ a b t) (pa : 0 < a) (ha : a % 2 ≠ 0) (hb : b % 2 = 0) :
    GcdI a₀ b₀ a (b / 2) t :=
  ⟨by rw [gcd_half' ha hb]; exact h.gcd, by omega, Nat.le_trans (Nat.mul_le_mul_right _ (by omega)) h.le⟩
theorem GcdI.less {a₀ b₀ a b t : Nat} (h : GcdI a₀ b₀ a b t) (pb : 0 < b) (hle : b ≤ a) : GcdI a₀ b₀ (a - b) b t :=
  ⟨by rw [gcd_less hle]; exact h.gcd, by omega, Nat.le_trans (Nat.mul_le_mul_right _ (by omega)) h.le⟩
theorem GcdI.less' {a₀ b₀ a b t : Nat} (h : GcdI a₀ b₀ a b t) (pa : 0 < a) (hle : a ≤ b) : GcdI a₀ b₀ a (b - a) t :=
  ⟨by rw [gcd_less' hle]; exact h.gcd, by omega, Nat.le_trans (Nat.mul_le_mul_right _ (by omega)) h.le⟩
theorem GcdI.done {a₀ b₀ a b t : Nat} (h : GcdI a₀ b₀ a b t) (h0 : a = 0 ∨ b = 0) : 2 ^ t * (a + b) = Nat.gcd a₀ b₀ := by
  rw [h.gcd]
  rcases h0 with rfl | rfl <;> simp
theorem two_pow_step (t g : Nat) : 2 ^ t * g + 2 ^ t * g = 2 ^ (t + 1) * g := by
  rw [Nat.pow_succ, Nat.mul_comm (2 ^ t) 2, Nat.mul_assoc]; omega
theorem even_toB {B n : Nat} (hB : 2 ≤ B) (h2 : B % 2 = 0) (hn : n ≠ 0) : (toB B n).getD 0 0 % 2 = n % 2 := by
  rw [toB_pos hB hn]
  show n % B % 2 = n % 2
  exact Nat.mod_mod_of_dvd n (Nat.dvd_of_mod_eq_zero h2)
theorem toB_nil {B n : Nat} (hB : 2 ≤ B) : toB B n = [] ↔ n = 0 := by
  constructor
  · intro h
    by_cases h0 : n = 0
    · exact h0
    · rw [toB_pos hB h0] at h; cases h
  · rintro rfl; exact toB_zero B
theorem toB_one {B n : Nat} (hB : 2 ≤ B) (hn : 0 < n) (h : n < B) : toB B n = [n] := by
  rw [toB_pos hB (by omega), Nat.mod_eq_of_lt h, Nat.div_eq_of_lt h, toB_zero]
theorem toB_len {B : Nat} (hB : 2 ≤ B) (k : Nat) : ∀ {n : Nat}, n < B ^ k → (toB B n).length ≤ k := by
  induction k with
  | zero => intro n h; rw [Nat.pow_zero] at h; rw [show n = 0 by omega, toB_zero]; exact Nat.le_refl _
  | succ k ih =>
    intro n h
    by_cases h0 : n = 0
    · rw [h0, toB_zero]; exact Nat.zero_le _
    · rw [toB_pos hB h0]
      have := @ih (n / B) (by rw [Nat.div_lt_iff_lt_mul (by omega)]; rw [Nat.pow_succ] at h; exact h)
      simp; omega
end Go.Proofs.YtlhpfhnbeagnaaaGreatDoor
namespace Go.Proofs.YtlhpfhnbeagnaaaGreatDoor
open Go.RowKit
def natsV (k : IntKind) (l : List Nat) : List Value := l.map fun (x : Nat) => .int k (x : Int)
theorem natsV_len (k : IntKind) (l : List Nat) : (natsV k l).length = l.length := by simp [natsV]
theorem natsV_get {k : IntKind} {l : List Nat} {i : Nat} (h : i < l.length) : (natsV k l)[i]? = some (.int k (l.getD i 0 : Nat)) := by
  simp [natsV, List.getD_eq_getElem?_getD, h]
def CellsN (k : IntKind) (w : World) (a : Option Addr) (l : List Nat) : Prop :=
  ∀ i, i < l.length → ∃ b off, a = some ⟨b, off, none⟩ ∧ w.cell? ⟨b, off + i, none⟩ = some (.int k (l.getD i 0 : Nat))
theorem CellsN.ext {k : IntKind} {w w' : World} {a : Option Addr} {l : List Nat} (h : CellsN k w a l) (he : Ext w w') : CellsN k w' a l := fun i hi => by
  obtain ⟨b, off, h1, h2⟩ := h i hi
  exact ⟨b, off, h1, he.cell h2⟩
theorem CellsN.nil (k : IntKind) (w : World) (a : Option Addr) : CellsN k w a [] := fun i hi => by simp at hi
theorem CellsN.take {k : IntKind} {w : World} {a : Option Addr} {l : List Nat} (h : CellsN k w a l) (n : Nat) : CellsN k w a (l.take n) := fun i hi => by
  rw [List.length_take] at hi
  obtain ⟨b, off, h1, h2⟩ := h i (by omega)
  refine ⟨b, off, h1, ?_⟩
  rw [h2, List.getD_eq_getElem?_getD, List.getD_eq_getElem?_getD, List.getElem?_take_of_lt (by omega)]
def Room (a : Option Addr) (n cap : Nat) : Prop := n ≤ cap ∧ cap ≤ maxLen ∧ (0 < n → ∃ b off, a = some ⟨b, off, none⟩)
def SliceN (k : IntKind) (w : World) (v : Value) (l : List Nat) : Prop := ∃ a cap, v = .slice a l.length cap ∧ CellsN k w a l ∧ Room a l.length cap
theorem SliceN.ext {k : IntKind} {w w' : World} {v : Value} {l : List Nat} (h : SliceN k w v l) (he : Ext w w') : SliceN k w' v l := by
  obtain ⟨a, cap, h1, h2, h3⟩ := h
  exact ⟨a, cap, h1, h2.ext he, h3⟩
theorem SliceN.nil (k : IntKind) (w : World) : SliceN k w (.slice none 0 0) [] := ⟨none, 0, rfl, CellsN.nil _ _ _, Nat.le_refl _, Nat.zero_le _, fun h => by simp at h⟩
def OwnsN (k : IntKind) (t : TypeId) (w : World) (v : Value) (l : List Nat) : Prop := w.ownsRow 0 t 1 v l.length (natsV k l)
theorem OwnsN.nil (k : IntKind) (t : TypeId) (w : World) : OwnsN k t w (.slice none 0 0) [] := World.ownsRow_nil w 0 _ _
theorem OwnsN.ext {k : IntKind} {t : TypeId} {A B : World} {v : Value} {l : List Nat} (h : OwnsN k t A v l) (he : Ext A B) : OwnsN k t B v l := rowExt h he
theorem OwnsN.lt {k : IntKind} {t : TypeId} {A : World} {v : Value} {l : List Nat} (h : OwnsN k t A v l) {b : Nat} (hb : v.ownBlock = some b) : b < A.heap.size := rowLt h hb
theorem OwnsN.same {k : IntKind} {t : TypeId} {A B : World} {v : Value} {l : List Nat} (h : OwnsN k t A v l) (hs : ∀ b, v.ownBlock = some b → B.heap[b]? = A.heap[b]?) : OwnsN k t B v l := rowSame h hs
theorem OwnsN.reads {k : IntKind} {t : TypeId} {A : World} {v : Value} {l : List Nat} (h : OwnsN k t A v l) :
    ∃ a cap, v = .slice a l.length cap ∧ CellsN k A a l ∧ Room a l.length cap ∧ ∀ i, i < l.length → ∃ b, a = some ⟨b, 0, none⟩ ∧ v.ownBlock = some b ∧ A.frozen? ⟨b, i, none⟩ = false := by
  obtain ⟨a, cap, hv, hm, hr⟩ := rowReads h
  refine ⟨a, cap, hv, fun i hi => ?_, ?_, fun i hi => ?_⟩
  · obtain ⟨b, hb, _, h1, _⟩ := hr i _ (natsV_get hi)
    exact ⟨b, 0, hb, by rw [Nat.zero_add]; exact h1⟩
  · rcases h.2 with ⟨h1, hn⟩ | ⟨g, c, cur, h1, hg, hh, hnc, hm, hcs, ht⟩
    · rw [hv] at h1
      obtain ⟨e1, e2, e3⟩ := Value.slice.inj h1
      subst e3
      exact ⟨by omega, by simp, fun h => by omega⟩
    · rw [hv] at h1
      obtain ⟨e1, e2, e3⟩ := Value.slice.inj h1
      subst e1 e3
      exact ⟨hnc, hm, fun _ => ⟨g, 0, rfl⟩⟩
  · obtain ⟨b, hb, hob, _, h2⟩ := hr i _ (natsV_get hi)
    exact ⟨b, hb, hob, h2⟩
theorem OwnsN.slice {k : IntKind} {t : TypeId} {A : World} {v : Value} {l : List Nat} (h : OwnsN k t A v l) : SliceN k A v l := by
  obtain ⟨a, cap, h1, h2, h3, _⟩ := h.reads
  exact ⟨a, cap, h1, h2, h3⟩
theorem ownsN_succ {k : IntKind} {t : TypeId} {w : World} {v : Value} {l : List Nat} {x : Nat} (h : w.ownsRow 0 t 1 v (l.length + 1) (natsV k l ++ [.int k (x : Int)])) : OwnsN k t w v (l ++ [x]) := by
  unfold OwnsN natsV
  rw [List.length_append, List.length_singleton, List.map_append]
  exact h
theorem OwnsN.take {k : IntKind} {t : TypeId} {w : World} {a : Option Addr} {cap : Nat} {l : List Nat} (h : OwnsN k t w (.slice a l.length cap) l) {n : Nat} (hn : n ≤ l.length) :
    OwnsN k t w (.slice a n cap) (l.take n) := by
  have hl : (l.take n).length = n := by rw [List.length_take]; omega
  unfold OwnsN at h ⊢
  rw [hl]
  obtain ⟨_, h2⟩ := h
  refine ⟨by rw [natsV_len, hl, Nat.mul_one], ?_⟩
  rcases h2 with ⟨hv, h0⟩ | ⟨g, c, cur, hv, hg, hh, hnc, hm, hcs, ht⟩
  · obtain ⟨e1, e2, e3⟩ := Value.slice.inj hv
    subst e1 e3
    exact .inl ⟨by rw [show n = 0 by omega], by omega⟩
  · obtain ⟨e1, e2, e3⟩ := Value.slice.inj hv
    subst e1 e3
    refine .inr ⟨g, cap, cur, rfl, hg, hh, by omega, hm, hcs, ?_⟩
    rw [Nat.mul_one] at ht ⊢
    have : natsV k (l.take n) = (natsV k l).take n := by simp [natsV, List.map_take]
    rw [this, ← ht, List.take_take, Nat.min_eq_left hn]
theorem OwnsN.set {k : IntKind} {t : TypeId} {w : World} {b n cap : Nat} {l : List Nat} (h : OwnsN k t w (.slice (some ⟨b, 0, none⟩) n cap) l) (i x : Nat) :
    OwnsN k t (w.setCell ⟨b, i, none⟩ (.int k (x : Int))) (.slice (some ⟨b, 0, none⟩) n cap) (l.set i x) := by
  unfold OwnsN at h ⊢
  obtain ⟨_, h2⟩ := h
  refine ⟨by simp [natsV], ?_⟩
  rcases h2 with ⟨hv, _⟩ | ⟨g, c, cur, hv, hg, hh, hnc, hm, hcs, ht⟩
  · cases (Value.slice.inj hv).1
  · obtain ⟨e1, e2, e3⟩ := Value.slice.inj hv
    cases e1
    subst e2 e3
    refine .inr ⟨b, cap, cur.setIfInBounds i (.int k (x : Int)), by simp, hg, ?_, by simpa using hnc, hm, by simpa using hcs, ?_⟩
    · simp only [World.setCell, Array.getElem?_modify, hh]
      simp
    · rw [List.length_set, Array.toList_setIfInBounds, List.take_set, ht]
      unfold natsV
      rw [List.map_set]
def NatV (k : IntKind) (B : Nat) (w : World) (v : Value) (n : Nat) : Prop := SliceN k w v (toB B n)
theorem NatV.ext {k : IntKind} {B : Nat} {w w' : World} {v : Value} {n : Nat} (h : NatV k B w v n) (he : Ext w w') : NatV k B w' v n := SliceN.ext h he
def OwnNPost (k : IntKind) (t : TypeId) (l : List Nat) (w : World) (e : Ending) (w' : World) : Prop :=
  ∃ v, e = .returned v ∧ OwnsN k t w' v l ∧ (∀ b, v.ownBlock = some b → w.heap.size ≤ b) ∧ Ext w w'
end Go.Proofs.YtlhpfhnbeagnaaaGreatDoor
namespace Go.Proofs.YtlhpfhnbeagnaaaGreatDoor
open Go.RowKit
theorem take_last {l : List Nat} {k : Nat} (h : k < l.length) : l.take (k + 1) = l.take k ++ [l.getD k 0] := by
  rw [List.take_add_one, List.getElem?_eq_getElem h, List.getD_eq_getElem?_getD, List.getElem?_eq_getElem h]; rfl
theorem trimL_zero {l : List Nat} {k : Nat} (h : k < l.length) (h0 : l.getD k 0 = 0) : trimL (l.take (k + 1)) = trimL (l.take k) := by
  rw [take_last h, h0]
  simp [trimL]
theorem trimL_stop {l : List Nat} {k : Nat} (h : k < l.length) (h0 : l.getD k 0 ≠ 0) : trimL (l.take (k + 1)) = l.take (k + 1) := by
  rw [take_last h]
  generalize l.getD k 0 = x at h0
  simp [trimL, h0]
set_option maxHeartbeats 2000000 in
theorem trimmed_any (l : List Nat) (a : Option Addr) (cap : Nat) (w : World) (hr : Room a l.length cap) (hc : CellsN .u64 w a l) :
    Calls Tryz.prog 160 #[.slice a l.length cap] w fun e w' => e = .returned (.slice a (trimL l).length cap) ∧ (∃ n, n ≤ l.length ∧ trimL l = l.take n) ∧ Ext w w' := by
  obtain ⟨hr1, hr2, hr3⟩ := hr
  unfold maxLen at hr2
  have HC := Lib.hid hc
  clear hc
  go_enter Tryz.func160, Tryz.ntmps160
  go_wp2
  go_loop [3] (fun i => ∃ k : Nat, k ≤ l.length ∧ i = .int .i64 k ∧ Hid (trimL (l.take k) = trimL l)) (fun i => (intOf i).toNat)
  case atStart => exact ⟨l.length, Nat.le_refl _, rfl, by show _ = _; rw [List.take_length]⟩
  case round =>
    obtain ⟨k, hk, rfl, hz⟩ := hrel
    rcases k with _ | k
    · have HT : Hid (trimL l = []) := by show _ = _; rw [← hz.out]; rfl
      clear hz
      go_wp2
      go_ret
      exact ⟨by rw [HT.out]; rfl, ⟨0, Nat.zero_le _, HT.out⟩, Ext.refl _⟩
    · obtain ⟨b, off, ha, c1⟩ := HC.out k (by omega)
      subst ha
      by_cases hx : l.getD k 0 = 0
      · have HT : Hid (trimL (l.take k) = trimL l) := by show _ = _; rw [← hz.out]; exact (trimL_zero (by omega) hx).symm
        rw [hx] at c1
        clear hz hx
        go_wp2
        refine ⟨⟨k, by omega, by go_num, HT⟩, by simp [intOf]⟩
      · have HT : Hid (trimL l = l.take (k + 1)) := by show _ = _; rw [← hz.out]; exact trimL_stop (by omega) hx
        have hx2 : ((l.getD k 0 : Int) == 0) = false := by rw [beq_eq_false_iff_ne]; omega
        clear hz
        generalize l.getD k 0 = x at c1 hx2 hx
        go_wp2
        go_ret
        refine ⟨?_, ⟨k + 1, by omega, HT.out⟩, Ext.refl _⟩
        rw [HT.out, List.length_take, Nat.min_eq_left (by omega)]
        go_num
end Go.Proofs.YtlhpfhnbeagnaaaGreatDoor
namespace Go.Proofs.YtlhpfhnbeagnaaaGreatDoor
open Go.RowKit
theorem infoU64 : (Tryz.prog.info? 153).map (fun i => (i.zero, i.size, i.bytes)) = some (some (.int .u64 0), 1, 8) := by kernel_rfl
theorem OwnsN.trim {k : IntKind} {t : TypeId} {w : World} {a : Option Addr} {cap : Nat} {l : List Nat} (h : OwnsN k t w (.slice a l.length cap) l) :
    (∃ n, n ≤ l.length ∧ trimL l = l.take n) → OwnsN k t w (.slice a (trimL l).length cap) (trimL l) := by
  rintro ⟨n, hn, e⟩
  rw [e, List.length_take, Nat.min_eq_left hn]
  exact h.take hn
def plusM (la lb : List Nat) : Nat := max la.length lb.length
structure PlusW (la lb : List Nat) (w0 : World) (i c : Nat) (v : Value) (w : World) : Prop where
  ex : ∃ o, PlusI 1000000000 la lb i c o ∧ OwnsN .u64 153 w v o ∧ (i ≤ plusM la lb ∨ (i = plusM la lb + 1 ∧ c = 0 ∧ 1000000000 ^ (i - 1) ≤ valB 1000000000 o))
  new : ∀ b, v.ownBlock = some b → w0.heap.size ≤ b
theorem PlusW.done {la lb : List Nat} {w0 w : World} {i : Nat} {v : Value} {x y : Nat} (h : PlusW la lb w0 i 0 v w) (hi : plusM la lb ≤ i)
    (ha : la = toB 1000000000 x) (hb : lb = toB 1000000000 y) : OwnsN .u64 153 w v (toB 1000000000 (x + y)) := by
  obtain ⟨o, h1, h2, h3⟩ := h.ex
  have hM : la.length ≤ plusM la lb ∧ lb.length ≤ plusM la lb := ⟨Nat.le_max_left _ _, Nat.le_max_right _ _⟩
  have e := h1.done (by omega) (ha ▸ trim_toB (by omega) x) (hb ▸ trim_toB (by omega) y) ⟨by omega, by omega⟩ (by
    rcases h3 with h3 | h3
    · exact .inl (by unfold plusM at *; omega)
    · exact .inr h3.2.2)
  rw [ha, hb, valB_toB (by omega), valB_toB (by omega)] at e
  rw [← e]; exact h2
theorem PlusW.step {la lb o : List Nat} {w0 w' : World} {i c : Nat} {v' : Value} (h1 : PlusI 1000000000 la lb i c o)
    (h3 : i ≤ plusM la lb ∨ (i = plusM la lb + 1 ∧ c = 0 ∧ 1000000000 ^ (i - 1) ≤ valB 1000000000 o)) (ha : OkB 1000000000 la) (hb : OkB 1000000000 lb)
    (hgo : i < plusM la lb ∨ 0 < c) {r d : Nat} (hr : r = (c + la.getD i 0 + lb.getD i 0) % 1000000000) (hd : d = (c + la.getD i 0 + lb.getD i 0) / 1000000000)
    (hown : OwnsN .u64 153 w' v' (o ++ [r])) (hnew : ∀ b, v'.ownBlock = some b → w0.heap.size ≤ b) : PlusW la lb w0 (i + 1) d v' w' := by
  subst hr hd
  refine ⟨⟨_, h1.next (by omega) ha hb, hown, ?_⟩, hnew⟩
  have hc := h1.c1
  by_cases hi : i < plusM la lb
  · exact .inl hi
  · have hia : la.length ≤ i := by unfold plusM at hi; omega
    have hib : lb.length ≤ i := by unfold plusM at hi; omega
    have e1 : la.getD i 0 = 0 := by rw [List.getD_eq_getElem?_getD, List.getElem?_eq_none hia]; rfl
    have e2 : lb.getD i 0 = 0 := by rw [List.getD_eq_getElem?_getD, List.getElem?_eq_none hib]; rfl
    rcases h3 with h3 | h3
    · right
      have e3 : c = 1 := by omega
      rw [e1, e2, e3]
      refine ⟨by omega, by decide, ?_⟩
      rw [valB_snoc, h1.len]
      have : (1 + 0 + 0) % 1000000000 = 1 := by decide
      rw [this]
      simp
    · omega
set_option maxHeartbeats 8000000 in
set_option maxRecDepth 100000 in
theorem plus_any (x y : Nat) (la lb : List Nat) (a b : Option Addr) (ca cb : Nat) (w : World) (hx : la = toB 1000000000 x) (hy : lb = toB 1000000000 y)
    (hla : la.length ≤ 200) (hlb : lb.length ≤ 200) (ha : CellsN .u64 w a la) (hb : CellsN .u64 w b lb) :
    Calls Tryz.prog 141 #[.slice a la.length ca, .slice b lb.length cb] w (OwnNPost .u64 153 (toB 1000000000 (x + y)) w) := by
  have HA := Lib.hid ha
  have HB := Lib.hid hb
  have HX := Lib.hid hx
  have HY := Lib.hid hy
  have OA : Hid (OkB 1000000000 la) := by show OkB _ _; rw [hx]; exact okB_toB (by omega) x
  have OB : Hid (OkB 1000000000 lb) := by show OkB _ _; rw [hy]; exact okB_toB (by omega) y
  clear ha hb hx hy
  obtain ⟨M, hM⟩ : ∃ M, M = plusM la lb := ⟨_, rfl⟩
  have hM1 : la.length ≤ M := by rw [hM]; exact Nat.le_max_left _ _
  have hM2 : lb.length ≤ M := by rw [hM]; exact Nat.le_max_right _ _
  have hM3 : max (la.length : Int) (lb.length : Int) = (M : Int) := by rw [hM]; unfold plusM; omega
  have hM4 : M ≤ 200 := by rw [hM]; unfold plusM; omega
  have HM := Lib.hid hM
  clear hM
  obtain ⟨i0, hi, hi0, hi1, hi2⟩ := info_parts infoU64
  go_enter Tryz.func141, Tryz.ntmps141
  go_wp2
  go_loopw [5, 6, 7] (fun v c i wr => ∃ (k cc : Nat) (vv : Value), k ≤ M + 1 ∧ cc ≤ 1 ∧ i = .int .i64 k ∧ c = .int .u64 cc ∧ v = vv ∧ Hid (PlusW la lb w k cc vv wr) ∧ Ext w wr) (fun _ c i _ => 2 * (M + 1 - (intOf i).toNat) + (intOf c).toNat)
  case atStart => exact ⟨0, 0, _, by omega, by omega, rfl, rfl, rfl, ⟨⟨[], PlusI.start _ _ _, OwnsN.nil _ _ _, .inl (Nat.zero_le _)⟩, fun b hb => by cases hb⟩, Ext.refl _⟩
  case round =>
    obtain ⟨k, cc, vv, hk, hcc, rfl, rfl, hvv, hw, he⟩ := hrel
    obtain rfl := hvv.symm
    obtain ⟨⟨o, ho1, ho2, ho3⟩, hnw⟩ := hw.out
    have HO := Lib.hid ho2
    have HP := Lib.hid ho1
    have HC := Lib.hid ho3
    have HN := Lib.hid hnw
    have HOL := Lib.hid ho1.len
    have hol : o.length ≤ 201 := by have := ho1.len; omega
    clear ho1 ho2 ho3 hnw
    by_cases hgo : k < M ∨ 0 < cc
    · clear hw
      obtain ⟨p, hp⟩ : ∃ p, p = la.getD k 0 := ⟨_, rfl⟩
      obtain ⟨q, hq⟩ : ∃ q, q = lb.getD k 0 := ⟨_, rfl⟩
      have hpb : p < 1000000000 := by rw [hp]; exact okB_getD OA.out (by omega) k
      have hqb : q < 1000000000 := by rw [hq]; exact okB_getD OB.out (by omega) k
      have hp0 : ¬ k < la.length → p = 0 := fun h => by rw [hp, List.getD_eq_getElem?_getD, List.getElem?_eq_none (by omega)]; rfl
      have hq0 : ¬ k < lb.length → q = 0 := fun h => by rw [hq, List.getD_eq_getElem?_getD, List.getElem?_eq_none (by omega)]; rfl
      obtain ⟨r, hr⟩ : ∃ r, r = (cc + p + q) % 1000000000 := ⟨_, rfl⟩
      obtain ⟨d, hd⟩ : ∃ d, d = (cc + p + q) / 1000000000 := ⟨_, rfl⟩
      have hd1 : d ≤ 1 := by omega
      have hw1 : IntKind.u64.wrap ((cc : Int) + (p : Int)) = (cc : Int) + (p : Int) := by rw [IntKind.wrap_u64]; omega
      have hw2 : IntKind.u64.wrap ((cc : Int) + (p : Int) + (q : Int)) = (cc : Int) + (p : Int) + (q : Int) := by rw [IntKind.wrap_u64]; omega
      have ht1 : ((cc : Int) + (p : Int) + (q : Int)).tmod 1000000000 = (r : Int) := by rw [Int.tmod_eq_emod_of_nonneg (by omega)]; omega
      have ht2 : ((cc : Int) + (p : Int) + (q : Int)).tdiv 1000000000 = (d : Int) := by rw [Int.tdiv_eq_ediv_of_nonneg (by omega)]; omega
      have HR : Hid (r = (cc + la.getD k 0 + lb.getD k 0) % 1000000000 ∧ d = (cc + la.getD k 0 + lb.getD k 0) / 1000000000) := by
        show _ ∧ _; rw [← hp, ← hq]; exact ⟨hr, hd⟩
      have hmd : 2 * (M + 1 - (k + 1)) + d < 2 * (M + 1 - k) + cc := by omega
      have hkM : k + 1 ≤ M + 1 := by
        have h9 := HC.out
        rw [← HM.out] at h9
        omega
      clear hr hd
      by_cases h1 : k < la.length
      · obtain ⟨b1, o1, ha1, p1⟩ := HA.out.ext he k h1
        subst ha1
        rw [← hp] at p1
        clear hp hp0
        by_cases h2 : k < lb.length
        · obtain ⟨b2, o2, ha2, q1⟩ := HB.out.ext he k h2
          subst ha2
          rw [← hq] at q1
          clear hq hq0
          go_wp2_with (at_builtin; refine wpList_append1 _ rfl _ _ 155 rfl 153 i0 (.int .u64 0) 1 8 Tryz.underlying155 hi hi0 hi1 hi2 rfl (by decide) vv o.length (natsV .u64 o) rfl (HO.out.ext ((Ext.refl _).alloc _)) ⟨wr.heap.size, 0, none⟩ 1 1 (by decide) [.int .u64 (r : Int)] rfl rfl (cells_one _ _ _) (by intro u hu; simp at hu; subst hu; rfl) (by unfold maxLen; omega) (by omega) ?_)
          all_goals
            intro v' w5 hown5 hend5
            have OB5 : Hid (∀ b, v'.ownBlock = some b → w.heap.size ≤ b) := hend5.ge (n := w.heap.size) (by have := he.size; simp; omega) HN.out
            have O5 : Hid (PlusW la lb w (k + 1) d v' w5) := PlusW.step HP.out HC.out OA.out OB.out (by rw [← HM.out]; exact hgo) HR.out.1 HR.out.2 (ownsN_succ hown5) OB5.out
            have B5 : Ext w w5 := (he.trans ((Ext.refl _).alloc _)).trans' (hend5.below (n := w.heap.size) (by have := he.size; simp; omega) HN.out) (Nat.le_refl _)
            clear hown5 hend5 HO HP HC
            go_wp2
            refine ⟨⟨k + 1, d, v', hkM, hd1, by go_num, rfl, rfl, O5, B5⟩, by simp [intOf]; omega⟩
        · have hqz := hq0 h2
          subst hqz
          clear hq hq0
          rw [Int.natCast_zero, Int.add_zero] at hw2 ht1 ht2
          go_wp2_with (at_builtin; refine wpList_append1 _ rfl _ _ 155 rfl 153 i0 (.int .u64 0) 1 8 Tryz.underlying155 hi hi0 hi1 hi2 rfl (by decide) vv o.length (natsV .u64 o) rfl (HO.out.ext ((Ext.refl _).alloc _)) ⟨wr.heap.size, 0, none⟩ 1 1 (by decide) [.int .u64 (r : Int)] rfl rfl (cells_one _ _ _) (by intro u hu; simp at hu; subst hu; rfl) (by unfold maxLen; omega) (by omega) ?_)
          all_goals
            intro v' w5 hown5 hend5
            have OB5 : Hid (∀ b, v'.ownBlock = some b → w.heap.size ≤ b) := hend5.ge (n := w.heap.size) (by have := he.size; simp; omega) HN.out
            have O5 : Hid (PlusW la lb w (k + 1) d v' w5) := PlusW.step HP.out HC.out OA.out OB.out (by rw [← HM.out]; exact hgo) HR.out.1 HR.out.2 (ownsN_succ hown5) OB5.out
            have B5 : Ext w w5 := (he.trans ((Ext.refl _).alloc _)).trans' (hend5.below (n := w.heap.size) (by have := he.size; simp; omega) HN.out) (Nat.le_refl _)
            clear hown5 hend5 HO HP HC
            go_wp2
            refine ⟨⟨k + 1, d, v', hkM, hd1, by go_num, rfl, rfl, O5, B5⟩, by simp [intOf]; omega⟩
      · have hpz := hp0 h1
        subst hpz
        clear hp hp0
        rw [Int.natCast_zero, Int.add_zero] at hw1 hw2 ht1 ht2
        by_cases h2 : k < lb.length
        · obtain ⟨b2, o2, ha2, q1⟩ := HB.out.ext he k h2
          subst ha2
          rw [← hq] at q1
          clear hq hq0
          go_wp2_with (at_builtin; refine wpList_append1 _ rfl _ _ 155 rfl 153 i0 (.int .u64 0) 1 8 Tryz.underlying155 hi hi0 hi1 hi2 rfl (by decide) vv o.length (natsV .u64 o) rfl (HO.out.ext ((Ext.refl _).alloc _)) ⟨wr.heap.size, 0, none⟩ 1 1 (by decide) [.int .u64 (r : Int)] rfl rfl (cells_one _ _ _) (by intro u hu; simp at hu; subst hu; rfl) (by unfold maxLen; omega) (by omega) ?_)
          all_goals
            intro v' w5 hown5 hend5
            have OB5 : Hid (∀ b, v'.ownBlock = some b → w.heap.size ≤ b) := hend5.ge (n := w.heap.size) (by have := he.size; simp; omega) HN.out
            have O5 : Hid (PlusW la lb w (k + 1) d v' w5) := PlusW.step HP.out HC.out OA.out OB.out (by rw [← HM.out]; exact hgo) HR.out.1 HR.out.2 (ownsN_succ hown5) OB5.out
            have B5 : Ext w w5 := (he.trans ((Ext.refl _).alloc _)).trans' (hend5.below (n := w.heap.size) (by have := he.size; simp; omega) HN.out) (Nat.le_refl _)
            clear hown5 hend5 HO HP HC
            go_wp2
            refine ⟨⟨k + 1, d, v', hkM, hd1, by go_num, rfl, rfl, O5, B5⟩, by simp [intOf]; omega⟩
        · have hqz := hq0 h2
          subst hqz
          clear hq hq0
          rw [Int.natCast_zero, Int.add_zero] at hw2 ht1 ht2
          go_wp2_with (at_builtin; refine wpList_append1 _ rfl _ _ 155 rfl 153 i0 (.int .u64 0) 1 8 Tryz.underlying155 hi hi0 hi1 hi2 rfl (by decide) vv o.length (natsV .u64 o) rfl (HO.out.ext ((Ext.refl _).alloc _)) ⟨wr.heap.size, 0, none⟩ 1 1 (by decide) [.int .u64 (r : Int)] rfl rfl (cells_one _ _ _) (by intro u hu; simp at hu; subst hu; rfl) (by unfold maxLen; omega) (by omega) ?_)
          all_goals
            intro v' w5 hown5 hend5
            have OB5 : Hid (∀ b, v'.ownBlock = some b → w.heap.size ≤ b) := hend5.ge (n := w.heap.size) (by have := he.size; simp; omega) HN.out
            have O5 : Hid (PlusW la lb w (k + 1) d v' w5) := PlusW.step HP.out HC.out OA.out OB.out (by rw [← HM.out]; exact hgo) HR.out.1 HR.out.2 (ownsN_succ hown5) OB5.out
            have B5 : Ext w w5 := (he.trans ((Ext.refl _).alloc _)).trans' (hend5.below (n := w.heap.size) (by have := he.size; simp; omega) HN.out) (Nat.le_refl _)
            clear hown5 hend5 HO HP HC
            go_wp2
            refine ⟨⟨k + 1, d, v', hkM, hd1, by go_num, rfl, rfl, O5, B5⟩, by simp [intOf]; omega⟩
    · have h9 := HC.out
      have hk2 : M ≤ k := by omega
      have hc0 : cc = 0 := by omega
      subst hc0
      have HF : Hid (OwnsN .u64 153 wr vv (toB 1000000000 (x + y))) := hw.out.done (by rw [← HM.out]; exact hk2) HX.out HY.out
      clear h9 hgo hw HO
      go_wp2
      all_goals go_ret
      all_goals exact ⟨_, rfl, HF.out, HN.out, he⟩
end Go.Proofs.YtlhpfhnbeagnaaaGreatDoor
namespace Go.Proofs.YtlhpfhnbeagnaaaGreatDoor
open Go.RowKit
theorem madeN (k : IntKind) (t : TypeId) (w : World) (n : Nat) (hn : n ≤ 1000) :
    OwnsN k t (w.alloc (.cells (madeCells #[.int k 0] n) t)) (.slice (some ⟨w.heap.size, 0, none⟩) n n) (List.replicate n 0) := by
  unfold OwnsN
  rw [List.length_replicate]
  refine ⟨by simp [natsV], .inr ⟨w.heap.size, n, madeCells #[.int k 0] n, rfl, Nat.zero_le _, ?_, Nat.le_refl _, by unfold maxLen; omega, by simp [madeCells], ?_⟩⟩
  · show (w.heap.push _)[w.heap.size]? = _
    exact Array.getElem?_push_size
  · simp only [Nat.mul_one]
    apply List.ext_getElem?
    intro j
    by_cases hj : j < n
    · rw [List.getElem?_take_of_lt hj]
      simp [madeCells, natsV, hj, Nat.mod_one]
    · simp [madeCells, natsV, hj]
theorem OwnsN.at {k : IntKind} {t : TypeId} {w : World} {b n cap : Nat} {l : List Nat} (h : OwnsN k t w (.slice (some ⟨b, 0, none⟩) n cap) l) {i : Nat} (hi : i < l.length) :
    w.cell? ⟨b, i, none⟩ = some (.int k (l.getD i 0 : Nat)) ∧ w.frozen? ⟨b, i, none⟩ = false := by
  obtain ⟨a, c, hv, hc, _, hf⟩ := h.reads
  obtain ⟨e1, _, _⟩ := Value.slice.inj hv
  subst e1
  obtain ⟨b1, o1, e2, h1⟩ := hc i hi
  cases e2
  obtain ⟨b2, e3, _, h2⟩ := hf i hi
  cases e3
  rw [Nat.zero_add] at h1
  exact ⟨h1, h2⟩
set_option maxHeartbeats 8000000 in
set_option maxRecDepth 100000 in
theorem times_any (x y : Nat) (la lb : List Nat) (a b : Option Addr) (ca cb : Nat) (w : World) (hx : la = toB 1000000000 x) (hy : lb = toB 1000000000 y)
    (hla : la.length ≤ 200) (hlb : lb.length ≤ 200) (ha : CellsN .u64 w a la) (hb : CellsN .u64 w b lb) :
    Calls Tryz.prog 140 #[.slice a la.length ca, .slice b lb.length cb] w (OwnNPost .u64 153 (toB 1000000000 (x * y)) w) := by
  have HA := Lib.hid ha
  have HB := Lib.hid hb
  have HX := Lib.hid hx
  have HY := Lib.hid hy
  have OA : Hid (OkB 1000000000 la) := by show OkB _ _; rw [hx]; exact okB_toB (by omega) x
  have OB : Hid (OkB 1000000000 lb) := by show OkB _ _; rw [hy]; exact okB_toB (by omega) y
  clear ha hb hx hy
  obtain ⟨i0, hi, hi0, hi1, hi2⟩ := info_parts infoU64
  obtain ⟨N, hN⟩ : ∃ N, N = la.length + lb.length := ⟨_, rfl⟩
  have hmk : (Instr.makeSlice 155 (.int .i64 ((la.length : Int) + (lb.length : Int))) (.int .i64 ((la.length : Int) + (lb.length : Int)))).run Tryz.prog w = .ok (.slice (some ⟨w.heap.size, 0, none⟩) N N) (w.alloc (.cells (madeCells #[.int .u64 0] N) 153)) := by
    rw [← Int.natCast_add, ← hN]
    exact run_make_row' _ _ (.int .u64 0) 8 Tryz.underlying155 infoU64 rfl _ _ N (by omega) (by omega) w
  have O0 : Hid (OwnsN .u64 153 (w.alloc (.cells (madeCells #[.int .u64 0] N) 153)) (.slice (some ⟨w.heap.size, 0, none⟩) N N) (List.replicate N 0)) := madeN _ _ _ N (by omega)
  have E0 : Ext w (w.alloc (.cells (madeCells #[.int .u64 0] N) 153)) := (Ext.refl _).alloc _
  generalize hW : w.alloc (.cells (madeCells #[.int .u64 0] N) 153) = W at hmk O0 E0
  clear hW
  obtain ⟨ob, hob⟩ : ∃ ob, ob = w.heap.size := ⟨_, rfl⟩
  rw [← hob] at hmk O0
  have HNN := Lib.hid hN
  have HOB := Lib.hid hob
  clear hN hob
  go_enter Tryz.func140, Tryz.ntmps140
  go_wp2
  clear hmk
  have HI0 : Hid (TimesI 1000000000 la lb 0 (List.replicate N 0)) := by show TimesI _ _ _ _ _; rw [HNN.out]; exact TimesI.start (by omega) _ _
  go_loopw [19] (fun i wr => ∃ (k : Nat), k ≤ la.length ∧ i = .int .i64 k ∧ Hid (∃ o, TimesI 1000000000 la lb k o ∧ OwnsN .u64 153 wr (.slice (some ⟨ob, 0, none⟩) N N) o) ∧ Ext w wr) (fun i _ => la.length - (intOf i).toNat)
  case atStart => exact ⟨0, by omega, rfl, ⟨_, HI0.out, O0.out⟩, E0⟩
  case round =>
    obtain ⟨k, hk, rfl, hw, he⟩ := hrel
    by_cases h1 : k < la.length
    · obtain ⟨p, hp⟩ : ∃ p, p = la.getD k 0 := ⟨_, rfl⟩
      have hpb : p < 1000000000 := by rw [hp]; exact okB_getD OA.out (by omega) k
      obtain ⟨b1, o1, ha1, p1⟩ := HA.out.ext he k h1
      subst ha1
      rw [← hp] at p1
      have HPP := Lib.hid hp
      clear hp
      obtain ⟨wo, hwo⟩ : ∃ wo, wo = wr := ⟨wr, rfl⟩
      subst hwo
      obtain ⟨o0, ho1, ho2⟩ := hw.out
      have HK0 : Hid (∃ o, TimesK 1000000000 la lb k 0 0 o ∧ OwnsN .u64 153 wo (.slice (some ⟨ob, 0, none⟩) N N) o) := ⟨o0, ho1.inner (by omega), ho2⟩
      clear ho1 ho2 hw
      go_wp2
      go_loopw [8, 26] (fun c i wr => ∃ (m cc : Nat), m ≤ lb.length ∧ i = .int .i64 m ∧ c = .int .u64 cc ∧ Hid (∃ o, TimesK 1000000000 la lb k m cc o ∧ OwnsN .u64 153 wr (.slice (some ⟨ob, 0, none⟩) N N) o) ∧ Ext w wr) (fun _ i _ => lb.length - (intOf i).toNat)
      case atStart => exact ⟨0, 0, by omega, rfl, rfl, HK0.out, he⟩
      case round =>
        obtain ⟨m, cc, hm, rfl, rfl, hw, he⟩ := hrel
        obtain ⟨o, ho1, ho2⟩ := hw.out
        have HO := Lib.hid ho2
        have HP := Lib.hid ho1
        have HOL := Lib.hid ho1.len
        have hcc := ho1.cB
        clear ho1 ho2 hw
        by_cases h2 : m < lb.length
        · obtain ⟨q, hq⟩ : ∃ q, q = lb.getD m 0 := ⟨_, rfl⟩
          have hqb : q < 1000000000 := by rw [hq]; exact okB_getD OB.out (by omega) m
          obtain ⟨b2, o2, ha2, q1⟩ := HB.out.ext he m h2
          subst ha2
          rw [← hq] at q1
          have hkm : k + m < o.length := by have := HOL.out; omega
          obtain ⟨s1, s2⟩ := HO.out.at hkm
          have hnx := HP.out.next (by omega) OA.out OB.out h1 h2
          obtain ⟨s, hs⟩ : ∃ s, s = o.getD (k + m) 0 := ⟨_, rfl⟩
          have hsb : s < 1000000000 := by rw [hs]; exact okB_getD HP.out.ok (by omega) _
          rw [← hs] at s1 hnx
          rw [← HPP.out, ← hq] at hnx
          have hpq : p * q ≤ 999999999 * 999999999 := Nat.mul_le_mul (by omega) (by omega)
          obtain ⟨z, hz⟩ : ∃ z, z = p * q := ⟨_, rfl⟩
          rw [← hz] at hpq hnx
          obtain ⟨r, hr⟩ : ∃ r, r = (cc + s + z) % 1000000000 := ⟨_, rfl⟩
          obtain ⟨d, hd⟩ : ∃ d, d = (cc + s + z) / 1000000000 := ⟨_, rfl⟩
          rw [← hr, ← hd] at hnx
          have HN := Lib.hid hnx.2
          have hw1 : IntKind.u64.wrap ((p : Int) * (q : Int)) = (z : Int) := by
            rw [← Int.natCast_mul, ← hz, IntKind.wrap_u64]; omega
          have hw2 : IntKind.u64.wrap ((s : Int) + (z : Int)) = (s : Int) + (z : Int) := by rw [IntKind.wrap_u64]; omega
          have hw3 : IntKind.u64.wrap ((cc : Int) + ((s : Int) + (z : Int))) = (cc : Int) + ((s : Int) + (z : Int)) := by rw [IntKind.wrap_u64]; omega
          have ht1 : ((cc : Int) + ((s : Int) + (z : Int))).tmod 1000000000 = (r : Int) := by rw [Int.tmod_eq_emod_of_nonneg (by omega)]; omega
          have ht2 : ((cc : Int) + ((s : Int) + (z : Int))).tdiv 1000000000 = (d : Int) := by rw [Int.tdiv_eq_ediv_of_nonneg (by omega)]; omega
          have hw4 : IntKind.u64.wrap (d : Int) = (d : Int) := by rw [IntKind.wrap_u64]; omega
          have HO2 := Lib.hid (HO.out.set (k + m) r)
          have E2 : Ext w (wr.setCell ⟨ob, k + m, none⟩ (.int .u64 (r : Int))) := Ext.set he (by rw [HOB.out]; exact Nat.le_refl _) _
          have hkN : k + m < N := by have := HNN.out; omega
          clear hnx hr hd hz hs hpq hq HO HP
          go_wp2
          trace_state
          refine ⟨⟨m + 1, d, by omega, by go_num, rfl, ⟨_, HN.out, HO2.out⟩, E2⟩, by simp [intOf]; omega⟩
        · have hml : m = lb.length := by omega
          have hP := HP.out
          rw [hml] at hP
          have HN := Lib.hid (hP.outer h1)
          have hkm : k + lb.length < o.length := by have := HOL.out; omega
          obtain ⟨s1, s2⟩ := HO.out.at hkm
          have HO2 := Lib.hid (HO.out.set (k + lb.length) cc)
          have E2 : Ext w (wr.setCell ⟨ob, k + lb.length, none⟩ (.int .u64 (cc : Int))) := Ext.set he (by rw [HOB.out]; exact Nat.le_refl _) _
          have hkN : k + lb.length < N := by have := HNN.out; omega
          generalize o.getD (k + lb.length) 0 = s0 at s1
          clear hP HP HO hml
          go_wp2
          refine ⟨⟨k + 1, by omega, by go_num, ⟨_, HN.out, HO2.out⟩, E2⟩, by simp [intOf]; omega⟩
    · have hkl : k = la.length := by omega
      obtain ⟨o, ho1, ho2⟩ := hw.out
      have hdone : Hid (trimL o = toB 1000000000 (x * y)) := by
        have h5 := ho1
        rw [hkl] at h5
        have h6 := h5.done (by omega)
        rw [HX.out, HY.out, valB_toB (by omega), valB_toB (by omega)] at h6
        exact h6
      have hlen := ho1.len
      have HO : Hid (OwnsN .u64 153 wr (.slice (some ⟨ob, 0, none⟩) o.length N) o) := by
        show OwnsN _ _ _ _ _
        rw [show o.length = N by rw [HNN.out, hlen]]
        exact ho2
      obtain ⟨oa, oc, hov, hoc, hor, _⟩ := HO.out.reads
      obtain ⟨e1, _, e3⟩ := Value.slice.inj hov
      subst e1 e3
      have HOR := Lib.hid hor
      have HOC := Lib.hid hoc
      have hNo : N = o.length := by rw [HNN.out, hlen]
      clear hor hoc ho1 ho2 hw hov
      rw [hNo] at HO HOR
      have hT := trimmed_any o (some ⟨ob, 0, none⟩) o.length wr HOR.out HOC.out
      rw [← hNo] at hT
      have HT := Lib.hid hT
      have HNO := Lib.hid hNo
      clear hT hNo hlen hkl
      go_wp2_with (go_at_call 160; refine HT.out.mono ?_; rintro e w5 ⟨rfl, hn5, hE5⟩)
      go_ret
      refine ⟨.slice (some ⟨ob, 0, none⟩) (trimL o).length N, rfl, ?_, ?_, he.trans hE5⟩
      · rw [← hdone.out, HNO.out]
        exact (HO.out.ext hE5).trim (by rw [← HNO.out]; exact hn5)
      · intro b hb
        cases hb
        rw [HOB.out]
        exact Nat.le_refl _
end Go.Proofs.YtlhpfhnbeagnaaaGreatDoor
namespace Go.Proofs.YtlhpfhnbeagnaaaGreatDoor
open Go.RowKit
attribute [local go_sem] Oper.semAt_some
theorem Backward_any (a : Option Addr) (n cap : Nat) (w : World) :
    Calls Tryz.prog 156 #[.slice a n cap] w fun e w' => e = .returned (.func (.func 188) #[] #[.pointer (some ⟨w.heap.size, 0, none⟩)]) ∧ w.alloc (.cells #[.slice a n cap] 155) = w' := by
  go_enter Tryz.func156, Tryz.ntmps156
  go_wp2
  go_ret
  exact ⟨rfl, rfl⟩
def BwK (s n : Nat) (_ k : Nat) : Prop := k = s ∨ k < n
theorem Old.keptB {A B C : World} {s n : Nat} (h : Old A B) (k : Kept (BwK s A.heap.size n) n B C) : Old A C := fun i o hi ho => by
  have hlt := (Array.getElem?_eq_some_iff.1 hi).1
  exact k.2 i o (.inr hlt) (h i o hi ho) (.inl ho)
def bwEnc (l : List Nat) (k : Nat) : Array Value := #[.int .i64 ((l.length : Int) - 1 - (k : Int)), .int .u64 (l.getD (l.length - 1 - k) 0 : Nat)]
set_option maxHeartbeats 4000000 in
set_option maxRecDepth 100000 in
theorem bw1_iter (l : List Nat) (a : Option Addr) (cap : Nat) (w0 w : World) (sb : Nat) (hl : l.length ≤ 10000)
    (hc : CellsN .u64 w0 a l) (E0 : Ext w0 w) (s2 : w.cell? ⟨sb, 0, none⟩ = some (.slice a l.length cap)) :
    Iter Tryz.prog 188 #[.pointer (some ⟨sb, 0, none⟩)] (bwEnc l) (List.range l.length) (fun _ A B => A = B) (BwK sb w0.heap.size) 0 w := by
  intro y J Jx W hW hJ hJx hY h0
  have HC := Lib.hid hc
  have s2 := hW.cell s2
  have HY := Lib.hid hY
  have O0 := Lib.hid (Old.ext (E0.trans hW))
  have hsz : w0.heap.size ≤ W.heap.size := (E0.trans hW).size
  have zs : sb < W.heap.size := cell_lt s2
  have J0 : Hid (J (List.range 0) W) := h0
  have hsub : IntKind.i64.wrap ((l.length : Int) - 1) = (l.length : Int) - 1 := IntWalk.i64_in _ (by omega)
  clear hc hY hJ hJx hW E0 h0
  refine callsIn_of_wp Tryz.func188 rfl trivial ?_ rfl
  simp only [Tryz.ntmps188, List.size_toArray, List.length_cons, List.length_nil, Nat.reduceAdd, Nat.reduceSub, Array.replicate_succ, Array.replicate_zero, List.push_toArray, List.append_toArray, List.nil_append, List.cons_append]
  gi_wp2
  gi_loopw [3] (fun i wr => ∃ (z : Int) (k : Nat), k ≤ l.length ∧ i = .int .i64 z ∧ Hid (z = (l.length : Int) - 1 - (k : Int)) ∧ Hid (J (List.range k) wr) ∧ W.heap.size ≤ wr.heap.size ∧ wr.cell? ⟨sb, 0, none⟩ = some (.slice a l.length cap) ∧ Hid (Old w0 wr)) (fun i _ => (intOf i + 1).toNat)
  case atStart => exact ⟨_, 0, by omega, rfl, by show _ = _; omega, J0, Nat.le_refl _, s2, O0⟩
  case round =>
    clear s2 J0 O0
    obtain ⟨z, k, hk, rfl, hz, hj, hzz, s2, O⟩ := hrel
    by_cases hlt : 0 ≤ z
    · obtain ⟨zn, rfl⟩ := Int.eq_ofNat_of_zero_le hlt
      have hzk : zn + 1 + k = l.length := by have := hz.out; omega
      have hzl : zn < l.length := by omega
      obtain ⟨b, off, ha, p1⟩ := HC.out zn hzl
      subst ha
      have p1 := O.out.cell p1
      have HENC : Hid (bwEnc l k = #[.int .i64 (zn : Int), .int .u64 (l.getD zn 0 : Nat)]) := by
        show _ = _
        unfold bwEnc
        rw [show l.length - 1 - k = zn from by omega, show (l.length : Int) - 1 - (k : Int) = (zn : Int) from by omega]
      have HPRE : Hid (List.range k ++ [k] <+: List.range l.length) := range_prefix (by omega)
      have hyy := HY.out (List.range k) k wr HPRE.out (by omega) hj.out
      rw [HENC.out] at hyy
      have HYY := Lib.hid hyy
      have u4 : IntKind.i64.wrap ((zn : Int) - 1) = (zn : Int) - 1 := IntWalk.i64_in _ (by omega)
      generalize l.getD zn 0 = x at p1 HYY HENC
      have z1 := cell_lt p1
      have z2 := cell_lt s2
      dsimp only at z1 z2
      clear hyy hj
      gi_wp2_with fail
      obtain ⟨fn, tmps, assign, body, hy, hR⟩ := HYY.out
      rw [hy]
      gi_wp2
      refine ⟨rfl, hR.mono ?_⟩
      clear hy hR HYY
      rintro e w3 (⟨rfl, hj3, hk3⟩ | ⟨rfl, hj3, hk3⟩)
      · have HJ3 := Lib.hid hj3
        have O3 : Hid (Old w0 w3) := O.out.keptB hk3
        have s3 := hk3.cell (p := ⟨sb, 0, none⟩) (.inl rfl) s2
        have hz3 : W.heap.size ≤ w3.heap.size := by have := hk3.1; omega
        have hzN : Hid ((zn : Int) - 1 = (l.length : Int) - 1 - ((k + 1 : Nat) : Int)) := by show _ = _; omega
        have J5 : Hid (J (List.range (k + 1)) w3) := by show J _ _; rw [List.range_succ]; exact hj3
        clear hj3 hk3 s2 O p1
        gi_wp2
        refine ⟨⟨_, k + 1, by omega, rfl, hzN, J5, hz3, s3, O3⟩, by simp [intOf]⟩
      · gi_wp2
        refine bodyPost_ret (results_none rfl _ _ _) rfl ?_
        exact ⟨⟨_, rfl⟩, .inr ⟨_, HPRE.out, hj3⟩⟩
    · have hke : k = l.length := by have := hz.out; omega
      have hj2 := hj.out
      rw [hke] at hj2
      have HJ2 := Lib.hid hj2
      clear hj hj2 hke
      gi_wp2
      go_end0
      exact ⟨⟨_, rfl⟩, .inl HJ2.out⟩
end Go.Proofs.YtlhpfhnbeagnaaaGreatDoor
namespace Go.Proofs.YtlhpfhnbeagnaaaGreatDoor
open Go.RowKit
theorem OwnNPost.ext {k : IntKind} {t : TypeId} {l : List Nat} {w w1 w' : World} {e : Ending} (h : OwnNPost k t l w1 e w') (he : Ext w w1) : OwnNPost k t l w e w' := by
  obtain ⟨v, h1, h2, h3, h4⟩ := h
  exact ⟨v, h1, h2, fun b hb => Nat.le_trans he.size (h3 b hb), he.trans h4⟩
set_option maxHeartbeats 2000000 in
theorem by_any (x n : Nat) (la : List Nat) (a : Option Addr) (ca : Nat) (w : World) (hx : la = toB 1000000000 x) (hn : n < 1000000000)
    (hla : la.length ≤ 200) (ha : CellsN .u64 w a la) :
    Calls Tryz.prog 162 #[.slice a la.length ca, .int .u64 (n : Int)] w (OwnNPost .u64 153 (toB 1000000000 (x * n)) w) := by
  by_cases h0 : n = 0
  · subst h0
    have HR : Hid (toB 1000000000 (x * 0) = []) := by show _ = _; rw [Nat.mul_zero, toB_zero]
    clear hx ha
    go_enter Tryz.func162, Tryz.ntmps162
    go_wp2
    go_ret
    rw [HR.out]
    exact ⟨.slice none 0 0, rfl, OwnsN.nil _ _ _, (fun b hb => by cases hb), extA⟩
  · have h0' : ((n : Int) == 0) = false := by rw [beq_eq_false_iff_ne]; omega
    have HT : Hid (∀ W, CellsN .u64 W a la → CellsN .u64 W (some ⟨w.heap.size, 0, none⟩) [n] → Calls Tryz.prog 140 #[.slice a la.length ca, .slice (some ⟨w.heap.size, 0, none⟩) 1 1] W (OwnNPost .u64 153 (toB 1000000000 (x * n)) W)) := fun W h1 h2 =>
      times_any x n la [n] a _ ca 1 W hx (toB_one (by omega) (by omega) hn).symm hla (by simp) h1 h2
    have HA := Lib.hid ha
    clear hx ha
    go_enter Tryz.func162, Tryz.ntmps162
    go_wp2_with fail
    refine (HT.out _ (HA.out.ext ((Ext.refl _).alloc _)) ?_).mono ?_
    · intro i hi
      have hi0 : i = 0 := by simp at hi; exact hi
      subst hi0
      exact ⟨_, 0, rfl, by go_simp⟩
    · rintro e w1 hp
      obtain ⟨v, rfl, hp1, hp2, hp3⟩ := hp.ext ((Ext.refl w).alloc _)
      have HP := Lib.hid (And.intro hp1 (And.intro hp2 hp3))
      clear hp hp1 hp2 hp3
      go_wp2
      go_ret
      exact ⟨_, rfl, HP.out.1, HP.out.2.1, HP.out.2.2⟩
end Go.Proofs.YtlhpfhnbeagnaaaGreatDoor
namespace Go.Proofs.YtlhpfhnbeagnaaaGreatDoor
open Go.RowKit
attribute [local go_sem] Oper.semAt_some
theorem results_cell1 {fn : Func} {p : Tmp} {t : TypeId} (h : fn.results = #[.cell p t]) (tmps : Array Value) (P : Program) (w : World) :
    (results fn tmps).run P w = ((asAddr (tmps.getD p undef)).run P w).andThen fun a w₁ => (loadVar t a).run P w₁ := by
  simp only [results, h]
  simp [Sem.run_bind, Result.andThen]
theorem leaves_cells {P : Program} {fn : Func} {tmps : Array Value} {R : Ending → World → Prop} {m n : Nat} {v : Value} :
    ∀ (ds : List Deferred) (w : World), Marks n ds w → (∀ w', Keep n w w' → (results fn tmps).run P w' = .ok v w' ∧ R (.returned v) w') → LeavesInM Fence.wide m P fn tmps R ds .returning w := by
  intro ds
  induction ds with
  | nil => intro w _ hR; exact ⟨v, (hR w (Keep.refl _ _)).1, (hR w (Keep.refl _ _)).2⟩
  | cons d ds ih =>
    intro w hm hR
    obtain ⟨Ds, h1, h2, h3⟩ := hm
    cases Ds with
    | nil => cases h1
    | cons D Ds =>
      simp only [List.map_cons, List.cons.injEq] at h1
      obtain ⟨rfl, rfl⟩ := h1
      have hD := h3 D (List.mem_cons_self ..)
      have hb : Keep n w (w.putObj D (.deferred none)) := Keep.turn hD.1 hD.2 rfl
      refine ⟨(by simp), .inl ⟨D, _, rfl, run_takeDeferred hD.2, ih _ ⟨Ds, rfl, (List.nodup_cons.1 h2).2, fun E hE => ⟨(h3 E (List.mem_cons_of_mem _ hE)).1, ?_⟩⟩ (fun w' hw' => hR w' (hb.trans hw'))⟩⟩
      have hne : E ≠ D := fun e => (List.nodup_cons.1 h2).1 (e ▸ hE)
      rw [World.putObj_heap_other hne]
      exact (h3 E (List.mem_cons_of_mem _ hE)).2
theorem Keep.cell {m : Nat} {A B : World} (h : Keep m A B) {p : Addr} {v : Value} (hc : A.cell? p = some v) : B.cell? p = some v := by
  have hlt := cell_lt hc
  obtain ⟨o, ho⟩ : ∃ o, A.heap[p.block]? = some o := ⟨_, Array.getElem?_eq_getElem hlt⟩
  have hr : isRec o = false := by
    cases o <;> simp [World.cell?, ho] at hc <;> rfl
  exact (World.cell?_of_block (w := A) ((h.2 _ _ ho hr).trans ho.symm)).trans hc
theorem Keep.frozen {m : Nat} {A B : World} (h : Keep m A B) {p : Addr} {v : Value} (hc : A.cell? p = some v) : B.frozen? p = A.frozen? p := by
  have hlt := cell_lt hc
  obtain ⟨o, ho⟩ : ∃ o, A.heap[p.block]? = some o := ⟨_, Array.getElem?_eq_getElem hlt⟩
  have hr : isRec o = false := by
    cases o <;> simp [World.cell?, ho] at hc <;> rfl
  exact World.frozen?_of_block (w := A) ((h.2 _ _ ho hr).trans ho.symm)
def Chg (B : Nat → Prop) (A C : World) : Prop := A.heap.size ≤ C.heap.size ∧ ∀ k, k < A.heap.size → ¬ B k → C.heap[k]? = A.heap[k]?
theorem Chg.refl (B : Nat → Prop) (A : World) : Chg B A A := ⟨Nat.le_refl _, fun _ _ _ => rfl⟩
theorem Chg.trans {B : Nat → Prop} {A C D : World} (h : Chg B A C) (k : Chg B C D) : Chg B A D :=
  ⟨Nat.le_trans h.1 k.1, fun i hi hb => (k.2 i (Nat.lt_of_lt_of_le hi h.1) hb).trans (h.2 i hi hb)⟩
theorem Chg.ext {B : Nat → Prop} {A C : World} (h : Ext A C) : Chg B A C := ⟨h.size, fun k hk _ => Below.block h k hk⟩
theorem Chg.setCell {B : Nat → Prop} {A : World} (p : Addr) (v : Value) (hb : B p.block) : Chg B A (A.setCell p v) :=
  ⟨by simp [World.setCell], fun k _ hk => Below.heap_setCell _ _ _ _ (fun e => hk (e ▸ hb))⟩
theorem Chg.app {B : Nat → Prop} {A C : World} {v v' : Value} (h : AppEnd A C v v') (hb : ∀ b, v.ownBlock = some b → B b) : Chg B A C := by
  rcases h with ⟨_, _, hg⟩ | ⟨_, he⟩
  · exact ⟨hg.size, fun k hk hn => hg.block k hk (fun e => hn (hb k e.symm))⟩
  · exact Chg.ext he
theorem Chg.kept {B X : Nat → Prop} {n : Nat} {A C : World} (h : Chg B A C) (hx : ∀ k, X k → k < A.heap.size → ¬ B k) : Kept X n A C :=
  ⟨h.1, fun k o hk ho _ => by
    have hl := (Array.getElem?_eq_some_iff.1 ho).1
    rw [h.2 k hl (hx k hk hl)]; exact ho⟩
theorem Chg.others {B : Nat → Prop} {A C : World} (h : Chg B A C) (hb : ∀ k, B k → ∀ o, A.heap[k]? = some o → o.isCells = true) : KeepsOthers A C :=
  ⟨h.1, fun k o ho hc => by
    have hl := (Array.getElem?_eq_some_iff.1 ho).1
    rw [h.2 k hl (fun hk => by rw [hb k hk o ho] at hc; cases hc)]; exact ho⟩
theorem isCells_of_cell {A : World} {p : Addr} {v : Value} (h : A.cell? p = some v) {o : Obj} (ho : A.heap[p.block]? = some o) : o.isCells = true := by
  cases o <;> simp [World.cell?, ho] at h <;> rfl
theorem rowKeep {m : Nat} {A B : World} {e : TypeId} {s : Nat} {v : Value} {n : Nat} {xs : List Value} (h : A.ownsRow 0 e s v n xs) (k : Keep m A B) : B.ownsRow 0 e s v n xs := rowSame h (fun b hb => by
  rcases h.2 with ⟨hv, _⟩ | ⟨g, c, cur, hv, _, hg, _⟩
  · rw [hv] at hb; cases hb
  · rw [hv] at hb
    cases hb
    rw [hg]
    exact k.2 g _ hg rfl)
theorem prefix_range {pre : List Nat} {x m : Nat} (h : pre ++ [x] <+: List.range m) : x = pre.length ∧ x < m := by
  obtain ⟨t, ht⟩ := h
  have hlen : pre.length < m := by
    have := congrArg List.length ht
    simp at this
    omega
  have h1 : (List.range m)[pre.length]? = some pre.length := List.getElem?_range hlen
  rw [← ht] at h1
  simp at h1
  exact ⟨h1, by omega⟩
def roundB (sb n0 _ : Nat) (I Ix : Nat → World → Prop) (k : Nat) (W : World) : Exit → Act → World → Prop
  | .normal, _, W' => (∃ M : Nat → Prop, Chg M W W' ∧ (∀ b, M b → b ≠ sb ∧ n0 ≤ b) ∧ ∀ b, M b → ∀ o, W.heap[b]? = some o → o.isCells = true) ∧ I (k + 1) W'
  | .ret, _, W' => (∃ M : Nat → Prop, Chg M W W' ∧ (∀ b, M b → b ≠ sb ∧ n0 ≤ b) ∧ ∀ b, M b → ∀ o, W.heap[b]? = some o → o.isCells = true) ∧ Ix (k + 1) W'
  | _, _, _ => False
theorem wp_bwd {g : Operand} {p1 p2 : Tmp} {assign body : Code} {Q : Exit → Act → World → Prop} {a : Act} {w : World}
    (l : List Nat) (la : Option Addr) (cap : Nat) (w0 : World) (sb : Nat) (hl : l.length ≤ 10000) (hc : CellsN .u64 w0 la l) (E0 : Ext w0 w) (s0 : w.cell? ⟨sb, 0, none⟩ = some (.slice la l.length cap))
    (hg : a.eval g = .func (.func 188) #[] #[.pointer (some ⟨sb, 0, none⟩)])
    (I : Nat → World → Prop) (Ix : Nat → World → Prop)
    (hIK : ∀ k A B, I k A → Keep w.heap.size A B → I k B) (hIxK : ∀ k A B, Ix k A → Keep w.heap.size A B → Ix k B)
    (hIE : ∀ k A B, I k A → Ext A B → I k B)
    (h0 : I 0 w) (Ax : Nat → Act → World → Prop) (hAxK : ∀ x a' A B, Ax x a' A → Keep w.heap.size A B → Ax x a' B)
    (hassign : ∀ (l' : Nat) (x k : Nat) (W : World) (K : Act → World → Prop), w.heap.size + 2 ≤ W.heap.size → I k W → (∀ a' W', Ext W W' → Ax x a' W' → K a' W') →
      assign.wpIn (Fence.wide.inRound l') 0 Tryz.prog (Exit.then K (fun _ _ _ => False)) { tmps := (#[p1, p2].zip (bwEnc l x)).foldl (fun t (p, v) => t.setIfInBounds p v) a.tmps, defers := [] } W)
    (hbody : ∀ (l' : Nat) (k : Nat) (a' : Act) (W : World), k < l.length → w.heap.size + 2 ≤ W.heap.size → I k W → Ax k a' W →
      body.wpIn (Fence.wide.inRound l') 0 Tryz.prog (roundB sb w0.heap.size w.heap.size I Ix k W) a' W)
    (hdone : ∀ (D : Nat) (W : World), w.heap.size ≤ D → D < W.heap.size → I l.length W → W.heap[D]? = some (.deferred (some [])) → Q .normal { a with defers := mark D :: a.defers } W)
    (hstop : ∀ (D : Nat) (k : Nat) (W : World), w.heap.size ≤ D → D < W.heap.size → k ≤ l.length → Ix k W → W.heap[D]? = some (.deferred (some [])) → Code.ret.wp Tryz.prog Q { a with defers := mark D :: a.defers } W) :
    (Code.rangeFunc g #[p1, p2] assign body).wp Tryz.prog Q a w := by
  have hsz : sb < w.heap.size := cell_lt s0
  have hz := E0.size
  refine wp_range (n := 0) (gf := 188) (lb := #[.pointer (some ⟨sb, 0, none⟩)]) hg (enters_of Tryz.func188 (by kernel_rfl) rfl)
    (bw1_iter l la cap w0 w sb hl hc E0 s0) (fun q => rfl)
    (fun A B h k o hk ho => by rw [← h]; exact ho)
    (fun pre W => I pre.length W) (fun c pre W => c = .ret ∧ Ix pre.length W)
    (fun pre A B h k => k ▸ h) (fun _ _ _ _ h k => k ▸ h)
    (fun pre A B h k => hIK _ _ _ h k) (fun _ _ _ _ h k => ⟨h.1, hIxK _ _ _ h.2 k⟩)
    h0 Ax hAxK ?assign ?body (fun pre A B h k => hIE _ _ _ h k) ?done ?stop
  case assign =>
    intro l' pre x W K hm hI hK
    exact hassign l' x pre.length W K hm hI hK
  case body =>
    intro l' pre x a' W hpre hm hI hA
    obtain ⟨hx, hxl⟩ := prefix_range hpre
    subst hx
    refine wpIn_mono (hbody l' _ a' W hxl hm hI hA) ?_
    intro e a3 W3 hp
    have hk : ∀ W', (∃ M : Nat → Prop, Chg M W W' ∧ (∀ b, M b → b ≠ sb ∧ w0.heap.size ≤ b) ∧ ∀ b, M b → ∀ o, W.heap[b]? = some o → o.isCells = true) → Kept (BwK sb w0.heap.size (w.heap.size + 2)) (w.heap.size + 2) W W' ∧ KeepsFrom w.heap.size W W' := by
      rintro W' ⟨M, h1, h2, h3⟩
      refine ⟨h1.kept ?_, (h1.others h3).from _⟩
      rintro k (rfl | hk) _ hM
      · exact (h2 _ hM).1 rfl
      · have := (h2 _ hM).2; omega
    cases e with
    | normal => exact ⟨(hk _ hp.1).1, (hk _ hp.1).2, by show I (pre ++ [pre.length]).length W3; rw [List.length_append]; exact hp.2⟩
    | ret => exact ⟨(hk _ hp.1).1, (hk _ hp.1).2, rfl, by show Ix (pre ++ [pre.length]).length W3; rw [List.length_append]; exact hp.2⟩
    | exit id => exact hp.elim
    | goto t => exact hp.elim
    | panic ch => exact hp.elim
    | outgrown => exact hp.elim
  case done =>
    intro D W h1 h2 h3 h4
    rw [List.length_range] at h3
    exact hdone D W h1 h2 h3 h4
  case stop =>
    rintro D c pre W h1 h2 hpre ⟨rfl, h3⟩ h4
    have hlen := hpre.length_le
    rw [List.length_range] at hlen
    exact hstop D pre.length W h1 h2 hlen h3 h4
end Go.Proofs.YtlhpfhnbeagnaaaGreatDoor
namespace Go.Proofs.YtlhpfhnbeagnaaaGreatDoor
open Go.RowKit
theorem holds_any (w : World) : Calls Tryz.prog 93 #[] w fun e w' => e = .returned (.agg #[.func (.func 116) #[] #[], .func (.func 117) #[] #[], .func (.func 118) #[] #[]]) ∧ Ext w w' := by
  go_enter Tryz.func93, Tryz.ntmps93
  go_wp2
  refine bodyPost_ret (v := .agg #[.func (.func 116) #[] #[], .func (.func 117) #[] #[], .func (.func 118) #[] #[]]) (by rw [results_cell1 rfl]; go_simp) rfl ?_
  exact ⟨rfl, extA⟩
theorem gateB_all {g : Gt} (n : Nat) (h : g.kind = 0) : gateB g n = ((n : Int) == (g.args.length : Int)) := by
  unfold gateB
  rw [if_pos h, Bool.eq_iff_iff, decide_eq_true_eq, beq_iff_eq]
  omega
theorem gateB_any {g : Gt} (n : Nat) (h : g.kind = 1) : gateB g n = decide ((n : Int) > 0) := by
  unfold gateB
  rw [if_neg (by omega), if_pos h]
  exact decide_eq_decide.2 (by omega)
theorem gateB_some {g : Gt} (n : Nat) (h : g.kind = 2) : gateB g n = decide ((n : Int) ≥ g.need) := by
  unfold gateB
  rw [if_neg (by omega), if_neg (by omega)]
set_option maxHeartbeats 1000000 in
theorem hold0_any {g : Gt} (h : g.kind = 0) (a : Option Addr) (n m cap : Nat) (w : World) (hm : m = g.args.length) :
    Calls Tryz.prog 116 #[.agg #[.int .i64 g.kind, .int .i64 g.need, .slice a m cap], .int .i64 n] w fun e w' => e = .returned (.bool (gateB g n)) ∧ Ext w w' := by
  rw [gateB_all n h, ← hm]
  clear hm
  go_enter Tryz.func116, Tryz.ntmps116
  go_wp2
  go_ret
  exact ⟨rfl, extA⟩
set_option maxHeartbeats 1000000 in
theorem hold1_any {g : Gt} (h : g.kind = 1) (a : Option Addr) (n m cap : Nat) (w : World) :
    Calls Tryz.prog 117 #[.agg #[.int .i64 g.kind, .int .i64 g.need, .slice a m cap], .int .i64 n] w fun e w' => e = .returned (.bool (gateB g n)) ∧ Ext w w' := by
  rw [gateB_any n h]
  go_enter Tryz.func117, Tryz.ntmps117
  go_wp2
  go_ret
  exact ⟨ret_bool (by simp), extA⟩
set_option maxHeartbeats 1000000 in
theorem hold2_any {g : Gt} (h : g.kind = 2) (a : Option Addr) (n m cap : Nat) (w : World) :
    Calls Tryz.prog 118 #[.agg #[.int .i64 g.kind, .int .i64 g.need, .slice a m cap], .int .i64 n] w fun e w' => e = .returned (.bool (gateB g n)) ∧ Ext w w' := by
  rw [gateB_some n h]
  go_enter Tryz.func118, Tryz.ntmps118
  go_wp2
  go_ret
  exact ⟨rfl, extA⟩
end Go.Proofs.YtlhpfhnbeagnaaaGreatDoor
namespace Go.Proofs.YtlhpfhnbeagnaaaGreatDoor
open Go.RowKit
theorem bits_fill {n s k : Nat} (h : k < n) : (bits0 k s ++ List.replicate (n - k) false).set k (s.testBit k) = bits0 (k + 1) s ++ List.replicate (n - (k + 1)) false := by
  rw [bits0_succ, List.append_assoc, List.set_append_right k _ (by rw [bits0_len]; exact Nat.le_refl _), bits0_len, Nat.sub_self, show n - k = (n - (k + 1)) + 1 by omega, List.replicate_succ]
  rfl
theorem fill_len {n s k : Nat} (h : k ≤ n) : (bits0 k s ++ List.replicate (n - k) false).length = n := by
  rw [List.length_append, bits0_len, List.length_replicate]; omega
theorem fill_end (n s : Nat) : bits0 n s ++ List.replicate (n - n) false = bits0 n s := by rw [Nat.sub_self]; simp
theorem bit_one (s k : Nat) (hs : s < 18446744073709551616) : bits .and .u64 ((s / 2 ^ k : Nat) : Int) 1 = ((s / 2 ^ k % 2 : Nat) : Int) ∧ (((s / 2 ^ k % 2 : Nat) : Int) == 1) = s.testBit k := by
  constructor
  · have h := bits_and_u64_nat (s / 2 ^ k) 1 (Nat.lt_of_le_of_lt (Nat.div_le_self _ _) hs) (by omega)
    rw [Nat.and_one_is_mod] at h
    exact h
  · rw [Nat.testBit_eq_decide_div_mod_eq, Bool.eq_iff_iff, decide_eq_true_eq, beq_iff_eq]
    omega
theorem TrOk.natE {t : Tr} (h : TrOk t) : t.ev = (t.ev.toNat : Int) ∧ 1 ≤ t.ev.toNat ∧ t.ev.toNat ≤ 16 := by
  have := h.e1
  have := h.e2
  omega
set_option maxHeartbeats 8000000 in
set_option maxRecDepth 100000 in
theorem fails_any {t : Tr} {a : Option Addr} {cap s : Nat} {w : World} (ht : TreeG w t a cap) (hok : TrOk t) (hs : s < 18446744073709551616) :
    Calls Tryz.prog 55 #[treeV t a cap, .int .u64 (s : Int)] w fun e w' => e = .returned (.bool (topB t s)) ∧ Ext w w' := by
  unfold treeV
  obtain ⟨hev, hE1, hE2⟩ := hok.natE
  have HT : Hid (lastB (runB (bits0 t.ev.toNat s) t.gates) = topB t s) := rfl
  obtain ⟨E, hE⟩ : ∃ E, E = t.ev.toNat := ⟨_, rfl⟩
  obtain ⟨n, hn⟩ : ∃ x, x = t.gates.length := ⟨_, rfl⟩
  have hn64 : n ≤ 64 := by rw [hn]; exact hok.g2
  have hn1 : 0 < n := by rw [hn]; exact hok.g1
  rw [hev, ← hE, ← hn]
  rw [← hE] at HT hE1 hE2
  have HARG := Lib.hid (fun k (hk : k < t.gates.length) x hx => args_in hok (s := s) hk (a := x) hx)
  have HGT := Lib.hid (fun k (hk : k < t.gates.length) => hok.ok.at hk)
  rw [← hn] at HARG HGT
  have HC := Lib.hid ht.cells
  have HN := Lib.hid hn
  have HE := Lib.hid hE
  have hBIT := Lib.hid (fun k => bit_one s k hs)
  generalize topB t s = r at HT ⊢
  clear ht hok hn hE hev
  have hmk : ∀ W, (Instr.makeSlice 135 (.int .i64 (E : Int)) (.int .i64 ((E : Int) + (n : Int)))).run Tryz.prog W = .ok (.slice (some ⟨W.heap.size, 0, none⟩) E (E + n)) (W.alloc (.cells (madeCells #[.bool false] (E + n)) 4)) := fun W => by
    have := makeBl E (E + n) (by omega) (by omega) W
    rwa [Int.natCast_add] at this
  have hw1 : IntKind.i64.wrap ((E : Int) + (n : Int)) = (E : Int) + (n : Int) := IntWalk.i64_in _ (by omega)
  go_enter Tryz.func55, Tryz.ntmps55
  go_wp2_with fail
  refine (holds_any _).mono ?_
  rintro e w1 ⟨rfl, hE0⟩
  have E0 : Ext w w1 := ((Ext.refl w).alloc _).trans hE0
  have y0 : w1.cell? ⟨w.heap.size, 0, none⟩ = some (.int .i64 (E : Int)) := hE0.cell (by go_simp)
  have y1 : w1.cell? ⟨w.heap.size, 1, none⟩ = some (.slice a n cap) := hE0.cell (by go_simp)
  have z1 := cell_lt y1
  dsimp only at z1
  clear hE0
  go_wp2
  have E1 : Ext w (w1.alloc (.cells #[.func (.func 116) #[] #[], .func (.func 117) #[] #[], .func (.func 118) #[] #[]] 133)) := E0.alloc _
  have hG : (w1.alloc (.cells #[.func (.func 116) #[] #[], .func (.func 117) #[] #[], .func (.func 118) #[] #[]] 133)).heap.size = w1.heap.size + 1 := Array.size_push _
  have y0' : (w1.alloc (.cells #[.func (.func 116) #[] #[], .func (.func 117) #[] #[], .func (.func 118) #[] #[]] 133)).cell? ⟨w.heap.size, 0, none⟩ = some (.int .i64 (E : Int)) := by go_simp
  have y1' : (w1.alloc (.cells #[.func (.func 116) #[] #[], .func (.func 117) #[] #[], .func (.func 118) #[] #[]] 133)).cell? ⟨w.heap.size, 1, none⟩ = some (.slice a n cap) := by go_simp
  have f0 : (w1.alloc (.cells #[.func (.func 116) #[] #[], .func (.func 117) #[] #[], .func (.func 118) #[] #[]] 133)).cell? ⟨w1.heap.size, 0, none⟩ = some (.func (.func 116) #[] #[]) := by go_simp
  have f1 : (w1.alloc (.cells #[.func (.func 116) #[] #[], .func (.func 117) #[] #[], .func (.func 118) #[] #[]] 133)).cell? ⟨w1.heap.size, 1, none⟩ = some (.func (.func 117) #[] #[]) := by go_simp
  have f2 : (w1.alloc (.cells #[.func (.func 116) #[] #[], .func (.func 117) #[] #[], .func (.func 118) #[] #[]] 133)).cell? ⟨w1.heap.size, 2, none⟩ = some (.func (.func 118) #[] #[]) := by go_simp
  have O := madeBl E (E + n) (by omega) (by omega) (w1.alloc (.cells #[.func (.func 116) #[] #[], .func (.func 117) #[] #[], .func (.func 118) #[] #[]] 133))
  rw [hG] at O
  have EW : Ext (w1.alloc (.cells #[.func (.func 116) #[] #[], .func (.func 117) #[] #[], .func (.func 118) #[] #[]] 133)) ((w1.alloc (.cells #[.func (.func 116) #[] #[], .func (.func 117) #[] #[], .func (.func 118) #[] #[]] 133)).alloc (.cells (madeCells #[.bool false] (E + n)) 4)) := (Ext.refl _).alloc _
  generalize ((w1.alloc (.cells #[.func (.func 116) #[] #[], .func (.func 117) #[] #[], .func (.func 118) #[] #[]] 133)).alloc (.cells (madeCells #[.bool false] (E + n)) 4)) = W1 at O EW ⊢
  generalize (w1.alloc (.cells #[.func (.func 116) #[] #[], .func (.func 117) #[] #[], .func (.func 118) #[] #[]] 133)) = W0 at E1 hG y0' y1' f0 f1 f2 O EW
  obtain ⟨G, hG2⟩ : ∃ G, w1.heap.size + 1 = G := ⟨_, rfl⟩
  rw [hG2] at hG O ⊢
  obtain ⟨bk, hbk⟩ : ∃ bk, w1.heap.size = bk := ⟨_, rfl⟩
  rw [hbk] at f0 f1 f2 hG2 ⊢
  have HBK := Lib.hid hG2
  obtain ⟨bt, hbt⟩ : ∃ bt, w.heap.size = bt := ⟨_, rfl⟩
  rw [hbt] at y0' y1' ⊢
  have HG := Lib.hid hG
  have HO := Lib.hid O
  clear hmk hw1 y0 y1 z1 E0 hG2 hbk hbt hG O
  go_loopw [25] (fun x wr => ∃ k : Nat, k ≤ E ∧ x = .int .i64 k ∧ Hid (OwnsBl wr (.slice (some ⟨G, 0, none⟩) E (E + n)) (bits0 k s ++ List.replicate (E - k) false)) ∧ Ext W0 wr) (fun x _ => E - (intOf x).toNat)
  case atStart => exact ⟨0, Nat.zero_le _, rfl, HO, EW⟩
  case round =>
    obtain ⟨k, hk, rfl, hO, he⟩ := hrel
    by_cases hlt : k < E
    · have hlt' : (k : Int) < (E : Int) := by omega
      obtain ⟨c1, c2⟩ := hO.out.cell (i := k) (by rw [fill_len hk]; exact hlt)
      have zc := cell_lt c1
      dsimp only at zc
      obtain ⟨hA, hB⟩ := hBIT.out k
      have hset : Hid (OwnsBl (wr.setCell ⟨G, k, none⟩ (.bool (s.testBit k))) (.slice (some ⟨G, 0, none⟩) E (E + n)) (bits0 (k + 1) s ++ List.replicate (E - (k + 1)) false)) := by
        have h9 := hO.out.set (fill_len hk).symm (i := k) (s.testBit k)
        rw [bits_fill hlt] at h9
        exact h9
      have hq : (s : Int) / 2 ^ k = ((s / 2 ^ k : Nat) : Int) := by rw [Int.natCast_ediv, Int.natCast_pow]; rfl
      have h64 : k ≤ 64 := by omega
      have hmin : min k 64 = k := Nat.min_eq_left h64
      clear hO
      generalize s.testBit k = tb at hB hset
      generalize s / 2 ^ k % 2 = q2 at hA hB
      generalize s / 2 ^ k = q1 at hA hq
      go_wp2
      exact ⟨⟨k + 1, hlt, by go_num, hset, he.set (by rw [HG.out]; exact Nat.le_refl _) _⟩, by simp [intOf]; omega⟩
    · have hke : k = E := by omega
      subst hke
      have hlt' : ¬ (k : Int) < (k : Int) := by omega
      have HO2 : Hid (OwnsBl wr (.slice (some ⟨G, 0, none⟩) k (k + n)) (bits0 k s)) := by
        have h9 := hO.out
        rw [fill_end] at h9
        exact h9
      have d1 := he.cell y1'
      have zd := cell_lt d1
      dsimp only at zd
      clear hO HO
      go_wp2
      go_loopw [40, 6] (fun x v wr => ∃ j : Nat, j ≤ n ∧ x = .int .i64 j ∧ Hid (OwnsBl wr v (runB (bits0 k s) (t.gates.take j))) ∧ Hid (∀ b, v.ownBlock = some b → G ≤ b) ∧ Ext W0 wr) (fun x _ _ => n - (intOf x).toNat)
      case atStart => exact ⟨0, Nat.zero_le _, rfl, HO2, fun b hb => by cases hb; exact Nat.le_refl _, he⟩
      case round =>
        obtain ⟨j, hj, rfl, hO, hgb, he⟩ := hrel
        have EK := E1.trans he
        by_cases hlt : j < n
        · have hlt' : (j : Int) < (n : Int) := by omega
          obtain ⟨bb, off, v', rfl, c0, c1, c2, c3⟩ := (HC.out.ext EK) j (by rw [← HN.out]; exact hlt)
          obtain ⟨ai, ci, rfl, c4, c5, c6⟩ := c3
          have HRG := Lib.hid (HARG.out j hlt)
          have HOK := Lib.hid (HGT.out j hlt)
          have HNX := Lib.hid (run_take (v := bits0 k s) (l := t.gates) (k := j) (by rw [← HN.out]; exact hlt))
          rw [← HE.out] at HRG
          obtain ⟨vs, hvs⟩ : ∃ vs, vs = runB (bits0 k s) (t.gates.take j) := ⟨_, rfl⟩
          have hvl : vs.length = k + j := by rw [hvs, run_len, bits0_len, List.length_take, ← HN.out]; omega
          rw [← hvs] at hO HRG HNX
          have HVS := Lib.hid hvs
          clear hvs
          generalize t.gates.getD j gt0 = g at c0 c1 c2 c4 c5 HRG HOK HNX
          obtain ⟨m, hm⟩ : ∃ m, m = g.args.length := ⟨_, rfl⟩
          rw [← hm] at c2 c5
          have hm64 : m ≤ 64 := by rw [hm]; exact HOK.out.le
          have HM := Lib.hid hm
          clear hm
          obtain ⟨gv, cv, rfl, _, hcv⟩ := hO.out.reads (by omega)
          rw [hvl] at hcv
          have d1 := he.cell y1'
          have zd := cell_lt d1
          dsimp only at zd
          have zc := cell_lt c0
          dsimp only at zc
          go_wp2
          have EV : Ext wr (wr.alloc (.cells #[.int .i64 g.kind, .int .i64 g.need, .slice ai m ci] 99)) := (Ext.refl _).alloc _
          have g0 : (wr.alloc (.cells #[.int .i64 g.kind, .int .i64 g.need, .slice ai m ci] 99)).cell? ⟨wr.heap.size, 0, none⟩ = some (.int .i64 g.kind) := by go_simp
          have g1 : (wr.alloc (.cells #[.int .i64 g.kind, .int .i64 g.need, .slice ai m ci] 99)).cell? ⟨wr.heap.size, 1, none⟩ = some (.int .i64 g.need) := by go_simp
          have g2 : (wr.alloc (.cells #[.int .i64 g.kind, .int .i64 g.need, .slice ai m ci] 99)).cell? ⟨wr.heap.size, 2, none⟩ = some (.slice ai m ci) := by go_simp
          have f0' := EV.cell (he.cell f0)
          have f1' := EV.cell (he.cell f1)
          have f2' := EV.cell (he.cell f2)
          have HAR := Lib.hid (c4.ext EV)
          have HV := Lib.hid (fun i (hi : i < k + j) => EV.cell (hcv i hi).1)
          have HOV := Lib.hid (hO.out.ext EV)
          rw [hvl] at HOV
          have hgv : G ≤ gv := hgb.out gv rfl
          have HGN : Hid (gv < wr.heap.size) := hO.out.lt rfl
          have HWV : Hid (W0.heap.size ≤ (wr.alloc (.cells #[.int .i64 g.kind, .int .i64 g.need, .slice ai m ci] 99)).heap.size) := (he.trans EV).size
          have EV0 := he.trans EV
          obtain ⟨bn, hbn⟩ : ∃ bn, bn = wr.heap.size := ⟨_, rfl⟩
          rw [← hbn] at g0 g1 g2 HGN ⊢
          generalize (wr.alloc (.cells #[.int .i64 g.kind, .int .i64 g.need, .slice ai m ci] 99)) = V at EV g0 g1 g2 f0' f1' f2' HAR HV HOV HWV EV0 ⊢
          clear c0 c1 c2 c4 hcv d1 zd zc hbn hO he EK EV
          obtain ⟨nd, hnd⟩ : ∃ nd, nd = g.need := ⟨_, rfl⟩
          rw [← hnd] at g1
          have HND := Lib.hid hnd
          clear hnd
          go_loop [47, 10] (fun x c => ∃ i : Nat, i ≤ m ∧ x = .int .i64 i ∧ c = .int .i64 (cntB vs (g.args.take i) : Nat)) (fun x _ => m - (intOf x).toNat)
          case atStart => exact ⟨0, Nat.zero_le _, rfl, rfl⟩
          case round =>
            obtain ⟨i, hi, rfl, rfl⟩ := hrel
            by_cases hit : i < m
            · have hit' : (i : Int) < (m : Int) := by omega
              obtain ⟨b2, off2, rfl, e1⟩ := HAR.out i (by rw [← HM.out]; exact hit)
              obtain ⟨x0, x1⟩ := HRG.out (g.args.getD i 0) (getD_mem (by rw [← HM.out]; exact hit))
              have hct := cntB_take (v := vs) (l := g.args) (k := i) (by rw [← HM.out]; exact hit)
              obtain ⟨xn, hxn⟩ : ∃ xn : Nat, g.args.getD i 0 = (xn : Int) := ⟨_, (Int.toNat_of_nonneg x0).symm⟩
              rw [hxn] at e1 x1 hct
              rw [Int.toNat_natCast] at x1 hct
              rw [hvl] at x1
              have e2 := HV.out xn x1
              have x2 : (xn : Int) < ((k + j : Nat) : Int) := by omega
              have x3 : (xn : Int) < (k : Int) + (j : Int) := by omega
              have hcl := cnt_le vs (g.args.take i)
              rw [List.length_take] at hcl
              clear hxn
              generalize cntB vs (g.args.take i) = cn at hct hcl ⊢
              have hw : IntKind.i64.wrap ((cn : Int) + 1) = (cn : Int) + 1 := IntWalk.i64_in _ (by omega)
              cases hb : vs.getD xn false
              · rw [hb] at e2 hct
                have HCT : Hid (cntB vs (g.args.take (i + 1)) = cn) := by show _ = _; rw [hct]; rfl
                clear hb hct
                go_wp2
                exact ⟨⟨i + 1, hit, by go_num, by rw [HCT.out]⟩, by simp [intOf]; omega⟩
              · rw [hb] at e2 hct
                have HCT : Hid (cntB vs (g.args.take (i + 1)) = cn + 1) := by show _ = _; rw [hct]; rfl
                clear hb hct
                go_wp2
                exact ⟨⟨i + 1, hit, by go_num, by rw [HCT.out]; go_num⟩, by simp [intOf]; omega⟩
            · have hie : i = m := by omega
              subst hie
              have hit' : ¬ (i : Int) < (i : Int) := by omega
              have htk : g.args.take i = g.args := by rw [HM.out, List.take_length]
              rw [htk]
              obtain ⟨cN, hcN⟩ : ∃ cN, cN = cntB vs g.args := ⟨_, rfl⟩
              rw [← hcN] at HNX ⊢
              clear htk hcN
              have hk3 : g.kind = 0 ∨ g.kind = 1 ∨ g.kind = 2 := by have := HOK.out.k0; have := HOK.out.k1; omega
              clear HRG HAR HV
              rcases hk3 with hkd | hkd | hkd
              · have HK := Lib.hid hkd
                rw [hkd] at g0
                have CTR := Lib.hid (fun W => hold0_any HK.out ai cN i ci W HM.out)
                rw [hkd, ← HND.out] at CTR
                clear hkd
                go_wp2
                refine wp_region_heldE 99 (fun w' => w'.cell? ⟨bn, 0, none⟩ = some (.int .i64 0) ∧ w'.cell? ⟨bn, 1, none⟩ = some (.int .i64 nd) ∧ w'.cell? ⟨bn, 2, none⟩ = some (.slice ai i ci) ∧ w'.cell? ⟨bk, 0, none⟩ = some (.func (.func 116) #[] #[])) (by kernel_rfl) ?_
                have hS : V.drew.cell? ⟨bn, 0, none⟩ = some (.int .i64 0) ∧ V.drew.cell? ⟨bn, 1, none⟩ = some (.int .i64 nd) ∧ V.drew.cell? ⟨bn, 2, none⟩ = some (.slice ai i ci) ∧ V.drew.cell? ⟨bk, 0, none⟩ = some (.func (.func 116) #[] #[]) := ⟨g0, g1, g2, f0'⟩
                ((refine eTk 0 ?_); (refine eTk 1 ?_); (refine eTk 2 ?_); (refine eTk 3 ?_); (refine eTk 4 ?_); (refine eTk 5 ?_); (refine eTk 6 ?_))
                (refine wpAnyE_one (i := 7) (o := ?_) ?_ (by kernel_rfl) (fun K hK => ?_); rotate_left; (focus ((simp only [List.getElem?_toArray, List.getElem?_cons_succ, List.getElem?_cons_zero]; exact rfl))); go_simp; refine (CTR.out _).mono ?_; rintro e w7 ⟨rfl, hE⟩; go_wp2_with fail; refine hK.out _ _ ?_ (fun hHeld => ?_); rotate_left; clear hK K; (try simp only [Act.put, List.setIfInBounds_toArray, List.set_cons_zero, List.set_cons_succ]))
                rotate_left
                · exact ⟨hE.cell hS.1, hE.cell hS.2.1, hE.cell hS.2.2.1, hE.cell hS.2.2.2⟩
                clear hS
                (refine wpAnyE_one (i := 8) (o := ?_) ?_ (by kernel_rfl) (fun K hK => ?_); rotate_left; (focus ((simp only [List.getElem?_toArray, List.getElem?_cons_succ, List.getElem?_cons_zero]; exact rfl))); go_simp; refine hK.out _ _ ?_ (fun hHeld => ?_); rotate_left; clear hK K; (try simp only [Act.put, List.setIfInBounds_toArray, List.set_cons_zero, List.set_cons_succ]))
                rotate_left
                · have E8 : Ext w7 (w7.alloc (.cells #[.bool (gateB g cN)] 4)) := extA
                  exact ⟨E8.cell hHeld.1, E8.cell hHeld.2.1, E8.cell hHeld.2.2.1, E8.cell hHeld.2.2.2⟩
                have E7 : Ext V w7 := ((Ext.refl V).drew).trans hE
                have E8 : Ext V (w7.alloc (.cells #[.bool (gateB g cN)] 4)) := E7.alloc _
                have cb : (w7.alloc (.cells #[.bool (gateB g cN)] 4)).cell? ⟨w7.heap.size, 0, none⟩ = some (.bool (gateB g cN)) := by go_simp
                obtain ⟨v9, w9, hr9, hO9, hA9⟩ := (HOV.out.ext E8).app (m := G) 1 cb (by rw [hvl]; omega) (by have := HWV.out; have := HG.out; have := E8.size; omega) (fun b hb => by cases hb; exact hgv)
                have hne : ∀ p : Addr, p.block = bn ∨ p.block = bk → (Value.slice (some ⟨gv, 0, none⟩) (k + j) cv).ownBlock ≠ some p.block := fun p hp e => by
                  have e2 : gv = p.block := Option.some.inj e
                  have := HGN.out
                  have := HBK.out
                  omega
                have hS9 : w9.cell? ⟨bn, 0, none⟩ = some (.int .i64 0) ∧ w9.cell? ⟨bn, 1, none⟩ = some (.int .i64 nd) ∧ w9.cell? ⟨bn, 2, none⟩ = some (.slice ai i ci) ∧ w9.cell? ⟨bk, 0, none⟩ = some (.func (.func 116) #[] #[]) := ⟨hA9.cell (hne _ (.inl rfl)) (E8.cell g0), hA9.cell (hne _ (.inl rfl)) (E8.cell g1), hA9.cell (hne _ (.inl rfl)) (E8.cell g2), hA9.cell (hne _ (.inr rfl)) (E8.cell f0')⟩
                have HR9 := Lib.hid hr9
                have HX9 : Hid (OwnsBl w9 v9 (runB (bits0 k s) (t.gates.take (j + 1)))) := by rw [HNX.out]; exact hO9
                have HGE := Lib.hid hA9.ge
                have E9 : Ext W0 w9 := (EV0.trans E8).trans' hA9.below (Nat.le_of_eq HG.out)
                clear hr9 hO9 hA9 hne cb
                (refine wpAnyE_one (i := 9) (o := ?_) ?_ (by kernel_rfl) (fun K hK => ?_); rotate_left; (focus ((simp only [List.getElem?_toArray, List.getElem?_cons_succ, List.getElem?_cons_zero]; exact rfl))); refine step_app rfl _ _ 135 135 rfl (.slice (some ⟨gv, 0, none⟩) (k + j) cv) (.slice (some ⟨w7.heap.size, 0, none⟩) 1 1) rfl rfl _ _ HR9.out ?_; refine hK.out _ _ ?_ (fun hHeld => ?_); rotate_left; clear hK K; (try simp only [Act.put, List.setIfInBounds_toArray, List.set_cons_zero, List.set_cons_succ]))
                rotate_left
                · exact hS9
                (refine ePu 10 ?_)
                refine wpAnyE_done (by kernel_rfl) ?_ _
                go_wp2
                exact ⟨⟨j + 1, hlt, by go_num, HX9, HGE, E9⟩, by simp [intOf]; omega⟩
              · have HK := Lib.hid hkd
                rw [hkd] at g0
                have CTR := Lib.hid (fun W => hold1_any HK.out ai cN i ci W)
                rw [hkd, ← HND.out] at CTR
                clear hkd
                go_wp2
                refine wp_region_heldE 99 (fun w' => w'.cell? ⟨bn, 0, none⟩ = some (.int .i64 1) ∧ w'.cell? ⟨bn, 1, none⟩ = some (.int .i64 nd) ∧ w'.cell? ⟨bn, 2, none⟩ = some (.slice ai i ci) ∧ w'.cell? ⟨bk, 1, none⟩ = some (.func (.func 117) #[] #[])) (by kernel_rfl) ?_
                have hS : V.drew.cell? ⟨bn, 0, none⟩ = some (.int .i64 1) ∧ V.drew.cell? ⟨bn, 1, none⟩ = some (.int .i64 nd) ∧ V.drew.cell? ⟨bn, 2, none⟩ = some (.slice ai i ci) ∧ V.drew.cell? ⟨bk, 1, none⟩ = some (.func (.func 117) #[] #[]) := ⟨g0, g1, g2, f1'⟩
                ((refine eTk 0 ?_); (refine eTk 1 ?_); (refine eTk 2 ?_); (refine eTk 3 ?_); (refine eTk 4 ?_); (refine eTk 5 ?_); (refine eTk 6 ?_))
                (refine wpAnyE_one (i := 7) (o := ?_) ?_ (by kernel_rfl) (fun K hK => ?_); rotate_left; (focus ((simp only [List.getElem?_toArray, List.getElem?_cons_succ, List.getElem?_cons_zero]; exact rfl))); go_simp; refine (CTR.out _).mono ?_; rintro e w7 ⟨rfl, hE⟩; go_wp2_with fail; refine hK.out _ _ ?_ (fun hHeld => ?_); rotate_left; clear hK K; (try simp only [Act.put, List.setIfInBounds_toArray, List.set_cons_zero, List.set_cons_succ]))
                rotate_left
                · exact ⟨hE.cell hS.1, hE.cell hS.2.1, hE.cell hS.2.2.1, hE.cell hS.2.2.2⟩
                clear hS
                (refine wpAnyE_one (i := 8) (o := ?_) ?_ (by kernel_rfl) (fun K hK => ?_); rotate_left; (focus ((simp only [List.getElem?_toArray, List.getElem?_cons_succ, List.getElem?_cons_zero]; exact rfl))); go_simp; refine hK.out _ _ ?_ (fun hHeld => ?_); rotate_left; clear hK K; (try simp only [Act.put, List.setIfInBounds_toArray, List.set_cons_zero, List.set_cons_succ]))
                rotate_left
                · have E8 : Ext w7 (w7.alloc (.cells #[.bool (gateB g cN)] 4)) := extA
                  exact ⟨E8.cell hHeld.1, E8.cell hHeld.2.1, E8.cell hHeld.2.2.1, E8.cell hHeld.2.2.2⟩
                have E7 : Ext V w7 := ((Ext.refl V).drew).trans hE
                have E8 : Ext V (w7.alloc (.cells #[.bool (gateB g cN)] 4)) := E7.alloc _
                have cb : (w7.alloc (.cells #[.bool (gateB g cN)] 4)).cell? ⟨w7.heap.size, 0, none⟩ = some (.bool (gateB g cN)) := by go_simp
                obtain ⟨v9, w9, hr9, hO9, hA9⟩ := (HOV.out.ext E8).app (m := G) 1 cb (by rw [hvl]; omega) (by have := HWV.out; have := HG.out; have := E8.size; omega) (fun b hb => by cases hb; exact hgv)
                have hne : ∀ p : Addr, p.block = bn ∨ p.block = bk → (Value.slice (some ⟨gv, 0, none⟩) (k + j) cv).ownBlock ≠ some p.block := fun p hp e => by
                  have e2 : gv = p.block := Option.some.inj e
                  have := HGN.out
                  have := HBK.out
                  omega
                have hS9 : w9.cell? ⟨bn, 0, none⟩ = some (.int .i64 1) ∧ w9.cell? ⟨bn, 1, none⟩ = some (.int .i64 nd) ∧ w9.cell? ⟨bn, 2, none⟩ = some (.slice ai i ci) ∧ w9.cell? ⟨bk, 1, none⟩ = some (.func (.func 117) #[] #[]) := ⟨hA9.cell (hne _ (.inl rfl)) (E8.cell g0), hA9.cell (hne _ (.inl rfl)) (E8.cell g1), hA9.cell (hne _ (.inl rfl)) (E8.cell g2), hA9.cell (hne _ (.inr rfl)) (E8.cell f1')⟩
                have HR9 := Lib.hid hr9
                have HX9 : Hid (OwnsBl w9 v9 (runB (bits0 k s) (t.gates.take (j + 1)))) := by rw [HNX.out]; exact hO9
                have HGE := Lib.hid hA9.ge
                have E9 : Ext W0 w9 := (EV0.trans E8).trans' hA9.below (Nat.le_of_eq HG.out)
                clear hr9 hO9 hA9 hne cb
                (refine wpAnyE_one (i := 9) (o := ?_) ?_ (by kernel_rfl) (fun K hK => ?_); rotate_left; (focus ((simp only [List.getElem?_toArray, List.getElem?_cons_succ, List.getElem?_cons_zero]; exact rfl))); refine step_app rfl _ _ 135 135 rfl (.slice (some ⟨gv, 0, none⟩) (k + j) cv) (.slice (some ⟨w7.heap.size, 0, none⟩) 1 1) rfl rfl _ _ HR9.out ?_; refine hK.out _ _ ?_ (fun hHeld => ?_); rotate_left; clear hK K; (try simp only [Act.put, List.setIfInBounds_toArray, List.set_cons_zero, List.set_cons_succ]))
                rotate_left
                · exact hS9
                (refine ePu 10 ?_)
                refine wpAnyE_done (by kernel_rfl) ?_ _
                go_wp2
                exact ⟨⟨j + 1, hlt, by go_num, HX9, HGE, E9⟩, by simp [intOf]; omega⟩
              · have HK := Lib.hid hkd
                rw [hkd] at g0
                have CTR := Lib.hid (fun W => hold2_any HK.out ai cN i ci W)
                rw [hkd, ← HND.out] at CTR
                clear hkd
                go_wp2
                refine wp_region_heldE 99 (fun w' => w'.cell? ⟨bn, 0, none⟩ = some (.int .i64 2) ∧ w'.cell? ⟨bn, 1, none⟩ = some (.int .i64 nd) ∧ w'.cell? ⟨bn, 2, none⟩ = some (.slice ai i ci) ∧ w'.cell? ⟨bk, 2, none⟩ = some (.func (.func 118) #[] #[])) (by kernel_rfl) ?_
                have hS : V.drew.cell? ⟨bn, 0, none⟩ = some (.int .i64 2) ∧ V.drew.cell? ⟨bn, 1, none⟩ = some (.int .i64 nd) ∧ V.drew.cell? ⟨bn, 2, none⟩ = some (.slice ai i ci) ∧ V.drew.cell? ⟨bk, 2, none⟩ = some (.func (.func 118) #[] #[]) := ⟨g0, g1, g2, f2'⟩
                ((refine eTk 0 ?_); (refine eTk 1 ?_); (refine eTk 2 ?_); (refine eTk 3 ?_); (refine eTk 4 ?_); (refine eTk 5 ?_); (refine eTk 6 ?_))
                (refine wpAnyE_one (i := 7) (o := ?_) ?_ (by kernel_rfl) (fun K hK => ?_); rotate_left; (focus ((simp only [List.getElem?_toArray, List.getElem?_cons_succ, List.getElem?_cons_zero]; exact rfl))); go_simp; refine (CTR.out _).mono ?_; rintro e w7 ⟨rfl, hE⟩; go_wp2_with fail; refine hK.out _ _ ?_ (fun hHeld => ?_); rotate_left; clear hK K; (try simp only [Act.put, List.setIfInBounds_toArray, List.set_cons_zero, List.set_cons_succ]))
                rotate_left
                · exact ⟨hE.cell hS.1, hE.cell hS.2.1, hE.cell hS.2.2.1, hE.cell hS.2.2.2⟩
                clear hS
                (refine wpAnyE_one (i := 8) (o := ?_) ?_ (by kernel_rfl) (fun K hK => ?_); rotate_left; (focus ((simp only [List.getElem?_toArray, List.getElem?_cons_succ, List.getElem?_cons_zero]; exact rfl))); go_simp; refine hK.out _ _ ?_ (fun hHeld => ?_); rotate_left; clear hK K; (try simp only [Act.put, List.setIfInBounds_toArray, List.set_cons_zero, List.set_cons_succ]))
                rotate_left
                · have E8 : Ext w7 (w7.alloc (.cells #[.bool (gateB g cN)] 4)) := extA
                  exact ⟨E8.cell hHeld.1, E8.cell hHeld.2.1, E8.cell hHeld.2.2.1, E8.cell hHeld.2.2.2⟩
                have E7 : Ext V w7 := ((Ext.refl V).drew).trans hE
                have E8 : Ext V (w7.alloc (.cells #[.bool (gateB g cN)] 4)) := E7.alloc _
                have cb : (w7.alloc (.cells #[.bool (gateB g cN)] 4)).cell? ⟨w7.heap.size, 0, none⟩ = some (.bool (gateB g cN)) := by go_simp
                obtain ⟨v9, w9, hr9, hO9, hA9⟩ := (HOV.out.ext E8).app (m := G) 1 cb (by rw [hvl]; omega) (by have := HWV.out; have := HG.out; have := E8.size; omega) (fun b hb => by cases hb; exact hgv)
                have hne : ∀ p : Addr, p.block = bn ∨ p.block = bk → (Value.slice (some ⟨gv, 0, none⟩) (k + j) cv).ownBlock ≠ some p.block := fun p hp e => by
                  have e2 : gv = p.block := Option.some.inj e
                  have := HGN.out
                  have := HBK.out
                  omega
                have hS9 : w9.cell? ⟨bn, 0, none⟩ = some (.int .i64 2) ∧ w9.cell? ⟨bn, 1, none⟩ = some (.int .i64 nd) ∧ w9.cell? ⟨bn, 2, none⟩ = some (.slice ai i ci) ∧ w9.cell? ⟨bk, 2, none⟩ = some (.func (.func 118) #[] #[]) := ⟨hA9.cell (hne _ (.inl rfl)) (E8.cell g0), hA9.cell (hne _ (.inl rfl)) (E8.cell g1), hA9.cell (hne _ (.inl rfl)) (E8.cell g2), hA9.cell (hne _ (.inr rfl)) (E8.cell f2')⟩
                have HR9 := Lib.hid hr9
                have HX9 : Hid (OwnsBl w9 v9 (runB (bits0 k s) (t.gates.take (j + 1)))) := by rw [HNX.out]; exact hO9
                have HGE := Lib.hid hA9.ge
                have E9 : Ext W0 w9 := (EV0.trans E8).trans' hA9.below (Nat.le_of_eq HG.out)
                clear hr9 hO9 hA9 hne cb
                (refine wpAnyE_one (i := 9) (o := ?_) ?_ (by kernel_rfl) (fun K hK => ?_); rotate_left; (focus ((simp only [List.getElem?_toArray, List.getElem?_cons_succ, List.getElem?_cons_zero]; exact rfl))); refine step_app rfl _ _ 135 135 rfl (.slice (some ⟨gv, 0, none⟩) (k + j) cv) (.slice (some ⟨w7.heap.size, 0, none⟩) 1 1) rfl rfl _ _ HR9.out ?_; refine hK.out _ _ ?_ (fun hHeld => ?_); rotate_left; clear hK K; (try simp only [Act.put, List.setIfInBounds_toArray, List.set_cons_zero, List.set_cons_succ]))
                rotate_left
                · exact hS9
                (refine ePu 10 ?_)
                refine wpAnyE_done (by kernel_rfl) ?_ _
                go_wp2
                exact ⟨⟨j + 1, hlt, by go_num, HX9, HGE, E9⟩, by simp [intOf]; omega⟩
        · have hje : j = n := by omega
          have hlt' : ¬ (j : Int) < (n : Int) := by omega
          have HLS0 := hO.out
          rw [hje, HN.out, List.take_length] at HLS0
          have HLS := Lib.hid HLS0
          clear hO HLS0
          have hlen : (runB (bits0 k s) t.gates).length = (k + n - 1) + 1 := by rw [run_len, bits0_len, ← HN.out]; omega
          obtain ⟨gv, cv, rfl, _, hcv⟩ := HLS.out.reads (by omega)
          have hl := (hcv (k + n - 1) (by omega)).1
          have HLT := HT.out
          unfold lastB at HLT
          rw [hlen, Nat.add_sub_cancel] at HLT
          rw [HLT] at hl
          rw [hlen] at hgb ⊢
          clear hcv HLT hlen
          obtain ⟨L, hL⟩ : ∃ L, L = k + n - 1 := ⟨_, rfl⟩
          have hLb : L ≤ 100000 := by omega
          rw [← hL] at hl hgb ⊢
          have hw : IntKind.i64.wrap (((L + 1 : Nat) : Int) - 1) = (L : Int) := by rw [IntWalk.i64_in _ (by omega)]; omega
          clear hL
          go_wp2
          go_ret
          exact ⟨rfl, E1.trans he⟩
end Go.Proofs.YtlhpfhnbeagnaaaGreatDoor
