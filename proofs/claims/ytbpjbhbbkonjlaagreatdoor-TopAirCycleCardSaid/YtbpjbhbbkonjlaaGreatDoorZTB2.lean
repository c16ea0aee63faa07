/- Steps of the proof: FNatM, FGcd, FCells, FTrim, FPlus, FTrimR, FTimes, FPlusR, FLessR, FOld, FBwd, FBy, FRng, FTimesR, FOrdR, FCmp. No conditions. -/
import Derived.Deep.OwnRows
import Derived.OwnWalk
import Derived.Test.YtbpjbhbbkonjlaaGreatDoorZTB1
namespace Go.Proofs.YtbpjbhbbkonjlaaGreatDoor
structure MinusI (B : Nat) (a b : List Nat) (i br : Nat) (o : List Nat) : Prop where
  len : o.length = i
  ok : OkB B o
  b1 : br ≤ 1
  v : valB B o + B ^ i * valB B (a.drop i) + valB B b = valB B a + B ^ i * (valB B (b.drop i) + br)
theorem MinusI.start (B : Nat) (a b : List Nat) : MinusI B a b 0 0 [] := ⟨rfl, (fun x hx => by cases hx), by omega, by simp [valB]⟩
theorem MinusI.next {B : Nat} {a b : List Nat} {i br : Nat} {o : List Nat} (h : MinusI B a b i br o) {d br' : Nat} (hd : d < B) (hb : br' ≤ 1) (e : d + b.getD i 0 + br = a.getD i 0 + B * br') :
    MinusI B a b (i + 1) br' (o ++ [d]) := by
  have hv := h.v
  rw [valB_drop B a i, valB_drop B b i] at hv
  generalize a.getD i 0 = x at *
  generalize b.getD i 0 = y at *
  refine ⟨by rw [List.length_append, h.len]; rfl, okB_snoc h.ok hd, hb, ?_⟩
  rw [valB_snoc, h.len, Nat.pow_succ]
  generalize valB B (List.drop (i + 1) a) = s at *
  generalize valB B (List.drop (i + 1) b) = t at *
  generalize B ^ i = P at *
  have e2 : P * (d + y + br) = P * (x + B * br') := by rw [e]
  simp only [Nat.mul_add] at hv e2 ⊢
  simp only [← Nat.mul_assoc] at hv e2 ⊢
  omega
theorem valB_le_len {B : Nat} {a b : List Nat} (ha : OkB B a) (tb : Trim b) (hv : valB B b ≤ valB B a) (hB : 0 < B) : b.length ≤ a.length := by
  rcases Nat.lt_or_ge a.length b.length with h | h
  · have hne : b ≠ [] := fun e => by rw [e] at h; simp at h
    have h1 := big_of_trim (B := B) tb hne
    have h2 := valB_lt ha
    have h3 : B ^ a.length ≤ B ^ (b.length - 1) := Nat.pow_le_pow_right hB (by omega)
    omega
  · exact h
theorem MinusI.done {B : Nat} (hB : 2 ≤ B) {a b : List Nat} (ha : OkB B a) (tb : Trim b) (hv : valB B b ≤ valB B a) {br : Nat} {o : List Nat} (h : MinusI B a b a.length br o) : trimL o = toB B (valB B a - valB B b) := by
  have hlen := valB_le_len ha tb hv (by omega)
  have h1 := h.v
  rw [List.drop_eq_nil_of_le (Nat.le_refl _), List.drop_eq_nil_of_le hlen] at h1
  have h1 : valB B o + valB B b = valB B a + B ^ a.length * br := by simpa [valB] using h1
  have h2 := valB_lt h.ok
  rw [h.len] at h2
  have hbr : br = 0 := by
    rcases Nat.lt_or_ge 0 br with hb | hb
    · have : br = 1 := by have := h.b1; omega
      subst this
      omega
    · omega
  subst hbr
  rw [trimL_toB hB h.ok]
  congr 1
  omega
structure TimesI (B : Nat) (a b : List Nat) (i : Nat) (o : List Nat) : Prop where
  len : o.length = a.length + b.length
  ok : OkB B o
  z : ∀ j, i + b.length ≤ j → o.getD j 0 = 0
  v : valB B o = valB B (a.take i) * valB B b
structure TimesK (B : Nat) (a b : List Nat) (i k c : Nat) (o : List Nat) : Prop where
  len : o.length = a.length + b.length
  ok : OkB B o
  cB : c < B
  z : ∀ j, i + b.length ≤ j → o.getD j 0 = 0
  v : valB B o + B ^ (i + k) * c = valB B (a.take i) * valB B b + B ^ i * (a.getD i 0 * valB B (b.take k))
theorem TimesI.start {B : Nat} (hB : 2 ≤ B) (a b : List Nat) : TimesI B a b 0 (List.replicate (a.length + b.length) 0) :=
  ⟨List.length_replicate, fun x hx => by rw [List.mem_replicate] at hx; omega, fun j _ => by
    rw [List.getD_eq_getElem?_getD, List.getElem?_replicate]; split <;> rfl, by rw [valB_zeros]; simp [valB]⟩
theorem TimesI.inner {B : Nat} (hB : 2 ≤ B) {a b : List Nat} {i : Nat} {o : List Nat} (h : TimesI B a b i o) : TimesK B a b i 0 0 o :=
  ⟨h.len, h.ok, by omega, h.z, by rw [h.v]; simp [valB]⟩
theorem getD_set_nat (l : List Nat) (i j x : Nat) (h : i < l.length) : (l.set i x).getD j 0 = if i = j then x else l.getD j 0 := by
  rw [List.getD_eq_getElem?_getD, List.getElem?_set]
  by_cases e : i = j
  · subst e; simp [h]
  · simp [e]
theorem TimesK.next {B : Nat} (hB : 2 ≤ B) {a b : List Nat} (ha : OkB B a) (hb : OkB B b) {i k c : Nat} {o : List Nat} (h : TimesK B a b i k c o) (hi : i < a.length) (hk : k < b.length) :
    c + o.getD (i + k) 0 + a.getD i 0 * b.getD k 0 < B * B ∧ TimesK B a b i (k + 1) ((c + o.getD (i + k) 0 + a.getD i 0 * b.getD k 0) / B) (o.set (i + k) ((c + o.getD (i + k) 0 + a.getD i 0 * b.getD k 0) % B)) := by
  have h1 := okB_getD ha (by omega) i
  have h2 := okB_getD hb (by omega) k
  have h3 := okB_getD h.ok (by omega) (i + k)
  have h4 := h.cB
  have hlen := h.len
  have hv := h.v
  have hs := valB_set B o (j := i + k) (by omega) ((c + o.getD (i + k) 0 + a.getD i 0 * b.getD k 0) % B)
  have hz := h.z
  have htk := valB_take_succ B b k
  have hxy : a.getD i 0 * b.getD k 0 ≤ (B - 1) * (B - 1) := Nat.mul_le_mul (by omega) (by omega)
  obtain ⟨C, rfl⟩ : ∃ C, B = C + 1 := ⟨B - 1, by omega⟩
  have hBB : (C + 1) * (C + 1) = C * C + C + C + 1 := by rw [Nat.add_mul, Nat.mul_add]; omega
  rw [show C + 1 - 1 = C from rfl] at hxy
  have hlt : c + o.getD (i + k) 0 + a.getD i 0 * b.getD k 0 < (C + 1) * (C + 1) := by omega
  refine ⟨hlt, by rw [List.length_set]; exact hlen, okB_set h.ok _ (Nat.mod_lt _ (by omega)), Nat.div_lt_of_lt_mul hlt, fun j hj => ?_, ?_⟩
  · rw [getD_set_nat _ _ _ _ (by omega), if_neg (by omega)]
    exact hz j hj
  · have e := Nat.mod_add_div (c + o.getD (i + k) 0 + a.getD i 0 * b.getD k 0) (C + 1)
    rw [htk]
    have hp : (C + 1) ^ (i + (k + 1)) = (C + 1) ^ (i + k) * (C + 1) := by rw [← Nat.add_assoc, Nat.pow_succ]
    have hq : (C + 1) ^ (i + k) = (C + 1) ^ i * (C + 1) ^ k := Nat.pow_add ..
    rw [hp]
    generalize (c + o.getD (i + k) 0 + a.getD i 0 * b.getD k 0) % (C + 1) = r at *
    generalize (c + o.getD (i + k) 0 + a.getD i 0 * b.getD k 0) / (C + 1) = q at *
    generalize valB (C + 1) (o.set (i + k) r) = vo at *
    generalize valB (C + 1) o = v0 at *
    generalize o.getD (i + k) 0 = oj at *
    generalize a.getD i 0 = x at *
    generalize b.getD k 0 = y at *
    generalize valB (C + 1) (b.take k) = vb at *
    generalize valB (C + 1) (a.take i) * valB (C + 1) b = V at *
    have e2 : (C + 1) ^ (i + k) * (r + (C + 1) * q) = (C + 1) ^ (i + k) * (c + oj + x * y) := by rw [e]
    have e3 : (C + 1) ^ i * (x * (vb + (C + 1) ^ k * y)) = (C + 1) ^ i * (x * vb) + (C + 1) ^ (i + k) * (x * y) := by
      rw [hq, Nat.mul_add x, Nat.mul_add ((C + 1) ^ i), Nat.mul_assoc ((C + 1) ^ i) ((C + 1) ^ k)]
      congr 2
      rw [Nat.mul_left_comm]
    rw [e3]
    rw [Nat.mul_add, Nat.mul_add, Nat.mul_add] at e2
    rw [Nat.mul_assoc]
    omega
theorem TimesK.outer {B : Nat} {a b : List Nat} {i c : Nat} {o : List Nat} (h : TimesK B a b i b.length c o) (hi : i < a.length) : TimesI B a b (i + 1) (o.set (i + b.length) c) := by
  have hlen := h.len
  have hs := valB_set B o (j := i + b.length) (by omega) c
  rw [h.z (i + b.length) (Nat.le_refl _)] at hs
  have hv := h.v
  rw [List.take_length] at hv
  refine ⟨by rw [List.length_set]; exact hlen, okB_set h.ok _ h.cB, fun j hj => ?_, ?_⟩
  · rw [getD_set_nat _ _ _ _ (by omega), if_neg (by omega)]
    exact h.z j (by omega)
  · rw [valB_take_succ, Nat.add_mul, Nat.mul_assoc]
    rw [Nat.mul_zero, Nat.add_zero] at hs
    omega
theorem TimesI.done {B : Nat} (hB : 2 ≤ B) {a b : List Nat} {o : List Nat} (h : TimesI B a b a.length o) : trimL o = toB B (valB B a * valB B b) := by
  rw [trimL_toB hB h.ok, h.v, List.take_length]
structure HalfI (B : Nat) (a : List Nat) (i c : Nat) (o : List Nat) : Prop where
  len : o.length = a.length
  ok : OkB B o
  c1 : c = valB B (a.drop i) % 2
  v : valB B (o.drop i) = valB B (a.drop i) / 2
theorem HalfI.start {B : Nat} {a : List Nat} (ha : OkB B a) : HalfI B a a.length 0 a :=
  ⟨rfl, ha, by rw [List.drop_eq_nil_of_le (Nat.le_refl _)]; rfl, by rw [List.drop_eq_nil_of_le (Nat.le_refl _)]; simp [valB]⟩
theorem drop_set_same {l : List Nat} {i x : Nat} (h : i < l.length) : (l.set i x).drop i = x :: l.drop (i + 1) := by
  rw [List.drop_eq_getElem_cons (by rw [List.length_set]; exact h), List.getElem_set_self, List.drop_set_of_lt (by omega)]
theorem HalfI.next {B : Nat} (hB : 2 ≤ B) (h2 : B % 2 = 0) {a : List Nat} (ha : OkB B a) {i c : Nat} {o : List Nat} (h : HalfI B a (i + 1) c o) (hi : i < a.length) :
    (c * B + a.getD i 0) / 2 < B ∧ HalfI B a i ((c * B + a.getD i 0) % 2) (o.set i ((c * B + a.getD i 0) / 2)) := by
  have h1 := okB_getD ha (by omega) i
  have hc := h.c1
  have hv := h.v
  have hlen := h.len
  have hd := valB_drop B a i
  obtain ⟨D, rfl⟩ : ∃ D, B = 2 * D := ⟨B / 2, by omega⟩
  have hc2 : c = 0 ∨ c = 1 := by omega
  generalize valB (2 * D) (a.drop (i + 1)) = s at *
  generalize a.getD i 0 = x at *
  have hlt : (c * (2 * D) + x) / 2 < 2 * D := by rcases hc2 with rfl | rfl <;> omega
  have hs : s = 2 * (s / 2) + c := by omega
  have e : (c * (2 * D) + x) / 2 + 2 * D * (s / 2) = (x + 2 * D * s) / 2 ∧ (c * (2 * D) + x) % 2 = (x + 2 * D * s) % 2 := by
    have e1 : 2 * D * s = 2 * (D * s) := Nat.mul_assoc ..
    have e2 : 2 * D * (s / 2) = 2 * (D * (s / 2)) := Nat.mul_assoc ..
    have e3 : D * s = 2 * (D * (s / 2)) + D * c := by
      conv => lhs; rw [hs]
      rw [Nat.mul_add, Nat.mul_left_comm]
    rw [e1, e2, e3]
    rcases hc2 with rfl | rfl
    · simp; omega
    · simp; omega
  refine ⟨hlt, by rw [List.length_set]; exact hlen, okB_set h.ok _ hlt, by rw [hd]; exact e.2, ?_⟩
  rw [drop_set_same (by omega), hd, ← e.1]
  show (c * (2 * D) + x) / 2 + 2 * D * valB (2 * D) (o.drop (i + 1)) = _
  rw [hv]
theorem HalfI.done {B : Nat} (hB : 2 ≤ B) {a : List Nat} {c : Nat} {o : List Nat} (h : HalfI B a 0 c o) : trimL o = toB B (valB B a / 2) := by
  rw [trimL_toB hB h.ok, show o = o.drop 0 from rfl, h.v]; rfl
structure OverI (B : Nat) (a : List Nat) (m i r : Nat) (q : List Nat) : Prop where
  len : q.length = a.length
  ok : OkB B q
  lt : r < m
  v : valB B (a.drop i) = valB B (q.drop i) * m + r
theorem OverI.start {B : Nat} (hB : 2 ≤ B) (a : List Nat) {m : Nat} (hm : 0 < m) : OverI B a m a.length 0 (List.replicate a.length 0) :=
  ⟨List.length_replicate, fun x hx => by rw [List.mem_replicate] at hx; omega, hm, by
    rw [List.drop_eq_nil_of_le (Nat.le_refl _), List.drop_eq_nil_of_le (by simp)]; simp [valB]⟩
theorem OverI.next {B : Nat} (hB : 2 ≤ B) {a : List Nat} (ha : OkB B a) {m i r : Nat} {q : List Nat} (h : OverI B a m (i + 1) r q) (hi : i < a.length) :
    (a.getD i 0 + B * r) / m < B ∧ OverI B a m i ((a.getD i 0 + B * r) % m) (q.set i ((a.getD i 0 + B * r) / m)) := by
  have h1 := okB_getD ha (by omega) i
  have hr := h.lt
  have hv := h.v
  have hlen := h.len
  have hd := valB_drop B a i
  generalize a.getD i 0 = x at *
  have hlt : (x + B * r) / m < B := by
    refine Nat.div_lt_of_lt_mul ?_
    have h3 : B * (r + 1) ≤ B * m := Nat.mul_le_mul_left B hr
    rw [Nat.mul_add] at h3
    rw [Nat.mul_comm m B]
    omega
  refine ⟨hlt, by rw [List.length_set]; exact hlen, okB_set h.ok _ hlt, Nat.mod_lt _ (by omega), ?_⟩
  rw [drop_set_same (by omega), hd, hv]
  show x + B * (valB B (q.drop (i + 1)) * m + r) = ((x + B * r) / m + B * valB B (q.drop (i + 1))) * m + (x + B * r) % m
  have e := Nat.div_add_mod (x + B * r) m
  rw [Nat.add_mul, Nat.mul_add, Nat.mul_comm ((x + B * r) / m) m, Nat.mul_assoc]
  omega
theorem OverI.done {B : Nat} (hB : 2 ≤ B) {a : List Nat} {m r : Nat} {q : List Nat} (h : OverI B a m 0 r q) : trimL q = toB B (valB B a / m) ∧ r = valB B a % m := by
  have hv : valB B a = valB B q * m + r := h.v
  have hm := h.lt
  have e1 : valB B a / m = valB B q := by
    rw [hv, Nat.mul_comm, Nat.mul_add_div (by omega), Nat.div_eq_of_lt hm, Nat.add_zero]
  have e2 : valB B a % m = r := by
    rw [hv, Nat.mul_comm, Nat.mul_add_mod, Nat.mod_eq_of_lt hm]
  exact ⟨by rw [trimL_toB hB h.ok, e1], e2.symm⟩
def ordN (a b : Nat) : Int := if a < b then -1 else if b < a then 1 else 0
theorem ord_len {B : Nat} {a b : List Nat} (hB : 0 < B) (ha : OkB B a) (tb : Trim b) (h : a.length < b.length) : valB B a < valB B b := by
  have hne : b ≠ [] := fun e => by rw [e] at h; simp at h
  have h1 := big_of_trim (B := B) tb hne
  have h2 := valB_lt ha
  have h3 : B ^ a.length ≤ B ^ (b.length - 1) := Nat.pow_le_pow_right hB (by omega)
  omega
theorem ord_step {B : Nat} {a b : List Nat} (ha : OkB B a) (hb : OkB B b) (i : Nat) (h : valB B (a.drop (i + 1)) = valB B (b.drop (i + 1))) (hla : i < a.length) (hlb : i < b.length) :
    (a.getD i 0 < b.getD i 0 → valB B a < valB B b) ∧ (b.getD i 0 < a.getD i 0 → valB B b < valB B a) ∧ (a.getD i 0 = b.getD i 0 → valB B (a.drop i) = valB B (b.drop i)) := by
  have key : ∀ a b : List Nat, OkB B a → i < a.length → i < b.length → valB B (a.drop (i + 1)) = valB B (b.drop (i + 1)) → a.getD i 0 < b.getD i 0 → valB B a < valB B b := fun a b ha hla hlb h hx => by
    have e1 : a = a.take i ++ a.drop i := (List.take_append_drop i a).symm
    have e2 : b = b.take i ++ b.drop i := (List.take_append_drop i b).symm
    have l1 : (a.take i).length = i := by rw [List.length_take]; omega
    have l2 : (b.take i).length = i := by rw [List.length_take]; omega
    have v1 : valB B a = valB B (a.take i) + B ^ i * valB B (a.drop i) := by conv => lhs; rw [e1, valB_append, l1]
    have v2 : valB B b = valB B (b.take i) + B ^ i * valB B (b.drop i) := by conv => lhs; rw [e2, valB_append, l2]
    have hlt := valB_lt (B := B) (l := a.take i) (fun x hx => ha x (List.mem_of_mem_take hx))
    rw [l1] at hlt
    rw [v1, v2, valB_drop B a i, valB_drop B b i, h]
    generalize valB B (b.drop (i + 1)) = s
    have h5 : B ^ i * (a.getD i 0 + B * s + 1) ≤ B ^ i * (b.getD i 0 + B * s) := Nat.mul_le_mul_left _ (by omega)
    rw [Nat.mul_add (B ^ i) _ 1, Nat.mul_one] at h5
    omega
  refine ⟨key a b ha hla hlb h, key b a hb hlb hla h.symm, fun e => ?_⟩
  rw [valB_drop B a i, valB_drop B b i, e, h]
end Go.Proofs.YtbpjbhbbkonjlaaGreatDoor
namespace Go.Proofs.YtbpjbhbbkonjlaaGreatDoor
theorem gcd_halves {a b : Nat} (ha : a % 2 = 0) (hb : b % 2 = 0) : Nat.gcd a b = 2 * Nat.gcd (a / 2) (b / 2) := by
  have h := Nat.gcd_mul_left 2 (a / 2) (b / 2)
  rwa [show 2 * (a / 2) = a by omega, show 2 * (b / 2) = b by omega] at h
theorem gcd_half {a b : Nat} (ha : a % 2 = 0) (hb : b % 2 ≠ 0) : Nat.gcd (a / 2) b = Nat.gcd a b := by
  have hc : Nat.Coprime 2 b := by
    unfold Nat.Coprime
    rw [Nat.gcd_rec, show b % 2 = 1 by omega]
    rfl
  have h := Nat.Coprime.gcd_mul_left_cancel (a / 2) hc
  rw [show 2 * (a / 2) = a by omega] at h
  exact h.symm
theorem gcd_half' {a b : Nat} (ha : a % 2 ≠ 0) (hb : b % 2 = 0) : Nat.gcd a (b / 2) = Nat.gcd a b := by
  rw [Nat.gcd_comm, gcd_half hb ha, Nat.gcd_comm]
theorem gcd_less {a b : Nat} (h : b ≤ a) : Nat.gcd (a - b) b = Nat.gcd a b := Nat.gcd_sub_self_left h
theorem gcd_less' {a b : Nat} (h : a ≤ b) : Nat.gcd a (b - a) = Nat.gcd a b := Nat.gcd_sub_self_right h
structure GcdI (a₀ b₀ a b t : Nat) : Prop where
  gcd : Nat.gcd a₀ b₀ = 2 ^ t * Nat.gcd a b
  pos : 0 < a + b
  le : (a + b) * 2 ^ t ≤ a₀ + b₀
theorem GcdI.start {a b : Nat} (h : 0 < a + b) : GcdI a b a b 0 := ⟨by simp, h, by simp⟩
theorem GcdI.both {a₀ b₀ a b t : Nat} (h : GcdI a₀ b₀ a b t) (pa : 0 < a) (ha : a % 2 = 0) (hb : b % 2 = 0) :
    GcdI a₀ b₀ (a / 2) (b / 2) (t + 1) := by
  refine ⟨?_, by omega, ?_⟩
  · rw [h.gcd, gcd_halves ha hb, Nat.pow_succ, Nat.mul_assoc]
  · have h3 : (a / 2 + b / 2) * 2 ^ (t + 1) = (a + b) * 2 ^ t := by
      rw [Nat.pow_succ, Nat.mul_comm (2 ^ t), ← Nat.mul_assoc]
      congr 1
      omega
    rw [h3]; exact h.le
theorem GcdI.left {a₀ b₀ a b t : Nat} (h : GcdI a₀ b₀ a b t) (pa : 0 < a) (ha : a % 2 = 0) (hb : b % 2 ≠ 0) :
    GcdI a₀ b₀ (a / 2) b t :=
  ⟨by rw [gcd_half ha hb]; exact h.gcd, by omega, Nat.le_trans (Nat.mul_le_mul_right _ (by omega)) h.le⟩
theorem GcdI.right {a₀ b₀ a b t : Nat} (h : GcdI a₀ b₀ a b t) (pa : 0 < a) (ha : a % 2 ≠ 0) (hb : b % 2 = 0) :
    GcdI a₀ b₀ a (b / 2) t :=
  ⟨by rw [gcd_half' ha hb]; exact h.gcd, by omega, Nat.le_trans (Nat.mul_le_mul_right _ (by omega)) h.le⟩
theorem GcdI.less {a₀ b₀ a b t : Nat} (h : GcdI a₀ b₀ a b t) (pb : 0 < b) (hle : b ≤ a) : GcdI a₀ b₀ (a - b) b t :=
  ⟨by rw [gcd_less hle]; exact h.gcd, by omega, Nat.le_trans (Nat.mul_le_mul_right _ (by omega)) h.le⟩
theorem GcdI.less' {a₀ b₀ a b t : Nat} (h : GcdI a₀ b₀ a b t) (pa : 0 < a) (hle : a ≤ b) : GcdI a₀ b₀ a (b - a) t :=
  ⟨by rw [gcd_less' hle]; exact h.gcd, by omega, Nat.le_trans (Nat.mul_le_mul_right _ (by omega)) h.le⟩
theorem GcdI.done {a₀ b₀ a b t : Nat} (h : GcdI a₀ b₀ a b t) (h0 : a = 0 ∨ b = 0) : 2 ^ t * (a + b) = Nat.gcd a₀ b₀ := by
  rw [h.gcd]
  rcases h0 with rfl | rfl <;> simp
theorem two_pow_step (t g : Nat) : 2 ^ t * g + 2 ^ t * g = 2 ^ (t + 1) * g := by
  rw [Nat.pow_succ, Nat.mul_comm (2 ^ t) 2, Nat.mul_assoc]; omega
theorem even_toB {B n : Nat} (hB : 2 ≤ B) (h2 : B % 2 = 0) (hn : n ≠ 0) : (toB B n).getD 0 0 % 2 = n % 2 := by
  rw [toB_pos hB hn]
  show n % B % 2 = n % 2
  exact Nat.mod_mod_of_dvd n (Nat.dvd_of_mod_eq_zero h2)
theorem toB_nil {B n : Nat} (hB : 2 ≤ B) : toB B n = [] ↔ n = 0 := by
  constructor
  · intro h
    by_cases h0 : n = 0
    · exact h0
    · rw [toB_pos hB h0] at h; cases h
  · rintro rfl; exact toB_zero B
theorem toB_one {B n : Nat} (hB : 2 ≤ B) (hn : 0 < n) (h : n < B) : toB B n = [n] := by
  rw [toB_pos hB (by omega), Nat.mod_eq_of_lt h, Nat.div_eq_of_lt h, toB_zero]
theorem toB_len {B : Nat} (hB : 2 ≤ B) (k : Nat) : ∀ {n : Nat}, n < B ^ k → (toB B n).length ≤ k := by
  induction k with
  | zero => intro n h; rw [Nat.pow_zero] at h; rw [show n = 0 by omega, toB_zero]; exact Nat.le_refl _
  | succ k ih =>
    intro n h
    by_cases h0 : n = 0
    · rw [h0, toB_zero]; exact Nat.zero_le _
    · rw [toB_pos hB h0]
      have := @ih (n / B) (by rw [Nat.div_lt_iff_lt_mul (by omega)]; rw [Nat.pow_succ] at h; exact h)
      simp; omega
end Go.Proofs.YtbpjbhbbkonjlaaGreatDoor
namespace Go.Proofs.YtbpjbhbbkonjlaaGreatDoor
open Go.RowKit
def natsV (k : IntKind) (l : List Nat) : List Value := l.map fun (x : Nat) => .int k (x : Int)
theorem natsV_len (k : IntKind) (l : List Nat) : (natsV k l).length = l.length := by simp [natsV]
theorem natsV_get {k : IntKind} {l : List Nat} {i : Nat} (h : i < l.length) : (natsV k l)[i]? = some (.int k (l.getD i 0 : Nat)) := by
  simp [natsV, List.getD_eq_getElem?_getD, h]
def CellsN (k : IntKind) (w : World) (a : Option Addr) (l : List Nat) : Prop :=
  ∀ i, i < l.length → ∃ b off, a = some ⟨b, off, none⟩ ∧ w.cell? ⟨b, off + i, none⟩ = some (.int k (l.getD i 0 : Nat))
theorem CellsN.ext {k : IntKind} {w w' : World} {a : Option Addr} {l : List Nat} (h : CellsN k w a l) (he : Ext w w') : CellsN k w' a l := fun i hi => by
  obtain ⟨b, off, h1, h2⟩ := h i hi
  exact ⟨b, off, h1, he.cell h2⟩
theorem CellsN.nil (k : IntKind) (w : World) (a : Option Addr) : CellsN k w a [] := fun i hi => by simp at hi
theorem CellsN.take {k : IntKind} {w : World} {a : Option Addr} {l : List Nat} (h : CellsN k w a l) (n : Nat) : CellsN k w a (l.take n) := fun i hi => by
  rw [List.length_take] at hi
  obtain ⟨b, off, h1, h2⟩ := h i (by omega)
  refine ⟨b, off, h1, ?_⟩
  rw [h2, List.getD_eq_getElem?_getD, List.getD_eq_getElem?_getD, List.getElem?_take_of_lt (by omega)]
def Room (a : Option Addr) (n cap : Nat) : Prop := n ≤ cap ∧ cap ≤ maxLen ∧ (0 < n → ∃ b off, a = some ⟨b, off, none⟩)
def SliceN (k : IntKind) (w : World) (v : Value) (l : List Nat) : Prop := ∃ a cap, v = .slice a l.length cap ∧ CellsN k w a l ∧ Room a l.length cap
theorem SliceN.ext {k : IntKind} {w w' : World} {v : Value} {l : List Nat} (h : SliceN k w v l) (he : Ext w w') : SliceN k w' v l := by
  obtain ⟨a, cap, h1, h2, h3⟩ := h
  exact ⟨a, cap, h1, h2.ext he, h3⟩
theorem SliceN.nil (k : IntKind) (w : World) : SliceN k w (.slice none 0 0) [] := ⟨none, 0, rfl, CellsN.nil _ _ _, Nat.le_refl _, Nat.zero_le _, fun h => by simp at h⟩
def OwnsN (k : IntKind) (t : TypeId) (w : World) (v : Value) (l : List Nat) : Prop := w.ownsRow 0 t 1 v l.length (natsV k l)
theorem OwnsN.nil (k : IntKind) (t : TypeId) (w : World) : OwnsN k t w (.slice none 0 0) [] := World.ownsRow_nil w 0 _ _
theorem OwnsN.ext {k : IntKind} {t : TypeId} {A B : World} {v : Value} {l : List Nat} (h : OwnsN k t A v l) (he : Ext A B) : OwnsN k t B v l := rowExt h he
theorem OwnsN.lt {k : IntKind} {t : TypeId} {A : World} {v : Value} {l : List Nat} (h : OwnsN k t A v l) {b : Nat} (hb : v.ownBlock = some b) : b < A.heap.size := rowLt h hb
theorem OwnsN.same {k : IntKind} {t : TypeId} {A B : World} {v : Value} {l : List Nat} (h : OwnsN k t A v l) (hs : ∀ b, v.ownBlock = some b → B.heap[b]? = A.heap[b]?) : OwnsN k t B v l := rowSame h hs
theorem OwnsN.reads {k : IntKind} {t : TypeId} {A : World} {v : Value} {l : List Nat} (h : OwnsN k t A v l) :
    ∃ a cap, v = .slice a l.length cap ∧ CellsN k A a l ∧ Room a l.length cap ∧ ∀ i, i < l.length → ∃ b, a = some ⟨b, 0, none⟩ ∧ v.ownBlock = some b ∧ A.frozen? ⟨b, i, none⟩ = false := by
  obtain ⟨a, cap, hv, hm, hr⟩ := rowReads h
  refine ⟨a, cap, hv, fun i hi => ?_, ?_, fun i hi => ?_⟩
  · obtain ⟨b, hb, _, h1, _⟩ := hr i _ (natsV_get hi)
    exact ⟨b, 0, hb, by rw [Nat.zero_add]; exact h1⟩
  · rcases h.2 with ⟨h1, hn⟩ | ⟨g, c, cur, h1, hg, hh, hnc, hm, hcs, ht⟩
    · rw [hv] at h1
      obtain ⟨e1, e2, e3⟩ := Value.slice.inj h1
      subst e3
      exact ⟨by omega, by simp, fun h => by omega⟩
    · rw [hv] at h1
      obtain ⟨e1, e2, e3⟩ := Value.slice.inj h1
      subst e1 e3
      exact ⟨hnc, hm, fun _ => ⟨g, 0, rfl⟩⟩
  · obtain ⟨b, hb, hob, _, h2⟩ := hr i _ (natsV_get hi)
    exact ⟨b, hb, hob, h2⟩
theorem OwnsN.slice {k : IntKind} {t : TypeId} {A : World} {v : Value} {l : List Nat} (h : OwnsN k t A v l) : SliceN k A v l := by
  obtain ⟨a, cap, h1, h2, h3, _⟩ := h.reads
  exact ⟨a, cap, h1, h2, h3⟩
theorem ownsN_succ {k : IntKind} {t : TypeId} {w : World} {v : Value} {l : List Nat} {x : Nat} (h : w.ownsRow 0 t 1 v (l.length + 1) (natsV k l ++ [.int k (x : Int)])) : OwnsN k t w v (l ++ [x]) := by
  unfold OwnsN natsV
  rw [List.length_append, List.length_singleton, List.map_append]
  exact h
theorem OwnsN.take {k : IntKind} {t : TypeId} {w : World} {a : Option Addr} {cap : Nat} {l : List Nat} (h : OwnsN k t w (.slice a l.length cap) l) {n : Nat} (hn : n ≤ l.length) :
    OwnsN k t w (.slice a n cap) (l.take n) := by
  have hl : (l.take n).length = n := by rw [List.length_take]; omega
  unfold OwnsN at h ⊢
  rw [hl]
  obtain ⟨_, h2⟩ := h
  refine ⟨by rw [natsV_len, hl, Nat.mul_one], ?_⟩
  rcases h2 with ⟨hv, h0⟩ | ⟨g, c, cur, hv, hg, hh, hnc, hm, hcs, ht⟩
  · obtain ⟨e1, e2, e3⟩ := Value.slice.inj hv
    subst e1 e3
    exact .inl ⟨by rw [show n = 0 by omega], by omega⟩
  · obtain ⟨e1, e2, e3⟩ := Value.slice.inj hv
    subst e1 e3
    refine .inr ⟨g, cap, cur, rfl, hg, hh, by omega, hm, hcs, ?_⟩
    rw [Nat.mul_one] at ht ⊢
    have : natsV k (l.take n) = (natsV k l).take n := by simp [natsV, List.map_take]
    rw [this, ← ht, List.take_take, Nat.min_eq_left hn]
theorem OwnsN.set {k : IntKind} {t : TypeId} {w : World} {b n cap : Nat} {l : List Nat} (h : OwnsN k t w (.slice (some ⟨b, 0, none⟩) n cap) l) (i x : Nat) :
    OwnsN k t (w.setCell ⟨b, i, none⟩ (.int k (x : Int))) (.slice (some ⟨b, 0, none⟩) n cap) (l.set i x) := by
  unfold OwnsN at h ⊢
  obtain ⟨_, h2⟩ := h
  refine ⟨by simp [natsV], ?_⟩
  rcases h2 with ⟨hv, _⟩ | ⟨g, c, cur, hv, hg, hh, hnc, hm, hcs, ht⟩
  · cases (Value.slice.inj hv).1
  · obtain ⟨e1, e2, e3⟩ := Value.slice.inj hv
    cases e1
    subst e2 e3
    refine .inr ⟨b, cap, cur.setIfInBounds i (.int k (x : Int)), by simp, hg, ?_, by simpa using hnc, hm, by simpa using hcs, ?_⟩
    · simp only [World.setCell, Array.getElem?_modify, hh]
      simp
    · rw [List.length_set, Array.toList_setIfInBounds, List.take_set, ht]
      unfold natsV
      rw [List.map_set]
def NatV (k : IntKind) (B : Nat) (w : World) (v : Value) (n : Nat) : Prop := SliceN k w v (toB B n)
theorem NatV.ext {k : IntKind} {B : Nat} {w w' : World} {v : Value} {n : Nat} (h : NatV k B w v n) (he : Ext w w') : NatV k B w' v n := SliceN.ext h he
def OwnNPost (k : IntKind) (t : TypeId) (l : List Nat) (w : World) (e : Ending) (w' : World) : Prop :=
  ∃ v, e = .returned v ∧ OwnsN k t w' v l ∧ (∀ b, v.ownBlock = some b → w.heap.size ≤ b) ∧ Ext w w'
end Go.Proofs.YtbpjbhbbkonjlaaGreatDoor
namespace Go.Proofs.YtbpjbhbbkonjlaaGreatDoor
open Go.RowKit
theorem take_last {l : List Nat} {k : Nat} (h : k < l.length) : l.take (k + 1) = l.take k ++ [l.getD k 0] := by
  rw [List.take_add_one, List.getElem?_eq_getElem h, List.getD_eq_getElem?_getD, List.getElem?_eq_getElem h]; rfl
theorem trimL_zero {l : List Nat} {k : Nat} (h : k < l.length) (h0 : l.getD k 0 = 0) : trimL (l.take (k + 1)) = trimL (l.take k) := by
  rw [take_last h, h0]
  simp [trimL]
theorem trimL_stop {l : List Nat} {k : Nat} (h : k < l.length) (h0 : l.getD k 0 ≠ 0) : trimL (l.take (k + 1)) = l.take (k + 1) := by
  rw [take_last h]
  generalize l.getD k 0 = x at h0
  simp [trimL, h0]
set_option maxHeartbeats 2000000 in
theorem trimmed_any (l : List Nat) (a : Option Addr) (cap : Nat) (w : World) (hr : Room a l.length cap) (hc : CellsN .u64 w a l) :
    Calls Tryz.prog 126 #[.slice a l.length cap] w fun e w' => e = .returned (.slice a (trimL l).length cap) ∧ (∃ n, n ≤ l.length ∧ trimL l = l.take n) ∧ Ext w w' := by
  obtain ⟨hr1, hr2, hr3⟩ := hr
  unfold maxLen at hr2
  have HC := Lib.hid hc
  clear hc
  go_enter Tryz.func126, Tryz.ntmps126
  go_wp2
  go_loop [3] (fun i => ∃ k : Nat, k ≤ l.length ∧ i = .int .i64 k ∧ Hid (trimL (l.take k) = trimL l)) (fun i => (intOf i).toNat)
  case atStart => exact ⟨l.length, Nat.le_refl _, rfl, by show _ = _; rw [List.take_length]⟩
  case round =>
    obtain ⟨k, hk, rfl, hz⟩ := hrel
    rcases k with _ | k
    · have HT : Hid (trimL l = []) := by show _ = _; rw [← hz.out]; rfl
      clear hz
      go_wp2
      go_ret
      exact ⟨by rw [HT.out]; rfl, ⟨0, Nat.zero_le _, HT.out⟩, Ext.refl _⟩
    · obtain ⟨b, off, ha, c1⟩ := HC.out k (by omega)
      subst ha
      by_cases hx : l.getD k 0 = 0
      · have HT : Hid (trimL (l.take k) = trimL l) := by show _ = _; rw [← hz.out]; exact (trimL_zero (by omega) hx).symm
        rw [hx] at c1
        clear hz hx
        go_wp2
        refine ⟨⟨k, by omega, by go_num, HT⟩, by simp [intOf]⟩
      · have HT : Hid (trimL l = l.take (k + 1)) := by show _ = _; rw [← hz.out]; exact trimL_stop (by omega) hx
        have hx2 : ((l.getD k 0 : Int) == 0) = false := by rw [beq_eq_false_iff_ne]; omega
        clear hz
        generalize l.getD k 0 = x at c1 hx2 hx
        go_wp2
        go_ret
        refine ⟨?_, ⟨k + 1, by omega, HT.out⟩, Ext.refl _⟩
        rw [HT.out, List.length_take, Nat.min_eq_left (by omega)]
        go_num
end Go.Proofs.YtbpjbhbbkonjlaaGreatDoor
namespace Go.Proofs.YtbpjbhbbkonjlaaGreatDoor
open Go.RowKit
theorem infoU64 : (Tryz.prog.info? 164).map (fun i => (i.zero, i.size, i.bytes)) = some (some (.int .u64 0), 1, 8) := by kernel_rfl
theorem OwnsN.trim {k : IntKind} {t : TypeId} {w : World} {a : Option Addr} {cap : Nat} {l : List Nat} (h : OwnsN k t w (.slice a l.length cap) l) :
    (∃ n, n ≤ l.length ∧ trimL l = l.take n) → OwnsN k t w (.slice a (trimL l).length cap) (trimL l) := by
  rintro ⟨n, hn, e⟩
  rw [e, List.length_take, Nat.min_eq_left hn]
  exact h.take hn
def plusM (la lb : List Nat) : Nat := max la.length lb.length
structure PlusW (la lb : List Nat) (w0 : World) (i c : Nat) (v : Value) (w : World) : Prop where
  ex : ∃ o, PlusI 1000000000 la lb i c o ∧ OwnsN .u64 164 w v o ∧ (i ≤ plusM la lb ∨ (i = plusM la lb + 1 ∧ c = 0 ∧ 1000000000 ^ (i - 1) ≤ valB 1000000000 o))
  new : ∀ b, v.ownBlock = some b → w0.heap.size ≤ b
theorem PlusW.done {la lb : List Nat} {w0 w : World} {i : Nat} {v : Value} {x y : Nat} (h : PlusW la lb w0 i 0 v w) (hi : plusM la lb ≤ i)
    (ha : la = toB 1000000000 x) (hb : lb = toB 1000000000 y) : OwnsN .u64 164 w v (toB 1000000000 (x + y)) := by
  obtain ⟨o, h1, h2, h3⟩ := h.ex
  have hM : la.length ≤ plusM la lb ∧ lb.length ≤ plusM la lb := ⟨Nat.le_max_left _ _, Nat.le_max_right _ _⟩
  have e := h1.done (by omega) (ha ▸ trim_toB (by omega) x) (hb ▸ trim_toB (by omega) y) ⟨by omega, by omega⟩ (by
    rcases h3 with h3 | h3
    · exact .inl (by unfold plusM at *; omega)
    · exact .inr h3.2.2)
  rw [ha, hb, valB_toB (by omega), valB_toB (by omega)] at e
  rw [← e]; exact h2
theorem PlusW.step {la lb o : List Nat} {w0 w' : World} {i c : Nat} {v' : Value} (h1 : PlusI 1000000000 la lb i c o)
    (h3 : i ≤ plusM la lb ∨ (i = plusM la lb + 1 ∧ c = 0 ∧ 1000000000 ^ (i - 1) ≤ valB 1000000000 o)) (ha : OkB 1000000000 la) (hb : OkB 1000000000 lb)
    (hgo : i < plusM la lb ∨ 0 < c) {r d : Nat} (hr : r = (c + la.getD i 0 + lb.getD i 0) % 1000000000) (hd : d = (c + la.getD i 0 + lb.getD i 0) / 1000000000)
    (hown : OwnsN .u64 164 w' v' (o ++ [r])) (hnew : ∀ b, v'.ownBlock = some b → w0.heap.size ≤ b) : PlusW la lb w0 (i + 1) d v' w' := by
  subst hr hd
  refine ⟨⟨_, h1.next (by omega) ha hb, hown, ?_⟩, hnew⟩
  have hc := h1.c1
  by_cases hi : i < plusM la lb
  · exact .inl hi
  · have hia : la.length ≤ i := by unfold plusM at hi; omega
    have hib : lb.length ≤ i := by unfold plusM at hi; omega
    have e1 : la.getD i 0 = 0 := by rw [List.getD_eq_getElem?_getD, List.getElem?_eq_none hia]; rfl
    have e2 : lb.getD i 0 = 0 := by rw [List.getD_eq_getElem?_getD, List.getElem?_eq_none hib]; rfl
    rcases h3 with h3 | h3
    · right
      have e3 : c = 1 := by omega
      rw [e1, e2, e3]
      refine ⟨by omega, by decide, ?_⟩
      rw [valB_snoc, h1.len]
      have : (1 + 0 + 0) % 1000000000 = 1 := by decide
      rw [this]
      simp
    · omega
set_option maxHeartbeats 8000000 in
set_option maxRecDepth 100000 in
theorem plus_any (x y : Nat) (la lb : List Nat) (a b : Option Addr) (ca cb : Nat) (w : World) (hx : la = toB 1000000000 x) (hy : lb = toB 1000000000 y)
    (hla : la.length ≤ 200) (hlb : lb.length ≤ 200) (ha : CellsN .u64 w a la) (hb : CellsN .u64 w b lb) :
    Calls Tryz.prog 115 #[.slice a la.length ca, .slice b lb.length cb] w (OwnNPost .u64 164 (toB 1000000000 (x + y)) w) := by
  have HA := Lib.hid ha
  have HB := Lib.hid hb
  have HX := Lib.hid hx
  have HY := Lib.hid hy
  have OA : Hid (OkB 1000000000 la) := by show OkB _ _; rw [hx]; exact okB_toB (by omega) x
  have OB : Hid (OkB 1000000000 lb) := by show OkB _ _; rw [hy]; exact okB_toB (by omega) y
  clear ha hb hx hy
  obtain ⟨M, hM⟩ : ∃ M, M = plusM la lb := ⟨_, rfl⟩
  have hM1 : la.length ≤ M := by rw [hM]; exact Nat.le_max_left _ _
  have hM2 : lb.length ≤ M := by rw [hM]; exact Nat.le_max_right _ _
  have hM3 : max (la.length : Int) (lb.length : Int) = (M : Int) := by rw [hM]; unfold plusM; omega
  have hM4 : M ≤ 200 := by rw [hM]; unfold plusM; omega
  have HM := Lib.hid hM
  clear hM
  obtain ⟨i0, hi, hi0, hi1, hi2⟩ := info_parts infoU64
  go_enter Tryz.func115, Tryz.ntmps115
  go_wp2
  go_loopw [5, 6, 7] (fun v c i wr => ∃ (k cc : Nat) (vv : Value), k ≤ M + 1 ∧ cc ≤ 1 ∧ i = .int .i64 k ∧ c = .int .u64 cc ∧ v = vv ∧ Hid (PlusW la lb w k cc vv wr) ∧ Ext w wr) (fun _ c i _ => 2 * (M + 1 - (intOf i).toNat) + (intOf c).toNat)
  case atStart => exact ⟨0, 0, _, by omega, by omega, rfl, rfl, rfl, ⟨⟨[], PlusI.start _ _ _, OwnsN.nil _ _ _, .inl (Nat.zero_le _)⟩, fun b hb => by cases hb⟩, Ext.refl _⟩
  case round =>
    obtain ⟨k, cc, vv, hk, hcc, rfl, rfl, hvv, hw, he⟩ := hrel
    obtain rfl := hvv.symm
    obtain ⟨⟨o, ho1, ho2, ho3⟩, hnw⟩ := hw.out
    have HO := Lib.hid ho2
    have HP := Lib.hid ho1
    have HC := Lib.hid ho3
    have HN := Lib.hid hnw
    have HOL := Lib.hid ho1.len
    have hol : o.length ≤ 201 := by have := ho1.len; omega
    clear ho1 ho2 ho3 hnw
    by_cases hgo : k < M ∨ 0 < cc
    · clear hw
      obtain ⟨p, hp⟩ : ∃ p, p = la.getD k 0 := ⟨_, rfl⟩
      obtain ⟨q, hq⟩ : ∃ q, q = lb.getD k 0 := ⟨_, rfl⟩
      have hpb : p < 1000000000 := by rw [hp]; exact okB_getD OA.out (by omega) k
      have hqb : q < 1000000000 := by rw [hq]; exact okB_getD OB.out (by omega) k
      have hp0 : ¬ k < la.length → p = 0 := fun h => by rw [hp, List.getD_eq_getElem?_getD, List.getElem?_eq_none (by omega)]; rfl
      have hq0 : ¬ k < lb.length → q = 0 := fun h => by rw [hq, List.getD_eq_getElem?_getD, List.getElem?_eq_none (by omega)]; rfl
      obtain ⟨r, hr⟩ : ∃ r, r = (cc + p + q) % 1000000000 := ⟨_, rfl⟩
      obtain ⟨d, hd⟩ : ∃ d, d = (cc + p + q) / 1000000000 := ⟨_, rfl⟩
      have hd1 : d ≤ 1 := by omega
      have hw1 : IntKind.u64.wrap ((cc : Int) + (p : Int)) = (cc : Int) + (p : Int) := by rw [IntKind.wrap_u64]; omega
      have hw2 : IntKind.u64.wrap ((cc : Int) + (p : Int) + (q : Int)) = (cc : Int) + (p : Int) + (q : Int) := by rw [IntKind.wrap_u64]; omega
      have ht1 : ((cc : Int) + (p : Int) + (q : Int)).tmod 1000000000 = (r : Int) := by rw [Int.tmod_eq_emod_of_nonneg (by omega)]; omega
      have ht2 : ((cc : Int) + (p : Int) + (q : Int)).tdiv 1000000000 = (d : Int) := by rw [Int.tdiv_eq_ediv_of_nonneg (by omega)]; omega
      have HR : Hid (r = (cc + la.getD k 0 + lb.getD k 0) % 1000000000 ∧ d = (cc + la.getD k 0 + lb.getD k 0) / 1000000000) := by
        show _ ∧ _; rw [← hp, ← hq]; exact ⟨hr, hd⟩
      have hmd : 2 * (M + 1 - (k + 1)) + d < 2 * (M + 1 - k) + cc := by omega
      have hkM : k + 1 ≤ M + 1 := by
        have h9 := HC.out
        rw [← HM.out] at h9
        omega
      clear hr hd
      by_cases h1 : k < la.length
      · obtain ⟨b1, o1, ha1, p1⟩ := HA.out.ext he k h1
        subst ha1
        rw [← hp] at p1
        clear hp hp0
        by_cases h2 : k < lb.length
        · obtain ⟨b2, o2, ha2, q1⟩ := HB.out.ext he k h2
          subst ha2
          rw [← hq] at q1
          clear hq hq0
          go_wp2_with (at_builtin; refine wpList_append1 _ rfl _ _ 141 rfl 164 i0 (.int .u64 0) 1 8 Tryz.underlying141 hi hi0 hi1 hi2 rfl (by decide) vv o.length (natsV .u64 o) rfl (HO.out.ext ((Ext.refl _).alloc _)) ⟨wr.heap.size, 0, none⟩ 1 1 (by decide) [.int .u64 (r : Int)] rfl rfl (cells_one _ _ _) (by intro u hu; simp at hu; subst hu; rfl) (by unfold maxLen; omega) (by omega) ?_)
          all_goals
            intro v' w5 hown5 hend5
            have OB5 : Hid (∀ b, v'.ownBlock = some b → w.heap.size ≤ b) := hend5.ge (n := w.heap.size) (by have := he.size; simp; omega) HN.out
            have O5 : Hid (PlusW la lb w (k + 1) d v' w5) := PlusW.step HP.out HC.out OA.out OB.out (by rw [← HM.out]; exact hgo) HR.out.1 HR.out.2 (ownsN_succ hown5) OB5.out
            have B5 : Ext w w5 := (he.trans ((Ext.refl _).alloc _)).trans' (hend5.below (n := w.heap.size) (by have := he.size; simp; omega) HN.out) (Nat.le_refl _)
            clear hown5 hend5 HO HP HC
            go_wp2
            refine ⟨⟨k + 1, d, v', hkM, hd1, by go_num, rfl, rfl, O5, B5⟩, by simp [intOf]; omega⟩
        · have hqz := hq0 h2
          subst hqz
          clear hq hq0
          rw [Int.natCast_zero, Int.add_zero] at hw2 ht1 ht2
          go_wp2_with (at_builtin; refine wpList_append1 _ rfl _ _ 141 rfl 164 i0 (.int .u64 0) 1 8 Tryz.underlying141 hi hi0 hi1 hi2 rfl (by decide) vv o.length (natsV .u64 o) rfl (HO.out.ext ((Ext.refl _).alloc _)) ⟨wr.heap.size, 0, none⟩ 1 1 (by decide) [.int .u64 (r : Int)] rfl rfl (cells_one _ _ _) (by intro u hu; simp at hu; subst hu; rfl) (by unfold maxLen; omega) (by omega) ?_)
          all_goals
            intro v' w5 hown5 hend5
            have OB5 : Hid (∀ b, v'.ownBlock = some b → w.heap.size ≤ b) := hend5.ge (n := w.heap.size) (by have := he.size; simp; omega) HN.out
            have O5 : Hid (PlusW la lb w (k + 1) d v' w5) := PlusW.step HP.out HC.out OA.out OB.out (by rw [← HM.out]; exact hgo) HR.out.1 HR.out.2 (ownsN_succ hown5) OB5.out
            have B5 : Ext w w5 := (he.trans ((Ext.refl _).alloc _)).trans' (hend5.below (n := w.heap.size) (by have := he.size; simp; omega) HN.out) (Nat.le_refl _)
            clear hown5 hend5 HO HP HC
            go_wp2
            refine ⟨⟨k + 1, d, v', hkM, hd1, by go_num, rfl, rfl, O5, B5⟩, by simp [intOf]; omega⟩
      · have hpz := hp0 h1
        subst hpz
        clear hp hp0
        rw [Int.natCast_zero, Int.add_zero] at hw1 hw2 ht1 ht2
        by_cases h2 : k < lb.length
        · obtain ⟨b2, o2, ha2, q1⟩ := HB.out.ext he k h2
          subst ha2
          rw [← hq] at q1
          clear hq hq0
          go_wp2_with (at_builtin; refine wpList_append1 _ rfl _ _ 141 rfl 164 i0 (.int .u64 0) 1 8 Tryz.underlying141 hi hi0 hi1 hi2 rfl (by decide) vv o.length (natsV .u64 o) rfl (HO.out.ext ((Ext.refl _).alloc _)) ⟨wr.heap.size, 0, none⟩ 1 1 (by decide) [.int .u64 (r : Int)] rfl rfl (cells_one _ _ _) (by intro u hu; simp at hu; subst hu; rfl) (by unfold maxLen; omega) (by omega) ?_)
          all_goals
            intro v' w5 hown5 hend5
            have OB5 : Hid (∀ b, v'.ownBlock = some b → w.heap.size ≤ b) := hend5.ge (n := w.heap.size) (by have := he.size; simp; omega) HN.out
            have O5 : Hid (PlusW la lb w (k + 1) d v' w5) := PlusW.step HP.out HC.out OA.out OB.out (by rw [← HM.out]; exact hgo) HR.out.1 HR.out.2 (ownsN_succ hown5) OB5.out
            have B5 : Ext w w5 := (he.trans ((Ext.refl _).alloc _)).trans' (hend5.below (n := w.heap.size) (by have := he.size; simp; omega) HN.out) (Nat.le_refl _)
            clear hown5 hend5 HO HP HC
            go_wp2
            refine ⟨⟨k + 1, d, v', hkM, hd1, by go_num, rfl, rfl, O5, B5⟩, by simp [intOf]; omega⟩
        · have hqz := hq0 h2
          subst hqz
          clear hq hq0
          rw [Int.natCast_zero, Int.add_zero] at hw2 ht1 ht2
          go_wp2_with (at_builtin; refine wpList_append1 _ rfl _ _ 141 rfl 164 i0 (.int .u64 0) 1 8 Tryz.underlying141 hi hi0 hi1 hi2 rfl (by decide) vv o.length (natsV .u64 o) rfl (HO.out.ext ((Ext.refl _).alloc _)) ⟨wr.heap.size, 0, none⟩ 1 1 (by decide) [.int .u64 (r : Int)] rfl rfl (cells_one _ _ _) (by intro u hu; simp at hu; subst hu; rfl) (by unfold maxLen; omega) (by omega) ?_)
          all_goals
            intro v' w5 hown5 hend5
            have OB5 : Hid (∀ b, v'.ownBlock = some b → w.heap.size ≤ b) := hend5.ge (n := w.heap.size) (by have := he.size; simp; omega) HN.out
            have O5 : Hid (PlusW la lb w (k + 1) d v' w5) := PlusW.step HP.out HC.out OA.out OB.out (by rw [← HM.out]; exact hgo) HR.out.1 HR.out.2 (ownsN_succ hown5) OB5.out
            have B5 : Ext w w5 := (he.trans ((Ext.refl _).alloc _)).trans' (hend5.below (n := w.heap.size) (by have := he.size; simp; omega) HN.out) (Nat.le_refl _)
            clear hown5 hend5 HO HP HC
            go_wp2
            refine ⟨⟨k + 1, d, v', hkM, hd1, by go_num, rfl, rfl, O5, B5⟩, by simp [intOf]; omega⟩
    · have h9 := HC.out
      have hk2 : M ≤ k := by omega
      have hc0 : cc = 0 := by omega
      subst hc0
      have HF : Hid (OwnsN .u64 164 wr vv (toB 1000000000 (x + y))) := hw.out.done (by rw [← HM.out]; exact hk2) HX.out HY.out
      clear h9 hgo hw HO
      go_wp2
      all_goals go_ret
      all_goals exact ⟨_, rfl, HF.out, HN.out, he⟩
end Go.Proofs.YtbpjbhbbkonjlaaGreatDoor
namespace Go.Proofs.YtbpjbhbbkonjlaaGreatDoor
open Go.RowKit
theorem infoI64 : (Tryz.prog.info? 3).map (fun i => (i.zero, i.size, i.bytes)) = some (some (.int .i64 0), 1, 8) := by kernel_rfl
set_option maxHeartbeats 2000000 in
theorem trimR_any (l : List Nat) (a : Option Addr) (cap : Nat) (w : World) (hr : Room a l.length cap) (hc : CellsN .i64 w a l) :
    Calls Tryz.prog 75 #[.slice a l.length cap] w fun e w' => e = .returned (.slice a (trimL l).length cap) ∧ (∃ n, n ≤ l.length ∧ trimL l = l.take n) ∧ Ext w w' := by
  obtain ⟨hr1, hr2, hr3⟩ := hr
  unfold maxLen at hr2
  have HC := Lib.hid hc
  clear hc
  go_enter Tryz.func75, Tryz.ntmps75
  go_wp2
  go_loop [0] (fun v => ∃ k : Nat, k ≤ l.length ∧ v = .slice a k cap ∧ Hid (trimL (l.take k) = trimL l)) (fun v => match v with | .slice _ n _ => n | _ => 0)
  case atStart => exact ⟨l.length, Nat.le_refl _, rfl, by show _ = _; rw [List.take_length]⟩
  case round =>
    obtain ⟨k, hk, rfl, hz⟩ := hrel
    rcases k with _ | k
    · have HT : Hid (trimL l = []) := by show _ = _; rw [← hz.out]; rfl
      clear hz
      go_wp2
      go_ret
      exact ⟨by rw [HT.out]; rfl, ⟨0, Nat.zero_le _, HT.out⟩, Ext.refl _⟩
    · obtain ⟨b, off, ha, c1⟩ := HC.out k (by omega)
      subst ha
      by_cases hx : l.getD k 0 = 0
      · have HT : Hid (trimL (l.take k) = trimL l) := by show _ = _; rw [← hz.out]; exact (trimL_zero (by omega) hx).symm
        rw [hx] at c1
        clear hz hx
        go_wp2
        refine ⟨⟨k, by omega, by go_num, HT⟩, by simp⟩
      · have HT : Hid (trimL l = l.take (k + 1)) := by show _ = _; rw [← hz.out]; exact trimL_stop (by omega) hx
        have hx2 : ((l.getD k 0 : Int) == 0) = false := by rw [beq_eq_false_iff_ne]; omega
        clear hz
        generalize l.getD k 0 = x at c1 hx2 hx
        go_wp2
        go_ret
        refine ⟨?_, ⟨k + 1, by omega, HT.out⟩, Ext.refl _⟩
        rw [HT.out, List.length_take, Nat.min_eq_left (by omega)]
        rfl
end Go.Proofs.YtbpjbhbbkonjlaaGreatDoor
namespace Go.Proofs.YtbpjbhbbkonjlaaGreatDoor
open Go.RowKit
theorem madeN (k : IntKind) (t : TypeId) (w : World) (n : Nat) (hn : n ≤ 1000) :
    OwnsN k t (w.alloc (.cells (madeCells #[.int k 0] n) t)) (.slice (some ⟨w.heap.size, 0, none⟩) n n) (List.replicate n 0) := by
  unfold OwnsN
  rw [List.length_replicate]
  refine ⟨by simp [natsV], .inr ⟨w.heap.size, n, madeCells #[.int k 0] n, rfl, Nat.zero_le _, ?_, Nat.le_refl _, by unfold maxLen; omega, by simp [madeCells], ?_⟩⟩
  · show (w.heap.push _)[w.heap.size]? = _
    exact Array.getElem?_push_size
  · simp only [Nat.mul_one]
    apply List.ext_getElem?
    intro j
    by_cases hj : j < n
    · rw [List.getElem?_take_of_lt hj]
      simp [madeCells, natsV, hj, Nat.mod_one]
    · simp [madeCells, natsV, hj]
theorem OwnsN.at {k : IntKind} {t : TypeId} {w : World} {b n cap : Nat} {l : List Nat} (h : OwnsN k t w (.slice (some ⟨b, 0, none⟩) n cap) l) {i : Nat} (hi : i < l.length) :
    w.cell? ⟨b, i, none⟩ = some (.int k (l.getD i 0 : Nat)) ∧ w.frozen? ⟨b, i, none⟩ = false := by
  obtain ⟨a, c, hv, hc, _, hf⟩ := h.reads
  obtain ⟨e1, _, _⟩ := Value.slice.inj hv
  subst e1
  obtain ⟨b1, o1, e2, h1⟩ := hc i hi
  cases e2
  obtain ⟨b2, e3, _, h2⟩ := hf i hi
  cases e3
  rw [Nat.zero_add] at h1
  exact ⟨h1, h2⟩
set_option maxHeartbeats 8000000 in
set_option maxRecDepth 100000 in
theorem times_any (x y : Nat) (la lb : List Nat) (a b : Option Addr) (ca cb : Nat) (w : World) (hx : la = toB 1000000000 x) (hy : lb = toB 1000000000 y)
    (hla : la.length ≤ 200) (hlb : lb.length ≤ 200) (ha : CellsN .u64 w a la) (hb : CellsN .u64 w b lb) :
    Calls Tryz.prog 105 #[.slice a la.length ca, .slice b lb.length cb] w (OwnNPost .u64 164 (toB 1000000000 (x * y)) w) := by
  have HA := Lib.hid ha
  have HB := Lib.hid hb
  have HX := Lib.hid hx
  have HY := Lib.hid hy
  have OA : Hid (OkB 1000000000 la) := by show OkB _ _; rw [hx]; exact okB_toB (by omega) x
  have OB : Hid (OkB 1000000000 lb) := by show OkB _ _; rw [hy]; exact okB_toB (by omega) y
  clear ha hb hx hy
  obtain ⟨i0, hi, hi0, hi1, hi2⟩ := info_parts infoU64
  obtain ⟨N, hN⟩ : ∃ N, N = la.length + lb.length := ⟨_, rfl⟩
  have hmk : (Instr.makeSlice 141 (.int .i64 ((la.length : Int) + (lb.length : Int))) (.int .i64 ((la.length : Int) + (lb.length : Int)))).run Tryz.prog w = .ok (.slice (some ⟨w.heap.size, 0, none⟩) N N) (w.alloc (.cells (madeCells #[.int .u64 0] N) 164)) := by
    rw [← Int.natCast_add, ← hN]
    exact run_make_row' _ _ (.int .u64 0) 8 Tryz.underlying141 infoU64 rfl _ _ N (by omega) (by omega) w
  have O0 : Hid (OwnsN .u64 164 (w.alloc (.cells (madeCells #[.int .u64 0] N) 164)) (.slice (some ⟨w.heap.size, 0, none⟩) N N) (List.replicate N 0)) := madeN _ _ _ N (by omega)
  have E0 : Ext w (w.alloc (.cells (madeCells #[.int .u64 0] N) 164)) := (Ext.refl _).alloc _
  generalize hW : w.alloc (.cells (madeCells #[.int .u64 0] N) 164) = W at hmk O0 E0
  clear hW
  obtain ⟨ob, hob⟩ : ∃ ob, ob = w.heap.size := ⟨_, rfl⟩
  rw [← hob] at hmk O0
  have HNN := Lib.hid hN
  have HOB := Lib.hid hob
  clear hN hob
  go_enter Tryz.func105, Tryz.ntmps105
  go_wp2
  clear hmk
  have HI0 : Hid (TimesI 1000000000 la lb 0 (List.replicate N 0)) := by show TimesI _ _ _ _ _; rw [HNN.out]; exact TimesI.start (by omega) _ _
  go_loopw [19] (fun i wr => ∃ (k : Nat), k ≤ la.length ∧ i = .int .i64 k ∧ Hid (∃ o, TimesI 1000000000 la lb k o ∧ OwnsN .u64 164 wr (.slice (some ⟨ob, 0, none⟩) N N) o) ∧ Ext w wr) (fun i _ => la.length - (intOf i).toNat)
  case atStart => exact ⟨0, by omega, rfl, ⟨_, HI0.out, O0.out⟩, E0⟩
  case round =>
    obtain ⟨k, hk, rfl, hw, he⟩ := hrel
    by_cases h1 : k < la.length
    · obtain ⟨p, hp⟩ : ∃ p, p = la.getD k 0 := ⟨_, rfl⟩
      have hpb : p < 1000000000 := by rw [hp]; exact okB_getD OA.out (by omega) k
      obtain ⟨b1, o1, ha1, p1⟩ := HA.out.ext he k h1
      subst ha1
      rw [← hp] at p1
      have HPP := Lib.hid hp
      clear hp
      obtain ⟨wo, hwo⟩ : ∃ wo, wo = wr := ⟨wr, rfl⟩
      subst hwo
      obtain ⟨o0, ho1, ho2⟩ := hw.out
      have HK0 : Hid (∃ o, TimesK 1000000000 la lb k 0 0 o ∧ OwnsN .u64 164 wo (.slice (some ⟨ob, 0, none⟩) N N) o) := ⟨o0, ho1.inner (by omega), ho2⟩
      clear ho1 ho2 hw
      go_wp2
      go_loopw [8, 26] (fun c i wr => ∃ (m cc : Nat), m ≤ lb.length ∧ i = .int .i64 m ∧ c = .int .u64 cc ∧ Hid (∃ o, TimesK 1000000000 la lb k m cc o ∧ OwnsN .u64 164 wr (.slice (some ⟨ob, 0, none⟩) N N) o) ∧ Ext w wr) (fun _ i _ => lb.length - (intOf i).toNat)
      case atStart => exact ⟨0, 0, by omega, rfl, rfl, HK0.out, he⟩
      case round =>
        obtain ⟨m, cc, hm, rfl, rfl, hw, he⟩ := hrel
        obtain ⟨o, ho1, ho2⟩ := hw.out
        have HO := Lib.hid ho2
        have HP := Lib.hid ho1
        have HOL := Lib.hid ho1.len
        have hcc := ho1.cB
        clear ho1 ho2 hw
        by_cases h2 : m < lb.length
        · obtain ⟨q, hq⟩ : ∃ q, q = lb.getD m 0 := ⟨_, rfl⟩
          have hqb : q < 1000000000 := by rw [hq]; exact okB_getD OB.out (by omega) m
          obtain ⟨b2, o2, ha2, q1⟩ := HB.out.ext he m h2
          subst ha2
          rw [← hq] at q1
          have hkm : k + m < o.length := by have := HOL.out; omega
          obtain ⟨s1, s2⟩ := HO.out.at hkm
          have hnx := HP.out.next (by omega) OA.out OB.out h1 h2
          obtain ⟨s, hs⟩ : ∃ s, s = o.getD (k + m) 0 := ⟨_, rfl⟩
          have hsb : s < 1000000000 := by rw [hs]; exact okB_getD HP.out.ok (by omega) _
          rw [← hs] at s1 hnx
          rw [← HPP.out, ← hq] at hnx
          have hpq : p * q ≤ 999999999 * 999999999 := Nat.mul_le_mul (by omega) (by omega)
          obtain ⟨z, hz⟩ : ∃ z, z = p * q := ⟨_, rfl⟩
          rw [← hz] at hpq hnx
          obtain ⟨r, hr⟩ : ∃ r, r = (cc + s + z) % 1000000000 := ⟨_, rfl⟩
          obtain ⟨d, hd⟩ : ∃ d, d = (cc + s + z) / 1000000000 := ⟨_, rfl⟩
          rw [← hr, ← hd] at hnx
          have HN := Lib.hid hnx.2
          have hw1 : IntKind.u64.wrap ((p : Int) * (q : Int)) = (z : Int) := by
            rw [← Int.natCast_mul, ← hz, IntKind.wrap_u64]; omega
          have hw2 : IntKind.u64.wrap ((s : Int) + (z : Int)) = (s : Int) + (z : Int) := by rw [IntKind.wrap_u64]; omega
          have hw3 : IntKind.u64.wrap ((cc : Int) + ((s : Int) + (z : Int))) = (cc : Int) + ((s : Int) + (z : Int)) := by rw [IntKind.wrap_u64]; omega
          have ht1 : ((cc : Int) + ((s : Int) + (z : Int))).tmod 1000000000 = (r : Int) := by rw [Int.tmod_eq_emod_of_nonneg (by omega)]; omega
          have ht2 : ((cc : Int) + ((s : Int) + (z : Int))).tdiv 1000000000 = (d : Int) := by rw [Int.tdiv_eq_ediv_of_nonneg (by omega)]; omega
          have hw4 : IntKind.u64.wrap (d : Int) = (d : Int) := by rw [IntKind.wrap_u64]; omega
          have HO2 := Lib.hid (HO.out.set (k + m) r)
          have E2 : Ext w (wr.setCell ⟨ob, k + m, none⟩ (.int .u64 (r : Int))) := Ext.set he (by rw [HOB.out]; exact Nat.le_refl _) _
          have hkN : k + m < N := by have := HNN.out; omega
          clear hnx hr hd hz hs hpq hq HO HP
          go_wp2
          trace_state
          refine ⟨⟨m + 1, d, by omega, by go_num, rfl, ⟨_, HN.out, HO2.out⟩, E2⟩, by simp [intOf]; omega⟩
        · have hml : m = lb.length := by omega
          have hP := HP.out
          rw [hml] at hP
          have HN := Lib.hid (hP.outer h1)
          have hkm : k + lb.length < o.length := by have := HOL.out; omega
          obtain ⟨s1, s2⟩ := HO.out.at hkm
          have HO2 := Lib.hid (HO.out.set (k + lb.length) cc)
          have E2 : Ext w (wr.setCell ⟨ob, k + lb.length, none⟩ (.int .u64 (cc : Int))) := Ext.set he (by rw [HOB.out]; exact Nat.le_refl _) _
          have hkN : k + lb.length < N := by have := HNN.out; omega
          generalize o.getD (k + lb.length) 0 = s0 at s1
          clear hP HP HO hml
          go_wp2
          refine ⟨⟨k + 1, by omega, by go_num, ⟨_, HN.out, HO2.out⟩, E2⟩, by simp [intOf]; omega⟩
    · have hkl : k = la.length := by omega
      obtain ⟨o, ho1, ho2⟩ := hw.out
      have hdone : Hid (trimL o = toB 1000000000 (x * y)) := by
        have h5 := ho1
        rw [hkl] at h5
        have h6 := h5.done (by omega)
        rw [HX.out, HY.out, valB_toB (by omega), valB_toB (by omega)] at h6
        exact h6
      have hlen := ho1.len
      have HO : Hid (OwnsN .u64 164 wr (.slice (some ⟨ob, 0, none⟩) o.length N) o) := by
        show OwnsN _ _ _ _ _
        rw [show o.length = N by rw [HNN.out, hlen]]
        exact ho2
      obtain ⟨oa, oc, hov, hoc, hor, _⟩ := HO.out.reads
      obtain ⟨e1, _, e3⟩ := Value.slice.inj hov
      subst e1 e3
      have HOR := Lib.hid hor
      have HOC := Lib.hid hoc
      have hNo : N = o.length := by rw [HNN.out, hlen]
      clear hor hoc ho1 ho2 hw hov
      rw [hNo] at HO HOR
      have hT := trimmed_any o (some ⟨ob, 0, none⟩) o.length wr HOR.out HOC.out
      rw [← hNo] at hT
      have HT := Lib.hid hT
      have HNO := Lib.hid hNo
      clear hT hNo hlen hkl
      go_wp2_with (go_at_call 126; refine HT.out.mono ?_; rintro e w5 ⟨rfl, hn5, hE5⟩)
      go_ret
      refine ⟨.slice (some ⟨ob, 0, none⟩) (trimL o).length N, rfl, ?_, ?_, he.trans hE5⟩
      · rw [← hdone.out, HNO.out]
        exact (HO.out.ext hE5).trim (by rw [← HNO.out]; exact hn5)
      · intro b hb
        cases hb
        rw [HOB.out]
        exact Nat.le_refl _
end Go.Proofs.YtbpjbhbbkonjlaaGreatDoor
namespace Go.Proofs.YtbpjbhbbkonjlaaGreatDoor
open Go.RowKit
theorem trimL_same {B : Nat} (hB : 2 ≤ B) (n : Nat) : trimL (toB B n) = toB B n := by rw [trimL_toB hB (okB_toB hB n), valB_toB hB]
structure PlusWR (la lb : List Nat) (w0 : World) (i c : Nat) (v : Value) (w : World) : Prop where
  ex : ∃ o, PlusI 1000000 la lb i c o ∧ OwnsN .i64 3 w v o ∧ (i ≤ plusM la lb ∨ (i = plusM la lb + 1 ∧ c = 0 ∧ 1000000 ^ (i - 1) ≤ valB 1000000 o))
  new : ∀ b, v.ownBlock = some b → w0.heap.size ≤ b
theorem PlusWR.done {la lb : List Nat} {w0 w : World} {i : Nat} {v : Value} {x y : Nat} (h : PlusWR la lb w0 i 0 v w) (hi : plusM la lb ≤ i)
    (ha : la = toB 1000000 x) (hb : lb = toB 1000000 y) : OwnsN .i64 3 w v (toB 1000000 (x + y)) := by
  obtain ⟨o, h1, h2, h3⟩ := h.ex
  have hM : la.length ≤ plusM la lb ∧ lb.length ≤ plusM la lb := ⟨Nat.le_max_left _ _, Nat.le_max_right _ _⟩
  have e := h1.done (by omega) (ha ▸ trim_toB (by omega) x) (hb ▸ trim_toB (by omega) y) ⟨by omega, by omega⟩ (by
    rcases h3 with h3 | h3
    · exact .inl (by unfold plusM at *; omega)
    · exact .inr h3.2.2)
  rw [ha, hb, valB_toB (by omega), valB_toB (by omega)] at e
  rw [← e]; exact h2
theorem PlusWR.step {la lb o : List Nat} {w0 w' : World} {i c : Nat} {v' : Value} (h1 : PlusI 1000000 la lb i c o)
    (h3 : i ≤ plusM la lb ∨ (i = plusM la lb + 1 ∧ c = 0 ∧ 1000000 ^ (i - 1) ≤ valB 1000000 o)) (ha : OkB 1000000 la) (hb : OkB 1000000 lb)
    (hgo : i < plusM la lb ∨ 0 < c) {r d : Nat} (hr : r = (c + la.getD i 0 + lb.getD i 0) % 1000000) (hd : d = (c + la.getD i 0 + lb.getD i 0) / 1000000)
    (hown : OwnsN .i64 3 w' v' (o ++ [r])) (hnew : ∀ b, v'.ownBlock = some b → w0.heap.size ≤ b) : PlusWR la lb w0 (i + 1) d v' w' := by
  subst hr hd
  refine ⟨⟨_, h1.next (by omega) ha hb, hown, ?_⟩, hnew⟩
  have hc := h1.c1
  by_cases hi : i < plusM la lb
  · exact .inl hi
  · have hia : la.length ≤ i := by unfold plusM at hi; omega
    have hib : lb.length ≤ i := by unfold plusM at hi; omega
    have e1 : la.getD i 0 = 0 := by rw [List.getD_eq_getElem?_getD, List.getElem?_eq_none hia]; rfl
    have e2 : lb.getD i 0 = 0 := by rw [List.getD_eq_getElem?_getD, List.getElem?_eq_none hib]; rfl
    rcases h3 with h3 | h3
    · right
      have e3 : c = 1 := by omega
      rw [e1, e2, e3]
      refine ⟨by omega, by decide, ?_⟩
      rw [valB_snoc, h1.len]
      have : (1 + 0 + 0) % 1000000 = 1 := by decide
      rw [this]
      simp
    · omega
set_option maxHeartbeats 8000000 in
set_option maxRecDepth 100000 in
theorem plusR_any (x y : Nat) (la lb : List Nat) (a b : Option Addr) (ca cb : Nat) (w : World) (hx : la = toB 1000000 x) (hy : lb = toB 1000000 y)
    (hla : la.length ≤ 200) (hlb : lb.length ≤ 200) (ha : CellsN .i64 w a la) (hb : CellsN .i64 w b lb) :
    Calls Tryz.prog 77 #[.slice a la.length ca, .slice b lb.length cb] w (OwnNPost .i64 3 (toB 1000000 (x + y)) w) := by
  have HA := Lib.hid ha
  have HB := Lib.hid hb
  have HX := Lib.hid hx
  have HY := Lib.hid hy
  have OA : Hid (OkB 1000000 la) := by show OkB _ _; rw [hx]; exact okB_toB (by omega) x
  have OB : Hid (OkB 1000000 lb) := by show OkB _ _; rw [hy]; exact okB_toB (by omega) y
  clear ha hb hx hy
  obtain ⟨M, hM⟩ : ∃ M, M = plusM la lb := ⟨_, rfl⟩
  have hM1 : la.length ≤ M := by rw [hM]; exact Nat.le_max_left _ _
  have hM2 : lb.length ≤ M := by rw [hM]; exact Nat.le_max_right _ _
  have hM3 : max (la.length : Int) (lb.length : Int) = (M : Int) := by rw [hM]; unfold plusM; omega
  have hM4 : M ≤ 200 := by rw [hM]; unfold plusM; omega
  have HM := Lib.hid hM
  clear hM
  obtain ⟨i0, hi, hi0, hi1, hi2⟩ := info_parts infoI64
  go_enter Tryz.func77, Tryz.ntmps77
  go_wp2
  go_loopw [5, 6, 7] (fun v c i wr => ∃ (k cc : Nat) (vv : Value), k ≤ M + 1 ∧ cc ≤ 1 ∧ i = .int .i64 k ∧ c = .int .i64 (cc : Nat) ∧ v = vv ∧ Hid (PlusWR la lb w k cc vv wr) ∧ Ext w wr) (fun _ c i _ => 2 * (M + 1 - (intOf i).toNat) + (intOf c).toNat)
  case atStart => exact ⟨0, 0, _, by omega, by omega, rfl, rfl, rfl, ⟨⟨[], PlusI.start _ _ _, OwnsN.nil _ _ _, .inl (Nat.zero_le _)⟩, fun b hb => by cases hb⟩, Ext.refl _⟩
  case round =>
    obtain ⟨k, cc, vv, hk, hcc, rfl, rfl, hvv, hw, he⟩ := hrel
    obtain rfl := hvv.symm
    obtain ⟨⟨o, ho1, ho2, ho3⟩, hnw⟩ := hw.out
    have HO := Lib.hid ho2
    have HP := Lib.hid ho1
    have HC := Lib.hid ho3
    have HN := Lib.hid hnw
    have HOL := Lib.hid ho1.len
    have hol : o.length ≤ 201 := by have := ho1.len; omega
    clear ho1 ho2 ho3 hnw
    by_cases hgo : k < M ∨ 0 < cc
    · clear hw
      obtain ⟨p, hp⟩ : ∃ p, p = la.getD k 0 := ⟨_, rfl⟩
      obtain ⟨q, hq⟩ : ∃ q, q = lb.getD k 0 := ⟨_, rfl⟩
      have hpb : p < 1000000 := by rw [hp]; exact okB_getD OA.out (by omega) k
      have hqb : q < 1000000 := by rw [hq]; exact okB_getD OB.out (by omega) k
      have hp0 : ¬ k < la.length → p = 0 := fun h => by rw [hp, List.getD_eq_getElem?_getD, List.getElem?_eq_none (by omega)]; rfl
      have hq0 : ¬ k < lb.length → q = 0 := fun h => by rw [hq, List.getD_eq_getElem?_getD, List.getElem?_eq_none (by omega)]; rfl
      obtain ⟨r, hr⟩ : ∃ r, r = (cc + p + q) % 1000000 := ⟨_, rfl⟩
      obtain ⟨d, hd⟩ : ∃ d, d = (cc + p + q) / 1000000 := ⟨_, rfl⟩
      have hd1 : d ≤ 1 := by omega
      have hw1 : IntKind.i64.wrap ((cc : Int) + (p : Int)) = (cc : Int) + (p : Int) := by rw [IntKind.wrap_i64]; omega
      have hw2 : IntKind.i64.wrap ((cc : Int) + (p : Int) + (q : Int)) = (cc : Int) + (p : Int) + (q : Int) := by rw [IntKind.wrap_i64]; omega
      have ht1 : ((cc : Int) + (p : Int) + (q : Int)).tmod 1000000 = (r : Int) := by rw [Int.tmod_eq_emod_of_nonneg (by omega)]; omega
      have ht2 : ((cc : Int) + (p : Int) + (q : Int)).tdiv 1000000 = (d : Int) := by rw [Int.tdiv_eq_ediv_of_nonneg (by omega)]; omega
      have HR : Hid (r = (cc + la.getD k 0 + lb.getD k 0) % 1000000 ∧ d = (cc + la.getD k 0 + lb.getD k 0) / 1000000) := by
        show _ ∧ _; rw [← hp, ← hq]; exact ⟨hr, hd⟩
      have hmd : 2 * (M + 1 - (k + 1)) + d < 2 * (M + 1 - k) + cc := by omega
      have hkM : k + 1 ≤ M + 1 := by
        have h9 := HC.out
        rw [← HM.out] at h9
        omega
      clear hr hd
      by_cases h1 : k < la.length
      · obtain ⟨b1, o1, ha1, p1⟩ := HA.out.ext he k h1
        subst ha1
        rw [← hp] at p1
        clear hp hp0
        by_cases h2 : k < lb.length
        · obtain ⟨b2, o2, ha2, q1⟩ := HB.out.ext he k h2
          subst ha2
          rw [← hq] at q1
          clear hq hq0
          go_wp2_with (at_builtin; refine wpList_append1 _ rfl _ _ 103 rfl 3 i0 (.int .i64 0) 1 8 Tryz.underlying103 hi hi0 hi1 hi2 rfl (by decide) vv o.length (natsV .i64 o) rfl (HO.out.ext ((Ext.refl _).alloc _)) ⟨wr.heap.size, 0, none⟩ 1 1 (by decide) [.int .i64 (r : Int)] rfl rfl (cells_one _ _ _) (by intro u hu; simp at hu; subst hu; rfl) (by unfold maxLen; omega) (by omega) ?_)
          all_goals
            intro v' w5 hown5 hend5
            have OB5 : Hid (∀ b, v'.ownBlock = some b → w.heap.size ≤ b) := hend5.ge (n := w.heap.size) (by have := he.size; simp; omega) HN.out
            have O5 : Hid (PlusWR la lb w (k + 1) d v' w5) := PlusWR.step HP.out HC.out OA.out OB.out (by rw [← HM.out]; exact hgo) HR.out.1 HR.out.2 (ownsN_succ hown5) OB5.out
            have B5 : Ext w w5 := (he.trans ((Ext.refl _).alloc _)).trans' (hend5.below (n := w.heap.size) (by have := he.size; simp; omega) HN.out) (Nat.le_refl _)
            clear hown5 hend5 HO HP HC
            go_wp2
            refine ⟨⟨k + 1, d, v', hkM, hd1, by go_num, rfl, rfl, O5, B5⟩, by simp [intOf]; omega⟩
        · have hqz := hq0 h2
          subst hqz
          clear hq hq0
          rw [Int.natCast_zero, Int.add_zero] at hw2 ht1 ht2
          go_wp2_with (at_builtin; refine wpList_append1 _ rfl _ _ 103 rfl 3 i0 (.int .i64 0) 1 8 Tryz.underlying103 hi hi0 hi1 hi2 rfl (by decide) vv o.length (natsV .i64 o) rfl (HO.out.ext ((Ext.refl _).alloc _)) ⟨wr.heap.size, 0, none⟩ 1 1 (by decide) [.int .i64 (r : Int)] rfl rfl (cells_one _ _ _) (by intro u hu; simp at hu; subst hu; rfl) (by unfold maxLen; omega) (by omega) ?_)
          all_goals
            intro v' w5 hown5 hend5
            have OB5 : Hid (∀ b, v'.ownBlock = some b → w.heap.size ≤ b) := hend5.ge (n := w.heap.size) (by have := he.size; simp; omega) HN.out
            have O5 : Hid (PlusWR la lb w (k + 1) d v' w5) := PlusWR.step HP.out HC.out OA.out OB.out (by rw [← HM.out]; exact hgo) HR.out.1 HR.out.2 (ownsN_succ hown5) OB5.out
            have B5 : Ext w w5 := (he.trans ((Ext.refl _).alloc _)).trans' (hend5.below (n := w.heap.size) (by have := he.size; simp; omega) HN.out) (Nat.le_refl _)
            clear hown5 hend5 HO HP HC
            go_wp2
            refine ⟨⟨k + 1, d, v', hkM, hd1, by go_num, rfl, rfl, O5, B5⟩, by simp [intOf]; omega⟩
      · have hpz := hp0 h1
        subst hpz
        clear hp hp0
        rw [Int.natCast_zero, Int.add_zero] at hw1 hw2 ht1 ht2
        by_cases h2 : k < lb.length
        · obtain ⟨b2, o2, ha2, q1⟩ := HB.out.ext he k h2
          subst ha2
          rw [← hq] at q1
          clear hq hq0
          go_wp2_with (at_builtin; refine wpList_append1 _ rfl _ _ 103 rfl 3 i0 (.int .i64 0) 1 8 Tryz.underlying103 hi hi0 hi1 hi2 rfl (by decide) vv o.length (natsV .i64 o) rfl (HO.out.ext ((Ext.refl _).alloc _)) ⟨wr.heap.size, 0, none⟩ 1 1 (by decide) [.int .i64 (r : Int)] rfl rfl (cells_one _ _ _) (by intro u hu; simp at hu; subst hu; rfl) (by unfold maxLen; omega) (by omega) ?_)
          all_goals
            intro v' w5 hown5 hend5
            have OB5 : Hid (∀ b, v'.ownBlock = some b → w.heap.size ≤ b) := hend5.ge (n := w.heap.size) (by have := he.size; simp; omega) HN.out
            have O5 : Hid (PlusWR la lb w (k + 1) d v' w5) := PlusWR.step HP.out HC.out OA.out OB.out (by rw [← HM.out]; exact hgo) HR.out.1 HR.out.2 (ownsN_succ hown5) OB5.out
            have B5 : Ext w w5 := (he.trans ((Ext.refl _).alloc _)).trans' (hend5.below (n := w.heap.size) (by have := he.size; simp; omega) HN.out) (Nat.le_refl _)
            clear hown5 hend5 HO HP HC
            go_wp2
            refine ⟨⟨k + 1, d, v', hkM, hd1, by go_num, rfl, rfl, O5, B5⟩, by simp [intOf]; omega⟩
        · have hqz := hq0 h2
          subst hqz
          clear hq hq0
          rw [Int.natCast_zero, Int.add_zero] at hw2 ht1 ht2
          go_wp2_with (at_builtin; refine wpList_append1 _ rfl _ _ 103 rfl 3 i0 (.int .i64 0) 1 8 Tryz.underlying103 hi hi0 hi1 hi2 rfl (by decide) vv o.length (natsV .i64 o) rfl (HO.out.ext ((Ext.refl _).alloc _)) ⟨wr.heap.size, 0, none⟩ 1 1 (by decide) [.int .i64 (r : Int)] rfl rfl (cells_one _ _ _) (by intro u hu; simp at hu; subst hu; rfl) (by unfold maxLen; omega) (by omega) ?_)
          all_goals
            intro v' w5 hown5 hend5
            have OB5 : Hid (∀ b, v'.ownBlock = some b → w.heap.size ≤ b) := hend5.ge (n := w.heap.size) (by have := he.size; simp; omega) HN.out
            have O5 : Hid (PlusWR la lb w (k + 1) d v' w5) := PlusWR.step HP.out HC.out OA.out OB.out (by rw [← HM.out]; exact hgo) HR.out.1 HR.out.2 (ownsN_succ hown5) OB5.out
            have B5 : Ext w w5 := (he.trans ((Ext.refl _).alloc _)).trans' (hend5.below (n := w.heap.size) (by have := he.size; simp; omega) HN.out) (Nat.le_refl _)
            clear hown5 hend5 HO HP HC
            go_wp2
            refine ⟨⟨k + 1, d, v', hkM, hd1, by go_num, rfl, rfl, O5, B5⟩, by simp [intOf]; omega⟩
    · have h9 := HC.out
      have hk2 : M ≤ k := by omega
      have hc0 : cc = 0 := by omega
      subst hc0
      have HF : Hid (OwnsN .i64 3 wr vv (toB 1000000 (x + y))) := hw.out.done (by rw [← HM.out]; exact hk2) HX.out HY.out
      clear h9 hgo hw HO
      obtain ⟨oa, oc, hov, hoc, hor, _⟩ := HF.out.reads
      subst hov
      have HT := Lib.hid (trimR_any (toB 1000000 (x + y)) oa oc wr hor hoc)
      have HS : Hid (trimL (toB 1000000 (x + y)) = toB 1000000 (x + y)) := trimL_same (by omega) _
      rw [HS.out] at HT
      clear hor hoc
      go_wp2_with (go_at_call 75; refine HT.out.mono ?_; rintro e w5 ⟨rfl, hn5, hE5⟩)
      all_goals go_ret
      all_goals exact ⟨.slice oa (toB 1000000 (x + y)).length oc, rfl, HF.out.ext hE5, HN.out, he.trans hE5⟩
end Go.Proofs.YtbpjbhbbkonjlaaGreatDoor
namespace Go.Proofs.YtbpjbhbbkonjlaaGreatDoor
open Go.RowKit
set_option maxHeartbeats 8000000 in
set_option maxRecDepth 100000 in
theorem lessR_any (x y : Nat) (la lb : List Nat) (a b : Option Addr) (ca cb : Nat) (w : World) (hx : la = toB 1000000 x) (hy : lb = toB 1000000 y) (hyx : y ≤ x)
    (hla : la.length ≤ 200) (ha : CellsN .i64 w a la) (hb : CellsN .i64 w b lb) :
    Calls Tryz.prog 78 #[.slice a la.length ca, .slice b lb.length cb] w (OwnNPost .i64 3 (toB 1000000 (x - y)) w) := by
  have hlb : lb.length ≤ la.length := valB_le_len (B := 1000000) (by rw [hx]; exact okB_toB (by omega) x) (by rw [hy]; exact trim_toB (by omega) y) (by rw [hx, hy, valB_toB (by omega), valB_toB (by omega)]; exact hyx) (by omega)
  have HA := Lib.hid ha
  have HB := Lib.hid hb
  have HX := Lib.hid hx
  have HY := Lib.hid hy
  have HYX := Lib.hid hyx
  have OA : Hid (OkB 1000000 la) := by show OkB _ _; rw [hx]; exact okB_toB (by omega) x
  have OB : Hid (OkB 1000000 lb) := by show OkB _ _; rw [hy]; exact okB_toB (by omega) y
  clear ha hb hx hy hyx
  obtain ⟨i0, hi, hi0, hi1, hi2⟩ := info_parts infoI64
  go_enter Tryz.func78, Tryz.ntmps78
  go_wp2
  go_loopw [5, 6, 7] (fun v c i wr => ∃ (k br : Nat) (vv : Value), k ≤ la.length ∧ br ≤ 1 ∧ i = .int .i64 k ∧ c = .int .i64 br ∧ v = vv ∧ Hid (∃ o, MinusI 1000000 la lb k br o ∧ OwnsN .i64 3 wr vv o) ∧ Hid (∀ b, vv.ownBlock = some b → w.heap.size ≤ b) ∧ Ext w wr) (fun _ _ i _ => la.length - (intOf i).toNat)
  case atStart => exact ⟨0, 0, _, by omega, by omega, rfl, rfl, rfl, ⟨[], MinusI.start _ _ _, OwnsN.nil _ _ _⟩, (fun b hb => by cases hb), Ext.refl _⟩
  case round =>
    obtain ⟨k, br, vv, hk, hbr, rfl, rfl, hvv, hw, HN, he⟩ := hrel
    obtain rfl := hvv.symm
    obtain ⟨o, ho1, ho2⟩ := hw.out
    have HO := Lib.hid ho2
    have HP := Lib.hid ho1
    have HOL := Lib.hid ho1.len
    have hol : o.length ≤ 200 := by have := ho1.len; omega
    clear ho1 ho2 hw
    by_cases h1 : k < la.length
    · obtain ⟨p, hp⟩ : ∃ p, p = la.getD k 0 := ⟨_, rfl⟩
      obtain ⟨q, hq⟩ : ∃ q, q = lb.getD k 0 := ⟨_, rfl⟩
      have hpb : p < 1000000 := by rw [hp]; exact okB_getD OA.out (by omega) k
      have hqb : q < 1000000 := by rw [hq]; exact okB_getD OB.out (by omega) k
      have hq0 : ¬ k < lb.length → q = 0 := fun h => by rw [hq, List.getD_eq_getElem?_getD, List.getElem?_eq_none (by omega)]; rfl
      obtain ⟨b1, o1, ha1, p1⟩ := HA.out.ext he k h1
      subst ha1
      rw [← hp] at p1
      by_cases h2 : k < lb.length
      · obtain ⟨b2, o2, ha2, q1⟩ := HB.out.ext he k h2
        subst ha2
        rw [← hq] at q1
        clear hq0
        by_cases hlt : p < br + q
        · obtain ⟨d, hd⟩ : ∃ d, d = p + 1000000 - (br + q) := ⟨_, rfl⟩
          have hw1 : IntKind.i64.wrap ((p : Int) - (br : Int)) = (p : Int) - (br : Int) := by rw [IntKind.wrap_i64]; omega
          have hw2 : IntKind.i64.wrap ((p : Int) - (br : Int) - (q : Int)) = (p : Int) - (br : Int) - (q : Int) := by rw [IntKind.wrap_i64]; omega
          have hlt2 : (p : Int) - (br : Int) - (q : Int) < 0 := by omega
          have hw3 : IntKind.i64.wrap ((p : Int) - (br : Int) - (q : Int) + 1000000) = (d : Int) := by rw [IntKind.wrap_i64]; omega
          have HE : Hid (d + lb.getD k 0 + br = la.getD k 0 + 1000000 * 1) := by show _ = _; rw [← hp, ← hq]; omega
          have hdb : d < 1000000 := by omega
          clear hd hp hq
          go_wp2_with (at_builtin; refine wpList_append1 _ rfl _ _ 103 rfl 3 i0 (.int .i64 0) 1 8 Tryz.underlying103 hi hi0 hi1 hi2 rfl (by decide) vv o.length (natsV .i64 o) rfl (HO.out.ext ((Ext.refl _).alloc _)) ⟨wr.heap.size, 0, none⟩ 1 1 (by decide) [.int .i64 (d : Int)] rfl rfl (cells_one _ _ _) (by intro u hu; simp at hu; subst hu; rfl) (by unfold maxLen; omega) (by omega) ?_)
          all_goals
            intro v' w5 hown5 hend5
            have OB5 : Hid (∀ b, v'.ownBlock = some b → w.heap.size ≤ b) := hend5.ge (n := w.heap.size) (by have := he.size; simp; omega) HN.out
            have O5 : Hid (∃ o, MinusI 1000000 la lb (k + 1) 1 o ∧ OwnsN .i64 3 w5 v' o) := ⟨_, HP.out.next (d := d) (br' := 1) (by omega) (by omega) HE.out, ownsN_succ hown5⟩
            have B5 : Ext w w5 := (he.trans ((Ext.refl _).alloc _)).trans' (hend5.below (n := w.heap.size) (by have := he.size; simp; omega) HN.out) (Nat.le_refl _)
            clear hown5 hend5 HO HP
            go_wp2
            refine ⟨⟨k + 1, 1, v', by omega, by omega, by go_num, rfl, rfl, O5, OB5, B5⟩, by simp [intOf]; omega⟩
        · obtain ⟨d, hd⟩ : ∃ d, d = p - (br + q) := ⟨_, rfl⟩
          have hw1 : IntKind.i64.wrap ((p : Int) - (br : Int)) = (p : Int) - (br : Int) := by rw [IntKind.wrap_i64]; omega
          have hw2 : IntKind.i64.wrap ((p : Int) - (br : Int) - (q : Int)) = (d : Int) := by rw [IntKind.wrap_i64]; omega
          have hlt2 : ¬ ((d : Int) < 0) := by omega
          have HE : Hid (d + lb.getD k 0 + br = la.getD k 0 + 1000000 * 0) := by show _ = _; rw [← hp, ← hq]; omega
          have hdb : d < 1000000 := by omega
          clear hd hp hq
          go_wp2_with (at_builtin; refine wpList_append1 _ rfl _ _ 103 rfl 3 i0 (.int .i64 0) 1 8 Tryz.underlying103 hi hi0 hi1 hi2 rfl (by decide) vv o.length (natsV .i64 o) rfl (HO.out.ext ((Ext.refl _).alloc _)) ⟨wr.heap.size, 0, none⟩ 1 1 (by decide) [.int .i64 (d : Int)] rfl rfl (cells_one _ _ _) (by intro u hu; simp at hu; subst hu; rfl) (by unfold maxLen; omega) (by omega) ?_)
          all_goals
            intro v' w5 hown5 hend5
            have OB5 : Hid (∀ b, v'.ownBlock = some b → w.heap.size ≤ b) := hend5.ge (n := w.heap.size) (by have := he.size; simp; omega) HN.out
            have O5 : Hid (∃ o, MinusI 1000000 la lb (k + 1) 0 o ∧ OwnsN .i64 3 w5 v' o) := ⟨_, HP.out.next (d := d) (br' := 0) (by omega) (by omega) HE.out, ownsN_succ hown5⟩
            have B5 : Ext w w5 := (he.trans ((Ext.refl _).alloc _)).trans' (hend5.below (n := w.heap.size) (by have := he.size; simp; omega) HN.out) (Nat.le_refl _)
            clear hown5 hend5 HO HP
            go_wp2
            refine ⟨⟨k + 1, 0, v', by omega, by omega, by go_num, rfl, rfl, O5, OB5, B5⟩, by simp [intOf]; omega⟩
      · have hqz := hq0 h2
        clear hq0
        by_cases hlt : p < br
        · obtain ⟨d, hd⟩ : ∃ d, d = p + 1000000 - (br) := ⟨_, rfl⟩
          have hw1 : IntKind.i64.wrap ((p : Int) - (br : Int)) = (p : Int) - (br : Int) := by rw [IntKind.wrap_i64]; omega
          have hlt2 : (p : Int) - (br : Int) < 0 := by omega
          have hw3 : IntKind.i64.wrap ((p : Int) - (br : Int) + 1000000) = (d : Int) := by rw [IntKind.wrap_i64]; omega
          have HE : Hid (d + lb.getD k 0 + br = la.getD k 0 + 1000000 * 1) := by show _ = _; rw [← hp, ← hq]; omega
          have hdb : d < 1000000 := by omega
          clear hd hp hq
          go_wp2_with (at_builtin; refine wpList_append1 _ rfl _ _ 103 rfl 3 i0 (.int .i64 0) 1 8 Tryz.underlying103 hi hi0 hi1 hi2 rfl (by decide) vv o.length (natsV .i64 o) rfl (HO.out.ext ((Ext.refl _).alloc _)) ⟨wr.heap.size, 0, none⟩ 1 1 (by decide) [.int .i64 (d : Int)] rfl rfl (cells_one _ _ _) (by intro u hu; simp at hu; subst hu; rfl) (by unfold maxLen; omega) (by omega) ?_)
          all_goals
            intro v' w5 hown5 hend5
            have OB5 : Hid (∀ b, v'.ownBlock = some b → w.heap.size ≤ b) := hend5.ge (n := w.heap.size) (by have := he.size; simp; omega) HN.out
            have O5 : Hid (∃ o, MinusI 1000000 la lb (k + 1) 1 o ∧ OwnsN .i64 3 w5 v' o) := ⟨_, HP.out.next (d := d) (br' := 1) (by omega) (by omega) HE.out, ownsN_succ hown5⟩
            have B5 : Ext w w5 := (he.trans ((Ext.refl _).alloc _)).trans' (hend5.below (n := w.heap.size) (by have := he.size; simp; omega) HN.out) (Nat.le_refl _)
            clear hown5 hend5 HO HP
            go_wp2
            refine ⟨⟨k + 1, 1, v', by omega, by omega, by go_num, rfl, rfl, O5, OB5, B5⟩, by simp [intOf]; omega⟩
        · obtain ⟨d, hd⟩ : ∃ d, d = p - (br) := ⟨_, rfl⟩
          have hw2 : IntKind.i64.wrap ((p : Int) - (br : Int)) = (d : Int) := by rw [IntKind.wrap_i64]; omega
          have hlt2 : ¬ ((d : Int) < 0) := by omega
          have HE : Hid (d + lb.getD k 0 + br = la.getD k 0 + 1000000 * 0) := by show _ = _; rw [← hp, ← hq]; omega
          have hdb : d < 1000000 := by omega
          clear hd hp hq
          go_wp2_with (at_builtin; refine wpList_append1 _ rfl _ _ 103 rfl 3 i0 (.int .i64 0) 1 8 Tryz.underlying103 hi hi0 hi1 hi2 rfl (by decide) vv o.length (natsV .i64 o) rfl (HO.out.ext ((Ext.refl _).alloc _)) ⟨wr.heap.size, 0, none⟩ 1 1 (by decide) [.int .i64 (d : Int)] rfl rfl (cells_one _ _ _) (by intro u hu; simp at hu; subst hu; rfl) (by unfold maxLen; omega) (by omega) ?_)
          all_goals
            intro v' w5 hown5 hend5
            have OB5 : Hid (∀ b, v'.ownBlock = some b → w.heap.size ≤ b) := hend5.ge (n := w.heap.size) (by have := he.size; simp; omega) HN.out
            have O5 : Hid (∃ o, MinusI 1000000 la lb (k + 1) 0 o ∧ OwnsN .i64 3 w5 v' o) := ⟨_, HP.out.next (d := d) (br' := 0) (by omega) (by omega) HE.out, ownsN_succ hown5⟩
            have B5 : Ext w w5 := (he.trans ((Ext.refl _).alloc _)).trans' (hend5.below (n := w.heap.size) (by have := he.size; simp; omega) HN.out) (Nat.le_refl _)
            clear hown5 hend5 HO HP
            go_wp2
            refine ⟨⟨k + 1, 0, v', by omega, by omega, by go_num, rfl, rfl, O5, OB5, B5⟩, by simp [intOf]; omega⟩
    · have hkl : k = la.length := by omega
      have hdone : Hid (trimL o = toB 1000000 (x - y)) := by
        have h5 := HP.out
        rw [hkl] at h5
        have h6 := h5.done (by omega) OA.out (by rw [HY.out]; exact trim_toB (by omega) y) (by rw [HX.out, HY.out, valB_toB (by omega), valB_toB (by omega)]; exact HYX.out)
        rw [HX.out, HY.out, valB_toB (by omega), valB_toB (by omega)] at h6
        exact h6
      obtain ⟨oa, oc, hov, hoc, hor, _⟩ := HO.out.reads
      subst hov
      have HOR := Lib.hid hor
      have HOC := Lib.hid hoc
      clear hor hoc
      have HN2 : Hid (∀ b, (Value.slice oa (trimL o).length oc).ownBlock = some b → w.heap.size ≤ b) := fun b hb => HN.out b (by cases oa <;> exact hb)
      go_wp2_with (go_at_call 75; refine (trimR_any o oa oc wr HOR.out HOC.out).mono ?_; rintro e w5 ⟨rfl, hn5, hE5⟩)
      go_ret
      refine ⟨.slice oa (trimL o).length oc, rfl, ?_, HN2.out, he.trans hE5⟩
      · rw [← hdone.out]
        exact (HO.out.ext hE5).trim hn5
end Go.Proofs.YtbpjbhbbkonjlaaGreatDoor
namespace Go.Proofs.YtbpjbhbbkonjlaaGreatDoor
open Go.RowKit
theorem Kept.cell {Kd : Nat → Prop} {n : Nat} {A B : World} (h : Kept Kd n A B) {p : Addr} {v : Value} (hk : Kd p.block) (hc : A.cell? p = some v) : B.cell? p = some v := by
  have hlt := cell_lt hc
  obtain ⟨o, ho⟩ : ∃ o, A.heap[p.block]? = some o := ⟨_, Array.getElem?_eq_getElem hlt⟩
  have hr : isRec o = false := by
    cases o <;> simp [World.cell?, ho] at hc <;> rfl
  exact (World.cell?_of_block (w := A) ((h.2 _ _ hk ho (.inl hr)).trans ho.symm)).trans hc
theorem Kept.frozen {X : Nat → Prop} {n : Nat} {A B : World} (h : Kept X n A B) {p : Addr} {v : Value} (hk : X p.block) (hc : A.cell? p = some v) : B.frozen? p = A.frozen? p := by
  have hlt := cell_lt hc
  obtain ⟨o, ho⟩ : ∃ o, A.heap[p.block]? = some o := ⟨_, Array.getElem?_eq_getElem hlt⟩
  have hr : isRec o = false := by
    cases o <;> simp [World.cell?, ho] at hc <;> rfl
  exact World.frozen?_of_block (w := A) ((h.2 _ _ hk ho (.inl hr)).trans ho.symm)
def AlK (Md : Nat → Prop) (n k : Nat) : Prop := (k < n ∧ ¬ Md k) ∨ n ≤ k
theorem range_prefix {k m : Nat} (h : k < m) : List.range k ++ [k] <+: List.range m := by
  rw [← List.range_succ]
  have : List.range m = List.range (k + 1) ++ (List.range (m - (k + 1))).map (k + 1 + ·) := by
    rw [← List.range_add]; congr 1; omega
  rw [this]
  exact List.prefix_append _ _
def Old (A B : World) : Prop := ∀ (k : Nat) (o : Obj), A.heap[k]? = some o → isRec o = false → B.heap[k]? = some o
theorem Old.refl (A : World) : Old A A := fun _ _ h _ => h
theorem Old.ext {A B : World} (h : Ext A B) : Old A B := fun k o hk _ => by rw [Below.block h k (Array.getElem?_eq_some_iff.1 hk).1]; exact hk
theorem Old.trans {A B C : World} (h : Old A B) (k : Old B C) : Old A C := fun i o hi ho => k i o (h i o hi ho) ho
theorem Old.below {A B C : World} (h : Old A B) {n : Nat} (k : Below n B C) (hn : A.heap.size ≤ n) : Old A C := fun i o hi ho => by
  rw [Below.block k i (by have := (Array.getElem?_eq_some_iff.1 hi).1; omega)]; exact h i o hi ho
theorem Old.kept {A B C : World} {Md : Nat → Prop} {n : Nat} (h : Old A B) (k : Kept (AlK Md n) n B C) (hn : A.heap.size ≤ n) (hm : ∀ k, Md k → A.heap.size ≤ k) : Old A C := fun i o hi ho => by
  have hlt := (Array.getElem?_eq_some_iff.1 hi).1
  exact k.2 i o (.inl ⟨by omega, fun c => by have := hm i c; omega⟩) (h i o hi ho) (.inl ho)
theorem Old.cell {A B : World} (h : Old A B) {p : Addr} {v : Value} (hc : A.cell? p = some v) : B.cell? p = some v := by
  have hlt := cell_lt hc
  obtain ⟨o, ho⟩ : ∃ o, A.heap[p.block]? = some o := ⟨_, Array.getElem?_eq_getElem hlt⟩
  have hr : isRec o = false := by
    cases o <;> simp [World.cell?, ho] at hc <;> rfl
  exact (World.cell?_of_block (w := A) ((h _ _ ho hr).trans ho.symm)).trans hc
end Go.Proofs.YtbpjbhbbkonjlaaGreatDoor
namespace Go.Proofs.YtbpjbhbbkonjlaaGreatDoor
open Go.RowKit
attribute [local go_sem] Oper.semAt_some
theorem Backward_any (a : Option Addr) (n cap : Nat) (w : World) :
    Calls Tryz.prog 122 #[.slice a n cap] w fun e w' => e = .returned (.func (.func 159) #[] #[.pointer (some ⟨w.heap.size, 0, none⟩)]) ∧ w.alloc (.cells #[.slice a n cap] 141) = w' := by
  go_enter Tryz.func122, Tryz.ntmps122
  go_wp2
  go_ret
  exact ⟨rfl, rfl⟩
def BwK (s n : Nat) (_ k : Nat) : Prop := k = s ∨ k < n
theorem Old.keptB {A B C : World} {s n : Nat} (h : Old A B) (k : Kept (BwK s A.heap.size n) n B C) : Old A C := fun i o hi ho => by
  have hlt := (Array.getElem?_eq_some_iff.1 hi).1
  exact k.2 i o (.inr hlt) (h i o hi ho) (.inl ho)
def bwEnc (l : List Nat) (k : Nat) : Array Value := #[.int .i64 ((l.length : Int) - 1 - (k : Int)), .int .u64 (l.getD (l.length - 1 - k) 0 : Nat)]
set_option maxHeartbeats 4000000 in
set_option maxRecDepth 100000 in
theorem bw1_iter (l : List Nat) (a : Option Addr) (cap : Nat) (w0 w : World) (sb : Nat) (hl : l.length ≤ 10000)
    (hc : CellsN .u64 w0 a l) (E0 : Ext w0 w) (s2 : w.cell? ⟨sb, 0, none⟩ = some (.slice a l.length cap)) :
    Iter Tryz.prog 159 #[.pointer (some ⟨sb, 0, none⟩)] (bwEnc l) (List.range l.length) (fun _ A B => A = B) (BwK sb w0.heap.size) 0 w := by
  intro y J Jx W hW hJ hJx hY h0
  have HC := Lib.hid hc
  have s2 := hW.cell s2
  have HY := Lib.hid hY
  have O0 := Lib.hid (Old.ext (E0.trans hW))
  have hsz : w0.heap.size ≤ W.heap.size := (E0.trans hW).size
  have zs : sb < W.heap.size := cell_lt s2
  have J0 : Hid (J (List.range 0) W) := h0
  have hsub : IntKind.i64.wrap ((l.length : Int) - 1) = (l.length : Int) - 1 := IntWalk.i64_in _ (by omega)
  clear hc hY hJ hJx hW E0 h0
  refine callsIn_of_wp Tryz.func159 rfl trivial ?_ rfl
  simp only [Tryz.ntmps159, List.size_toArray, List.length_cons, List.length_nil, Nat.reduceAdd, Nat.reduceSub, Array.replicate_succ, Array.replicate_zero, List.push_toArray, List.append_toArray, List.nil_append, List.cons_append]
  gi_wp2
  gi_loopw [3] (fun i wr => ∃ (z : Int) (k : Nat), k ≤ l.length ∧ i = .int .i64 z ∧ Hid (z = (l.length : Int) - 1 - (k : Int)) ∧ Hid (J (List.range k) wr) ∧ W.heap.size ≤ wr.heap.size ∧ wr.cell? ⟨sb, 0, none⟩ = some (.slice a l.length cap) ∧ Hid (Old w0 wr)) (fun i _ => (intOf i + 1).toNat)
  case atStart => exact ⟨_, 0, by omega, rfl, by show _ = _; omega, J0, Nat.le_refl _, s2, O0⟩
  case round =>
    clear s2 J0 O0
    obtain ⟨z, k, hk, rfl, hz, hj, hzz, s2, O⟩ := hrel
    by_cases hlt : 0 ≤ z
    · obtain ⟨zn, rfl⟩ := Int.eq_ofNat_of_zero_le hlt
      have hzk : zn + 1 + k = l.length := by have := hz.out; omega
      have hzl : zn < l.length := by omega
      obtain ⟨b, off, ha, p1⟩ := HC.out zn hzl
      subst ha
      have p1 := O.out.cell p1
      have HENC : Hid (bwEnc l k = #[.int .i64 (zn : Int), .int .u64 (l.getD zn 0 : Nat)]) := by
        show _ = _
        unfold bwEnc
        rw [show l.length - 1 - k = zn from by omega, show (l.length : Int) - 1 - (k : Int) = (zn : Int) from by omega]
      have HPRE : Hid (List.range k ++ [k] <+: List.range l.length) := range_prefix (by omega)
      have hyy := HY.out (List.range k) k wr HPRE.out (by omega) hj.out
      rw [HENC.out] at hyy
      have HYY := Lib.hid hyy
      have u4 : IntKind.i64.wrap ((zn : Int) - 1) = (zn : Int) - 1 := IntWalk.i64_in _ (by omega)
      generalize l.getD zn 0 = x at p1 HYY HENC
      have z1 := cell_lt p1
      have z2 := cell_lt s2
      dsimp only at z1 z2
      clear hyy hj
      gi_wp2_with fail
      obtain ⟨fn, tmps, assign, body, hy, hR⟩ := HYY.out
      rw [hy]
      gi_wp2
      refine ⟨rfl, hR.mono ?_⟩
      clear hy hR HYY
      rintro e w3 (⟨rfl, hj3, hk3⟩ | ⟨rfl, hj3, hk3⟩)
      · have HJ3 := Lib.hid hj3
        have O3 : Hid (Old w0 w3) := O.out.keptB hk3
        have s3 := hk3.cell (p := ⟨sb, 0, none⟩) (.inl rfl) s2
        have hz3 : W.heap.size ≤ w3.heap.size := by have := hk3.1; omega
        have hzN : Hid ((zn : Int) - 1 = (l.length : Int) - 1 - ((k + 1 : Nat) : Int)) := by show _ = _; omega
        have J5 : Hid (J (List.range (k + 1)) w3) := by show J _ _; rw [List.range_succ]; exact hj3
        clear hj3 hk3 s2 O p1
        gi_wp2
        refine ⟨⟨_, k + 1, by omega, rfl, hzN, J5, hz3, s3, O3⟩, by simp [intOf]⟩
      · gi_wp2
        refine bodyPost_ret (results_none rfl _ _ _) rfl ?_
        exact ⟨⟨_, rfl⟩, .inr ⟨_, HPRE.out, hj3⟩⟩
    · have hke : k = l.length := by have := hz.out; omega
      have hj2 := hj.out
      rw [hke] at hj2
      have HJ2 := Lib.hid hj2
      clear hj hj2 hke
      gi_wp2
      go_end0
      exact ⟨⟨_, rfl⟩, .inl HJ2.out⟩
end Go.Proofs.YtbpjbhbbkonjlaaGreatDoor
namespace Go.Proofs.YtbpjbhbbkonjlaaGreatDoor
open Go.RowKit
theorem OwnNPost.ext {k : IntKind} {t : TypeId} {l : List Nat} {w w1 w' : World} {e : Ending} (h : OwnNPost k t l w1 e w') (he : Ext w w1) : OwnNPost k t l w e w' := by
  obtain ⟨v, h1, h2, h3, h4⟩ := h
  exact ⟨v, h1, h2, fun b hb => Nat.le_trans he.size (h3 b hb), he.trans h4⟩
set_option maxHeartbeats 2000000 in
theorem by_any (x n : Nat) (la : List Nat) (a : Option Addr) (ca : Nat) (w : World) (hx : la = toB 1000000000 x) (hn : n < 1000000000)
    (hla : la.length ≤ 200) (ha : CellsN .u64 w a la) :
    Calls Tryz.prog 128 #[.slice a la.length ca, .int .u64 (n : Int)] w (OwnNPost .u64 164 (toB 1000000000 (x * n)) w) := by
  by_cases h0 : n = 0
  · subst h0
    have HR : Hid (toB 1000000000 (x * 0) = []) := by show _ = _; rw [Nat.mul_zero, toB_zero]
    clear hx ha
    go_enter Tryz.func128, Tryz.ntmps128
    go_wp2
    go_ret
    rw [HR.out]
    exact ⟨.slice none 0 0, rfl, OwnsN.nil _ _ _, (fun b hb => by cases hb), extA⟩
  · have h0' : ((n : Int) == 0) = false := by rw [beq_eq_false_iff_ne]; omega
    have HT : Hid (∀ W, CellsN .u64 W a la → CellsN .u64 W (some ⟨w.heap.size, 0, none⟩) [n] → Calls Tryz.prog 105 #[.slice a la.length ca, .slice (some ⟨w.heap.size, 0, none⟩) 1 1] W (OwnNPost .u64 164 (toB 1000000000 (x * n)) W)) := fun W h1 h2 =>
      times_any x n la [n] a _ ca 1 W hx (toB_one (by omega) (by omega) hn).symm hla (by simp) h1 h2
    have HA := Lib.hid ha
    clear hx ha
    go_enter Tryz.func128, Tryz.ntmps128
    go_wp2_with fail
    refine (HT.out _ (HA.out.ext ((Ext.refl _).alloc _)) ?_).mono ?_
    · intro i hi
      have hi0 : i = 0 := by simp at hi; exact hi
      subst hi0
      exact ⟨_, 0, rfl, by go_simp⟩
    · rintro e w1 hp
      obtain ⟨v, rfl, hp1, hp2, hp3⟩ := hp.ext ((Ext.refl w).alloc _)
      have HP := Lib.hid (And.intro hp1 (And.intro hp2 hp3))
      clear hp hp1 hp2 hp3
      go_wp2
      go_ret
      exact ⟨_, rfl, HP.out.1, HP.out.2.1, HP.out.2.2⟩
end Go.Proofs.YtbpjbhbbkonjlaaGreatDoor
namespace Go.Proofs.YtbpjbhbbkonjlaaGreatDoor
open Go.RowKit
attribute [local go_sem] Oper.semAt_some
theorem results_cell1 {fn : Func} {p : Tmp} {t : TypeId} (h : fn.results = #[.cell p t]) (tmps : Array Value) (P : Program) (w : World) :
    (results fn tmps).run P w = ((asAddr (tmps.getD p undef)).run P w).andThen fun a w₁ => (loadVar t a).run P w₁ := by
  simp only [results, h]
  simp [Sem.run_bind, Result.andThen]
theorem leaves_cells {P : Program} {fn : Func} {tmps : Array Value} {R : Ending → World → Prop} {m n : Nat} {v : Value} :
    ∀ (ds : List Deferred) (w : World), Marks n ds w → (∀ w', Keep n w w' → (results fn tmps).run P w' = .ok v w' ∧ R (.returned v) w') → LeavesInM Fence.wide m P fn tmps R ds .returning w := by
  intro ds
  induction ds with
  | nil => intro w _ hR; exact ⟨v, (hR w (Keep.refl _ _)).1, (hR w (Keep.refl _ _)).2⟩
  | cons d ds ih =>
    intro w hm hR
    obtain ⟨Ds, h1, h2, h3⟩ := hm
    cases Ds with
    | nil => cases h1
    | cons D Ds =>
      simp only [List.map_cons, List.cons.injEq] at h1
      obtain ⟨rfl, rfl⟩ := h1
      have hD := h3 D (List.mem_cons_self ..)
      have hb : Keep n w (w.putObj D (.deferred none)) := Keep.turn hD.1 hD.2 rfl
      refine ⟨(by simp), .inl ⟨D, _, rfl, run_takeDeferred hD.2, ih _ ⟨Ds, rfl, (List.nodup_cons.1 h2).2, fun E hE => ⟨(h3 E (List.mem_cons_of_mem _ hE)).1, ?_⟩⟩ (fun w' hw' => hR w' (hb.trans hw'))⟩⟩
      have hne : E ≠ D := fun e => (List.nodup_cons.1 h2).1 (e ▸ hE)
      rw [World.putObj_heap_other hne]
      exact (h3 E (List.mem_cons_of_mem _ hE)).2
theorem Keep.cell {m : Nat} {A B : World} (h : Keep m A B) {p : Addr} {v : Value} (hc : A.cell? p = some v) : B.cell? p = some v := by
  have hlt := cell_lt hc
  obtain ⟨o, ho⟩ : ∃ o, A.heap[p.block]? = some o := ⟨_, Array.getElem?_eq_getElem hlt⟩
  have hr : isRec o = false := by
    cases o <;> simp [World.cell?, ho] at hc <;> rfl
  exact (World.cell?_of_block (w := A) ((h.2 _ _ ho hr).trans ho.symm)).trans hc
theorem Keep.frozen {m : Nat} {A B : World} (h : Keep m A B) {p : Addr} {v : Value} (hc : A.cell? p = some v) : B.frozen? p = A.frozen? p := by
  have hlt := cell_lt hc
  obtain ⟨o, ho⟩ : ∃ o, A.heap[p.block]? = some o := ⟨_, Array.getElem?_eq_getElem hlt⟩
  have hr : isRec o = false := by
    cases o <;> simp [World.cell?, ho] at hc <;> rfl
  exact World.frozen?_of_block (w := A) ((h.2 _ _ ho hr).trans ho.symm)
def Chg (B : Nat → Prop) (A C : World) : Prop := A.heap.size ≤ C.heap.size ∧ ∀ k, k < A.heap.size → ¬ B k → C.heap[k]? = A.heap[k]?
theorem Chg.refl (B : Nat → Prop) (A : World) : Chg B A A := ⟨Nat.le_refl _, fun _ _ _ => rfl⟩
theorem Chg.trans {B : Nat → Prop} {A C D : World} (h : Chg B A C) (k : Chg B C D) : Chg B A D :=
  ⟨Nat.le_trans h.1 k.1, fun i hi hb => (k.2 i (Nat.lt_of_lt_of_le hi h.1) hb).trans (h.2 i hi hb)⟩
theorem Chg.ext {B : Nat → Prop} {A C : World} (h : Ext A C) : Chg B A C := ⟨h.size, fun k hk _ => Below.block h k hk⟩
theorem Chg.setCell {B : Nat → Prop} {A : World} (p : Addr) (v : Value) (hb : B p.block) : Chg B A (A.setCell p v) :=
  ⟨by simp [World.setCell], fun k _ hk => Below.heap_setCell _ _ _ _ (fun e => hk (e ▸ hb))⟩
theorem Chg.app {B : Nat → Prop} {A C : World} {v v' : Value} (h : AppEnd A C v v') (hb : ∀ b, v.ownBlock = some b → B b) : Chg B A C := by
  rcases h with ⟨_, _, hg⟩ | ⟨_, he⟩
  · exact ⟨hg.size, fun k hk hn => hg.block k hk (fun e => hn (hb k e.symm))⟩
  · exact Chg.ext he
theorem Chg.kept {B X : Nat → Prop} {n : Nat} {A C : World} (h : Chg B A C) (hx : ∀ k, X k → k < A.heap.size → ¬ B k) : Kept X n A C :=
  ⟨h.1, fun k o hk ho _ => by
    have hl := (Array.getElem?_eq_some_iff.1 ho).1
    rw [h.2 k hl (hx k hk hl)]; exact ho⟩
theorem Chg.others {B : Nat → Prop} {A C : World} (h : Chg B A C) (hb : ∀ k, B k → ∀ o, A.heap[k]? = some o → o.isCells = true) : KeepsOthers A C :=
  ⟨h.1, fun k o ho hc => by
    have hl := (Array.getElem?_eq_some_iff.1 ho).1
    rw [h.2 k hl (fun hk => by rw [hb k hk o ho] at hc; cases hc)]; exact ho⟩
theorem isCells_of_cell {A : World} {p : Addr} {v : Value} (h : A.cell? p = some v) {o : Obj} (ho : A.heap[p.block]? = some o) : o.isCells = true := by
  cases o <;> simp [World.cell?, ho] at h <;> rfl
theorem rowKeep {m : Nat} {A B : World} {e : TypeId} {s : Nat} {v : Value} {n : Nat} {xs : List Value} (h : A.ownsRow 0 e s v n xs) (k : Keep m A B) : B.ownsRow 0 e s v n xs := rowSame h (fun b hb => by
  rcases h.2 with ⟨hv, _⟩ | ⟨g, c, cur, hv, _, hg, _⟩
  · rw [hv] at hb; cases hb
  · rw [hv] at hb
    cases hb
    rw [hg]
    exact k.2 g _ hg rfl)
theorem prefix_range {pre : List Nat} {x m : Nat} (h : pre ++ [x] <+: List.range m) : x = pre.length ∧ x < m := by
  obtain ⟨t, ht⟩ := h
  have hlen : pre.length < m := by
    have := congrArg List.length ht
    simp at this
    omega
  have h1 : (List.range m)[pre.length]? = some pre.length := List.getElem?_range hlen
  rw [← ht] at h1
  simp at h1
  exact ⟨h1, by omega⟩
def roundB (sb n0 _ : Nat) (I Ix : Nat → World → Prop) (k : Nat) (W : World) : Exit → Act → World → Prop
  | .normal, _, W' => (∃ M : Nat → Prop, Chg M W W' ∧ (∀ b, M b → b ≠ sb ∧ n0 ≤ b) ∧ ∀ b, M b → ∀ o, W.heap[b]? = some o → o.isCells = true) ∧ I (k + 1) W'
  | .ret, _, W' => (∃ M : Nat → Prop, Chg M W W' ∧ (∀ b, M b → b ≠ sb ∧ n0 ≤ b) ∧ ∀ b, M b → ∀ o, W.heap[b]? = some o → o.isCells = true) ∧ Ix (k + 1) W'
  | _, _, _ => False
theorem wp_bwd {g : Operand} {p1 p2 : Tmp} {assign body : Code} {Q : Exit → Act → World → Prop} {a : Act} {w : World}
    (l : List Nat) (la : Option Addr) (cap : Nat) (w0 : World) (sb : Nat) (hl : l.length ≤ 10000) (hc : CellsN .u64 w0 la l) (E0 : Ext w0 w) (s0 : w.cell? ⟨sb, 0, none⟩ = some (.slice la l.length cap))
    (hg : a.eval g = .func (.func 159) #[] #[.pointer (some ⟨sb, 0, none⟩)])
    (I : Nat → World → Prop) (Ix : Nat → World → Prop)
    (hIK : ∀ k A B, I k A → Keep w.heap.size A B → I k B) (hIxK : ∀ k A B, Ix k A → Keep w.heap.size A B → Ix k B)
    (hIE : ∀ k A B, I k A → Ext A B → I k B)
    (h0 : I 0 w) (Ax : Nat → Act → World → Prop) (hAxK : ∀ x a' A B, Ax x a' A → Keep w.heap.size A B → Ax x a' B)
    (hassign : ∀ (l' : Nat) (x k : Nat) (W : World) (K : Act → World → Prop), w.heap.size + 2 ≤ W.heap.size → I k W → (∀ a' W', Ext W W' → Ax x a' W' → K a' W') →
      assign.wpIn (Fence.wide.inRound l') 0 Tryz.prog (Exit.then K (fun _ _ _ => False)) { tmps := (#[p1, p2].zip (bwEnc l x)).foldl (fun t (p, v) => t.setIfInBounds p v) a.tmps, defers := [] } W)
    (hbody : ∀ (l' : Nat) (k : Nat) (a' : Act) (W : World), k < l.length → w.heap.size + 2 ≤ W.heap.size → I k W → Ax k a' W →
      body.wpIn (Fence.wide.inRound l') 0 Tryz.prog (roundB sb w0.heap.size w.heap.size I Ix k W) a' W)
    (hdone : ∀ (D : Nat) (W : World), w.heap.size ≤ D → D < W.heap.size → I l.length W → W.heap[D]? = some (.deferred (some [])) → Q .normal { a with defers := mark D :: a.defers } W)
    (hstop : ∀ (D : Nat) (k : Nat) (W : World), w.heap.size ≤ D → D < W.heap.size → k ≤ l.length → Ix k W → W.heap[D]? = some (.deferred (some [])) → Code.ret.wp Tryz.prog Q { a with defers := mark D :: a.defers } W) :
    (Code.rangeFunc g #[p1, p2] assign body).wp Tryz.prog Q a w := by
  have hsz : sb < w.heap.size := cell_lt s0
  have hz := E0.size
  refine wp_range (n := 0) (gf := 159) (lb := #[.pointer (some ⟨sb, 0, none⟩)]) hg (enters_of Tryz.func159 (by kernel_rfl) rfl)
    (bw1_iter l la cap w0 w sb hl hc E0 s0) (fun q => rfl)
    (fun A B h k o hk ho => by rw [← h]; exact ho)
    (fun pre W => I pre.length W) (fun c pre W => c = .ret ∧ Ix pre.length W)
    (fun pre A B h k => k ▸ h) (fun _ _ _ _ h k => k ▸ h)
    (fun pre A B h k => hIK _ _ _ h k) (fun _ _ _ _ h k => ⟨h.1, hIxK _ _ _ h.2 k⟩)
    h0 Ax hAxK ?assign ?body (fun pre A B h k => hIE _ _ _ h k) ?done ?stop
  case assign =>
    intro l' pre x W K hm hI hK
    exact hassign l' x pre.length W K hm hI hK
  case body =>
    intro l' pre x a' W hpre hm hI hA
    obtain ⟨hx, hxl⟩ := prefix_range hpre
    subst hx
    refine wpIn_mono (hbody l' _ a' W hxl hm hI hA) ?_
    intro e a3 W3 hp
    have hk : ∀ W', (∃ M : Nat → Prop, Chg M W W' ∧ (∀ b, M b → b ≠ sb ∧ w0.heap.size ≤ b) ∧ ∀ b, M b → ∀ o, W.heap[b]? = some o → o.isCells = true) → Kept (BwK sb w0.heap.size (w.heap.size + 2)) (w.heap.size + 2) W W' ∧ KeepsFrom w.heap.size W W' := by
      rintro W' ⟨M, h1, h2, h3⟩
      refine ⟨h1.kept ?_, (h1.others h3).from _⟩
      rintro k (rfl | hk) _ hM
      · exact (h2 _ hM).1 rfl
      · have := (h2 _ hM).2; omega
    cases e with
    | normal => exact ⟨(hk _ hp.1).1, (hk _ hp.1).2, by show I (pre ++ [pre.length]).length W3; rw [List.length_append]; exact hp.2⟩
    | ret => exact ⟨(hk _ hp.1).1, (hk _ hp.1).2, rfl, by show Ix (pre ++ [pre.length]).length W3; rw [List.length_append]; exact hp.2⟩
    | exit id => exact hp.elim
    | goto t => exact hp.elim
    | panic ch => exact hp.elim
    | outgrown => exact hp.elim
  case done =>
    intro D W h1 h2 h3 h4
    rw [List.length_range] at h3
    exact hdone D W h1 h2 h3 h4
  case stop =>
    rintro D c pre W h1 h2 hpre ⟨rfl, h3⟩ h4
    have hlen := hpre.length_le
    rw [List.length_range] at hlen
    exact hstop D pre.length W h1 h2 hlen h3 h4
end Go.Proofs.YtbpjbhbbkonjlaaGreatDoor
namespace Go.Proofs.YtbpjbhbbkonjlaaGreatDoor
open Go.RowKit
set_option maxHeartbeats 8000000 in
set_option maxRecDepth 100000 in
theorem timesR_any (x y : Nat) (la lb : List Nat) (a b : Option Addr) (ca cb : Nat) (w : World) (hx : la = toB 1000000 x) (hy : lb = toB 1000000 y)
    (hla : la.length ≤ 200) (hlb : lb.length ≤ 200) (ha : CellsN .i64 w a la) (hb : CellsN .i64 w b lb) :
    Calls Tryz.prog 76 #[.slice a la.length ca, .slice b lb.length cb] w (OwnNPost .i64 3 (toB 1000000 (x * y)) w) := by
  have HA := Lib.hid ha
  have HB := Lib.hid hb
  have HX := Lib.hid hx
  have HY := Lib.hid hy
  have OA : Hid (OkB 1000000 la) := by show OkB _ _; rw [hx]; exact okB_toB (by omega) x
  have OB : Hid (OkB 1000000 lb) := by show OkB _ _; rw [hy]; exact okB_toB (by omega) y
  clear ha hb hx hy
  obtain ⟨i0, hi, hi0, hi1, hi2⟩ := info_parts infoI64
  obtain ⟨N, hN⟩ : ∃ N, N = la.length + lb.length := ⟨_, rfl⟩
  have hmk : (Instr.makeSlice 103 (.int .i64 ((la.length : Int) + (lb.length : Int))) (.int .i64 ((la.length : Int) + (lb.length : Int)))).run Tryz.prog w = .ok (.slice (some ⟨w.heap.size, 0, none⟩) N N) (w.alloc (.cells (madeCells #[.int .i64 0] N) 3)) := by
    rw [← Int.natCast_add, ← hN]
    exact run_make_row' _ _ (.int .i64 0) 8 Tryz.underlying103 infoI64 rfl _ _ N (by omega) (by omega) w
  have O0 : Hid (OwnsN .i64 3 (w.alloc (.cells (madeCells #[.int .i64 0] N) 3)) (.slice (some ⟨w.heap.size, 0, none⟩) N N) (List.replicate N 0)) := madeN _ _ _ N (by omega)
  have E0 : Ext w (w.alloc (.cells (madeCells #[.int .i64 0] N) 3)) := (Ext.refl _).alloc _
  generalize hW : w.alloc (.cells (madeCells #[.int .i64 0] N) 3) = W at hmk O0 E0
  clear hW
  obtain ⟨ob, hob⟩ : ∃ ob, ob = w.heap.size := ⟨_, rfl⟩
  rw [← hob] at hmk O0
  have HNN := Lib.hid hN
  have HOB := Lib.hid hob
  clear hN hob
  go_enter Tryz.func76, Tryz.ntmps76
  go_wp2
  clear hmk
  have HI0 : Hid (TimesI 1000000 la lb 0 (List.replicate N 0)) := by show TimesI _ _ _ _ _; rw [HNN.out]; exact TimesI.start (by omega) _ _
  go_loopw [6] (fun i wr => ∃ (k : Nat), k ≤ la.length ∧ i = .int .i64 k ∧ Hid (∃ o, TimesI 1000000 la lb k o ∧ OwnsN .i64 3 wr (.slice (some ⟨ob, 0, none⟩) N N) o) ∧ Ext w wr) (fun i _ => la.length - (intOf i).toNat)
  case atStart => exact ⟨0, by omega, rfl, ⟨_, HI0.out, O0.out⟩, E0⟩
  case round =>
    obtain ⟨k, hk, rfl, hw, he⟩ := hrel
    by_cases h1 : k < la.length
    · obtain ⟨p, hp⟩ : ∃ p, p = la.getD k 0 := ⟨_, rfl⟩
      have hpb : p < 1000000 := by rw [hp]; exact okB_getD OA.out (by omega) k
      obtain ⟨b1, o1, ha1, p1⟩ := HA.out.ext he k h1
      subst ha1
      rw [← hp] at p1
      have HPP := Lib.hid hp
      clear hp
      obtain ⟨wo, hwo⟩ : ∃ wo, wo = wr := ⟨wr, rfl⟩
      subst hwo
      obtain ⟨o0, ho1, ho2⟩ := hw.out
      have HK0 : Hid (∃ o, TimesK 1000000 la lb k 0 0 o ∧ OwnsN .i64 3 wo (.slice (some ⟨ob, 0, none⟩) N N) o) := ⟨o0, ho1.inner (by omega), ho2⟩
      clear ho1 ho2 hw
      go_wp2
      go_loopw [7, 8] (fun c i wr => ∃ (m cc : Nat), m ≤ lb.length ∧ i = .int .i64 m ∧ c = .int .i64 cc ∧ Hid (∃ o, TimesK 1000000 la lb k m cc o ∧ OwnsN .i64 3 wr (.slice (some ⟨ob, 0, none⟩) N N) o) ∧ Ext w wr) (fun _ i _ => lb.length - (intOf i).toNat)
      case atStart => exact ⟨0, 0, by omega, rfl, rfl, HK0.out, he⟩
      case round =>
        obtain ⟨m, cc, hm, rfl, rfl, hw, he⟩ := hrel
        obtain ⟨o, ho1, ho2⟩ := hw.out
        have HO := Lib.hid ho2
        have HP := Lib.hid ho1
        have HOL := Lib.hid ho1.len
        have hcc := ho1.cB
        clear ho1 ho2 hw
        by_cases h2 : m < lb.length
        · obtain ⟨q, hq⟩ : ∃ q, q = lb.getD m 0 := ⟨_, rfl⟩
          have hqb : q < 1000000 := by rw [hq]; exact okB_getD OB.out (by omega) m
          obtain ⟨b2, o2, ha2, q1⟩ := HB.out.ext he m h2
          subst ha2
          rw [← hq] at q1
          obtain ⟨b3, o3, ha3, p3⟩ := HA.out.ext he k h1
          cases ha3
          rw [← HPP.out] at p3
          have hkm : k + m < o.length := by have := HOL.out; omega
          obtain ⟨s1, s2⟩ := HO.out.at hkm
          have hnx := HP.out.next (by omega) OA.out OB.out h1 h2
          obtain ⟨s, hs⟩ : ∃ s, s = o.getD (k + m) 0 := ⟨_, rfl⟩
          have hsb : s < 1000000 := by rw [hs]; exact okB_getD HP.out.ok (by omega) _
          rw [← hs] at s1 hnx
          rw [← HPP.out, ← hq] at hnx
          have hpq : p * q ≤ 999999 * 999999 := Nat.mul_le_mul (by omega) (by omega)
          obtain ⟨z, hz⟩ : ∃ z, z = p * q := ⟨_, rfl⟩
          rw [← hz] at hpq hnx
          obtain ⟨r, hr⟩ : ∃ r, r = (cc + s + z) % 1000000 := ⟨_, rfl⟩
          obtain ⟨d, hd⟩ : ∃ d, d = (cc + s + z) / 1000000 := ⟨_, rfl⟩
          rw [← hr, ← hd] at hnx
          have HN := Lib.hid hnx.2
          have hw1 : IntKind.i64.wrap ((p : Int) * (q : Int)) = (z : Int) := by
            rw [← Int.natCast_mul, ← hz, IntKind.wrap_i64]; omega
          have hw2 : IntKind.i64.wrap ((s : Int) + (z : Int)) = (s : Int) + (z : Int) := by rw [IntKind.wrap_i64]; omega
          have hw3 : IntKind.i64.wrap ((cc : Int) + ((s : Int) + (z : Int))) = (cc : Int) + ((s : Int) + (z : Int)) := by rw [IntKind.wrap_i64]; omega
          have ht1 : ((cc : Int) + ((s : Int) + (z : Int))).tmod 1000000 = (r : Int) := by rw [Int.tmod_eq_emod_of_nonneg (by omega)]; omega
          have ht2 : ((cc : Int) + ((s : Int) + (z : Int))).tdiv 1000000 = (d : Int) := by rw [Int.tdiv_eq_ediv_of_nonneg (by omega)]; omega
          have hw4 : IntKind.i64.wrap (d : Int) = (d : Int) := by rw [IntKind.wrap_i64]; omega
          have HO2 := Lib.hid (fun n : Nat => (HO.out.ext ((Ext.refl wr).drewN n)).set (k + m) r)
          have E2 : ∀ n : Nat, Ext w ((wr.drewN n).setCell ⟨ob, k + m, none⟩ (.int .i64 (r : Int))) := fun n => Ext.set (he.drewN n) (by rw [HOB.out]; exact Nat.le_refl _) _
          have hkN : k + m < N := by have := HNN.out; omega
          clear hnx hr hd hz hs hpq hq HO HP
          go_wp2
          go_quiet (fail)
          go_wp2
          refine ⟨⟨m + 1, d, by omega, by go_num, rfl, ⟨_, HN.out, HO2.out _⟩, E2 _⟩, by simp [intOf]; omega⟩
        · have hml : m = lb.length := by omega
          have hP := HP.out
          rw [hml] at hP
          have HN := Lib.hid (hP.outer h1)
          have hkm : k + lb.length < o.length := by have := HOL.out; omega
          obtain ⟨s1, s2⟩ := HO.out.at hkm
          have HO2 := Lib.hid (HO.out.set (k + lb.length) cc)
          have E2 : Ext w (wr.setCell ⟨ob, k + lb.length, none⟩ (.int .i64 (cc : Int))) := Ext.set he (by rw [HOB.out]; exact Nat.le_refl _) _
          have hkN : k + lb.length < N := by have := HNN.out; omega
          generalize o.getD (k + lb.length) 0 = s0 at s1
          clear hP HP HO hml
          go_wp2
          refine ⟨⟨k + 1, by omega, by go_num, ⟨_, HN.out, HO2.out⟩, E2⟩, by simp [intOf]; omega⟩
    · have hkl : k = la.length := by omega
      obtain ⟨o, ho1, ho2⟩ := hw.out
      have hdone : Hid (trimL o = toB 1000000 (x * y)) := by
        have h5 := ho1
        rw [hkl] at h5
        have h6 := h5.done (by omega)
        rw [HX.out, HY.out, valB_toB (by omega), valB_toB (by omega)] at h6
        exact h6
      have hlen := ho1.len
      have HO : Hid (OwnsN .i64 3 wr (.slice (some ⟨ob, 0, none⟩) o.length N) o) := by
        show OwnsN _ _ _ _ _
        rw [show o.length = N by rw [HNN.out, hlen]]
        exact ho2
      obtain ⟨oa, oc, hov, hoc, hor, _⟩ := HO.out.reads
      obtain ⟨e1, _, e3⟩ := Value.slice.inj hov
      subst e1 e3
      have HOR := Lib.hid hor
      have HOC := Lib.hid hoc
      have hNo : N = o.length := by rw [HNN.out, hlen]
      clear hor hoc ho1 ho2 hw hov
      rw [hNo] at HO HOR
      have hT := trimR_any o (some ⟨ob, 0, none⟩) o.length wr HOR.out HOC.out
      rw [← hNo] at hT
      have HT := Lib.hid hT
      have HNO := Lib.hid hNo
      clear hT hNo hlen hkl
      go_wp2_with (go_at_call 75; refine HT.out.mono ?_; rintro e w5 ⟨rfl, hn5, hE5⟩)
      go_ret
      refine ⟨.slice (some ⟨ob, 0, none⟩) (trimL o).length N, rfl, ?_, ?_, he.trans hE5⟩
      · rw [← hdone.out, HNO.out]
        exact (HO.out.ext hE5).trim (by rw [← HNO.out]; exact hn5)
      · intro b hb
        cases hb
        rw [HOB.out]
        exact Nat.le_refl _
end Go.Proofs.YtbpjbhbbkonjlaaGreatDoor
namespace Go.Proofs.YtbpjbhbbkonjlaaGreatDoor
open Go.RowKit
theorem ordN_lt {a b : Nat} (h : a < b) : ordN a b = -1 := by unfold ordN; rw [if_pos h]
theorem ordN_gt {a b : Nat} (h : b < a) : ordN a b = 1 := by unfold ordN; rw [if_neg (by omega), if_pos h]
theorem ordN_eq {a b : Nat} (h : a = b) : ordN a b = 0 := by unfold ordN; rw [if_neg (by omega), if_neg (by omega)]
set_option maxHeartbeats 4000000 in
theorem orderR_any (x y : Nat) (la lb : List Nat) (a b : Option Addr) (ca cb : Nat) (w : World) (hx : la = toB 1000000 x) (hy : lb = toB 1000000 y)
    (hla : la.length ≤ 200) (_ : lb.length ≤ 200) (ha : CellsN .i64 w a la) (hb : CellsN .i64 w b lb) :
    Calls Tryz.prog 51 #[.slice a la.length ca, .slice b lb.length cb] w fun e w' => e = .returned (.int .i64 (ordN x y)) ∧ Ext w w' := by
  have OA : OkB 1000000 la := by rw [hx]; exact okB_toB (by omega) x
  have OB : OkB 1000000 lb := by rw [hy]; exact okB_toB (by omega) y
  have TA : Trim la := hx ▸ trim_toB (by omega) x
  have TB : Trim lb := hy ▸ trim_toB (by omega) y
  have VA : valB 1000000 la = x := by rw [hx, valB_toB (by omega)]
  have VB : valB 1000000 lb = y := by rw [hy, valB_toB (by omega)]
  clear hx hy
  by_cases hlen : la.length = lb.length
  · have HA := Lib.hid ha
    have HB := Lib.hid hb
    have H := Lib.hid (And.intro OA (And.intro OB (And.intro VA VB)))
    have HL := Lib.hid hlen
    have hne : ((la.length : Int) != (lb.length : Int)) = false := by simp [hlen]
    clear ha hb OA OB TA TB VA VB hlen
    go_enter Tryz.func51, Tryz.ntmps51
    go_wp2
    go_loopw [5] (fun i wr => ∃ k : Nat, k ≤ la.length ∧ (∃ z : Int, i = .int .i64 z ∧ z = (k : Int) - 1) ∧ Hid (valB 1000000 (la.drop k) = valB 1000000 (lb.drop k)) ∧ Ext w wr) (fun i _ => (intOf i + 1).toNat)
    case atStart =>
      exact ⟨la.length, Nat.le_refl _, ⟨_, rfl, rfl⟩, by show _ = _; rw [List.drop_eq_nil_of_le (Nat.le_refl _), List.drop_eq_nil_of_le (by rw [HL.out]; exact Nat.le_refl _)], Ext.refl _⟩
    case round =>
      obtain ⟨k, hk, ⟨z, rfl, hz⟩, hv, he⟩ := hrel
      rcases k with _ | k
      · have HR : Hid (ordN x y = 0) := ordN_eq (by rw [← H.out.2.2.1, ← H.out.2.2.2]; exact hv.out)
        have hz1 : z = -1 := by omega
        subst hz1
        clear hz hv
        go_wp2
        go_ret
        exact ⟨by rw [HR.out]; rfl, he⟩
      · have hzk : z = (k : Int) := by omega
        subst hzk
        clear hz
        obtain ⟨b1, o1, ha1, p1⟩ := HA.out.ext he k (by omega)
        subst ha1
        obtain ⟨b2, o2, ha2, q1⟩ := HB.out.ext he k (by have := HL.out; omega)
        subst ha2
        have hst := ord_step H.out.1 H.out.2.1 k hv.out (by omega) (by have := HL.out; omega)
        rw [H.out.2.2.1, H.out.2.2.2] at hst
        have hk2 : k < lb.length := by have := HL.out; omega
        generalize la.getD k 0 = p at p1 hst
        generalize lb.getD k 0 = q at q1 hst
        obtain ⟨h1, h2, h3⟩ := hst
        have HS1 := Lib.hid h1
        have HS2 := Lib.hid h2
        have HS3 := Lib.hid h3
        clear h1 h2 h3 hv
        by_cases hpq : p < q
        · have HR : Hid (ordN x y = -1) := ordN_lt (HS1.out hpq)
          have hi1 : (p : Int) < (q : Int) := by omega
          go_wp2
          go_quiet (fail)
          go_wp2
          go_ret
          exact ⟨by rw [HR.out]; rfl, extA⟩
        · by_cases hqp : q < p
          · have HR : Hid (ordN x y = 1) := ordN_gt (HS2.out hqp)
            have hi1 : ¬ (p : Int) < (q : Int) := by omega
            have hi2 : (q : Int) < (p : Int) := by omega
            go_wp2
            go_quiet (fail)
            go_wp2
            go_quiet (fail)
            go_wp2
            go_ret
            exact ⟨by rw [HR.out]; rfl, extA⟩
          · have hpe : p = q := by omega
            have HV := Lib.hid (HS3.out hpe)
            subst hpe
            go_wp2
            go_quiet (fail)
            go_wp2
            go_quiet (fail)
            go_wp2
            refine ⟨⟨k, by omega, ⟨_, rfl, by first | rfl | omega | go_num⟩, HV, extA⟩, by simp [intOf]⟩
  · have hne : ((la.length : Int) != (lb.length : Int)) = true := by rw [bne_iff_ne]; omega
    by_cases hlt : la.length < lb.length
    · have HR : Hid (ordN x y = -1) := ordN_lt (by rw [← VA, ← VB]; exact ord_len (by omega) OA TB hlt)
      have hi1 : (la.length : Int) < (lb.length : Int) := by omega
      clear OA OB TA TB VA VB ha hb
      go_enter Tryz.func51, Tryz.ntmps51
      go_wp2
      all_goals go_ret
      all_goals exact ⟨by rw [HR.out]; rfl, extA⟩
    · have HR : Hid (ordN x y = 1) := ordN_gt (by rw [← VA, ← VB]; exact ord_len (by omega) OB TA (by omega))
      have hi1 : ¬ (la.length : Int) < (lb.length : Int) := by omega
      clear OA OB TA TB VA VB ha hb
      go_enter Tryz.func51, Tryz.ntmps51
      go_wp2
      all_goals go_ret
      all_goals exact ⟨by rw [HR.out]; rfl, extA⟩
end Go.Proofs.YtbpjbhbbkonjlaaGreatDoor
namespace Go.Proofs.YtbpjbhbbkonjlaaGreatDoor
open Go.RowKit
def ordI (a b : Int) : Int := if a < b then -1 else if b < a then 1 else 0
set_option maxHeartbeats 400000 in
theorem isNaNI_any (a : Int) (w : World) :
    Calls Tryz.prog 111 #[.int .i64 a] w fun e w' => e = .returned (.bool false) ∧ w = w' := by
  go_enter Tryz.func111, Tryz.ntmps111
  go_wp2
  all_goals go_ret
  all_goals simp
set_option maxHeartbeats 800000 in
theorem CmpI_any (a b : Int) (w : World) :
    Calls Tryz.prog 88 #[.int .i64 a, .int .i64 b] w fun e w' => e = .returned (.int .i64 (ordI a b)) ∧ w = w' := by
  unfold ordI
  by_cases h1 : a < b
  · rw [if_pos h1]
    go_enter Tryz.func88, Tryz.ntmps88
    go_wp2_with (go_at_call 111; refine (isNaNI_any _ _).mono ?_; rintro e w' ⟨rfl, rfl⟩)
    all_goals go_ret
    all_goals exact ⟨rfl, rfl⟩
  · rw [if_neg h1]
    by_cases h2 : b < a
    · rw [if_pos h2]
      go_enter Tryz.func88, Tryz.ntmps88
      go_wp2_with (go_at_call 111; refine (isNaNI_any _ _).mono ?_; rintro e w' ⟨rfl, rfl⟩)
      all_goals go_ret
      all_goals exact ⟨rfl, rfl⟩
    · rw [if_neg h2]
      go_enter Tryz.func88, Tryz.ntmps88
      go_wp2_with (go_at_call 111; refine (isNaNI_any _ _).mono ?_; rintro e w' ⟨rfl, rfl⟩)
      all_goals go_ret
      all_goals exact ⟨rfl, rfl⟩
set_option maxHeartbeats 400000 in
theorem isNaNU_any (a : Int) (w : World) :
    Calls Tryz.prog 160 #[.int .u64 a] w fun e w' => e = .returned (.bool false) ∧ w = w' := by
  go_enter Tryz.func160, Tryz.ntmps160
  go_wp2
  all_goals go_ret
  all_goals simp
set_option maxHeartbeats 800000 in
theorem CmpU_any (a b : Int) (w : World) :
    Calls Tryz.prog 123 #[.int .u64 a, .int .u64 b] w fun e w' => e = .returned (.int .i64 (ordI a b)) ∧ w = w' := by
  unfold ordI
  by_cases h1 : a < b
  · rw [if_pos h1]
    go_enter Tryz.func123, Tryz.ntmps123
    go_wp2_with (go_at_call 160; refine (isNaNU_any _ _).mono ?_; rintro e w' ⟨rfl, rfl⟩)
    all_goals go_ret
    all_goals exact ⟨rfl, rfl⟩
  · rw [if_neg h1]
    by_cases h2 : b < a
    · rw [if_pos h2]
      go_enter Tryz.func123, Tryz.ntmps123
      go_wp2_with (go_at_call 160; refine (isNaNU_any _ _).mono ?_; rintro e w' ⟨rfl, rfl⟩)
      all_goals go_ret
      all_goals exact ⟨rfl, rfl⟩
    · rw [if_neg h2]
      go_enter Tryz.func123, Tryz.ntmps123
      go_wp2_with (go_at_call 160; refine (isNaNU_any _ _).mono ?_; rintro e w' ⟨rfl, rfl⟩)
      all_goals go_ret
      all_goals exact ⟨rfl, rfl⟩
set_option maxHeartbeats 1000000 in
theorem even_any (x : Nat) (l : List Nat) (a : Option Addr) (cap : Nat) (w : World) (hx : l = toB 1000000000 x) (hc : CellsN .u64 w a l) (hl : l.length ≤ 200) :
    Calls Tryz.prog 124 #[.slice a l.length cap] w fun e w' => e = .returned (.bool (decide (x % 2 = 0))) ∧ Ext w w' := by
  by_cases h0 : x = 0
  · have hl0 : l = [] := by rw [hx, h0, toB_zero]
    subst hl0
    have HR : Hid (decide (x % 2 = 0) = true) := by show _ = _; simp [h0]
    clear hx hc h0
    go_enter Tryz.func124, Tryz.ntmps124
    go_wp2
    go_ret
    exact ⟨ret_bool HR.out.symm, extA⟩
  · have hpos : 0 < l.length := by rw [hx, toB_pos (by omega) h0]; simp
    obtain ⟨b, off, ha, c1⟩ := hc 0 hpos
    subst ha
    obtain ⟨p, hp⟩ : ∃ p, p = l.getD 0 0 := ⟨_, rfl⟩
    have he : p % 2 = x % 2 := by rw [hp, hx]; exact even_toB (by omega) (by decide) h0
    rw [← hp, Nat.add_zero] at c1
    have HR : Hid (decide (x % 2 = 0) = decide (p % 2 = 0)) := by show _ = _; rw [he]
    have ht : ((p : Int).tmod 2 == 0) = decide (p % 2 = 0) := by
      rw [Int.tmod_eq_emod_of_nonneg (by omega), Bool.eq_iff_iff]
      simp only [beq_iff_eq, decide_eq_true_eq]
      omega
    have hn0 : ((l.length : Int) == 0) = false := by rw [beq_eq_false_iff_ne]; omega
    clear hx hc h0 he hp
    generalize decide (p % 2 = 0) = R at HR ht
    go_enter Tryz.func124, Tryz.ntmps124
    go_wp2
    all_goals go_ret
    all_goals exact ⟨ret_bool (by rw [HR.out]; first | rfl | exact ht), extA⟩
end Go.Proofs.YtbpjbhbbkonjlaaGreatDoor
