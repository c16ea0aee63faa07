/- The distances, in plain Lean: they are those of the shortest walks. -/
import Derived.Test.YtfigooilhnahfaaDistS
namespace Go.Proofs.Ytfigooilhnahfaa

inductive Walk (g : Gr) (p : Pt) : Nat → Pt → Prop
  | nil : Walk g p 0 p
  | cons {n : Nat} {r q : Pt} : Walk g p n r → q ∈ near g r → Walk g p (n + 1) q
structure IsD (g : Gr) (p q : Pt) (n : Nat) : Prop where
  w : Walk g p n q
  l : ∀ m, m < n → ¬ Walk g p m q
theorem Walk.zero {g : Gr} {p q : Pt} (h : Walk g p 0 q) : q = p := by cases h; rfl
theorem Walk.succ {g : Gr} {p q : Pt} {n : Nat} (h : Walk g p (n + 1) q) : ∃ r, Walk g p n r ∧ q ∈ near g r := by
  cases h with
  | cons a b => exact ⟨_, a, b⟩
theorem Walk.isD {g : Gr} {p q : Pt} : ∀ {n : Nat}, Walk g p n q → ∃ m, m ≤ n ∧ IsD g p q m := by
  intro n
  induction n using Nat.strongRecOn with
  | ind n ih =>
    intro h
    by_cases hx : ∃ m, m < n ∧ Walk g p m q
    · obtain ⟨m, hm, hw⟩ := hx
      obtain ⟨k, hk, hd⟩ := ih m hm hw
      exact ⟨k, by omega, hd⟩
    · exact ⟨n, Nat.le_refl _, h, fun m hm hw => hx ⟨m, hm, hw⟩⟩
theorem IsD.unique {g : Gr} {p q : Pt} {m n : Nat} (h : IsD g p q m) (k : IsD g p q n) : m = n := by
  rcases Nat.lt_trichotomy m n with h1 | h1 | h1
  · exact absurd h.w (k.l _ h1)
  · exact h1
  · exact absurd k.w (h.l _ h1)
theorem IsD.pred {g : Gr} {p q : Pt} {n : Nat} (h : IsD g p q (n + 1)) : ∃ r, IsD g p r n ∧ q ∈ near g r := by
  obtain ⟨r, h1, h2⟩ := h.w.succ
  refine ⟨r, ⟨h1, fun m hm hw => ?_⟩, h2⟩
  exact h.l (m + 1) (by omega) (.cons hw h2)
theorem IsD.down {g : Gr} {p q : Pt} {n m : Nat} (h : IsD g p q (m + n)) : ∃ r, IsD g p r m := by
  induction n generalizing q with
  | zero => exact ⟨q, h⟩
  | succ n ih =>
    obtain ⟨r, h1, _⟩ := IsD.pred (n := m + n) h
    exact ih h1
theorem IsD.self (g : Gr) (p : Pt) : IsD g p p 0 := ⟨.nil, fun m hm => by omega⟩

theorem addN_mem : ∀ (qs seen next : List Pt) (x : Pt), (x ∈ (addN seen next qs).1 ↔ x ∈ seen ∨ x ∈ qs) ∧ (x ∈ (addN seen next qs).2 ↔ x ∈ next ∨ (x ∉ seen ∧ x ∈ qs)) := by
  intro qs
  induction qs with
  | nil => intro seen next x; simp [addN]
  | cons a qs ih =>
    intro seen next x
    unfold addN
    split
    · rename_i h
      obtain ⟨i1, i2⟩ := ih seen next x
      rw [i1, i2]
      constructor
      · constructor
        · rintro (h1 | h1)
          · exact .inl h1
          · exact .inr (List.mem_cons_of_mem _ h1)
        · rintro (h1 | h1)
          · exact .inl h1
          · rcases List.mem_cons.1 h1 with rfl | h1
            · exact .inl h
            · exact .inr h1
      · constructor
        · rintro (h1 | ⟨h1, h2⟩)
          · exact .inl h1
          · exact .inr ⟨h1, List.mem_cons_of_mem _ h2⟩
        · rintro (h1 | ⟨h1, h2⟩)
          · exact .inl h1
          · rcases List.mem_cons.1 h2 with rfl | h2
            · exact absurd h h1
            · exact .inr ⟨h1, h2⟩
    · rename_i h
      obtain ⟨i1, i2⟩ := ih (a :: seen) (next ++ [a]) x
      rw [i1, i2]
      simp only [List.mem_cons, List.mem_append, List.not_mem_nil, or_false]
      constructor
      · constructor
        · rintro ((h1 | h1) | h1)
          · exact .inr (.inl h1)
          · exact .inl h1
          · exact .inr (.inr h1)
        · rintro (h1 | h1 | h1)
          · exact .inl (.inr h1)
          · exact .inl (.inl h1)
          · exact .inr h1
      · constructor
        · rintro ((h1 | h1) | ⟨h1, h2⟩)
          · exact .inl h1
          · subst h1; exact .inr ⟨h, .inl rfl⟩
          · exact .inr ⟨fun h3 => h1 (.inr h3), .inr h2⟩
        · rintro (h1 | ⟨h1, h2 | h2⟩)
          · exact .inl (.inl h1)
          · exact .inl (.inr h2)
          · by_cases e : x = a
            · exact .inl (.inr e)
            · exact .inr ⟨fun h3 => h3.elim e h1, h2⟩
theorem addN_nodup : ∀ (qs seen next : List Pt), next.Nodup → (∀ x ∈ next, x ∈ seen) → (addN seen next qs).2.Nodup ∧ (∀ x ∈ (addN seen next qs).2, x ∈ (addN seen next qs).1) := by
  intro qs
  induction qs with
  | nil => intro seen next h1 h2; exact ⟨h1, h2⟩
  | cons a qs ih =>
    intro seen next h1 h2
    unfold addN
    split
    · exact ih _ _ h1 h2
    · rename_i h
      refine ih _ _ ?_ ?_
      · rw [List.nodup_append]
        refine ⟨h1, by simp, ?_⟩
        intro x hx y hy e
        simp at hy
        subst hy; subst e
        exact h (h2 _ hx)
      · intro x hx
        rcases List.mem_append.1 hx with hx | hx
        · exact List.mem_cons_of_mem _ (h2 _ hx)
        · simp at hx; subst hx; exact List.mem_cons_self ..
theorem expand_mem (g : Gr) : ∀ (ps seen next : List Pt) (x : Pt), (x ∈ (expand g seen next ps).1 ↔ x ∈ seen ∨ ∃ r ∈ ps, x ∈ near g r) ∧ (x ∈ (expand g seen next ps).2 ↔ x ∈ next ∨ (x ∉ seen ∧ ∃ r ∈ ps, x ∈ near g r)) := by
  intro ps
  induction ps with
  | nil => intro seen next x; simp [expand]
  | cons a ps ih =>
    intro seen next x
    unfold expand
    obtain ⟨i1, i2⟩ := ih (addN seen next (near g a)).1 (addN seen next (near g a)).2 x
    obtain ⟨j1, j2⟩ := addN_mem (near g a) seen next x
    rw [i1, i2, j1, j2]
    constructor
    · constructor
      · rintro ((h | h) | ⟨r, h1, h2⟩)
        · exact .inl h
        · exact .inr ⟨a, List.mem_cons_self .., h⟩
        · exact .inr ⟨r, List.mem_cons_of_mem _ h1, h2⟩
      · rintro (h | ⟨r, h1, h2⟩)
        · exact .inl (.inl h)
        · rcases List.mem_cons.1 h1 with rfl | h1
          · exact .inl (.inr h2)
          · exact .inr ⟨r, h1, h2⟩
    · constructor
      · rintro ((h | ⟨h1, h2⟩) | ⟨h, r, h1, h2⟩)
        · exact .inl h
        · exact .inr ⟨h1, a, List.mem_cons_self .., h2⟩
        · exact .inr ⟨fun h3 => h (.inl h3), r, List.mem_cons_of_mem _ h1, h2⟩
      · rintro (h | ⟨h, r, h1, h2⟩)
        · exact .inl (.inl h)
        · by_cases hn : x ∈ near g a
          · exact .inl (.inr ⟨h, hn⟩)
          · rcases List.mem_cons.1 h1 with rfl | h1
            · exact absurd h2 hn
            · exact .inr ⟨fun h3 => h3.elim h hn, r, h1, h2⟩
theorem expand_nodup (g : Gr) : ∀ (ps seen next : List Pt), next.Nodup → (∀ x ∈ next, x ∈ seen) → (expand g seen next ps).2.Nodup := by
  intro ps
  induction ps with
  | nil => intro seen next h _; exact h
  | cons a ps ih =>
    intro seen next h1 h2
    unfold expand
    have := addN_nodup (near g a) seen next h1 h2
    exact ih _ _ this.1 this.2

/-- a wave of the waves from p -/
structure WV (g : Gr) (p : Pt) (seen now : List Pt) (far : Nat) : Prop where
  s : ∀ x, x ∈ seen ↔ ∃ m, m ≤ far ∧ Walk g p m x
  n : ∀ x, x ∈ now ↔ IsD g p x far
  nd : now.Nodup
theorem WV.step {g : Gr} {p : Pt} {seen now : List Pt} {far : Nat} (h : WV g p seen now far) : WV g p (expand g seen [] now).1 (expand g seen [] now).2 (far + 1) := by
  refine ⟨fun x => ?_, fun x => ?_, expand_nodup g now seen [] List.nodup_nil (fun x hx => by cases hx)⟩
  · rw [(expand_mem g now seen [] x).1, h.s]
    constructor
    · rintro (⟨m, h1, h2⟩ | ⟨r, h1, h2⟩)
      · exact ⟨m, by omega, h2⟩
      · exact ⟨far + 1, Nat.le_refl _, .cons ((h.n r).1 h1).w h2⟩
    · rintro ⟨m, h1, h2⟩
      by_cases e : m ≤ far
      · exact .inl ⟨m, e, h2⟩
      · obtain rfl : m = far + 1 := by omega
        obtain ⟨r, h3, h4⟩ := h2.succ
        obtain ⟨k, h5, h6⟩ := h3.isD
        by_cases e2 : k = far
        · subst e2; exact .inr ⟨r, (h.n r).2 h6, h4⟩
        · exact .inl ⟨k + 1, by omega, .cons h6.w h4⟩
  · rw [(expand_mem g now seen [] x).2, h.s]
    constructor
    · rintro (h1 | ⟨h1, r, h2, h3⟩)
      · cases h1
      · exact ⟨.cons ((h.n r).1 h2).w h3, fun m hm hw => h1 ⟨m, by omega, hw⟩⟩
    · intro hd
      refine .inr ⟨fun ⟨m, h1, h2⟩ => hd.l m (by omega) h2, ?_⟩
      obtain ⟨r, h1, h2⟩ := hd.pred
      exact ⟨r, (h.n r).2 h1, h2⟩
theorem waves_sound (g : Gr) (p : Pt) : ∀ (f : Nat) (seen now : List Pt) (far : Nat), WV g p seen now far → ∀ x ∈ waves g f seen now far, IsD g p x.1 x.2 ∧ far ≤ x.2 := by
  intro f
  induction f with
  | zero => intro seen now far _ x hx; cases hx
  | succ f ih =>
    intro seen now far h x hx
    unfold waves at hx
    split at hx
    · cases hx
    · rcases List.mem_append.1 hx with hx | hx
      · obtain ⟨q, hq, rfl⟩ := List.mem_map.1 hx
        exact ⟨(h.n q).1 hq, Nat.le_refl _⟩
      · obtain ⟨h1, h2⟩ := ih _ _ _ h.step x hx
        exact ⟨h1, by omega⟩
theorem waves_all (g : Gr) (hr : Right g) (p : Pt) : ∀ (f : Nat) (seen now : List Pt) (n : Nat), WV g p seen now n → WI g seen now → n + f = 4097 → (now ≠ [] → n + 1 ≤ seen.length) →
    ∀ (q : Pt) (k : Nat), IsD g p q k → n ≤ k → (q, k) ∈ waves g f seen now n := by
  intro f
  induction f with
  | zero =>
    intro seen now n h hi hf hl q k hd hk
    exfalso
    obtain ⟨r, hr'⟩ := IsD.down (m := n) (n := k - n) (by rw [show n + (k - n) = k from by omega]; exact hd)
    have hm := (h.n r).2 hr'
    have := hl (List.ne_nil_of_mem hm)
    have := hi.len hr
    omega
  | succ f ih =>
    intro seen now n h hi hf hl q k hd hk
    obtain ⟨r, hr'⟩ := IsD.down (m := n) (n := k - n) (by rw [show n + (k - n) = k from by omega]; exact hd)
    have hm := (h.n r).2 hr'
    have hne := List.ne_nil_of_mem hm
    rw [waves_step _ _ _ _ _ hne]
    by_cases e : k = n
    · subst e
      exact List.mem_append_left _ (List.mem_map.2 ⟨q, (h.n q).2 hd, rfl⟩)
    · refine List.mem_append_right _ ?_
      have hi2 := expand_inv now seen [] ⟨hi.nd, hi.ins, fun q hq => by cases hq⟩
      refine ih _ _ _ h.step hi2.1 (by omega) (fun hne2 => ?_) q k hd (by omega)
      have h1 := hl hne
      have h2 := List.length_pos_iff.2 hne2
      have h3 := hi2.2
      simp at h3
      omega
theorem waves_nodup (g : Gr) (p : Pt) : ∀ (f : Nat) (seen now : List Pt) (n : Nat), WV g p seen now n → ((waves g f seen now n).map (·.1)).Nodup := by
  intro f
  induction f with
  | zero => intro seen now n _; exact List.nodup_nil
  | succ f ih =>
    intro seen now n h
    unfold waves
    split
    · exact List.nodup_nil
    · rw [List.map_append, List.nodup_append]
      refine ⟨?_, ih _ _ _ h.step, ?_⟩
      · rw [List.map_map]
        simpa [Function.comp_def] using h.nd
      · intro a ha b hb e
        subst e
        simp only [List.map_map, List.mem_map, Function.comp_apply] at ha hb
        obtain ⟨q, hq, rfl⟩ := ha
        obtain ⟨x, hx, hxe⟩ := hb
        obtain ⟨h1, h2⟩ := waves_sound g p f _ _ _ h.step x hx
        rw [hxe] at h1
        have := h1.unique ((h.n q).1 hq)
        omega
theorem wv0 (g : Gr) (p : Pt) : WV g p [p] [p] 0 := by
  refine ⟨fun x => ?_, fun x => ?_, by simp⟩
  · constructor
    · intro h; simp at h; subst h; exact ⟨0, Nat.le_refl _, .nil⟩
    · rintro ⟨m, h1, h2⟩
      obtain rfl : m = 0 := by omega
      simp [h2.zero]
  · constructor
    · intro h; simp at h; subst h; exact IsD.self g x
    · intro h; simp [h.w.zero]
theorem wave_sound {g : Gr} {p : Pt} {x : Pt × Nat} (h : x ∈ wave g p) : IsD g p x.1 x.2 := by
  unfold wave at h
  exact (waves_sound g p _ _ _ _ (wv0 g p) x h).1
theorem wave_all {g : Gr} (hr : Right g) {p q : Pt} (hp : inside g p = true) {k : Nat} (h : IsD g p q k) : (q, k) ∈ wave g p := by
  unfold wave
  exact waves_all g hr p _ _ _ _ (wv0 g p) ⟨by simp, fun q hq => by simp at hq; subst hq; exact hp, fun q hq => hq⟩ rfl (fun _ => by simp) q k h (Nat.zero_le _)
theorem wave_nodup (g : Gr) (p : Pt) : ((wave g p).map (·.1)).Nodup := by
  unfold wave
  exact waves_nodup g p _ _ _ _ (wv0 g p)
theorem far_none : ∀ (l : List (Pt × Nat)) (q : Pt) (d : Int), (∀ x ∈ l, x.1 ≠ q) → l.foldl (fun d x => if x.1 = q then (x.2 : Int) else d) d = d := by
  intro l
  induction l with
  | nil => intro q d _; rfl
  | cons a l ih =>
    intro q d h
    rw [List.foldl_cons, if_neg (h a (List.mem_cons_self ..))]
    exact ih q d (fun x hx => h x (List.mem_cons_of_mem _ hx))
theorem far_some : ∀ (l : List (Pt × Nat)) (q : Pt) (k : Nat) (d : Int), (q, k) ∈ l → (∀ x ∈ l, x.1 = q → x.2 = k) → l.foldl (fun d x => if x.1 = q then (x.2 : Int) else d) d = k := by
  intro l
  induction l with
  | nil => intro q k d h; cases h
  | cons a l ih =>
    intro q k d h hall
    rw [List.foldl_cons]
    by_cases hl : (q, k) ∈ l
    · exact ih q k _ hl (fun x hx => hall x (List.mem_cons_of_mem _ hx))
    · rcases List.mem_cons.1 h with rfl | h
      · rw [if_pos rfl]
        refine far_none l q _ (fun x hx e => hl ?_)
        have := hall x (List.mem_cons_of_mem _ hx) e
        have hxe : x = (q, k) := Prod.ext e this
        rw [← hxe]; exact hx
      · exact absurd h hl
theorem dst_of {g : Gr} (hr : Right g) {p q : Pt} (hp : inside g p = true) {k : Nat} (h : IsD g p q k) : dst g p q = k :=
  far_some _ q k _ (wave_all hr hp h) (fun x hx e => by have := wave_sound hx; rw [e] at this; exact this.unique h)
theorem dst_none {g : Gr} {p q : Pt} (h : ∀ k, ¬ IsD g p q k) : dst g p q = -1 :=
  far_none _ q _ (fun x hx e => h x.2 (e ▸ wave_sound hx))
theorem dst_cases {g : Gr} (hr : Right g) {p : Pt} (hp : inside g p = true) (q : Pt) : (∃ k : Nat, IsD g p q k ∧ dst g p q = k) ∨ ((∀ k, ¬ IsD g p q k) ∧ dst g p q = -1) := by
  by_cases h : ∃ k, IsD g p q k
  · obtain ⟨k, h⟩ := h
    exact .inl ⟨k, h, dst_of hr hp h⟩
  · exact .inr ⟨fun k hk => h ⟨k, hk⟩, dst_none fun k hk => h ⟨k, hk⟩⟩

/-! ### Both ways -/
theorem nbs_symm {p q : Pt} (h : q ∈ nbs p) : p ∈ nbs q := by
  unfold nbs at *
  obtain ⟨a, b⟩ := p
  simp only [List.mem_cons, List.not_mem_nil, or_false] at h ⊢
  rcases h with rfl | rfl | rfl | rfl <;> simp
theorem near_symm {g : Gr} {p q : Pt} (hp : opn g p = true) (h : q ∈ near g p) : p ∈ near g q := by
  unfold near at *
  exact List.mem_filter.2 ⟨nbs_symm (List.mem_filter.1 h).1, hp⟩
theorem Walk.opn {g : Gr} {p q : Pt} {n : Nat} (hp : opn g p = true) (h : Walk g p n q) : opn g q = true := by
  cases h with
  | nil => exact hp
  | cons _ h => exact near_opn h
theorem Walk.head {g : Gr} {p r q : Pt} {n : Nat} (h1 : r ∈ near g p) (h : Walk g r n q) : Walk g p (n + 1) q := by
  induction h with
  | nil => exact .cons .nil h1
  | cons _ h2 ih => exact .cons ih h2
theorem Walk.symm {g : Gr} {p q : Pt} {n : Nat} (hp : Go.Proofs.Ytfigooilhnahfaa.opn g p = true) (h : Walk g p n q) : Walk g q n p := by
  induction h with
  | nil => exact .nil
  | cons h1 h2 ih => exact Walk.head (near_symm (h1.opn hp) h2) ih
theorem Walk.trans {g : Gr} {p q r : Pt} {m n : Nat} (h : Walk g p m q) (k : Walk g q n r) : Walk g p (m + n) r := by
  induction k with
  | nil => exact h
  | cons _ h2 ih => exact .cons ih h2
theorem IsD.symm {g : Gr} {p q : Pt} {n : Nat} (hp : opn g p = true) (hq : opn g q = true) (h : IsD g p q n) : IsD g q p n :=
  ⟨h.w.symm hp, fun m hm hw => h.l m hm (hw.symm hq)⟩
theorem dst_symm {g : Gr} (hr : Right g) {p q : Pt} (hp : opn g p = true) (hq : opn g q = true) : dst g p q = dst g q p := by
  have ip : inside g p = true := by unfold opn at hp; simp only [Bool.and_eq_true] at hp; exact hp.1
  have iq : inside g q = true := by unfold opn at hq; simp only [Bool.and_eq_true] at hq; exact hq.1
  rcases dst_cases hr ip q with ⟨k, h, e⟩ | ⟨h, e⟩
  · rw [e, dst_of hr iq (h.symm hp hq)]
  · rw [e, dst_none fun k hk => h k (hk.symm hq hp)]
end Go.Proofs.Ytfigooilhnahfaa
