/- The queue of the reference, in plain Lean: it visits the cells as the waves do. -/
import Derived.Test.YtfigooilhnahfaaWayS
namespace Go.Proofs.Ytfigooilhnahfaa

theorem addN_fst_next (qs : List Pt) : ∀ (seen a b : List Pt), (addN seen a qs).1 = (addN seen b qs).1 := by
  induction qs with
  | nil => intro seen a b; rfl
  | cons q qs ih =>
    intro seen a b
    unfold addN
    split
    · exact ih _ _ _
    · exact ih _ _ _
theorem addN_snd_next (qs : List Pt) : ∀ (seen a : List Pt), (addN seen a qs).2 = a ++ (addN seen [] qs).2 := by
  induction qs with
  | nil => intro seen a; simp [addN]
  | cons q qs ih =>
    intro seen a
    unfold addN
    split
    · exact ih _ _
    · rw [ih _ (a ++ [q]), ih _ ([] ++ [q]), List.append_assoc]; simp

/-- the state of the queue ahead of its i-th cell: the cells visited sn -/
structure QI (g : Gr) (p : Pt) (n : Nat) (pre A B seen0 nx : List Pt) (i : Nat) (Wv sn : List Pt) : Prop where
  wv : WV g p seen0 (A ++ B) n
  wi : WI g seen0 (A ++ B)
  e1 : (expand g seen0 [] A).1 = sn
  e2 : (expand g seen0 [] A).2 = nx
  eq : Wv = pre ++ (A ++ B) ++ nx
  ln : i = pre.length + A.length
  sz : pre.length + (A ++ B).length = seen0.length
  sb : ∀ q ∈ pre, q ∈ seen0
def QInv (g : Gr) (p : Pt) (i : Nat) (Wv sn : List Pt) : Prop := ∃ n pre A B seen0 nx, QI g p n pre A B seen0 nx i Wv sn
theorem QInv.start {g : Gr} {p : Pt} (hp : inside g p = true) : QInv g p 0 [p] [p] :=
  ⟨0, [], [], [p], [p], [], wv0 g p, ⟨by simp, fun q hq => by simp at hq; subst hq; exact hp, fun q hq => hq⟩, rfl, rfl, rfl, rfl, rfl, fun q hq => by cases hq⟩
theorem QI.wi2 {g : Gr} {p : Pt} {n : Nat} {pre A B seen0 nx : List Pt} {i : Nat} {Wv sn : List Pt} (h : QI g p n pre A B seen0 nx i Wv sn) : WI g sn nx ∧ sn.length = seen0.length + nx.length := by
  have h1 := expand_inv A seen0 [] ⟨h.wi.nd, h.wi.ins, fun q hq => by cases hq⟩
  rw [h.e1, h.e2] at h1
  exact ⟨h1.1, by have := h1.2; simp at this; exact this⟩
/-- where cells are left, one may suppose that the wave at hand is not through -/
theorem QInv.norm {g : Gr} {p : Pt} {i : Nat} {Wv sn : List Pt} (h : QInv g p i Wv sn) (hi : i < Wv.length) : ∃ n pre A c B seen0 nx, QI g p n pre A (c :: B) seen0 nx i Wv sn := by
  obtain ⟨n, pre, A, B, seen0, nx, hq⟩ := h
  cases B with
  | cons c B => exact ⟨n, pre, A, c, B, seen0, nx, hq⟩
  | nil =>
    cases nx with
    | nil =>
      exfalso
      have h1 := hq.eq
      have h2 := hq.ln
      rw [h1] at hi
      simp at hi
      omega
    | cons c nx =>
      have h1 := hq.wv.step
      rw [List.append_nil, hq.e1, hq.e2] at h1
      refine ⟨n + 1, pre ++ A, [], c, nx, sn, [], h1, hq.wi2.1, rfl, rfl, ?_, ?_, ?_, ?_⟩
      · rw [hq.eq]; simp
      · rw [hq.ln]; simp
      · have h2 := hq.sz
        have h3 := hq.wi2.2
        simp at h2 h3 ⊢
        omega
      · intro q hq2
        rw [← hq.e1, (expand_mem g A seen0 [] q).1]
        rcases List.mem_append.1 hq2 with h4 | h4
        · exact .inl (hq.sb q h4)
        · exact .inl (hq.wi.sub q (List.mem_append_left _ h4))
theorem QI.at {g : Gr} {p : Pt} {n : Nat} {pre A B seen0 nx : List Pt} {c : Pt} {i : Nat} {Wv sn : List Pt} (h : QI g p n pre A (c :: B) seen0 nx i Wv sn) : pt Wv i = c := by
  rw [h.eq, h.ln]
  unfold pt
  rw [List.getD_eq_getElem?_getD]
  simp [List.append_assoc]
theorem QI.cur {g : Gr} {p : Pt} {n : Nat} {pre A B seen0 nx : List Pt} {c : Pt} {i : Nat} {Wv sn : List Pt} (h : QI g p n pre A (c :: B) seen0 nx i Wv sn) : IsD g p c n := (h.wv.n c).1 (by simp)
theorem QI.seen {g : Gr} {p : Pt} {n : Nat} {pre A B seen0 nx : List Pt} {i : Nat} {Wv sn : List Pt} (h : QI g p n pre A B seen0 nx i Wv sn) {x : Pt} (hx : x ∈ sn) : ∃ m, IsD g p x m := by
  rw [← h.e1, (expand_mem g A seen0 [] x).1, h.wv.s] at hx
  rcases hx with ⟨m, _, h2⟩ | ⟨r, h1, h2⟩
  · obtain ⟨k, _, h3⟩ := h2.isD
    exact ⟨k, h3⟩
  · have hr := (h.wv.n r).1 (List.mem_append_left _ h1)
    obtain ⟨k, _, h3⟩ := (Walk.cons hr.w h2).isD
    exact ⟨k, h3⟩
theorem QI.fresh {g : Gr} {p : Pt} {n : Nat} {pre A B seen0 nx : List Pt} {c : Pt} {i : Nat} {Wv sn : List Pt} (h : QI g p n pre A (c :: B) seen0 nx i Wv sn) {x : Pt} (hx : x ∈ near g c) (hn : x ∉ sn) : IsD g p x (n + 1) := by
  refine ⟨.cons h.cur.w hx, fun m hm hw => hn ?_⟩
  rw [← h.e1, (expand_mem g A seen0 [] x).1, h.wv.s]
  exact .inl ⟨m, by omega, hw⟩
theorem QI.next {g : Gr} {p : Pt} {n : Nat} {pre A B seen0 nx : List Pt} {c : Pt} {i : Nat} {Wv sn : List Pt} (h : QI g p n pre A (c :: B) seen0 nx i Wv sn) :
    QI g p n pre (A ++ [c]) B seen0 (addN sn nx (near g c)).2 (i + 1) (Wv ++ (addN sn [] (near g c)).2) (addN sn [] (near g c)).1 := by
  have hw := h.wv
  have hi := h.wi
  rw [show A ++ c :: B = A ++ [c] ++ B by simp] at hw hi
  refine ⟨hw, hi, ?_, ?_, ?_, ?_, ?_, h.sb⟩
  · rw [expand_snoc, h.e1, h.e2]; exact addN_fst_next _ _ _ _
  · rw [expand_snoc, h.e1, h.e2]
  · rw [h.eq, addN_snd_next (near g c) sn nx]; simp
  · rw [h.ln]; simp; omega
  · have := h.sz; simp at this ⊢; omega

section
variable {g : Gr} {p : Pt} {i : Nat} {Wv sn : List Pt}
theorem QInv.step (h : QInv g p i Wv sn) (hi : i < Wv.length) : QInv g p (i + 1) (Wv ++ (addN sn [] (near g (pt Wv i))).2) (addN sn [] (near g (pt Wv i))).1 := by
  obtain ⟨n, pre, A, c, B, seen0, nx, hq⟩ := h.norm hi
  rw [hq.at]
  exact ⟨_, _, _, _, _, _, hq.next⟩
theorem QInv.wi (h : QInv g p i Wv sn) : sn.Nodup ∧ (∀ q ∈ sn, inside g q = true) ∧ Wv.length = sn.length ∧ ∀ q ∈ Wv, q ∈ sn := by
  obtain ⟨n, pre, A, B, seen0, nx, hq⟩ := h
  refine ⟨hq.wi2.1.nd, hq.wi2.1.ins, ?_, ?_⟩
  · have h1 := hq.wi2.2
    have h2 := hq.sz
    rw [hq.eq]
    simp at h2 ⊢
    omega
  · intro q hq2
    rw [hq.eq] at hq2
    rcases List.mem_append.1 hq2 with h4 | h4
    · rw [← hq.e1, (expand_mem g A seen0 [] q).1]
      rcases List.mem_append.1 h4 with h4 | h4
      · exact .inl (hq.sb q h4)
      · exact .inl (hq.wi.sub q h4)
    · exact hq.wi2.1.sub q h4
theorem QInv.val (h : QInv g p i Wv sn) (hr : Right g) (hp : inside g p = true) (hi : i < Wv.length) : 0 ≤ dst g p (pt Wv i) ∧ ∀ x ∈ near g (pt Wv i), x ∉ sn → dst g p x = dst g p (pt Wv i) + 1 := by
  obtain ⟨n, pre, A, c, B, seen0, nx, hq⟩ := h.norm hi
  rw [hq.at]
  have h1 := dst_of hr hp hq.cur
  refine ⟨by omega, fun x hx hn => ?_⟩
  rw [dst_of hr hp (hq.fresh hx hn), h1]
  omega
theorem QInv.pos (h : QInv g p i Wv sn) (hr : Right g) (hp : inside g p = true) {x : Pt} (hx : x ∈ sn) : 0 ≤ dst g p x := by
  obtain ⟨n, pre, A, B, seen0, nx, hq⟩ := h
  obtain ⟨m, hm⟩ := hq.seen hx
  rw [dst_of hr hp hm]
  omega
theorem QInv.done (h : QInv g p i Wv sn) (hi : i = Wv.length) {x : Pt} (hx : x ∉ sn) : dst g p x = -1 := by
  obtain ⟨n, pre, A, B, seen0, nx, hq⟩ := h
  have h1 := hq.eq
  have h2 := hq.ln
  have h3 : B = [] ∧ nx = [] := by
    rw [h1] at hi
    simp at hi
    exact ⟨List.eq_nil_of_length_eq_zero (by omega), List.eq_nil_of_length_eq_zero (by omega)⟩
  obtain ⟨rfl, rfl⟩ := h3
  have hs := hq.wv.step
  rw [List.append_nil, hq.e1, hq.e2] at hs
  refine dst_none fun k hk => ?_
  by_cases hkn : k ≤ n + 1
  · exact hx ((hs.s x).2 ⟨k, hkn, hk.w⟩)
  · obtain ⟨r, hr⟩ := IsD.down (m := n + 1) (n := k - (n + 1)) (by rw [show n + 1 + (k - (n + 1)) = k by omega]; exact hk)
    have := (hs.n r).2 hr
    cases this
end
end Go.Proofs.Ytfigooilhnahfaa
