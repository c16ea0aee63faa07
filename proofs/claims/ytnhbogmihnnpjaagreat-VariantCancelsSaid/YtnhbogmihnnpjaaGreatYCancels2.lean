/- Steps of the proof: QOpenI. No conditions. -/
import Derived.Test.YtnhbogmihnnpjaaGreatYB1
import Derived.Test.YtnhbogmihnnpjaaGreatYB2
import Derived.Test.YtnhbogmihnnpjaaGreatYB3
import Derived.Test.YtnhbogmihnnpjaaGreatYB4
import Derived.Test.YtnhbogmihnnpjaaGreatYB5
import Derived.Test.YtnhbogmihnnpjaaGreatYB6
import Derived.Test.YtnhbogmihnnpjaaGreatYB7
import Derived.Test.YtnhbogmihnnpjaaGreatYB8
import Derived.Test.YtnhbogmihnnpjaaGreatYB9
import Derived.Test.YtnhbogmihnnpjaaGreatYB10
import Derived.Test.YtnhbogmihnnpjaaGreatYCancels1
/- Lists of ints as arguments, opened. -/
namespace Go.Proofs.YtnhbogmihnnpjaaGreat
open Go.RowKit Go.ChangeShapes Go.WideShapes Go.Joins Go.Deep

section
variable {H : Type} {enc : TypeId × Value → H} {w : World} {base : Nat} {spare : Nat → Bool} {held : Bool}
theorem open_cellsI {a : Addr} {len : Nat} (h : ∀ i, i < len → ∃ cs' n x, w.cells? base (a.add (i * 1)) 1 = some cs' ∧ DataW.trod enc Tryz.prog w base spare held n 3 cs' = some x) : ∃ l : List Int, l.length = len ∧ CellsI w (some a) l := by
  have key : ∀ i, i < len → ∃ y : Int, w.cell? (a.add (i * 1)) = some (.int .i64 y) := fun i hi => by
    obtain ⟨cs', n, x, h1, h2⟩ := h i hi
    obtain ⟨y, rfl, _, _⟩ := DataW.trod_int Tryz.underlying3 h2
    obtain ⟨_, _, hc⟩ := World.cells?_some h1
    have c0 := hc 0 (by omega)
    refine ⟨y, ?_⟩
    have e : (a.add (i * 1)).add 0 = a.add (i * 1) := by simp [Addr.add]
    rw [e] at c0
    exact c0
  obtain ⟨f, hf⟩ := choose_lt (α := Int) key
  refine ⟨(List.range len).map f, by simp, fun i hi => ?_⟩
  have hi' : i < len := by simpa using hi
  have h1 := hf i hi'
  have hp : ((List.range len).map f).getD i 0 = f i := by simp [List.getD, hi']
  rw [hp]
  obtain ⟨b, off, spot⟩ := a
  have hs : spot = none := by
    have h0 := World.cell?_spot (hf 0 (by omega))
    simpa [Addr.add] using h0
  subst hs
  rw [Addr.add_lit, Nat.mul_one] at h1
  exact ⟨b, off, rfl, h1⟩
set_option maxRecDepth 100000 in
theorem open_ints {r : Reach} {b0 : Nat} {v : Value} {d : DataW H} {p : List MemPlace} (hv : Value.okWide Tryz.prog w r b0 27 v) (h : DataW.Trod enc Tryz.prog w base spare held 27 v d p) :
    ∃ (l : List Int) (a : Option Addr) (cap : Nat), v = .slice a l.length cap ∧ CellsI w a l ∧ l.length ≤ cap ∧ cap ≤ maxLen := by
  have key : v.cells.toList = [v] := by
    simp only [Value.okWide, Tryz.underlying27] at hv
    cases v <;> first | rfl | (simp [Cell.okWide, Cell.ok, Tryz.underlying27] at hv)
  obtain ⟨fuel, hf⟩ := h
  rw [key] at hf
  rcases open_slice Tryz.underlying27 hf with ⟨h1, _⟩ | ⟨a, len, cap, m, n, D, Pl, h1, hb, hl, hm, hmm, _, hx⟩
  · simp at h1
    exact ⟨[], none, 0, h1, fun i hi => by simp at hi, by simp, by simp⟩
  · simp at h1
    rw [cellsOfInt] at hx
    have hlm : len ≤ m := by rw [hmm]; split <;> omega
    obtain ⟨l, hll, hc⟩ := open_cellsI (enc := enc) (spare := spare) (held := held) (w := w) (base := base) (a := a) (len := len) (fun i hi => by
      obtain ⟨cs', h2, h3⟩ := hx i (by omega)
      exact ⟨cs', n, _, h2, h3⟩)
    exact ⟨l, some a, cap, by rw [h1, hll], hc, by rw [hll]; exact hl, hm⟩
set_option maxRecDepth 100000 in
theorem open_u8 {r : Reach} {b0 : Nat} {v : Value} {d : DataW H} {p : List MemPlace} (hv : Value.okWide Tryz.prog w r b0 5 v) (h : DataW.Trod enc Tryz.prog w base spare held 5 v d p) :
    ∃ i : Int, v = .int .u8 i ∧ 0 ≤ i ∧ i ≤ 255 := by
  have key : v.cells.toList = [v] := by
    simp only [Value.okWide, Tryz.underlying5] at hv
    cases v <;> first | rfl | (simp [Cell.okWide, Cell.ok, Tryz.underlying5] at hv)
  obtain ⟨fuel, hf⟩ := h
  rw [key] at hf
  obtain ⟨i, e0, _, w0⟩ := DataW.trod_int Tryz.underlying5 hf
  simp at e0
  refine ⟨i, e0, ?_⟩
  simp [Lit.wf] at w0
  have h1 : IntKind.u8.min = 0 := by decide
  have h2 : IntKind.u8.max = 255 := by decide
  rw [h1, h2] at w0
  exact w0
end
end Go.Proofs.YtnhbogmihnnpjaaGreat
