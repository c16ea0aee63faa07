/- Steps of the proof: FRead, FFmt, FBld, FText, FDigR, FRedR, FTxtR, FSplR, FSig, FParse, FChkR. No conditions. -/
import Derived.Test.YtdejgaiocjfhjaaGreatDoorZSB1
import Derived.Test.YtdejgaiocjfhjaaGreatDoorZSB2
import Derived.Test.YtdejgaiocjfhjaaGreatDoorZSB3
namespace Go.Proofs.YtdejgaiocjfhjaaGreatDoor
open Go.RowKit
theorem ext_bytes (w : World) (e : TypeId) (s : ByteArray) : Ext w (Lib.bytesWorld w e s) := Lib.bytesWorld_below w e s
theorem Parse_any (d : Txt) (w : World) (hd : DigitL d) (hne : d ≠ []) (hl : d.length ≤ 18) :
    Calls Tryz.prog 188 #[txt d, .int .i64 10, .int .i64 64] w fun e w' => e = .returned (.tuple #[.int .u64 (decV d : Nat), .nilIface]) ∧ Ext w w' :=
  (Tryz.strconv_ParseUint_10_at64_ok ⟨d.toArray⟩ (by show d.toArray.size ≤ _; simp; omega) (decV d) (parse_eq hd hne hl) w).mono fun e w' h => by
    rcases h with ⟨h1, rfl | rfl⟩
    · exact ⟨h1, Ext.refl _⟩
    · exact ⟨h1, ext_bytes _ _ _⟩
theorem extract_txt (s : Txt) (i j : Nat) : (⟨s.toArray⟩ : ByteArray).extract i j = ⟨((s.take j).drop i).toArray⟩ := by
  apply ByteArray.ext
  rw [ByteArray.data_extract]
  simp [List.drop_take]
set_option maxHeartbeats 4000000 in
set_option maxRecDepth 100000 in
theorem read_any (s : Txt) (w : World) (hs : DigitL s) (hl : s.length ≤ 500) :
    Calls Tryz.prog 162 #[txt s] w (OwnNPost .u64 161 (toB 1000000000 (decV s)) w) := by
  obtain ⟨i0, hi, hi0, hi1, hi2⟩ := info_parts infoU64
  have HS := Lib.hid hs
  clear hs
  go_enter Tryz.func162, Tryz.ntmps162
  go_wp2
  go_loopw [3, 4] (fun v en wr => ∃ (vv : Value) (o : List Nat), v = vv ∧ en = .int .i64 ((s.length : Int) - 9 * (o.length : Int)) ∧ 9 * o.length ≤ s.length + 9 ∧ Hid (ReadI 9 s o) ∧ Hid (OwnsN .u64 161 wr vv o) ∧ Hid (∀ b, vv.ownBlock = some b → w.heap.size ≤ b) ∧ Ext w wr) (fun _ en _ => (intOf en + 9).toNat)
  case atStart => exact ⟨_, [], rfl, by simp, by simp, ReadI.start 9 s, OwnsN.nil _ _ _, (fun b hb => by cases hb), Ext.refl _⟩
  case round =>
    obtain ⟨vv, o, hvv, rfl, hol, HR, HO, HN, he⟩ := hrel
    obtain rfl := hvv.symm
    by_cases hgt : 9 * o.length < s.length
    · obtain ⟨en, hen⟩ : ∃ en, en = s.length - 9 * o.length := ⟨_, rfl⟩
      have hee : (s.length : Int) - 9 * (o.length : Int) = (en : Int) := by omega
      have he0 : (0 : Int) < (en : Int) := by omega
      have hes : (en : Int) ≤ (s.length : Int) := by omega
      obtain ⟨st, hst⟩ : ∃ st, st = en - 9 := ⟨_, rfl⟩
      have hw1 : IntKind.i64.wrap ((en : Int) - 9) = (en : Int) - 9 := by rw [IntKind.wrap_i64]; omega
      have hmx : max (0 : Int) ((en : Int) - 9) = (st : Int) := by omega
      have hst0 : (0 : Int) ≤ (st : Int) := by omega
      have hst1 : (st : Int) ≤ (en : Int) := by omega
      have hex := extract_txt s st en
      have hnx := HR.out.next (by omega) HS.out
      rw [← hen, ← hst] at hnx
      obtain ⟨d, hd⟩ : ∃ d, d = (s.take en).drop st := ⟨_, rfl⟩
      rw [← hd] at hnx hex
      have hdl : d.length ≤ 9 := by rw [hd, List.length_drop, List.length_take]; omega
      have hdn : d ≠ [] := by
        intro e
        have : d.length = 0 := by rw [e]; rfl
        rw [hd, List.length_drop, List.length_take] at this
        omega
      have HP := Lib.hid (fun W => Parse_any d W (by rw [hd]; exact (HS.out.of_take en).of_drop st) hdn (by omega))
      have HNX := Lib.hid hnx
      have HEN := Lib.hid hen
      rw [hee]
      clear hd hst hen hnx hdl hdn
      generalize decV d = x at HNX HP
      have hol2 : o.length ≤ 100 := by omega
      have hEnd : Hid ((en : Int) - 9 = (s.length : Int) - 9 * ((o ++ [x]).length : Int)) := by
        show _ = _
        rw [List.length_append, List.length_singleton]; omega
      have hlo : Hid (9 * (o ++ [x]).length ≤ s.length + 9) := by
        show _ ≤ _
        rw [List.length_append, List.length_singleton]; omega
      clear hee HEN HR
      go_wp2_with (first
        | (go_at_call 188; refine (HP.out _).mono ?_; rintro e w' ⟨rfl, hE⟩)
        | (at_builtin; refine wpList_append1 _ rfl _ _ 114 rfl 161 i0 (.int .u64 0) 1 8 Tryz.underlying114 hi hi0 hi1 hi2 rfl (by decide) vv o.length (natsV .u64 o) rfl (HO.out.ext extA) ⟨w'.heap.size, 0, none⟩ 1 1 (by decide) [.int .u64 (x : Int)] rfl rfl (cells_one _ _ _) (by intro u hu; simp at hu; subst hu; rfl) (by unfold maxLen; omega) (by omega) ?_))
      all_goals
        intro v' w5 hown5 hend5
        have E5 : Ext wr (w'.alloc (.cells #[.int .u64 (x : Int)] 161)) := extA
        have hz5 := he.size
        have hz6 := E5.size
        have OB5 : Hid (∀ b, v'.ownBlock = some b → w.heap.size ≤ b) := hend5.ge (n := w.heap.size) (by omega) HN.out
        have O5 : Hid (OwnsN .u64 161 w5 v' (o ++ [x])) := ownsN_succ hown5
        have B5 : Ext w w5 := (he.trans E5).trans' (hend5.below (n := w.heap.size) (by omega) HN.out) (Nat.le_refl _)
        clear hown5 hend5 HO hz5 hz6 E5
        go_wp2
        refine ⟨⟨v', o ++ [x], rfl, by rw [← hEnd.out], hlo.out, HNX, O5, OB5, B5⟩, by simp [intOf]; omega⟩
    · have he0 : ¬ (0 : Int) < (s.length : Int) - 9 * (o.length : Int) := by omega
      have hdone : trimL o = toB 1000000000 (decV s) := HR.out.done (by omega) (by omega)
      obtain ⟨oa, oc, rfl, hoc, hor, _⟩ := HO.out.reads
      have HNB : Hid (∀ b, (Value.slice oa (trimL o).length oc).ownBlock = some b → w.heap.size ≤ b) := fun b hb => HN.out b (by cases oa <;> exact hb)
      have HT := Lib.hid (trimmed_any o oa oc wr hor hoc)
      have HDN := Lib.hid hdone
      clear hoc hor hdone
      generalize (s.length : Int) - 9 * (o.length : Int) = z at *
      go_wp2_with (go_at_call 173; refine HT.out.mono ?_; rintro e w5 ⟨rfl, hn5, hE5⟩)
      go_ret
      refine ⟨_, rfl, ?_, HNB.out, he.trans hE5⟩
      rw [← HDN.out]
      exact (HO.out.ext hE5).trim hn5
end Go.Proofs.YtdejgaiocjfhjaaGreatDoor
namespace Go.Proofs.YtdejgaiocjfhjaaGreatDoor
open Go.RowKit Go.Lib Go.Sort
theorem holds_zero0 (w : World) (T : TypeId) (nd : Nat) (hs : nd ≤ 24) : Holds (fun (b : UInt8) => Value.int .u8 (b.toNat : Int)) (w.alloc (.cells zeros24 T)) w.heap.size 0 (Array.replicate nd (0 : UInt8)) := fun j hj => by
  have hj' : j < nd := by simpa using hj
  refine ⟨?_, World.frozen?_alloc_new _ _ _ _⟩
  rw [World.cell?_alloc_new, zeros24_at _ (by omega), getElem!_pos _ j hj]
  simp
theorem ext_putRow {w A : World} (h : Ext w A) {b : Nat} (hb : w.heap.size ≤ b) (o : Nat) (d : Array UInt8) : Ext w (putRow (fun (b : UInt8) => Value.int .u8 (b.toNat : Int)) A b o d) := by
  refine ⟨h.os, h.tape, h.output, by rw [size_putRow]; exact h.size, fun k hk => ?_⟩
  rw [← h.block k hk]
  simp only [putRow, mapBlock, Array.getElem?_modify]
  rw [if_neg (by omega)]
set_option maxHeartbeats 4000000 in
set_option maxRecDepth 100000 in
theorem FormatU_any (u : Nat) (w : World) (hu : u < 18446744073709551616) (htab : TabIs Tryz.prog w "internal/strconv.uint64pow10" .u64 pow10Tab) :
    Calls Tryz.prog 200 #[.int .u64 (u : Int), .int .i64 10] w fun e w' => e = .returned (.string ⟨(decDigits u).toArray⟩) ∧ Ext w w' := by
  have mixed : Tryz.prog.follows Departure.mixedOrders = true := by kernel_rfl
  by_cases hs : u < 100
  · have hi : (u : Int) < 100 := by omega
    have hw : IntKind.i64.wrap (u : Int) = (u : Int) := by rw [IntKind.wrap_i64]; omega
    go_enter Tryz.func200, Tryz.ntmps200
    go_wp2_with (go_at_call 193; refine (Tryz.internal_strconv_small u hs _).mono ?_; rintro e w' ⟨rfl, rfl⟩)
    go_ret
    exact ⟨rfl, Ext.refl _⟩
  · have hi : ¬ (u : Int) < 100 := by omega
    have hu1 : 1 ≤ u := by omega
    have hnd20 : nDigits u ≤ 20 := by have := numDigits_eq u hu1 hu; split at this <;> omega
    have hal : Tryz.prog.arrayLen 214 = 24 := by simp [Program.arrayLen, Tryz.underlying214]
    have hsl1 : ∀ W, (Instr.sliceAt 214 (.pointer (some ⟨w.heap.size, 0, none⟩)) none (some (.int .i64 (nDigits u : Int))) none).run Tryz.prog W = .ok (.slice (some ⟨w.heap.size, 0, none⟩) (nDigits u) 24) W := fun W => by
      rw [run_sliceAt_array_h W 214 ⟨w.heap.size, 0, none⟩ (by simp [Program.arrayLen, Program.elem, Tryz.underlying214]) .i64 (nDigits u : Int) (by omega) (by rw [hal]; omega)]
      go_simp
    have hH0 := holds_zero0 w 214 (nDigits u) (by omega)
    have hfmt := Tryz.internal_strconv_formatBase10 w.heap.size 0 24 u (Array.replicate (nDigits u) 0) (w.alloc (.cells zeros24 214)) hH0 (by rw [Array.size_replicate]; exact lt_pow_nDigits u) hu (by rw [Array.size_replicate]; omega)
    rw [Array.size_replicate] at hfmt
    have HH0 := Lib.hid hH0
    clear hH0 hal
    go_enter Tryz.func200, Tryz.ntmps200
    go_wp2_with (go_at_call 194; refine (Tryz.internal_strconv_numDigits u hu1 hu _ (tabIs_alloc htab _)).mono ?_; rintro e w' ⟨rfl, rfl⟩)
    refine hfmt.mono ?_
    rintro e w' ⟨rfl, k, v', dk, rfl, hF⟩
    have hcv : (convert 174 9 (.slice (some ⟨w.heap.size, 0, none⟩) (nDigits u) 24)).run Tryz.prog ((putRow (fun (b : UInt8) => Value.int .u8 (b.toNat : Int)) (w.alloc (.cells zeros24 214)) w.heap.size 0 dk).drewN k) = .ok (.string ⟨(decDigits u).toArray⟩) ((putRow (fun (b : UInt8) => Value.int .u8 (b.toNat : Int)) (w.alloc (.cells zeros24 214)) w.heap.size 0 dk).drewN k) := by
      have h := run_convert_bytes_back (P := Tryz.prog) ((putRow (fun (b : UInt8) => Value.int .u8 (b.toNat : Int)) (w.alloc (.cells zeros24 214)) w.heap.size 0 dk).drewN k) 174 9 5 ⟨w.heap.size, 0, none⟩ 24 (decDigits u) Tryz.underlying174 Tryz.underlying5 Tryz.underlying9 (fun j hj => by
        rw [row_is_numeral hF j hj, add_plain, World.cell?_drewN]
        exact cell?_putRow (fun (b : UInt8) => Value.int .u8 (b.toNat : Int)) _ w.heap.size 0 _ dk HH0.out (by rw [hF.size, Array.size_replicate]) j (by rw [hF.size]; rw [decDigits_length] at hj; exact hj))
      rw [decDigits_length] at h
      exact h
    have E : Ext w ((putRow (fun (b : UInt8) => Value.int .u8 (b.toNat : Int)) (w.alloc (.cells zeros24 214)) w.heap.size 0 dk).drewN k) := Ext.drewN (ext_putRow ((Ext.refl w).alloc _) (Nat.le_refl _) _ _) _
    go_wp2
    go_ret
    exact ⟨rfl, E⟩
theorem FormatUint_any (u : Nat) (w : World) (hu : u < 18446744073709551616) (htab : TabIs Tryz.prog w "internal/strconv.uint64pow10" .u64 pow10Tab) :
    Calls Tryz.prog 176 #[.int .u64 (u : Int), .int .i64 10] w fun e w' => e = .returned (.string ⟨(decDigits u).toArray⟩) ∧ Ext w w' := by
  have HF := Lib.hid (FormatU_any u w hu htab)
  go_enter Tryz.func176, Tryz.ntmps176
  go_wp2_with (go_at_call 200; refine HF.out.mono ?_; rintro e w' ⟨rfl, hE⟩)
  go_ret
  exact ⟨rfl, hE⟩
theorem Repeat_any (n : Nat) (w : World) (hn : n ≤ 100) :
    Calls Tryz.prog 177 #[.string ⟨#[48]⟩, .int .i64 (n : Int)] w fun e w' => e = .returned (.string ⟨(List.replicate n (48 : UInt8)).toArray⟩) ∧ Ext w w' :=
  (Tryz.strings_Repeat ⟨#[48]⟩ n w (by omega) (by show 1 * n ≤ _; omega)).mono fun e w' h => by
    refine ⟨?_, h.2⟩
    rw [h.1]
    congr 3
    have : ∀ k, repeatL ((⟨#[48]⟩ : ByteArray).data.toList) k = List.replicate k (48 : UInt8) := fun k => by
      induction k with
      | zero => rfl
      | succ k ih => rw [repeatL, ih, List.replicate_succ]; rfl
    rw [this]
end Go.Proofs.YtdejgaiocjfhjaaGreatDoor
namespace Go.Proofs.YtdejgaiocjfhjaaGreatDoor
open Go.RowKit
def BldW (b n3 : Nat) (l : Txt) (W : World) : Prop :=
  ∃ p v, W.heap[b]? = some (.cells #[p, v] 176 (0, 0)) ∧ (p = .pointer none ∨ p = .pointer (some ⟨b, 0, none⟩)) ∧
    W.ownsRow n3 5 1 v l.length (Lib.byteCells l)
theorem BldW.fresh {b n3 : Nat} {W : World} (h : W.heap[b]? = some (.cells #[.pointer none, .slice none 0 0] 176 (0, 0))) : BldW b n3 [] W :=
  ⟨_, _, h, .inl rfl, World.ownsRow_nil W n3 _ _⟩
theorem row_ge {A : World} {n3 : Nat} {e : TypeId} {s : Nat} {v : Value} {n : Nat} {xs : List Value} (h : A.ownsRow n3 e s v n xs) {g : Nat} (hg : v.ownBlock = some g) : n3 ≤ g ∧ ∃ cur, A.heap[g]? = some (.cells cur e (0, 0)) := by
  rcases h.2 with ⟨hv, _⟩ | ⟨g', cap, cur, hv, hb, hh, _⟩
  · rw [hv] at hg; cases hg
  · rw [hv] at hg; cases hg; exact ⟨hb, cur, hh⟩
theorem row_base {A : World} {n3 m : Nat} {e : TypeId} {s : Nat} {v : Value} {n : Nat} {xs : List Value} (h : A.ownsRow n3 e s v n xs) (hm : m ≤ n3) : A.ownsRow m e s v n xs := by
  refine ⟨h.1, ?_⟩
  rcases h.2 with h | ⟨g, cap, cur, hv, hb, r⟩
  · exact .inl h
  · exact .inr ⟨g, cap, cur, hv, Nat.le_trans hm hb, r⟩
theorem row_same {A B : World} {n3 : Nat} {e : TypeId} {s : Nat} {v : Value} {n : Nat} {xs : List Value} (h : A.ownsRow n3 e s v n xs) (k : ∀ b, v.ownBlock = some b → B.heap[b]? = A.heap[b]?) : B.ownsRow n3 e s v n xs := by
  obtain ⟨h1, h2⟩ := h
  refine ⟨h1, ?_⟩
  rcases h2 with h2 | ⟨g, cap, cur, hv, hg, hh, r⟩
  · exact .inl h2
  · exact .inr ⟨g, cap, cur, hv, hg, (k g (by rw [hv]; rfl)).trans hh, r⟩
theorem BldW.is {b n3 : Nat} {l : Txt} {W : World} (h : BldW b n3 l W) (hb : b < n3) : Lib.IsBuilder 176 5 b b (Lib.byteCells l) W := by
  obtain ⟨p, v, h1, h2, h3⟩ := h
  rw [← Lib.byteCells_length] at h3
  have h6 : v.ownBlock ≠ some b := fun e => by have := (row_ge h3 e).1; omega
  rcases h2 with rfl | rfl
  · exact .inl ⟨Nat.le_refl _, v, h1, row_base h3 (Nat.le_of_lt hb), h6⟩
  · exact .inr ⟨Nat.le_refl _, v, h1, row_base h3 (Nat.le_of_lt hb), h6⟩
theorem BldW.keep {b n3 m : Nat} {l : Txt} {A B : World} (h : BldW b n3 l A) (q : Keep m A B) : BldW b n3 l B := by
  obtain ⟨p, v, h1, h2, h3⟩ := h
  refine ⟨p, v, q.2 b _ h1 rfl, h2, row_same h3 (fun g hg => ?_)⟩
  obtain ⟨_, cur, hh⟩ := row_ge h3 hg
  exact (q.2 g _ hh rfl).trans hh.symm
theorem BldW.ext {b n3 : Nat} {l : Txt} {A B : World} (h : BldW b n3 l A) (q : Ext A B) : BldW b n3 l B := h.keep (Keep.ext q (Nat.le_refl _))
set_option maxHeartbeats 2000000 in
set_option maxRecDepth 100000 in
theorem copyCheck_used (b : Nat) (w : World) (h0 : w.cell? ⟨b, 0, none⟩ = some (.pointer (some ⟨b, 0, none⟩))) :
    Calls Tryz.prog 171 #[.pointer (some ⟨b, 0, none⟩)] w fun e w' => e = .returned (.tuple #[]) ∧ w' = w := by
  obtain ⟨j, hj, _⟩ := Option.map_eq_some_iff.1 Tryz.Builder_Extra_169.sizeBuilder
  go_enter Tryz.func171, Tryz.ntmps171
  go_wp2
  rw [Lib.run_neq_ptr_same w _ Tryz.underlying173 hj]
  go_wp2
  go_end0
  exact ⟨rfl, rfl⟩
set_option maxHeartbeats 2000000 in
set_option maxRecDepth 100000 in
theorem copyCheck_fresh (b : Nat) (w : World) (h0 : w.cell? ⟨b, 0, none⟩ = some (.pointer none)) (hsh : w.shape? b = some (176, 2)) (hfz : w.frozen? ⟨b, 0, none⟩ = false) :
    Calls Tryz.prog 171 #[.pointer (some ⟨b, 0, none⟩)] w fun e w' => e = .returned (.tuple #[]) ∧ w' = w.setCell ⟨b, 0, none⟩ (.pointer (some ⟨b, 0, none⟩)) := by
  obtain ⟨j, hj, hjs⟩ := Option.map_eq_some_iff.1 Tryz.Builder_Extra_169.sizeBuilder
  go_enter Tryz.func171, Tryz.ntmps171
  go_wp2
  rw [Lib.run_to_unsafe w ⟨b, 0, none⟩ Tryz.underlying173 Tryz.underlying219 hj (by rw [hjs]; decide) hsh (Nat.zero_lt_succ 1)]
  simp only [Result.andThen]
  rw [Oper.upon_value]
  go_wp2
  rw [run_callFunc_extern Tryz.func197 (by kernel_rfl) (by kernel_rfl) (by kernel_rfl) (e := Extern.AbiNoEscape.same) (by kernel_rfl)]
  rw [Lib.run_noEscape]
  simp only [Result.andThen]
  rw [Oper.upon_value]
  go_wp2
  rw [Lib.run_from_unsafe w ⟨b, 0, none⟩ Tryz.underlying219 Tryz.underlying173 hj hsh Tryz.Builder_Extra_169.liesBuilder]
  simp only [Result.andThen]
  rw [Oper.upon_value]
  go_wp2
  go_end0
  exact ⟨rfl, rfl⟩
theorem strCells_txt (m : Txt) : Lib.strCells ⟨m.toArray⟩ = Lib.byteCells m := by
  unfold Lib.strCells Lib.byteCells
  rfl
theorem byteCells_app (l m : Txt) : Lib.byteCells (l ++ m) = Lib.byteCells l ++ Lib.byteCells m := by
  unfold Lib.byteCells
  rw [List.map_append]
set_option maxHeartbeats 2000000 in
set_option maxRecDepth 100000 in
theorem WriteString_any (b n3 : Nat) (l m : Txt) (w : World) (h : BldW b n3 l w) (hb : b < n3) (hn : n3 ≤ w.heap.size) (hlen : l.length + m.length ≤ 100000) :
    Calls Tryz.prog 178 #[.pointer (some ⟨b, 0, none⟩), txt m] w fun e w' => e = .returned (.tuple #[.int .i64 m.length, .nilIface]) ∧ BldW b n3 (l ++ m) w' ∧ Below b w w' ∧
      ∃ M : Nat → Prop, Chg M w w' ∧ (∀ k, M k → k = b ∨ n3 ≤ k) ∧ ∀ k, M k → ∀ o, w.heap[k]? = some o → o.isCells = true := by
  obtain ⟨i0, hi, hz0, hz1, hz2⟩ := info_parts Tryz.Builder_Extra_169.infoByte
  obtain ⟨p, v, h1, h2, h3⟩ := h
  have hbw : b < w.heap.size := by omega
  have hvb : v.ownBlock ≠ some b := fun e => by have := (row_ge h3 e).1; omega
  have hCC : Hid (Calls Tryz.prog 171 #[.pointer (some ⟨b, 0, none⟩)] w fun e w' => e = .returned (.tuple #[]) ∧ w'.heap[b]? = some (.cells #[.pointer (some ⟨b, 0, none⟩), v] 176 (0, 0)) ∧ Chg (fun k => k = b) w w' ∧ Below b w w') := by
    rcases h2 with rfl | rfl
    · refine (copyCheck_fresh b w (by simp [World.cell?, h1]) (by simp [World.shape?, h1]) (by simp [World.frozen?, h1])).mono ?_
      rintro e w' ⟨rfl, rfl⟩
      refine ⟨rfl, ?_, Chg.setCell (B := fun k => k = b) ⟨b, 0, none⟩ _ rfl, (Below.refl b w).setCell (p := ⟨b, 0, none⟩) (Nat.le_refl _) _⟩
      simp only [World.setCell, Array.getElem?_modify, h1]
      simp
    · refine (copyCheck_used b w (by simp [World.cell?, h1])).mono ?_
      rintro e w' ⟨rfl, rfl⟩
      exact ⟨rfl, h1, Chg.refl _ _, Below.refl _ _⟩
  have HM : Hid ((∀ k, (k = b ∨ v.ownBlock = some k) → k = b ∨ n3 ≤ k) ∧ ∀ k, (k = b ∨ v.ownBlock = some k) → ∀ o, w.heap[k]? = some o → o.isCells = true) := by
    refine ⟨fun k hk => hk.imp id (fun e => (row_ge h3 e).1), ?_⟩
    rintro k (rfl | hk) o ho
    · rw [h1] at ho; cases ho; rfl
    · obtain ⟨_, cur, hh⟩ := row_ge h3 hk
      rw [hh] at ho; cases ho; rfl
  have HR := Lib.hid h3
  have HV := Lib.hid hvb
  clear h1 h2 h3 hvb
  go_enter Tryz.func178, Tryz.ntmps178
  go_wp2_with (go_at_call 171; refine hCC.out.mono ?_)
  rintro e w1 ⟨rfl, k1, k2, k3⟩
  have c0 : w1.cell? ⟨b, 0, none⟩ = some (.pointer (some ⟨b, 0, none⟩)) := by rw [Lib.cell_of_heap k1]; rfl
  have c1 : w1.cell? ⟨b, 1, none⟩ = some v := by rw [Lib.cell_of_heap k1]; rfl
  have hown : w1.ownsRow n3 5 1 v l.length (Lib.byteCells l) := row_same HR.out (fun g hg => k2.2 g (by
    obtain ⟨_, cur, hh⟩ := row_ge HR.out hg
    exact (Array.getElem?_eq_some_iff.1 hh).1) (fun e => HV.out (e ▸ hg)))
  have HK := Lib.hid (And.intro k1 (And.intro k2 k3))
  have hz := k2.1
  clear k1 k2 k3 HR
  go_wp2_with (at_builtin; refine Lib.wpList_append_own_string _ rfl _ _ 174 9 rfl n3 5 i0 Tryz.underlying174 Tryz.underlying9 hi hz0 hz1 hz2 _ _ _ rfl hown ⟨m.toArray⟩ rfl ?c3 ?c4 ?c5 ?_)
  case c3 => show l.length + m.toArray.size ≤ maxLen; unfold maxLen; simp; omega
  case c4 => show l.length + m.toArray.size ≤ _; simp; omega
  case c5 => omega
  intro v' w2 hown' hgrow _
  have hlt : b < w1.heap.size := by omega
  have hb2 : w2.heap[b]? = some (.cells #[.pointer (some ⟨b, 0, none⟩), v] 176 (0, 0)) := by
    rw [hgrow.block b hlt (fun e => HV.out e.symm)]
    exact HK.out.1
  have d0 : w2.cell? ⟨b, 0, none⟩ = some (.pointer (some ⟨b, 0, none⟩)) := by rw [Lib.cell_of_heap hb2]; rfl
  have d1 : w2.cell? ⟨b, 1, none⟩ = some v := by rw [Lib.cell_of_heap hb2]; rfl
  have f1 : w2.frozen? ⟨b, 1, none⟩ = false := Lib.frozen_of_heap hb2 1
  obtain ⟨ao, n', cap, rfl⟩ : ∃ ao n' cap, v' = .slice ao n' cap := by
    rcases hown'.2 with ⟨hv, _⟩ | ⟨g, cap, cur, hv, _⟩
    · exact ⟨_, _, _, hv⟩
    · exact ⟨_, _, _, hv⟩
  have hW : BldW b n3 (l ++ m) (w2.setCell ⟨b, 1, none⟩ (.slice ao n' cap)) := by
    refine ⟨.pointer (some ⟨b, 0, none⟩), .slice ao n' cap, ?_, .inr rfl, ?_⟩
    · show (w2.setCell ⟨b, 1, none⟩ (.slice ao n' cap)).heap[b]? = some (.cells #[.pointer (some ⟨b, 0, none⟩), .slice ao n' cap] _ (0, 0))
      simp only [World.setCell, Array.getElem?_modify, hb2]
      simp
    · have h9 : (w2.setCell ⟨b, 1, none⟩ (.slice ao n' cap)).ownsRow n3 5 1 (.slice ao n' cap) (l.length + (⟨m.toArray⟩ : ByteArray).size) (Lib.byteCells l ++ Lib.strCells ⟨m.toArray⟩) :=
        row_same hown' (fun g hg => Below.heap_setCell _ ⟨b, 1, none⟩ _ g (fun e => by have := (row_ge hown' hg).1; dsimp only at e; omega))
      rw [strCells_txt, ← byteCells_app, show (⟨m.toArray⟩ : ByteArray).size = m.length from by show m.toArray.size = _; simp, ← List.length_append] at h9
      exact h9
  have hC : Chg (fun k => k = b ∨ v.ownBlock = some k) w (w2.setCell ⟨b, 1, none⟩ (.slice ao n' cap)) := by
    refine ((HK.out.2.1.mono (fun k hk => .inl hk)).trans (?_ : Chg _ w1 w2)).trans (Chg.setCell (B := fun k => k = b ∨ v.ownBlock = some k) ⟨b, 1, none⟩ _ (.inl rfl))
    exact ⟨hgrow.size, fun k hk hn => hgrow.block k hk (fun e => hn (.inr e.symm))⟩
  have hB : Below b w (w2.setCell ⟨b, 1, none⟩ (.slice ao n' cap)) :=
    (HK.out.2.2.grown hgrow (by omega) (fun k hk => by have := (row_ge hown hk).1; omega)).setCell (p := ⟨b, 1, none⟩) (Nat.le_refl _) _
  have HF := Lib.hid (And.intro hW (And.intro hB hC))
  clear hW hB hC hown hown' hgrow
  go_wp2
  go_ret2
  exact ⟨by congr 4, HF.out.1, HF.out.2.1, _, HF.out.2.2, HM.out.1, HM.out.2⟩
end Go.Proofs.YtdejgaiocjfhjaaGreatDoor
namespace Go.Proofs.YtdejgaiocjfhjaaGreatDoor
open Go.RowKit
open Go.Lib (decDigits)
attribute [local go_sem] Oper.semAt_some
theorem app_txt (r d : Txt) : (⟨r.toArray⟩ : ByteArray) ++ ⟨d.toArray⟩ = ⟨(r ++ d).toArray⟩ := by
  apply ByteArray.ext
  rw [ByteArray.data_append]
  simp
def txtK (x n k : Nat) : Txt := if k = 0 then [] else decDigits (x / 1000000000 ^ (n - k))
theorem txtK_first {x n : Nat} (hn : n = (toB 1000000000 x).length) (h0 : 0 < n) : txtK x n 1 = decDigits ((toB 1000000000 x).getD (n - 1) 0) := by
  unfold txtK
  rw [if_neg (by omega), getD_toB (by omega)]
  have h1 : x / 1000000000 ^ (n - 1 + 1) = 0 := by
    have h := (len_toB (B := 1000000000) (by omega) (n - 1 + 1) x)
    rw [← hn] at h
    exact Decidable.not_not.1 (fun e => by have := h.2 e; omega)
  have h2 := text_first (k := 9) (n := x) (i := n - 1) (by rw [show (10 : Nat) ^ 9 = 1000000000 from by decide]; exact h1)
  rw [show (10 : Nat) ^ 9 = 1000000000 from by decide] at h2
  rw [h2]
theorem txtK_next {x n k : Nat} (hn : n = (toB 1000000000 x).length) (h0 : 0 < k) (hk : k < n) :
    txtK x n (k + 1) = txtK x n k ++ (List.replicate (9 - (decDigits ((toB 1000000000 x).getD (n - 1 - k) 0)).length) 48 ++ decDigits ((toB 1000000000 x).getD (n - 1 - k) 0)) := by
  unfold txtK
  rw [if_neg (by omega), if_neg (by omega), getD_toB (by omega)]
  have h1 : x / 1000000000 ^ (n - 1 - k + 1) ≠ 0 := (len_toB (B := 1000000000) (by omega) _ x).1 (by omega)
  have h2 := text_next (k := 9) (n := x) (i := n - 1 - k) (by omega) (by rw [show (10 : Nat) ^ 9 = 1000000000 from by decide]; exact h1)
  rw [show (10 : Nat) ^ 9 = 1000000000 from by decide] at h2
  rw [show n - (k + 1) = n - 1 - k by omega, show n - k = n - 1 - k + 1 by omega]
  exact h2
theorem txtK_len {x n k : Nat} (hn : n = (toB 1000000000 x).length) : ∀ (_ : k ≤ n), (txtK x n k).length ≤ 9 * k := by
  induction k with
  | zero => intro _; simp [txtK]
  | succ k ih =>
    intro hk
    have hd : (decDigits ((toB 1000000000 x).getD (n - 1 - k) 0)).length ≤ 9 := digits_text _ (by
      have := okB_getD (okB_toB (B := 1000000000) (by omega) x) (by omega) (n - 1 - k)
      rw [show (10 : Nat) ^ 9 = 1000000000 from by decide]; exact this)
    by_cases h : k = 0
    · subst h
      rw [txtK_first hn (by omega)]
      exact hd
    · rw [txtK_next hn (by omega) (by omega), List.length_append, List.length_append, List.length_replicate]
      have := ih (by omega)
      omega
set_option maxHeartbeats 4000000 in
set_option maxRecDepth 100000 in
theorem text_range (cas cbd : Code) (hcode : rngOf (Tryz.f158.body.getD .skip) = [(cas, cbd)]) (x : Nat) (la : List Nat) (a : Option Addr) (ca : Nat) (w0 w3 : World) (sb bb bl : Nat)
    (hla : la.length ≤ 200) (hx : la = toB 1000000000 x) (hG : Glob w0)
    (ha : CellsN .u64 w0 a la) (E0 : Ext w0 w3) (s0 : w3.cell? ⟨sb, 0, none⟩ = some (.slice a la.length ca)) (b0 : w3.cell? ⟨bb, 0, none⟩ = some (.slice a la.length ca)) (hB0 : BldW bl w3.heap.size [] w3)
    (hsl : sb ≠ bl) (hbl : bb ≠ bl) (hwl : w0.heap.size ≤ bl) (hl3 : bl < w3.heap.size)
    (u2 u4 u5 u6 u7 u8 u9 u10 u12 u13 u14 u15 u16 u17 u18 u19 u20 u21 u22 u23 u24 u25 u26 u27 u28 u29 : Value) (ds : List Deferred) (Q : Exit → Act → World → Prop)
    (hdone : ∀ (D : Nat) (W : World), w3.heap.size ≤ D → D < W.heap.size → BldW bl w3.heap.size (txtK x la.length la.length) W → Ext w0 W → W.heap[D]? = some (.deferred (some [])) → Q .normal { tmps := #[.slice a la.length ca, .pointer (some ⟨bb, 0, none⟩), u2, .pointer (some ⟨bl, 0, none⟩), u4, u5, u6, u7, u8, u9, u10, .func (.func 190) #[] #[.pointer (some ⟨sb, 0, none⟩)], u12, u13, u14, u15, u16, u17, u18, u19, u20, u21, u22, u23, u24, u25, u26, u27, u28, u29], defers := mark D :: ds } W) :
    (Code.rangeFunc (.tmp 11) #[12, 13] cas cbd).wp Tryz.prog Q { tmps := #[.slice a la.length ca, .pointer (some ⟨bb, 0, none⟩), u2, .pointer (some ⟨bl, 0, none⟩), u4, u5, u6, u7, u8, u9, u10, .func (.func 190) #[] #[.pointer (some ⟨sb, 0, none⟩)], u12, u13, u14, u15, u16, u17, u18, u19, u20, u21, u22, u23, u24, u25, u26, u27, u28, u29], defers := ds } w3 := by
  have HC := Lib.hid hcode
  have hsz : sb < w3.heap.size := cell_lt s0
  have hbz : bb < w3.heap.size := cell_lt b0
  have hwz := E0.size
  refine wp_bwd la a ca w0 sb (by omega) ha E0 s0 rfl
    (fun k W => BldW bl w3.heap.size (txtK x la.length k) W ∧ Ext w0 W ∧ W.cell? ⟨bb, 0, none⟩ = some (.slice a la.length ca) ∧ w3.heap.size ≤ W.heap.size) (fun _ _ => False)
    (fun k A B h q => ⟨h.1.keep q, h.2.1.trans' q.1 hwz, q.cell h.2.2.1, Nat.le_trans h.2.2.2 q.1.size⟩) (fun k A B h q => h.elim)
    (fun k A B h q => ⟨h.1.ext q, h.2.1.trans q, q.cell h.2.2.1, Nat.le_trans h.2.2.2 q.size⟩) ⟨hB0, E0, b0, Nat.le_refl _⟩
    (fun k a' W => a' = { tmps := #[.slice a la.length ca, .pointer (some ⟨bb, 0, none⟩), u2, .pointer (some ⟨bl, 0, none⟩), .int .i64 ((la.length : Int) - 1 - (k : Int)), .int .u64 (la.getD (la.length - 1 - k) 0 : Nat), u6, u7, u8, u9, u10, .func (.func 190) #[] #[.pointer (some ⟨sb, 0, none⟩)], .int .i64 ((la.length : Int) - 1 - (k : Int)), .int .u64 (la.getD (la.length - 1 - k) 0 : Nat), u14, u15, u16, u17, u18, u19, u20, u21, u22, u23, u24, u25, u26, u27, u28, u29], defers := [] }) (fun k a' A B h _ => h)
    ?assign ?body (fun D W h1 h2 h3 h4 => hdone D W h1 h2 h3.1 h3.2.1 h4) (fun _ _ _ _ _ _ h _ => h.elim)
  case assign =>
    simp only [Tryz.f158, rngOf, Option.getD, List.nil_append, List.append_nil] at hcode
    cases hcode
    intro l' k m W K hm hI hK
    clear HC hx
    unfold bwEnc
    gi_wp2
    exact hK _ _ (Ext.refl _) rfl
  case body =>
    simp only [Tryz.f158, rngOf, Option.getD, List.nil_append, List.append_nil] at hcode
    cases hcode
    rintro l' k a' W hk hm ⟨hI, EW, b1, hz⟩ rfl
    obtain ⟨n, hn⟩ : ∃ n, n = la.length - 1 - k := ⟨_, rfl⟩
    have e3 : (la.length : Int) - 1 - (k : Int) = (n : Int) := by omega
    have hxb : la.getD n 0 < 1000000000 := okB_getD (by rw [hx]; exact okB_toB (by omega) x) (by omega) n
    have hdl : (decDigits (la.getD n 0)).length ≤ 9 := digits_text _ (by rw [show (10 : Nat) ^ 9 = 1000000000 from by decide]; exact hxb)
    have htl := txtK_len (x := x) (n := la.length) (k := k) (by rw [hx]) (by omega)
    have hk0 : k = 0 → txtK x la.length (k + 1) = txtK x la.length k ++ decDigits (la.getD n 0) := fun e => by
      subst e
      have := txtK_first (x := x) (n := la.length) (by rw [hx]) (by omega)
      rw [this, hn, hx]; rfl
    have hk1 : 0 < k → txtK x la.length (k + 1) = txtK x la.length k ++ (List.replicate (9 - (decDigits (la.getD n 0)).length) 48 ++ decDigits (la.getD n 0)) := fun e => by
      have := txtK_next (x := x) (n := la.length) (k := k) (by rw [hx]) e hk
      rw [this, hn, hx]
    rw [← hn, e3]
    have HF := Lib.hid (fun W' (hW : Ext w0 W') => FormatUint_any (la.getD n 0) W' (by omega) (hG.ext hW).tab)
    generalize la.getD n 0 = y at *
    generalize decDigits y = d at *
    have HI := Lib.hid hI
    have HK := Lib.hid (And.intro hk0 hk1)
    clear HC hI hk0 hk1 E0 ha s0 b0 hB0 hdone hx hG hxb
    by_cases h0 : k = 0
    · have HK0 := Lib.hid (HK.out.1 h0)
      have hnk : n = la.length - 1 := by omega
      have hi1 : ¬ (n : Int) < (la.length : Int) - 1 := by omega
      have hw1 : IntKind.i64.wrap ((la.length : Int) - 1) = (la.length : Int) - 1 := by rw [IntKind.wrap_i64]; omega
      clear HK h0 hn e3 hnk
      gi_wp2_with fail
      refine ⟨trivial, rfl, ?_⟩
      gi_at_call 176
      refine (callsIn_wide.2 (HF.out _ EW)).mono ?_
      rintro e w5 ⟨rfl, hE5⟩
      have b5 := hE5.cell b1
      have HWS := Lib.hid (WriteString_any bl w3.heap.size (txtK x la.length k) d w5 (HI.out.ext hE5) hl3 (Nat.le_trans hz hE5.size) (by omega))
      have E5 := EW.trans hE5
      have HE5 := Lib.hid hE5
      clear hE5 b1 HF HI
      gi_wp2_with fail
      refine ⟨trivial, rfl, ?_⟩
      gi_at_call 178
      refine (callsIn_wide.2 HWS.out).mono ?_
      rintro e w6 ⟨rfl, hB6, hL6, M, hM1, hM2, hM3⟩
      rw [← HK0.out] at hB6
      have hCC : Chg M W w6 := (Chg.ext HE5.out).trans hM1
      have hb6 : w6.cell? ⟨bb, 0, none⟩ = some (.slice a la.length ca) := hM1.cellAt b5 (fun h => by rcases hM2 _ h with h | h <;> dsimp only at h <;> omega)
      have HF := Lib.hid (show BldW bl w3.heap.size (txtK x la.length (k + 1)) w6 ∧ Ext w0 w6 ∧ w6.cell? ⟨bb, 0, none⟩ = some (.slice a la.length ca) ∧ w3.heap.size ≤ w6.heap.size from ⟨hB6, E5.trans' hL6 hwl, hb6, by have := hCC.1; omega⟩)
      have HM := Lib.hid (show (∀ b, M b → b ≠ sb ∧ w0.heap.size ≤ b) ∧ ∀ b, M b → ∀ o, W.heap[b]? = some o → o.isCells = true from ⟨fun b hb => by rcases hM2 b hb with h | h <;> exact ⟨by omega, by omega⟩, fun b hb o ho => hM3 b hb o (by rw [Below.block HE5.out b (Array.getElem?_eq_some_iff.1 ho).1]; exact ho)⟩)
      have HCC := Lib.hid hCC
      clear hB6 hL6 hb6 b5 hCC hM1 hM2 hM3 HWS
      gi_wp2
      exact ⟨⟨M, HCC.out, HM.out.1, HM.out.2⟩, HF.out⟩
    · have HK0 := Lib.hid (HK.out.2 (by omega))
      have hi1 : (n : Int) < (la.length : Int) - 1 := by omega
      have hw1 : IntKind.i64.wrap ((la.length : Int) - 1) = (la.length : Int) - 1 := by rw [IntKind.wrap_i64]; omega
      obtain ⟨q, hq⟩ : ∃ q, q = 9 - d.length := ⟨_, rfl⟩
      have hw2 : IntKind.i64.wrap (9 - (d.length : Int)) = (q : Int) := by rw [IntKind.wrap_i64]; omega
      rw [← hq] at HK0
      have HRP := Lib.hid (fun W' => Repeat_any q W' (by omega))
      have hql : q ≤ 9 := by omega
      clear HK h0 hn e3 hq
      gi_wp2_with fail
      refine ⟨trivial, rfl, ?_⟩
      gi_at_call 176
      refine (callsIn_wide.2 (HF.out _ EW)).mono ?_
      rintro e w4 ⟨rfl, hE4⟩
      have b4 := hE4.cell b1
      have E4 := EW.trans hE4
      have HI4 := Lib.hid (HI.out.ext hE4)
      have HE4 := Lib.hid hE4
      clear hE4 b1 HF HI
      gi_wp2_with fail
      refine ⟨trivial, rfl, ?_⟩
      gi_at_call 177
      refine (callsIn_wide.2 (HRP.out _)).mono ?_
      rintro e w5 ⟨rfl, hE5⟩
      have b5 := hE5.cell b4
      have E5 := E4.trans hE5
      have HE5 := Lib.hid (HE4.out.trans hE5)
      have hd2 : ((List.replicate q (48 : UInt8)) ++ d).length ≤ 18 := by rw [List.length_append, List.length_replicate]; omega
      have HWS := Lib.hid (WriteString_any bl w3.heap.size (txtK x la.length k) (List.replicate q 48 ++ d) w5 (HI4.out.ext hE5) hl3 (Nat.le_trans hz HE5.out.size) (by omega))
      clear hE5 b4 HI4
      have hsum : ¬ 9223372036854775807 < (List.replicate q (48 : UInt8)).length + d.length := by rw [List.length_replicate]; omega
      generalize List.replicate q (48 : UInt8) = r at *
      have happ := app_txt r d
      gi_wp2_with fail
      refine ⟨trivial, rfl, ?_⟩
      gi_at_call 178
      refine (callsIn_wide.2 HWS.out).mono ?_
      rintro e w6 ⟨rfl, hB6, hL6, M, hM1, hM2, hM3⟩
      rw [← HK0.out] at hB6
      have hCC : Chg M W w6 := (Chg.ext HE5.out).trans hM1
      have hb6 : w6.cell? ⟨bb, 0, none⟩ = some (.slice a la.length ca) := hM1.cellAt b5 (fun h => by rcases hM2 _ h with h | h <;> dsimp only at h <;> omega)
      have HF := Lib.hid (show BldW bl w3.heap.size (txtK x la.length (k + 1)) w6 ∧ Ext w0 w6 ∧ w6.cell? ⟨bb, 0, none⟩ = some (.slice a la.length ca) ∧ w3.heap.size ≤ w6.heap.size from ⟨hB6, E5.trans' hL6 hwl, hb6, by have := hCC.1; omega⟩)
      have HM := Lib.hid (show (∀ b, M b → b ≠ sb ∧ w0.heap.size ≤ b) ∧ ∀ b, M b → ∀ o, W.heap[b]? = some o → o.isCells = true from ⟨fun b hb => by rcases hM2 b hb with h | h <;> exact ⟨by omega, by omega⟩, fun b hb o ho => hM3 b hb o (by rw [Below.block HE5.out b (Array.getElem?_eq_some_iff.1 ho).1]; exact ho)⟩)
      have HCC := Lib.hid hCC
      clear hB6 hL6 hb6 b5 hCC hM1 hM2 hM3 HWS
      gi_wp2
      exact ⟨⟨M, HCC.out, HM.out.1, HM.out.2⟩, HF.out⟩
set_option maxHeartbeats 4000000 in
set_option maxRecDepth 100000 in
theorem text_any (x : Nat) (la : List Nat) (a : Option Addr) (ca : Nat) (w : World) (hx : la = toB 1000000000 x) (hla : la.length ≤ 200) (hG : Glob w) (ha : CellsN .u64 w a la) :
    Calls Tryz.prog 158 #[.slice a la.length ca] w fun e w' => e = .returned (txt (decDigits x)) ∧ Ext w w' := by
  have HX := Lib.hid hx
  have HA := Lib.hid ha
  have HG := Lib.hid hG
  clear hx ha hG
  refine (callsIn_wide (n := 0)).1 ?_
  refine callsIn_of_wp_marks Tryz.func158 rfl trivial ?_
  simp only [Tryz.ntmps158, List.size_toArray, List.length_cons, List.length_nil, Nat.reduceAdd, Nat.reduceSub, Array.replicate_succ, Array.replicate_zero, List.push_toArray, List.append_toArray, List.nil_append, List.cons_append]
  by_cases h0 : la.length = 0
  · have hx0 : decDigits x = [48] := by
      have hl0 : la = [] := List.length_eq_zero_iff.1 h0
      have : x = 0 := (toB_nil (by omega)).1 (HX.out.symm.trans hl0)
      rw [this, digits_small (by omega)]; rfl
    have hn0 : ((la.length : Int) == 0) = true := by simp [h0]
    have E : Ext w (w.alloc (.cells #[.slice a la.length ca] 114)) := extA
    have HXX := Lib.hid hx0
    clear h0 hx0
    gi_wp2
    refine leaves_cells (v := txt [48]) (n := w.heap.size) [] _ (Marks.nil _ _) (fun W6 hk => ⟨(results_tmp (t := 2) rfl _ _ _).trans rfl, by rw [HXX.out], E.trans' hk.1 (Nat.le_refl _)⟩)
  · have hn0 : ((la.length : Int) == 0) = false := by rw [beq_eq_false_iff_ne]; omega
    have EV : Ext w (((w.alloc (.cells #[.slice a la.length ca] 114)).alloc (.cells #[.pointer none, .slice none 0 0] 176)).alloc (.cells #[.slice a la.length ca] 114)) := extA
    have b3 : ((((w.alloc (.cells #[.slice a la.length ca] 114)).alloc (.cells #[.pointer none, .slice none 0 0] 176)).alloc (.cells #[.slice a la.length ca] 114))).cell? ⟨w.heap.size, 0, none⟩ = some (.slice a la.length ca) := by go_simp
    have s3 : ((((w.alloc (.cells #[.slice a la.length ca] 114)).alloc (.cells #[.pointer none, .slice none 0 0] 176)).alloc (.cells #[.slice a la.length ca] 114))).cell? ⟨w.heap.size + 1 + 1, 0, none⟩ = some (.slice a la.length ca) := by go_simp
    have hs3 : ((w.alloc (.cells #[.slice a la.length ca] 114)).alloc (.cells #[.pointer none, .slice none 0 0] 176)).heap.size = w.heap.size + 1 + 1 := by simp
    have hb3 : (((w.alloc (.cells #[.slice a la.length ca] 114)).alloc (.cells #[.pointer none, .slice none 0 0] 176)).alloc (.cells #[.slice a la.length ca] 114)).heap[w.heap.size + 1]? = some (.cells #[.pointer none, .slice none 0 0] 176 (0, 0)) := by
      have h1 : ((w.alloc (.cells #[.slice a la.length ca] 114)).alloc (.cells #[.pointer none, .slice none 0 0] 176)).heap[w.heap.size + 1]? = some (.cells #[.pointer none, .slice none 0 0] 176 (0, 0)) := by
        have := World.alloc_heap_new (w.alloc (.cells #[.slice a la.length ca] 114)) (.cells #[.pointer none, .slice none 0 0] 176)
        rwa [World.size_alloc] at this
      exact (Below.heap_alloc _ _ _ (by simp)).trans h1
    gi_wp2_with fail
    refine ⟨trivial, rfl, ?_⟩
    gi_at_call 164
    refine (callsIn_wide.2 (Backward_any a la.length ca _)).mono ?_
    rintro e w3 ⟨rfl, rfl⟩
    rw [hs3]
    clear hs3
    generalize (((w.alloc (.cells #[.slice a la.length ca] 114)).alloc (.cells #[.pointer none, .slice none 0 0] 176)).alloc (.cells #[.slice a la.length ca] 114)) = w3 at EV b3 s3 hb3 ⊢
    have hz3 := EV.size
    have hsz : w.heap.size + 1 + 1 < w3.heap.size := cell_lt s3
    gi_wp2_with fail
    refine wpIn_wide.2 (text_range _ _ rfl x la a ca w w3 (w.heap.size + 1 + 1) w.heap.size (w.heap.size + 1) hla HX.out HG.out HA.out EV s3 b3 (BldW.fresh hb3) (by omega) (by omega) (by omega) (by omega) _ _ _ _ _ _ _ _ _ _ _ _ _ _ _ _ _ _ _ _ _ _ _ _ _ _ [] _ ?_)
    intro D W k1 k2 hW E4 hD
    have ht : txtK x la.length la.length = decDigits x := by
      unfold txtK
      rw [if_neg h0, Nat.sub_self, Nat.pow_zero, Nat.div_one]
    rw [ht] at hW
    have hz4 := E4.size
    have HS := Lib.hid (Tryz.Builder_String_any_k (w.heap.size + 1) (w.heap.size + 1) (decDigits x) W (Lib.IsBuilderF.of (hW.is (by omega))) (by omega))
    have HD := Lib.hid hD
    clear b3 s3 hb3 hW hD ht
    gi_wp2_with fail
    refine ⟨trivial, rfl, ?_⟩
    gi_at_call 144
    refine (callsIn_wide.2 HS.out).mono ?_
    rintro e w5 ⟨rfl, _, hE5, hO5⟩
    have E5 := E4.trans' hE5 (Nat.le_succ _)
    have HD5 : Hid (w5.heap[D]? = some (.deferred (some []))) := by
      show _ = _
      exact hO5 D _ HD.out (fun e => by cases e; omega) (fun _ _ h => by cases h)
    clear hE5 hO5 HD HS E4
    gi_wp2
    refine leaves_cells (v := txt (decDigits x)) (n := w3.heap.size) [mark D] _ ⟨[D], rfl, by simp, fun E hE => by simp at hE; subst hE; exact ⟨k1, HD5.out⟩⟩ (fun W6 hk => ⟨(results_tmp (t := 2) rfl _ _ _).trans rfl, rfl, E5.trans' hk.1 hz3⟩)
end Go.Proofs.YtdejgaiocjfhjaaGreatDoor
namespace Go.Proofs.YtdejgaiocjfhjaaGreatDoor
open Go.RowKit
open Go.Lib (decDigits)
theorem dig_mod {z k : Nat} (hk : k < 6) : z % 1000000 / 10 ^ k % 10 = z / 10 ^ k % 10 := by
  rcases k with _ | _ | _ | _ | _ | _ | k <;> (try simp only [Nat.zero_add, Nat.reduceAdd, Nat.reducePow]) <;> omega
theorem dig_slice {d : Nat} (hd : d < 10) : (⟨#[48, 49, 50, 51, 52, 53, 54, 55, 56, 57]⟩ : ByteArray).extract d (d + 1) = ⟨[UInt8.ofNat (48 + d)].toArray⟩ := by
  rcases d with _ | _ | _ | _ | _ | _ | _ | _ | _ | _ | d
  iterate 10 rfl
  omega
structure DigK (x i k n : Nat) (s : List UInt8) (last : Prop) : Prop where
  s : s = padD (6 * i + k) x
  n : n = x / 1000000 ^ i % 1000000 / 10 ^ k
  hi : last → x / 1000000 ^ (i + 1) = 0 ∧ x / 1000000 ^ i ≠ 0
  pos : last → 0 < k → x / 1000000 ^ i % 1000000 / 10 ^ (k - 1) ≠ 0
theorem DigK.next {x i k n : Nat} {s : List UInt8} {last : Prop} (h : DigK x i k n s last) (hk : k < 6) (hn : last → n ≠ 0) : DigK x i (k + 1) (n / 10) (UInt8.ofNat (48 + n % 10) :: s) last := by
  refine ⟨?_, ?_, h.hi, fun hl _ => ?_⟩
  · rw [h.s, show 6 * i + (k + 1) = (6 * i + k) + 1 by omega, padD_cons]
    have e : x / 10 ^ (6 * i + k) % 10 = n % 10 := by
      rw [h.n, dig_mod hk, Nat.div_div_eq_div_mul, Nat.pow_add, Nat.pow_mul]
    rw [e]
  · rw [h.n, Nat.div_div_eq_div_mul, Nat.pow_succ]
  · rw [Nat.add_sub_cancel, ← h.n]; exact hn hl
theorem DigK.outer {x i n : Nat} {s : List UInt8} {last : Prop} (h : DigK x i 6 n s last) : s = padD (6 * (i + 1)) x := by
  rw [h.s, show 6 * i + 6 = 6 * (i + 1) by omega]
theorem DigK.done {x i k : Nat} {s : List UInt8} {last : Prop} (h : DigK x i k 0 s last) (hl : last) (hk : k ≤ 6) : s = decDigits x := by
  obtain ⟨h1, h2⟩ := h.hi hl
  have hx : x / 1000000 ^ i % 1000000 = x / 1000000 ^ i := by
    rw [Nat.pow_succ, ← Nat.div_div_eq_div_mul] at h1
    exact Nat.mod_eq_of_lt ((Nat.div_eq_zero_iff_lt (by omega)).1 h1)
  have hn := h.n
  have hp := h.pos hl
  rw [hx] at hn hp
  have hk0 : 0 < k := by
    rcases Nat.eq_zero_or_pos k with e | e
    · subst e; rw [Nat.pow_zero, Nat.div_one] at hn; exact absurd hn.symm h2
    · exact e
  have hp := hp hk0
  have e1 : x / 10 ^ (6 * i + k) = 0 := by
    rw [Nat.pow_add, Nat.pow_mul, ← Nat.div_div_eq_div_mul]; exact hn.symm
  have e2 : x / 10 ^ (6 * i + k - 1) ≠ 0 := by
    rw [show 6 * i + k - 1 = 6 * i + (k - 1) by omega, Nat.pow_add, Nat.pow_mul, ← Nat.div_div_eq_div_mul]; exact hp
  rw [h.s]
  refine padD_all (by omega) ((Nat.div_eq_zero_iff_lt (Nat.pow_pos (by omega))).1 e1) ?_
  rcases Nat.lt_or_ge x (10 ^ (6 * i + k - 1)) with h5 | h5
  · exact absurd (Nat.div_eq_of_lt h5) e2
  · exact h5
set_option maxHeartbeats 4000000 in
set_option maxRecDepth 100000 in
theorem digitsR_any (x : Nat) (la : List Nat) (a : Option Addr) (ca : Nat) (w : World) (hx : la = toB 1000000 x) (hla : la.length ≤ 110) (ha : CellsN .i64 w a la) :
    Calls Tryz.prog 135 #[.slice a la.length ca] w fun e w' => e = .returned (txt (decDigits x)) ∧ Ext w w' := by
  by_cases h0 : x = 0
  · have hz : la.length = 0 := by rw [hx, h0, toB_zero]; rfl
    have HD : Hid (decDigits x = [48]) := by show _ = _; rw [h0, digits_small (by omega)]; rfl
    clear h0 hx ha hla
    go_enter Tryz.func135, Tryz.ntmps135
    go_wp2
    go_ret
    exact ⟨by rw [HD.out]; rfl, Ext.refl _⟩
  · have hz : 0 < la.length := by rw [hx]; exact lenR_pos h0
    have hz' : ((la.length : Int) == 0) = false := by rw [beq_eq_false_iff_ne]; omega
    have HA := Lib.hid ha
    have HX := Lib.hid hx
    have HLE : Hid (∀ i, i + 1 = la.length → x / 1000000 ^ (i + 1) = 0 ∧ x / 1000000 ^ i ≠ 0) := fun i hi => by
      have h1 := len_toB (B := 1000000) (by omega) (i + 1) x
      have h2 := len_toB (B := 1000000) (by omega) i x
      rw [← hx] at h1 h2
      exact ⟨Decidable.byContradiction fun h => by have := h1.2 h; omega, h2.1 (by omega)⟩
    clear h0 hx ha
    go_enter Tryz.func135, Tryz.ntmps135
    go_wp2
    go_loopw [3, 4] (fun s i wr => ∃ (k : Nat) (l : List UInt8), k ≤ la.length ∧ i = .int .i64 k ∧ s = txt l ∧ Hid ((k < la.length → l = padD (6 * k) x) ∧ (k = la.length → l = decDigits x)) ∧ Ext w wr) (fun _ i _ => la.length - (intOf i).toNat)
    case atStart => exact ⟨0, [], by omega, rfl, rfl, ⟨fun _ => rfl, fun h => by omega⟩, Ext.refl _⟩
    case round =>
      obtain ⟨i, l, hi, rfl, rfl, hw, he⟩ := hrel
      by_cases h1 : i < la.length
      · obtain ⟨p, hp⟩ : ∃ p, p = la.getD i 0 := ⟨_, rfl⟩
        have HP : Hid (p = x / 1000000 ^ i % 1000000) := by show _ = _; rw [hp, HX.out, getD_toB (by omega)]
        obtain ⟨b1, o1, ha1, p1⟩ := HA.out.ext he i h1
        subst ha1
        rw [← hp] at p1
        have HK0 : Hid (DigK x i 0 p l (i + 1 = la.length)) := ⟨by rw [hw.out.1 h1]; rfl, by rw [HP.out, Nat.pow_zero, Nat.div_one], HLE.out i, fun _ h => by omega⟩
        have hp6 : p < 1000000 := by rw [HP.out]; exact Nat.mod_lt _ (by omega)
        clear hp hw HP
        obtain ⟨wo, hwo⟩ : ∃ wo, wo = wr := ⟨wr, rfl⟩
        subst hwo
        go_wp2
        go_loopw [3, 5, 6] (fun s n k wr => ∃ (kk m : Nat) (l : List UInt8), kk ≤ 6 ∧ k = .int .i64 kk ∧ n = .int .i64 m ∧ m < 1000000 ∧ s = txt l ∧ Hid (DigK x i kk m l (i + 1 = la.length)) ∧ Ext wo wr) (fun _ _ k _ => 6 - (intOf k).toNat)
        case atStart => exact ⟨0, p, l, by omega, rfl, rfl, hp6, rfl, HK0, Ext.refl _⟩
        case round =>
          clear HK0 p1
          obtain ⟨kk, m, l2, hk, rfl, rfl, hm6, rfl, HK, hE⟩ := hrel
          by_cases hgo : kk < 6 ∧ (i + 1 < la.length ∨ 0 < m)
          · obtain ⟨hk6, hor⟩ := hgo
            have HK2 := Lib.hid (HK.out.next hk6 (fun hl => by omega))
            obtain ⟨d, hd⟩ : ∃ d, d = m % 10 := ⟨_, rfl⟩
            obtain ⟨q, hq⟩ : ∃ q, q = m / 10 := ⟨_, rfl⟩
            rw [← hd, ← hq] at HK2
            have ht1 : (m : Int).tmod 10 = (d : Int) := by rw [Int.tmod_eq_emod_of_nonneg (by omega)]; omega
            have ht2 : (m : Int).tdiv 10 = (q : Int) := by rw [Int.tdiv_eq_ediv_of_nonneg (by omega)]; omega
            have hw1 : IntKind.i64.wrap (d : Int) = (d : Int) := by rw [IntKind.wrap_i64]; omega
            obtain ⟨f, hf⟩ : ∃ f, f = d + 1 := ⟨_, rfl⟩
            have hw2 : IntKind.i64.wrap ((d : Int) + 1) = (f : Int) := by rw [IntKind.wrap_i64]; omega
            have hf1 : (0 : Int) ≤ (f : Int) := by omega
            have hf2 : (f : Int) ≤ 10 := by omega
            have hf3 : (d : Int) ≤ (f : Int) := by omega
            have hf4 : (0 : Int) ≤ (d : Int) := by omega
            have hw3 : IntKind.i64.wrap (q : Int) = (q : Int) := by rw [IntKind.wrap_i64]; omega
            have hw4 : IntKind.i64.wrap ((i : Int) + 1) = (i : Int) + 1 := by rw [IntKind.wrap_i64]; omega
            have hsl := dig_slice (d := d) (by omega)
            rw [← hf] at hsl
            obtain ⟨c, hc⟩ : ∃ c, c = UInt8.ofNat (48 + d) := ⟨_, rfl⟩
            rw [← hc] at hsl HK2
            have hll : l2.length = 6 * i + kk := by rw [HK.out.s, padD_len]
            have hap := app_txt [c] l2
            have hi1 : (i : Int) + 1 < (la.length : Int) ∨ 0 < m := by omega
            have hq6 : q < 1000000 := by omega
            clear hd hq HK hf hc
            have hcat : ¬ 9223372036854775807 < [c].length + l2.length := by rw [List.length_singleton]; omega
            rcases hor with hor | hor
            · have hi2 : (i : Int) + 1 < (la.length : Int) := by omega
              clear hi1
              go_wp2
              refine ⟨⟨kk + 1, q, c :: l2, by omega, by go_num, rfl, hq6, rfl, HK2, hE⟩, by simp [intOf]; omega⟩
            · by_cases hi2 : (i : Int) + 1 < (la.length : Int)
              · clear hi1
                go_wp2
                refine ⟨⟨kk + 1, q, c :: l2, by omega, by go_num, rfl, hq6, rfl, HK2, hE⟩, by simp [intOf]; omega⟩
              · have hm0 : (0 : Int) < (m : Int) := by omega
                clear hi1
                go_wp2
                refine ⟨⟨kk + 1, q, c :: l2, by omega, by go_num, rfl, hq6, rfl, HK2, hE⟩, by simp [intOf]; omega⟩
          · have hw4 : IntKind.i64.wrap ((i : Int) + 1) = (i : Int) + 1 := by rw [IntKind.wrap_i64]; omega
            have hw5 : Hid ((i + 1 < la.length → l2 = padD (6 * (i + 1)) x) ∧ (i + 1 = la.length → l2 = decDigits x)) := by
              refine ⟨fun h => ?_, fun h => ?_⟩
              · have hk6 : kk = 6 := by omega
                subst hk6
                exact HK.out.outer
              · have hm0 : m = 0 := by
                  rcases Nat.eq_zero_or_pos m with h0 | h0
                  · exact h0
                  · have hk6 : kk = 6 := by omega
                    subst hk6
                    have := HK.out.n
                    rw [this]
                    exact Nat.div_eq_of_lt (Nat.mod_lt _ (by omega))
                subst hm0
                exact HK.out.done h hk
            have he2 := he.trans hE
            by_cases hk6 : kk < 6
            · have hi2 : ¬ (i : Int) + 1 < (la.length : Int) := by omega
              have hm0 : m = 0 := by omega
              subst hm0
              clear hgo HK he hE
              go_wp2
              refine ⟨⟨i + 1, l2, by omega, by go_num, rfl, hw5, he2⟩, by simp [intOf]; omega⟩
            · have hk7 : ¬ (kk : Int) < 6 := by omega
              clear hgo HK he hE
              go_wp2
              refine ⟨⟨i + 1, l2, by omega, by go_num, rfl, hw5, he2⟩, by simp [intOf]; omega⟩
      · have hil : i = la.length := by omega
        have HL := Lib.hid (hw.out.2 hil)
        clear hw
        go_wp2
        go_ret
        rw [HL.out]
        exact ⟨rfl, he⟩
end Go.Proofs.YtdejgaiocjfhjaaGreatDoor
namespace Go.Proofs.YtdejgaiocjfhjaaGreatDoor
open Go.RowKit
open Go.Lib (decDigits)
end Go.Proofs.YtdejgaiocjfhjaaGreatDoor
namespace Go.Proofs.YtdejgaiocjfhjaaGreatDoor
open Go.RowKit
open Go.Lib (decDigits)
end Go.Proofs.YtdejgaiocjfhjaaGreatDoor
namespace Go.Proofs.YtdejgaiocjfhjaaGreatDoor
open Go.RowKit
open Go.Lib (decDigits)
end Go.Proofs.YtdejgaiocjfhjaaGreatDoor
namespace Go.Proofs.YtdejgaiocjfhjaaGreatDoor
open Go.RowKit
theorem index_slash (s : Txt) : Lib.index s [47] = if 47 ∈ s then ((topS s).length : Int) else -1 := by
  induction s with
  | nil => rfl
  | cons c s ih =>
    unfold Lib.index
    by_cases h : c = 47
    · subst h
      rw [if_pos (by simp [List.isPrefixOf]), if_pos (List.mem_cons_self ..)]
      simp [topS]
    · have h1 : ([47].isPrefixOf (c :: s) : Bool) = false := by
        simp only [List.isPrefixOf, Bool.and_eq_false_imp]
        intro e
        exact absurd (by simpa using e) (fun e => h (Eq.symm e))
      have h2 : topS (c :: s) = c :: topS s := by
        unfold topS
        rw [List.takeWhile_cons, if_pos (by simpa using h)]
      have h3 : (47 ∈ c :: s) ↔ 47 ∈ s := by
        rw [List.mem_cons]
        exact ⟨fun e => e.resolve_left (fun e => h e.symm), .inr⟩
      rw [h1, if_neg (by simp), ih, h2]
      by_cases hm : 47 ∈ s
      · rw [if_pos hm, if_pos (h3.2 hm), if_neg (by rw [beq_iff_eq]; omega)]
        simp
      · rw [if_neg hm, if_neg (fun e => hm (h3.1 e))]
        simp
theorem cut_slash (s : Txt) : Lib.cut s [47] = (topS s, if 47 ∈ s then lowS s else [], decide (47 ∈ s)) := by
  unfold Lib.cut
  rw [index_slash]
  by_cases h : 47 ∈ s
  · rw [if_pos h, if_pos (by omega), if_pos h, decide_eq_true h, Int.toNat_natCast]
    have e := split_some h
    have key : ∀ t u : Txt, (t ++ 47 :: u).take t.length = t ∧ (t ++ 47 :: u).drop (t.length + 1) = u := fun t u =>
      ⟨List.take_left .., by rw [← List.drop_drop, List.drop_left]; rfl⟩
    have k := key (topS s) (lowS s)
    rw [← e] at k
    rw [List.length_singleton, k.1, k.2]
  · rw [if_neg h, if_neg (by omega), if_neg h, decide_eq_false h, (split_none h).1]
theorem Cut_any (s : Txt) (w : World) (hG : Glob w) (hl : s.length ≤ 1000) :
    Calls Tryz.prog 127 #[txt s, txt [47]] w fun e w' => e = .returned (.tuple #[txt (topS s), txt (if 47 ∈ s then lowS s else []), .bool (decide (47 ∈ s))]) ∧ Ext w w' := by
  obtain ⟨m, hm⟩ := hG.len
  refine (Tryz.strings_Cut ⟨s.toArray⟩ ⟨#[47]⟩ m w (by show s.toArray.size < _; simp; omega) hm).mono fun e w' h => ?_
  have := cut_slash s
  obtain ⟨h1, n, rfl⟩ := h
  refine ⟨?_, Ext.drewN (Ext.refl w) n⟩
  have e1 : ((⟨s.toArray⟩ : ByteArray).data.toList) = s := rfl
  have e2 : ((⟨#[47]⟩ : ByteArray).data.toList) = [47] := rfl
  rw [e1, e2, this] at h1
  exact h1
def NewB (x : Nat) (w : World) (e : Ending) (w' : World) : Prop := ∃ a c, e = .returned (.slice a (toB 1000000000 x).length c) ∧ CellsN .u64 w' a (toB 1000000000 x) ∧ (∀ p, a = some p → w.heap.size ≤ p.block) ∧ Ext w w'
theorem OwnNPost.newB {x : Nat} {w : World} {e : Ending} {w' : World} (h : OwnNPost .u64 161 (toB 1000000000 x) w e w') : NewB x w e w' := by
  obtain ⟨v, h1, h2, h3, h4⟩ := h
  obtain ⟨a, c, rfl, h5, _⟩ := h2.reads
  exact ⟨a, c, h1, h5, (fun p hp => h3 p.block (by rw [hp]; rfl)), h4⟩
theorem CellsN.set {k : IntKind} {A : World} {a : Option Addr} {l : List Nat} (h : CellsN k A a l) {c o : Nat} {v : Value} (hn : ∀ p, a = some p → p.block ≠ c) : CellsN k (A.setCell ⟨c, o, none⟩ v) a l := fun i hi => by
  obtain ⟨b, off, h1, h2⟩ := h i hi
  refine ⟨b, off, h1, ?_⟩
  have := hn _ h1
  rw [World.cell?_setCell_other _ _ _ _ (fun h => by simp only [Addr.mk.injEq] at h; exact this h.1.symm)]
  exact h2
theorem bare_len (s : Txt) : (bareS s).length ≤ s.length := by
  unfold bareS
  split
  · rw [List.length_tail]; omega
  · exact Nat.le_refl _
set_option maxHeartbeats 2000000 in
theorem signed_any (s : Txt) (w : World) (hs : DigitL (bareS s)) (hl : s.length ≤ 500) :
    Calls Tryz.prog 130 #[txt s] w fun e w' => ∃ a c, e = .returned (.tuple #[.bool (negS s), .slice a (toB 1000000000 (decV (bareS s))).length c]) ∧ CellsN .u64 w' a (toB 1000000000 (decV (bareS s))) ∧ (∀ p, a = some p → w.heap.size ≤ p.block) ∧ Ext w w' := by
  have HT := Lib.hid (fun W => CutPrefix_any s W)
  have HR := Lib.hid (fun W => read_any (bareS s) W hs (Nat.le_trans (bare_len s) hl))
  generalize decV (bareS s) = x at *
  generalize bareS s = d at *
  generalize negS s = ng at *
  clear hs
  go_enter Tryz.func130, Tryz.ntmps130
  go_wp2_with (first
    | (go_at_call 160; refine (HT.out _).mono ?_; rintro e w' ⟨rfl, rfl⟩)
    | (go_at_call 162; refine (HR.out _).mono ?_; rintro e w' h; obtain ⟨a, c, rfl, hC, hN, hE⟩ := h.newB))
  go_ret2
  exact ⟨a, c, rfl, hC, hN, hE⟩
end Go.Proofs.YtdejgaiocjfhjaaGreatDoor
namespace Go.Proofs.YtdejgaiocjfhjaaGreatDoor
open Go.RowKit
theorem results_cell_tmp1 {fn : Func} {p u : Tmp} {ty : TypeId} (h : fn.results = #[.cell p ty, .tmp u]) (tmps : Array Value) (P : Program) (w : World) :
    (results fn tmps).run P w = ((asAddr (tmps.getD p undef)).run P w).andThen fun a w₁ => ((loadVar ty a).run P w₁).andThen fun x w₂ => .ok (.tuple #[x, tmps.getD u undef]) w₂ := by
  simp only [results, h]
  simp [Sem.run_bind, Result.andThen]
def NumV (w : World) (v : Value) (x : Num) : Prop := ∃ ta tc ba bc, v = .agg #[.bool x.1, .slice ta (toB 1000000000 x.2.1).length tc, .slice ba (toB 1000000000 x.2.2).length bc] ∧
  CellsN .u64 w ta (toB 1000000000 x.2.1) ∧ CellsN .u64 w ba (toB 1000000000 x.2.2)
theorem NumV.ext {w w' : World} {v : Value} {x : Num} (h : NumV w v x) (e : Ext w w') : NumV w' v x := by
  obtain ⟨ta, tc, ba, bc, h1, h2, h3⟩ := h
  exact ⟨ta, tc, ba, bc, h1, h2.ext e, h3.ext e⟩
structure Num3 (b : Nat) (W : World) (x y z : Value) : Prop where
  c0 : W.cell? ⟨b, 0, none⟩ = some x
  c1 : W.cell? ⟨b, 1, none⟩ = some y
  c2 : W.cell? ⟨b, 2, none⟩ = some z
  f0 : W.frozen? ⟨b, 0, none⟩ = false
  f1 : W.frozen? ⟨b, 1, none⟩ = false
  f2 : W.frozen? ⟨b, 2, none⟩ = false
theorem Num3.ext {b : Nat} {A B : World} {x y z : Value} (h : Num3 b A x y z) (e : Ext A B) : Num3 b B x y z := by
  have hz : b < A.heap.size := cell_lt h.c0
  exact ⟨e.cell h.c0, e.cell h.c1, e.cell h.c2, (Below.frozen (p := ⟨b, 0, none⟩) e hz).trans h.f0, (Below.frozen (p := ⟨b, 1, none⟩) e hz).trans h.f1, (Below.frozen (p := ⟨b, 2, none⟩) e hz).trans h.f2⟩
theorem Num3.set0 {b : Nat} {A : World} {x y z : Value} (h : Num3 b A x y z) (v : Value) : Num3 b (A.setCell ⟨b, 0, none⟩ v) v y z := by
  refine ⟨World.cell?_setCell_same _ _ _ h.c0, ?_, ?_, ?_, ?_, ?_⟩
  · rw [World.cell?_setCell_other _ _ _ _ (fun h => by simp only [Addr.mk.injEq] at h; omega)]; exact h.c1
  · rw [World.cell?_setCell_other _ _ _ _ (fun h => by simp only [Addr.mk.injEq] at h; omega)]; exact h.c2
  · rw [World.frozen?_setCell]; exact h.f0
  · rw [World.frozen?_setCell]; exact h.f1
  · rw [World.frozen?_setCell]; exact h.f2
theorem Num3.set1 {b : Nat} {A : World} {x y z : Value} (h : Num3 b A x y z) (v : Value) : Num3 b (A.setCell ⟨b, 1, none⟩ v) x v z := by
  refine ⟨?_, World.cell?_setCell_same _ _ _ h.c1, ?_, ?_, ?_, ?_⟩
  · rw [World.cell?_setCell_other _ _ _ _ (fun h => by simp only [Addr.mk.injEq] at h; omega)]; exact h.c0
  · rw [World.cell?_setCell_other _ _ _ _ (fun h => by simp only [Addr.mk.injEq] at h; omega)]; exact h.c2
  · rw [World.frozen?_setCell]; exact h.f0
  · rw [World.frozen?_setCell]; exact h.f1
  · rw [World.frozen?_setCell]; exact h.f2
theorem Num3.set2 {b : Nat} {A : World} {x y z : Value} (h : Num3 b A x y z) (v : Value) : Num3 b (A.setCell ⟨b, 2, none⟩ v) x y v := by
  refine ⟨?_, ?_, World.cell?_setCell_same _ _ _ h.c2, ?_, ?_, ?_⟩
  · rw [World.cell?_setCell_other _ _ _ _ (fun h => by simp only [Addr.mk.injEq] at h; omega)]; exact h.c0
  · rw [World.cell?_setCell_other _ _ _ _ (fun h => by simp only [Addr.mk.injEq] at h; omega)]; exact h.c1
  · rw [World.frozen?_setCell]; exact h.f0
  · rw [World.frozen?_setCell]; exact h.f1
  · rw [World.frozen?_setCell]; exact h.f2
theorem Num3.other {b c o : Nat} {A : World} {x y z : Value} (h : Num3 b A x y z) (hc : c ≠ b) (v : Value) : Num3 b (A.setCell ⟨c, o, none⟩ v) x y z := by
  refine ⟨?_, ?_, ?_, ?_, ?_, ?_⟩
  · rw [World.cell?_setCell_other _ _ _ _ (fun h => by simp only [Addr.mk.injEq] at h; omega)]; exact h.c0
  · rw [World.cell?_setCell_other _ _ _ _ (fun h => by simp only [Addr.mk.injEq] at h; omega)]; exact h.c1
  · rw [World.cell?_setCell_other _ _ _ _ (fun h => by simp only [Addr.mk.injEq] at h; omega)]; exact h.c2
  · rw [World.frozen?_setCell]; exact h.f0
  · rw [World.frozen?_setCell]; exact h.f1
  · rw [World.frozen?_setCell]; exact h.f2
theorem ordN_zero {a b : Nat} : ordN a b = 0 ↔ a = b := by
  unfold ordN
  by_cases h : a < b
  · rw [if_pos h]; omega
  · rw [if_neg h]
    by_cases k : b < a
    · rw [if_pos k]; omega
    · rw [if_neg k]; omega
theorem cells_lit (w : World) (t : TypeId) : CellsN .u64 (w.alloc (.cells #[.int .u64 1] t)) (some ⟨w.heap.size, 0, none⟩) (toB 1000000000 1) := by
  rw [toB_one (by omega) (by omega) (by omega)]
  intro i hi
  have hi0 : i = 0 := by simp at hi; exact hi
  subst hi0
  exact ⟨_, 0, rfl, by go_simp⟩
theorem compare1_any (x : Nat) (la : List Nat) (a : Option Addr) (ca b : Nat) (w : World) (hx : la = toB 1000000000 x) (hla : la.length ≤ 200) (ha : CellsN .u64 w a la) (hb : CellsN .u64 w (some ⟨b, 0, none⟩) (toB 1000000000 1)) :
    Calls Tryz.prog 131 #[.slice a la.length ca, .slice (some ⟨b, 0, none⟩) 1 1] w fun e w' => e = .returned (.int .i64 (ordN x 1)) ∧ Ext w w' := by
  rw [toB_one (by omega) (by omega) (by omega)] at hb
  exact compare_any x 1 la [1] a _ ca 1 w hx (toB_one (by omega) (by omega) (by omega)).symm hla (by simp) ha hb
def Shape3 (v : Value) : Prop := ∃ (b : Bool) (ta : Option Addr) (tn tc : Nat) (ba : Option Addr) (bn bc : Nat), v = .agg #[.bool b, .slice ta tn tc, .slice ba bn bc]
def ParsedPost (t : Txt) (w : World) (e : Ending) (w' : World) : Prop :=
  ∃ v, e = .returned (.tuple #[v, .int .i64 (fracE t : Nat)]) ∧ Shape3 v ∧ (fracE t = 0 → NumV w' v (numOf t)) ∧ Ext w w'
theorem fracE_eq (t : Txt) : fracE t = if ¬ IntS (topS t) ∨ ¬ IntS (lowS t) then 3 else if 60 < (bareS (topS t)).length ∨ 60 < (bareS (lowS t)).length then 11 else if 47 ∉ t then 0 else
    if negS (lowS t) = true ∨ decV (lowS t) ≤ 1 ∨ Nat.gcd (decV (bareS (topS t))) (decV (lowS t)) ≠ 1 then 3 else 0 := by
  unfold fracE intE
  by_cases h1 : IntS (topS t)
  · by_cases h2 : IntS (lowS t)
    · by_cases h3 : 60 < (bareS (topS t)).length
      · by_cases h4 : 60 < (bareS (lowS t)).length <;> simp [h1, h2, h3, h4]
      · by_cases h4 : 60 < (bareS (lowS t)).length
        · simp [h1, h2, h3, h4]
        · simp [h1, h2, h3, h4]
    · simp [h1, h2]
  · simp [h1]
set_option maxHeartbeats 8000000 in
set_option maxRecDepth 100000 in
theorem parsed_any (t : Txt) (w : World) (hG : Glob w) (hl : t.length ≤ 400) :
    Calls Tryz.prog 93 #[txt t] w (ParsedPost t w) := by
  have hlens : (topS t).length ≤ t.length ∧ (lowS t).length ≤ t.length + 1 := by
    by_cases hs : 47 ∈ t
    · have e := congrArg List.length (split_some hs)
      rw [List.length_append, List.length_cons] at e
      omega
    · obtain ⟨a1, a2⟩ := split_none hs
      rw [a1, a2]
      exact ⟨Nat.le_refl _, by simp⟩
  obtain ⟨ht1, ht2⟩ := hlens
  have HG := Lib.hid hG
  have HCut := Lib.hid (fun W (hW : Ext w W) => Cut_any t W (hG.ext hW) (by omega))
  obtain ⟨f, hf⟩ : ∃ f, f = decide (47 ∈ t) := ⟨_, rfl⟩
  obtain ⟨i1, hi1⟩ : ∃ f, f = decide (IntS (topS t)) := ⟨_, rfl⟩
  obtain ⟨i2, hi2⟩ : ∃ f, f = decide (IntS (lowS t)) := ⟨_, rfl⟩
  obtain ⟨l1, hl1⟩ : ∃ f, f = decide (60 < (bareS (topS t)).length) := ⟨_, rfl⟩
  obtain ⟨l2, hl2⟩ : ∃ f, f = decide (60 < (bareS (lowS t)).length) := ⟨_, rfl⟩
  have HI1 := Lib.hid (fun W => integer_any (topS t) W (by omega))
  have HI2 := Lib.hid (fun W => integer_any (lowS t) W (by omega))
  have HL1 := Lib.hid (fun W => long_any (topS t) W)
  have HL2 := Lib.hid (fun W => long_any (lowS t) W)
  rw [← hi1] at HI1
  rw [← hi2] at HI2
  rw [← hl1] at HL1
  rw [← hl2] at HL2
  rw [← hf] at HCut
  have hlow : f = false → lowS t = [49] := fun h => (split_none (fun e => by rw [hf, decide_eq_true e] at h; cases h)).2
  have hlow2 : (if 47 ∈ t then lowS t else []) = if f then lowS t else [] := by
    by_cases e : 47 ∈ t
    · rw [hf, decide_eq_true e, if_pos e, if_pos rfl]
    · rw [hf, decide_eq_false e, if_neg e, if_neg (by simp)]
  rw [hlow2] at HCut
  clear hlow2
  have HFE := Lib.hid (fracE_eq t)
  obtain ⟨W0, hW0⟩ : ∃ W0, W0 = w.alloc (.cells #[.bool false, .slice none 0 0, .slice none 0 0] 116) := ⟨_, rfl⟩
  have c0 : W0.cell? ⟨w.heap.size, 0, none⟩ = some (.bool false) := by rw [hW0]; go_simp
  have c1 : W0.cell? ⟨w.heap.size, 1, none⟩ = some (.slice none 0 0) := by rw [hW0]; go_simp
  have c2 : W0.cell? ⟨w.heap.size, 2, none⟩ = some (.slice none 0 0) := by rw [hW0]; go_simp
  have f0 : W0.frozen? ⟨w.heap.size, 0, none⟩ = false := by rw [hW0]; go_simp
  have f1 : W0.frozen? ⟨w.heap.size, 1, none⟩ = false := by rw [hW0]; go_simp
  have f2 : W0.frozen? ⟨w.heap.size, 2, none⟩ = false := by rw [hW0]; go_simp
  have EX : Ext w W0 := by rw [hW0]; exact extA
  have hWW := hW0.symm
  have HF := Lib.hid hf
  have HB1 := Lib.hid hi1
  have HB2 := Lib.hid hi2
  have HB3 := Lib.hid hl1
  have HB4 := Lib.hid hl2
  have HLOW := Lib.hid hlow
  clear hW0 hf hi1 hi2 hl1 hl2 hlow hG
  have HTN := Lib.hid (show numOf t = (negS (topS t), decV (bareS (topS t)), decV (lowS t)) from rfl)
  generalize htop : topS t = top at *
  generalize hlw : lowS t = low at *
  clear htop hlw
  cases i1
  · have HE : Hid (fracE t = 3) := HFE.out.trans (by rw [if_pos (.inl (of_decide_eq_false HB1.out.symm))])
    clear HFE HB1 HB2 HB3 HB4 HTN HL1 HL2 HI2
    go_enter Tryz.func93, Tryz.ntmps93
    cases f
    · have hl0 := HLOW.out rfl
      subst hl0
      go_wp2_with (first
      | (go_at_call 127; (with_reducible refine (HCut.out _ EX).mono ?_); rintro e w' ⟨rfl, hE⟩; replace f0 := (Below.frozen (p := ⟨w.heap.size, 0, none⟩) hE (cell_lt c0)).trans f0; replace f1 := (Below.frozen (p := ⟨w.heap.size, 1, none⟩) hE (cell_lt c1)).trans f1; replace f2 := (Below.frozen (p := ⟨w.heap.size, 2, none⟩) hE (cell_lt c2)).trans f2; replace c0 := hE.cell c0; replace c1 := hE.cell c1; replace c2 := hE.cell c2; replace EX := EX.trans hE; clear hE)
      | (go_at_call 128; (with_reducible refine (HI1.out _).mono ?_); rintro e w' ⟨rfl, hE⟩; replace f0 := (Below.frozen (p := ⟨w.heap.size, 0, none⟩) hE (cell_lt c0)).trans f0; replace f1 := (Below.frozen (p := ⟨w.heap.size, 1, none⟩) hE (cell_lt c1)).trans f1; replace f2 := (Below.frozen (p := ⟨w.heap.size, 2, none⟩) hE (cell_lt c2)).trans f2; replace c0 := hE.cell c0; replace c1 := hE.cell c1; replace c2 := hE.cell c2; replace EX := EX.trans hE; clear hE)
      | (go_at_call 128; (with_reducible refine (HI2.out _).mono ?_); rintro e w' ⟨rfl, hE⟩; replace f0 := (Below.frozen (p := ⟨w.heap.size, 0, none⟩) hE (cell_lt c0)).trans f0; replace f1 := (Below.frozen (p := ⟨w.heap.size, 1, none⟩) hE (cell_lt c1)).trans f1; replace f2 := (Below.frozen (p := ⟨w.heap.size, 2, none⟩) hE (cell_lt c2)).trans f2; replace c0 := hE.cell c0; replace c1 := hE.cell c1; replace c2 := hE.cell c2; replace EX := EX.trans hE; clear hE)
      | (go_at_call 129; (with_reducible refine (HL1.out _).mono ?_); rintro e w' ⟨rfl, hE⟩; replace f0 := (Below.frozen (p := ⟨w.heap.size, 0, none⟩) hE (cell_lt c0)).trans f0; replace f1 := (Below.frozen (p := ⟨w.heap.size, 1, none⟩) hE (cell_lt c1)).trans f1; replace f2 := (Below.frozen (p := ⟨w.heap.size, 2, none⟩) hE (cell_lt c2)).trans f2; replace c0 := hE.cell c0; replace c1 := hE.cell c1; replace c2 := hE.cell c2; replace EX := EX.trans hE; clear hE)
      | (go_at_call 129; (with_reducible refine (HL2.out _).mono ?_); rintro e w' ⟨rfl, hE⟩; replace f0 := (Below.frozen (p := ⟨w.heap.size, 0, none⟩) hE (cell_lt c0)).trans f0; replace f1 := (Below.frozen (p := ⟨w.heap.size, 1, none⟩) hE (cell_lt c1)).trans f1; replace f2 := (Below.frozen (p := ⟨w.heap.size, 2, none⟩) hE (cell_lt c2)).trans f2; replace c0 := hE.cell c0; replace c1 := hE.cell c1; replace c2 := hE.cell c2; replace EX := EX.trans hE; clear hE))
      refine bodyPost_ret (v := .tuple #[.agg #[.bool false, .slice none 0 0, .slice none 0 0], .int .i64 3]) (by rw [results_cell_tmp1 rfl]; go_simp) rfl ?_
      exact ⟨_, by rw [HE.out]; rfl, ⟨_, _, _, _, _, _, _, rfl⟩, fun h => absurd (HE.out.symm.trans h) (by decide), extA⟩
    · go_wp2_with (first
      | (go_at_call 127; (with_reducible refine (HCut.out _ EX).mono ?_); rintro e w' ⟨rfl, hE⟩; replace f0 := (Below.frozen (p := ⟨w.heap.size, 0, none⟩) hE (cell_lt c0)).trans f0; replace f1 := (Below.frozen (p := ⟨w.heap.size, 1, none⟩) hE (cell_lt c1)).trans f1; replace f2 := (Below.frozen (p := ⟨w.heap.size, 2, none⟩) hE (cell_lt c2)).trans f2; replace c0 := hE.cell c0; replace c1 := hE.cell c1; replace c2 := hE.cell c2; replace EX := EX.trans hE; clear hE)
      | (go_at_call 128; (with_reducible refine (HI1.out _).mono ?_); rintro e w' ⟨rfl, hE⟩; replace f0 := (Below.frozen (p := ⟨w.heap.size, 0, none⟩) hE (cell_lt c0)).trans f0; replace f1 := (Below.frozen (p := ⟨w.heap.size, 1, none⟩) hE (cell_lt c1)).trans f1; replace f2 := (Below.frozen (p := ⟨w.heap.size, 2, none⟩) hE (cell_lt c2)).trans f2; replace c0 := hE.cell c0; replace c1 := hE.cell c1; replace c2 := hE.cell c2; replace EX := EX.trans hE; clear hE)
      | (go_at_call 128; (with_reducible refine (HI2.out _).mono ?_); rintro e w' ⟨rfl, hE⟩; replace f0 := (Below.frozen (p := ⟨w.heap.size, 0, none⟩) hE (cell_lt c0)).trans f0; replace f1 := (Below.frozen (p := ⟨w.heap.size, 1, none⟩) hE (cell_lt c1)).trans f1; replace f2 := (Below.frozen (p := ⟨w.heap.size, 2, none⟩) hE (cell_lt c2)).trans f2; replace c0 := hE.cell c0; replace c1 := hE.cell c1; replace c2 := hE.cell c2; replace EX := EX.trans hE; clear hE)
      | (go_at_call 129; (with_reducible refine (HL1.out _).mono ?_); rintro e w' ⟨rfl, hE⟩; replace f0 := (Below.frozen (p := ⟨w.heap.size, 0, none⟩) hE (cell_lt c0)).trans f0; replace f1 := (Below.frozen (p := ⟨w.heap.size, 1, none⟩) hE (cell_lt c1)).trans f1; replace f2 := (Below.frozen (p := ⟨w.heap.size, 2, none⟩) hE (cell_lt c2)).trans f2; replace c0 := hE.cell c0; replace c1 := hE.cell c1; replace c2 := hE.cell c2; replace EX := EX.trans hE; clear hE)
      | (go_at_call 129; (with_reducible refine (HL2.out _).mono ?_); rintro e w' ⟨rfl, hE⟩; replace f0 := (Below.frozen (p := ⟨w.heap.size, 0, none⟩) hE (cell_lt c0)).trans f0; replace f1 := (Below.frozen (p := ⟨w.heap.size, 1, none⟩) hE (cell_lt c1)).trans f1; replace f2 := (Below.frozen (p := ⟨w.heap.size, 2, none⟩) hE (cell_lt c2)).trans f2; replace c0 := hE.cell c0; replace c1 := hE.cell c1; replace c2 := hE.cell c2; replace EX := EX.trans hE; clear hE))
      refine bodyPost_ret (v := .tuple #[.agg #[.bool false, .slice none 0 0, .slice none 0 0], .int .i64 3]) (by rw [results_cell_tmp1 rfl]; go_simp) rfl ?_
      exact ⟨_, by rw [HE.out]; rfl, ⟨_, _, _, _, _, _, _, rfl⟩, fun h => absurd (HE.out.symm.trans h) (by decide), extA⟩
  cases i2
  · have HE : Hid (fracE t = 3) := HFE.out.trans (by rw [if_pos (.inr (of_decide_eq_false HB2.out.symm))])
    clear HFE HB1 HB2 HB3 HB4 HTN HL1 HL2
    go_enter Tryz.func93, Tryz.ntmps93
    cases f
    · have hl0 := HLOW.out rfl
      subst hl0
      go_wp2_with (first
      | (go_at_call 127; (with_reducible refine (HCut.out _ EX).mono ?_); rintro e w' ⟨rfl, hE⟩; replace f0 := (Below.frozen (p := ⟨w.heap.size, 0, none⟩) hE (cell_lt c0)).trans f0; replace f1 := (Below.frozen (p := ⟨w.heap.size, 1, none⟩) hE (cell_lt c1)).trans f1; replace f2 := (Below.frozen (p := ⟨w.heap.size, 2, none⟩) hE (cell_lt c2)).trans f2; replace c0 := hE.cell c0; replace c1 := hE.cell c1; replace c2 := hE.cell c2; replace EX := EX.trans hE; clear hE)
      | (go_at_call 128; (with_reducible refine (HI1.out _).mono ?_); rintro e w' ⟨rfl, hE⟩; replace f0 := (Below.frozen (p := ⟨w.heap.size, 0, none⟩) hE (cell_lt c0)).trans f0; replace f1 := (Below.frozen (p := ⟨w.heap.size, 1, none⟩) hE (cell_lt c1)).trans f1; replace f2 := (Below.frozen (p := ⟨w.heap.size, 2, none⟩) hE (cell_lt c2)).trans f2; replace c0 := hE.cell c0; replace c1 := hE.cell c1; replace c2 := hE.cell c2; replace EX := EX.trans hE; clear hE)
      | (go_at_call 128; (with_reducible refine (HI2.out _).mono ?_); rintro e w' ⟨rfl, hE⟩; replace f0 := (Below.frozen (p := ⟨w.heap.size, 0, none⟩) hE (cell_lt c0)).trans f0; replace f1 := (Below.frozen (p := ⟨w.heap.size, 1, none⟩) hE (cell_lt c1)).trans f1; replace f2 := (Below.frozen (p := ⟨w.heap.size, 2, none⟩) hE (cell_lt c2)).trans f2; replace c0 := hE.cell c0; replace c1 := hE.cell c1; replace c2 := hE.cell c2; replace EX := EX.trans hE; clear hE)
      | (go_at_call 129; (with_reducible refine (HL1.out _).mono ?_); rintro e w' ⟨rfl, hE⟩; replace f0 := (Below.frozen (p := ⟨w.heap.size, 0, none⟩) hE (cell_lt c0)).trans f0; replace f1 := (Below.frozen (p := ⟨w.heap.size, 1, none⟩) hE (cell_lt c1)).trans f1; replace f2 := (Below.frozen (p := ⟨w.heap.size, 2, none⟩) hE (cell_lt c2)).trans f2; replace c0 := hE.cell c0; replace c1 := hE.cell c1; replace c2 := hE.cell c2; replace EX := EX.trans hE; clear hE)
      | (go_at_call 129; (with_reducible refine (HL2.out _).mono ?_); rintro e w' ⟨rfl, hE⟩; replace f0 := (Below.frozen (p := ⟨w.heap.size, 0, none⟩) hE (cell_lt c0)).trans f0; replace f1 := (Below.frozen (p := ⟨w.heap.size, 1, none⟩) hE (cell_lt c1)).trans f1; replace f2 := (Below.frozen (p := ⟨w.heap.size, 2, none⟩) hE (cell_lt c2)).trans f2; replace c0 := hE.cell c0; replace c1 := hE.cell c1; replace c2 := hE.cell c2; replace EX := EX.trans hE; clear hE))
      refine bodyPost_ret (v := .tuple #[.agg #[.bool false, .slice none 0 0, .slice none 0 0], .int .i64 3]) (by rw [results_cell_tmp1 rfl]; go_simp) rfl ?_
      exact ⟨_, by rw [HE.out]; rfl, ⟨_, _, _, _, _, _, _, rfl⟩, fun h => absurd (HE.out.symm.trans h) (by decide), extA⟩
    · go_wp2_with (first
      | (go_at_call 127; (with_reducible refine (HCut.out _ EX).mono ?_); rintro e w' ⟨rfl, hE⟩; replace f0 := (Below.frozen (p := ⟨w.heap.size, 0, none⟩) hE (cell_lt c0)).trans f0; replace f1 := (Below.frozen (p := ⟨w.heap.size, 1, none⟩) hE (cell_lt c1)).trans f1; replace f2 := (Below.frozen (p := ⟨w.heap.size, 2, none⟩) hE (cell_lt c2)).trans f2; replace c0 := hE.cell c0; replace c1 := hE.cell c1; replace c2 := hE.cell c2; replace EX := EX.trans hE; clear hE)
      | (go_at_call 128; (with_reducible refine (HI1.out _).mono ?_); rintro e w' ⟨rfl, hE⟩; replace f0 := (Below.frozen (p := ⟨w.heap.size, 0, none⟩) hE (cell_lt c0)).trans f0; replace f1 := (Below.frozen (p := ⟨w.heap.size, 1, none⟩) hE (cell_lt c1)).trans f1; replace f2 := (Below.frozen (p := ⟨w.heap.size, 2, none⟩) hE (cell_lt c2)).trans f2; replace c0 := hE.cell c0; replace c1 := hE.cell c1; replace c2 := hE.cell c2; replace EX := EX.trans hE; clear hE)
      | (go_at_call 128; (with_reducible refine (HI2.out _).mono ?_); rintro e w' ⟨rfl, hE⟩; replace f0 := (Below.frozen (p := ⟨w.heap.size, 0, none⟩) hE (cell_lt c0)).trans f0; replace f1 := (Below.frozen (p := ⟨w.heap.size, 1, none⟩) hE (cell_lt c1)).trans f1; replace f2 := (Below.frozen (p := ⟨w.heap.size, 2, none⟩) hE (cell_lt c2)).trans f2; replace c0 := hE.cell c0; replace c1 := hE.cell c1; replace c2 := hE.cell c2; replace EX := EX.trans hE; clear hE)
      | (go_at_call 129; (with_reducible refine (HL1.out _).mono ?_); rintro e w' ⟨rfl, hE⟩; replace f0 := (Below.frozen (p := ⟨w.heap.size, 0, none⟩) hE (cell_lt c0)).trans f0; replace f1 := (Below.frozen (p := ⟨w.heap.size, 1, none⟩) hE (cell_lt c1)).trans f1; replace f2 := (Below.frozen (p := ⟨w.heap.size, 2, none⟩) hE (cell_lt c2)).trans f2; replace c0 := hE.cell c0; replace c1 := hE.cell c1; replace c2 := hE.cell c2; replace EX := EX.trans hE; clear hE)
      | (go_at_call 129; (with_reducible refine (HL2.out _).mono ?_); rintro e w' ⟨rfl, hE⟩; replace f0 := (Below.frozen (p := ⟨w.heap.size, 0, none⟩) hE (cell_lt c0)).trans f0; replace f1 := (Below.frozen (p := ⟨w.heap.size, 1, none⟩) hE (cell_lt c1)).trans f1; replace f2 := (Below.frozen (p := ⟨w.heap.size, 2, none⟩) hE (cell_lt c2)).trans f2; replace c0 := hE.cell c0; replace c1 := hE.cell c1; replace c2 := hE.cell c2; replace EX := EX.trans hE; clear hE))
      refine bodyPost_ret (v := .tuple #[.agg #[.bool false, .slice none 0 0, .slice none 0 0], .int .i64 3]) (by rw [results_cell_tmp1 rfl]; go_simp) rfl ?_
      exact ⟨_, by rw [HE.out]; rfl, ⟨_, _, _, _, _, _, _, rfl⟩, fun h => absurd (HE.out.symm.trans h) (by decide), extA⟩
  have HS1 := Lib.hid (of_decide_eq_true (p := IntS top) HB1.out.symm)
  have HS2 := Lib.hid (of_decide_eq_true (p := IntS low) HB2.out.symm)
  have HNI : Hid (¬ (¬ IntS top ∨ ¬ IntS low)) := fun h => h.elim (fun h => h HS1.out) (fun h => h HS2.out)
  cases l1
  rotate_left
  · have HE : Hid (fracE t = 11) := HFE.out.trans (by rw [if_neg HNI.out, if_pos (.inl (of_decide_eq_true HB3.out.symm))])
    clear HFE HB1 HB2 HB3 HB4 HTN HS1 HS2 HNI HL2
    go_enter Tryz.func93, Tryz.ntmps93
    cases f
    · have hl0 := HLOW.out rfl
      subst hl0
      go_wp2_with (first
      | (go_at_call 127; (with_reducible refine (HCut.out _ EX).mono ?_); rintro e w' ⟨rfl, hE⟩; replace f0 := (Below.frozen (p := ⟨w.heap.size, 0, none⟩) hE (cell_lt c0)).trans f0; replace f1 := (Below.frozen (p := ⟨w.heap.size, 1, none⟩) hE (cell_lt c1)).trans f1; replace f2 := (Below.frozen (p := ⟨w.heap.size, 2, none⟩) hE (cell_lt c2)).trans f2; replace c0 := hE.cell c0; replace c1 := hE.cell c1; replace c2 := hE.cell c2; replace EX := EX.trans hE; clear hE)
      | (go_at_call 128; (with_reducible refine (HI1.out _).mono ?_); rintro e w' ⟨rfl, hE⟩; replace f0 := (Below.frozen (p := ⟨w.heap.size, 0, none⟩) hE (cell_lt c0)).trans f0; replace f1 := (Below.frozen (p := ⟨w.heap.size, 1, none⟩) hE (cell_lt c1)).trans f1; replace f2 := (Below.frozen (p := ⟨w.heap.size, 2, none⟩) hE (cell_lt c2)).trans f2; replace c0 := hE.cell c0; replace c1 := hE.cell c1; replace c2 := hE.cell c2; replace EX := EX.trans hE; clear hE)
      | (go_at_call 128; (with_reducible refine (HI2.out _).mono ?_); rintro e w' ⟨rfl, hE⟩; replace f0 := (Below.frozen (p := ⟨w.heap.size, 0, none⟩) hE (cell_lt c0)).trans f0; replace f1 := (Below.frozen (p := ⟨w.heap.size, 1, none⟩) hE (cell_lt c1)).trans f1; replace f2 := (Below.frozen (p := ⟨w.heap.size, 2, none⟩) hE (cell_lt c2)).trans f2; replace c0 := hE.cell c0; replace c1 := hE.cell c1; replace c2 := hE.cell c2; replace EX := EX.trans hE; clear hE)
      | (go_at_call 129; (with_reducible refine (HL1.out _).mono ?_); rintro e w' ⟨rfl, hE⟩; replace f0 := (Below.frozen (p := ⟨w.heap.size, 0, none⟩) hE (cell_lt c0)).trans f0; replace f1 := (Below.frozen (p := ⟨w.heap.size, 1, none⟩) hE (cell_lt c1)).trans f1; replace f2 := (Below.frozen (p := ⟨w.heap.size, 2, none⟩) hE (cell_lt c2)).trans f2; replace c0 := hE.cell c0; replace c1 := hE.cell c1; replace c2 := hE.cell c2; replace EX := EX.trans hE; clear hE)
      | (go_at_call 129; (with_reducible refine (HL2.out _).mono ?_); rintro e w' ⟨rfl, hE⟩; replace f0 := (Below.frozen (p := ⟨w.heap.size, 0, none⟩) hE (cell_lt c0)).trans f0; replace f1 := (Below.frozen (p := ⟨w.heap.size, 1, none⟩) hE (cell_lt c1)).trans f1; replace f2 := (Below.frozen (p := ⟨w.heap.size, 2, none⟩) hE (cell_lt c2)).trans f2; replace c0 := hE.cell c0; replace c1 := hE.cell c1; replace c2 := hE.cell c2; replace EX := EX.trans hE; clear hE))
      refine bodyPost_ret (v := .tuple #[.agg #[.bool false, .slice none 0 0, .slice none 0 0], .int .i64 11]) (by rw [results_cell_tmp1 rfl]; go_simp) rfl ?_
      exact ⟨_, by rw [HE.out]; rfl, ⟨_, _, _, _, _, _, _, rfl⟩, fun h => absurd (HE.out.symm.trans h) (by decide), extA⟩
    · go_wp2_with (first
      | (go_at_call 127; (with_reducible refine (HCut.out _ EX).mono ?_); rintro e w' ⟨rfl, hE⟩; replace f0 := (Below.frozen (p := ⟨w.heap.size, 0, none⟩) hE (cell_lt c0)).trans f0; replace f1 := (Below.frozen (p := ⟨w.heap.size, 1, none⟩) hE (cell_lt c1)).trans f1; replace f2 := (Below.frozen (p := ⟨w.heap.size, 2, none⟩) hE (cell_lt c2)).trans f2; replace c0 := hE.cell c0; replace c1 := hE.cell c1; replace c2 := hE.cell c2; replace EX := EX.trans hE; clear hE)
      | (go_at_call 128; (with_reducible refine (HI1.out _).mono ?_); rintro e w' ⟨rfl, hE⟩; replace f0 := (Below.frozen (p := ⟨w.heap.size, 0, none⟩) hE (cell_lt c0)).trans f0; replace f1 := (Below.frozen (p := ⟨w.heap.size, 1, none⟩) hE (cell_lt c1)).trans f1; replace f2 := (Below.frozen (p := ⟨w.heap.size, 2, none⟩) hE (cell_lt c2)).trans f2; replace c0 := hE.cell c0; replace c1 := hE.cell c1; replace c2 := hE.cell c2; replace EX := EX.trans hE; clear hE)
      | (go_at_call 128; (with_reducible refine (HI2.out _).mono ?_); rintro e w' ⟨rfl, hE⟩; replace f0 := (Below.frozen (p := ⟨w.heap.size, 0, none⟩) hE (cell_lt c0)).trans f0; replace f1 := (Below.frozen (p := ⟨w.heap.size, 1, none⟩) hE (cell_lt c1)).trans f1; replace f2 := (Below.frozen (p := ⟨w.heap.size, 2, none⟩) hE (cell_lt c2)).trans f2; replace c0 := hE.cell c0; replace c1 := hE.cell c1; replace c2 := hE.cell c2; replace EX := EX.trans hE; clear hE)
      | (go_at_call 129; (with_reducible refine (HL1.out _).mono ?_); rintro e w' ⟨rfl, hE⟩; replace f0 := (Below.frozen (p := ⟨w.heap.size, 0, none⟩) hE (cell_lt c0)).trans f0; replace f1 := (Below.frozen (p := ⟨w.heap.size, 1, none⟩) hE (cell_lt c1)).trans f1; replace f2 := (Below.frozen (p := ⟨w.heap.size, 2, none⟩) hE (cell_lt c2)).trans f2; replace c0 := hE.cell c0; replace c1 := hE.cell c1; replace c2 := hE.cell c2; replace EX := EX.trans hE; clear hE)
      | (go_at_call 129; (with_reducible refine (HL2.out _).mono ?_); rintro e w' ⟨rfl, hE⟩; replace f0 := (Below.frozen (p := ⟨w.heap.size, 0, none⟩) hE (cell_lt c0)).trans f0; replace f1 := (Below.frozen (p := ⟨w.heap.size, 1, none⟩) hE (cell_lt c1)).trans f1; replace f2 := (Below.frozen (p := ⟨w.heap.size, 2, none⟩) hE (cell_lt c2)).trans f2; replace c0 := hE.cell c0; replace c1 := hE.cell c1; replace c2 := hE.cell c2; replace EX := EX.trans hE; clear hE))
      refine bodyPost_ret (v := .tuple #[.agg #[.bool false, .slice none 0 0, .slice none 0 0], .int .i64 11]) (by rw [results_cell_tmp1 rfl]; go_simp) rfl ?_
      exact ⟨_, by rw [HE.out]; rfl, ⟨_, _, _, _, _, _, _, rfl⟩, fun h => absurd (HE.out.symm.trans h) (by decide), extA⟩
  cases l2
  rotate_left
  · have HE : Hid (fracE t = 11) := HFE.out.trans (by rw [if_neg HNI.out, if_pos (.inr (of_decide_eq_true HB4.out.symm))])
    clear HFE HB1 HB2 HB3 HB4 HTN HS1 HS2 HNI
    go_enter Tryz.func93, Tryz.ntmps93
    cases f
    · have hl0 := HLOW.out rfl
      subst hl0
      go_wp2_with (first
      | (go_at_call 127; (with_reducible refine (HCut.out _ EX).mono ?_); rintro e w' ⟨rfl, hE⟩; replace f0 := (Below.frozen (p := ⟨w.heap.size, 0, none⟩) hE (cell_lt c0)).trans f0; replace f1 := (Below.frozen (p := ⟨w.heap.size, 1, none⟩) hE (cell_lt c1)).trans f1; replace f2 := (Below.frozen (p := ⟨w.heap.size, 2, none⟩) hE (cell_lt c2)).trans f2; replace c0 := hE.cell c0; replace c1 := hE.cell c1; replace c2 := hE.cell c2; replace EX := EX.trans hE; clear hE)
      | (go_at_call 128; (with_reducible refine (HI1.out _).mono ?_); rintro e w' ⟨rfl, hE⟩; replace f0 := (Below.frozen (p := ⟨w.heap.size, 0, none⟩) hE (cell_lt c0)).trans f0; replace f1 := (Below.frozen (p := ⟨w.heap.size, 1, none⟩) hE (cell_lt c1)).trans f1; replace f2 := (Below.frozen (p := ⟨w.heap.size, 2, none⟩) hE (cell_lt c2)).trans f2; replace c0 := hE.cell c0; replace c1 := hE.cell c1; replace c2 := hE.cell c2; replace EX := EX.trans hE; clear hE)
      | (go_at_call 128; (with_reducible refine (HI2.out _).mono ?_); rintro e w' ⟨rfl, hE⟩; replace f0 := (Below.frozen (p := ⟨w.heap.size, 0, none⟩) hE (cell_lt c0)).trans f0; replace f1 := (Below.frozen (p := ⟨w.heap.size, 1, none⟩) hE (cell_lt c1)).trans f1; replace f2 := (Below.frozen (p := ⟨w.heap.size, 2, none⟩) hE (cell_lt c2)).trans f2; replace c0 := hE.cell c0; replace c1 := hE.cell c1; replace c2 := hE.cell c2; replace EX := EX.trans hE; clear hE)
      | (go_at_call 129; (with_reducible refine (HL1.out _).mono ?_); rintro e w' ⟨rfl, hE⟩; replace f0 := (Below.frozen (p := ⟨w.heap.size, 0, none⟩) hE (cell_lt c0)).trans f0; replace f1 := (Below.frozen (p := ⟨w.heap.size, 1, none⟩) hE (cell_lt c1)).trans f1; replace f2 := (Below.frozen (p := ⟨w.heap.size, 2, none⟩) hE (cell_lt c2)).trans f2; replace c0 := hE.cell c0; replace c1 := hE.cell c1; replace c2 := hE.cell c2; replace EX := EX.trans hE; clear hE)
      | (go_at_call 129; (with_reducible refine (HL2.out _).mono ?_); rintro e w' ⟨rfl, hE⟩; replace f0 := (Below.frozen (p := ⟨w.heap.size, 0, none⟩) hE (cell_lt c0)).trans f0; replace f1 := (Below.frozen (p := ⟨w.heap.size, 1, none⟩) hE (cell_lt c1)).trans f1; replace f2 := (Below.frozen (p := ⟨w.heap.size, 2, none⟩) hE (cell_lt c2)).trans f2; replace c0 := hE.cell c0; replace c1 := hE.cell c1; replace c2 := hE.cell c2; replace EX := EX.trans hE; clear hE))
      refine bodyPost_ret (v := .tuple #[.agg #[.bool false, .slice none 0 0, .slice none 0 0], .int .i64 11]) (by rw [results_cell_tmp1 rfl]; go_simp) rfl ?_
      exact ⟨_, by rw [HE.out]; rfl, ⟨_, _, _, _, _, _, _, rfl⟩, fun h => absurd (HE.out.symm.trans h) (by decide), extA⟩
    · go_wp2_with (first
      | (go_at_call 127; (with_reducible refine (HCut.out _ EX).mono ?_); rintro e w' ⟨rfl, hE⟩; replace f0 := (Below.frozen (p := ⟨w.heap.size, 0, none⟩) hE (cell_lt c0)).trans f0; replace f1 := (Below.frozen (p := ⟨w.heap.size, 1, none⟩) hE (cell_lt c1)).trans f1; replace f2 := (Below.frozen (p := ⟨w.heap.size, 2, none⟩) hE (cell_lt c2)).trans f2; replace c0 := hE.cell c0; replace c1 := hE.cell c1; replace c2 := hE.cell c2; replace EX := EX.trans hE; clear hE)
      | (go_at_call 128; (with_reducible refine (HI1.out _).mono ?_); rintro e w' ⟨rfl, hE⟩; replace f0 := (Below.frozen (p := ⟨w.heap.size, 0, none⟩) hE (cell_lt c0)).trans f0; replace f1 := (Below.frozen (p := ⟨w.heap.size, 1, none⟩) hE (cell_lt c1)).trans f1; replace f2 := (Below.frozen (p := ⟨w.heap.size, 2, none⟩) hE (cell_lt c2)).trans f2; replace c0 := hE.cell c0; replace c1 := hE.cell c1; replace c2 := hE.cell c2; replace EX := EX.trans hE; clear hE)
      | (go_at_call 128; (with_reducible refine (HI2.out _).mono ?_); rintro e w' ⟨rfl, hE⟩; replace f0 := (Below.frozen (p := ⟨w.heap.size, 0, none⟩) hE (cell_lt c0)).trans f0; replace f1 := (Below.frozen (p := ⟨w.heap.size, 1, none⟩) hE (cell_lt c1)).trans f1; replace f2 := (Below.frozen (p := ⟨w.heap.size, 2, none⟩) hE (cell_lt c2)).trans f2; replace c0 := hE.cell c0; replace c1 := hE.cell c1; replace c2 := hE.cell c2; replace EX := EX.trans hE; clear hE)
      | (go_at_call 129; (with_reducible refine (HL1.out _).mono ?_); rintro e w' ⟨rfl, hE⟩; replace f0 := (Below.frozen (p := ⟨w.heap.size, 0, none⟩) hE (cell_lt c0)).trans f0; replace f1 := (Below.frozen (p := ⟨w.heap.size, 1, none⟩) hE (cell_lt c1)).trans f1; replace f2 := (Below.frozen (p := ⟨w.heap.size, 2, none⟩) hE (cell_lt c2)).trans f2; replace c0 := hE.cell c0; replace c1 := hE.cell c1; replace c2 := hE.cell c2; replace EX := EX.trans hE; clear hE)
      | (go_at_call 129; (with_reducible refine (HL2.out _).mono ?_); rintro e w' ⟨rfl, hE⟩; replace f0 := (Below.frozen (p := ⟨w.heap.size, 0, none⟩) hE (cell_lt c0)).trans f0; replace f1 := (Below.frozen (p := ⟨w.heap.size, 1, none⟩) hE (cell_lt c1)).trans f1; replace f2 := (Below.frozen (p := ⟨w.heap.size, 2, none⟩) hE (cell_lt c2)).trans f2; replace c0 := hE.cell c0; replace c1 := hE.cell c1; replace c2 := hE.cell c2; replace EX := EX.trans hE; clear hE))
      refine bodyPost_ret (v := .tuple #[.agg #[.bool false, .slice none 0 0, .slice none 0 0], .int .i64 11]) (by rw [results_cell_tmp1 rfl]; go_simp) rfl ?_
      exact ⟨_, by rw [HE.out]; rfl, ⟨_, _, _, _, _, _, _, rfl⟩, fun h => absurd (HE.out.symm.trans h) (by decide), extA⟩
  have HNL : Hid (¬ (60 < (bareS top).length ∨ 60 < (bareS low).length)) := fun h => h.elim (of_decide_eq_false (p := 60 < (bareS top).length) HB3.out.symm) (of_decide_eq_false (p := 60 < (bareS low).length) HB4.out.symm)
  have hFE2 := HFE.out
  rw [if_neg HNI.out, if_neg HNL.out] at hFE2
  have HFE2 := Lib.hid hFE2
  have hbl : (bareS top).length ≤ 60 ∧ (bareS low).length ≤ 60 := by have := HNL.out; omega
  have hD1 := HS1.out.1.1
  have hD2 := HS2.out.1.1
  have HSG1 := Lib.hid (fun W => signed_any top W hD1 (by omega))
  have HSG2 := Lib.hid (fun W => signed_any low W hD2 (by omega))
  have hlt : ∀ d : Txt, DigitL d → d.length ≤ 60 → (toB 1000000000 (decV d)).length ≤ 60 := fun d h1 h2 => toB_len (by omega) 60 (Nat.lt_of_lt_of_le (decV_lt h1) (Nat.le_trans (Nat.pow_le_pow_right (by omega) h2) (Nat.pow_le_pow_left (by omega) _)))
  have hn1 := hlt _ hD1 hbl.1
  have hn2 := hlt _ hD2 hbl.2
  have HNU : Hid (negS low = false → numOf t = (negS top, decV (bareS top), decV (bareS low))) := fun h => by rw [HTN.out, bare_pos h]
  have HZ0 : Hid (f = false → fracE t = 0 ∧ negS low = false) := fun h => by
    have hm : 47 ∉ t := fun e => by rw [HF.out, decide_eq_true e] at h; cases h
    rw [HFE2.out, if_pos hm]
    refine ⟨rfl, ?_⟩
    rw [HLOW.out h]; rfl
  have HZ1 : Hid (f = true → fracE t = if negS low = true then 3 else if decV (bareS low) ≤ 1 then 3 else if Nat.gcd (decV (bareS top)) (decV (bareS low)) ≠ 1 then 3 else 0) := fun h => by
    have hm : ¬ 47 ∉ t := fun e => by rw [HF.out, decide_eq_false e] at h; cases h
    rw [HFE2.out, if_neg hm]
    by_cases hb : negS low = true
    · rw [if_pos (.inl hb), if_pos hb]
    · have hbb := bare_pos (s := low) (by simpa using hb)
      rw [if_neg hb, hbb]
      by_cases h1 : decV low ≤ 1
      · rw [if_pos (.inr (.inl h1)), if_pos h1]
      · rw [if_neg h1]
        by_cases h2 : Nat.gcd (decV (bareS top)) (decV low) ≠ 1
        · rw [if_pos (.inr (.inr h2)), if_pos h2]
        · rw [if_neg h2, if_neg (fun h => h.elim hb (fun h => h.elim h1 h2))]
  clear hlt hD1 hD2 hFE2 HFE HB1 HB2 HB3 HB4 HNI HNL HTN HF HFE2 HS1 HS2
  generalize decV (bareS top) = n1 at *
  generalize decV (bareS low) = n2 at *
  generalize negS top = sg at *
  generalize negS low = sl at *
  have hn1 : (toB 1000000000 n1).length ≤ 60 := hn1
  go_enter Tryz.func93, Tryz.ntmps93
  cases f
  · have hl0 := HLOW.out rfl
    have HZ := Lib.hid (HZ0.out rfl)
    subst hl0
    go_wp2_with (first
      | (go_at_call 127; (with_reducible refine (HCut.out _ EX).mono ?_); rintro e w' ⟨rfl, hE⟩; replace f0 := (Below.frozen (p := ⟨w.heap.size, 0, none⟩) hE (cell_lt c0)).trans f0; replace f1 := (Below.frozen (p := ⟨w.heap.size, 1, none⟩) hE (cell_lt c1)).trans f1; replace f2 := (Below.frozen (p := ⟨w.heap.size, 2, none⟩) hE (cell_lt c2)).trans f2; replace c0 := hE.cell c0; replace c1 := hE.cell c1; replace c2 := hE.cell c2; replace EX := EX.trans hE; clear hE)
      | (go_at_call 128; (with_reducible refine (HI1.out _).mono ?_); rintro e w' ⟨rfl, hE⟩; replace f0 := (Below.frozen (p := ⟨w.heap.size, 0, none⟩) hE (cell_lt c0)).trans f0; replace f1 := (Below.frozen (p := ⟨w.heap.size, 1, none⟩) hE (cell_lt c1)).trans f1; replace f2 := (Below.frozen (p := ⟨w.heap.size, 2, none⟩) hE (cell_lt c2)).trans f2; replace c0 := hE.cell c0; replace c1 := hE.cell c1; replace c2 := hE.cell c2; replace EX := EX.trans hE; clear hE)
      | (go_at_call 128; (with_reducible refine (HI2.out _).mono ?_); rintro e w' ⟨rfl, hE⟩; replace f0 := (Below.frozen (p := ⟨w.heap.size, 0, none⟩) hE (cell_lt c0)).trans f0; replace f1 := (Below.frozen (p := ⟨w.heap.size, 1, none⟩) hE (cell_lt c1)).trans f1; replace f2 := (Below.frozen (p := ⟨w.heap.size, 2, none⟩) hE (cell_lt c2)).trans f2; replace c0 := hE.cell c0; replace c1 := hE.cell c1; replace c2 := hE.cell c2; replace EX := EX.trans hE; clear hE)
      | (go_at_call 129; (with_reducible refine (HL1.out _).mono ?_); rintro e w' ⟨rfl, hE⟩; replace f0 := (Below.frozen (p := ⟨w.heap.size, 0, none⟩) hE (cell_lt c0)).trans f0; replace f1 := (Below.frozen (p := ⟨w.heap.size, 1, none⟩) hE (cell_lt c1)).trans f1; replace f2 := (Below.frozen (p := ⟨w.heap.size, 2, none⟩) hE (cell_lt c2)).trans f2; replace c0 := hE.cell c0; replace c1 := hE.cell c1; replace c2 := hE.cell c2; replace EX := EX.trans hE; clear hE)
      | (go_at_call 129; (with_reducible refine (HL2.out _).mono ?_); rintro e w' ⟨rfl, hE⟩; replace f0 := (Below.frozen (p := ⟨w.heap.size, 0, none⟩) hE (cell_lt c0)).trans f0; replace f1 := (Below.frozen (p := ⟨w.heap.size, 1, none⟩) hE (cell_lt c1)).trans f1; replace f2 := (Below.frozen (p := ⟨w.heap.size, 2, none⟩) hE (cell_lt c2)).trans f2; replace c0 := hE.cell c0; replace c1 := hE.cell c1; replace c2 := hE.cell c2; replace EX := EX.trans hE; clear hE))
    have hz := cell_lt c0
    dsimp only at hz
    have EA : Ext w' (w'.alloc (.cells #[.bool false, .slice none 0 0, .slice none 0 0] 116)) := extA
    have X1 : Num3 w'.heap.size (w'.alloc (.cells #[.bool false, .slice none 0 0, .slice none 0 0] 116)) (.bool false) (.slice none 0 0) (.slice none 0 0) := ⟨by go_simp, by go_simp, by go_simp, by go_simp, by go_simp, by go_simp⟩
    have R1 : Num3 w.heap.size (w'.alloc (.cells #[.bool false, .slice none 0 0, .slice none 0 0] 116)) (.bool false) (.slice none 0 0) (.slice none 0 0) := (Num3.mk c0 c1 c2 f0 f1 f2).ext EA
    have E1 := EX.trans EA
    clear c0 c1 c2 f0 f1 f2 EA EX
    obtain ⟨xb, hxb⟩ : ∃ xb, xb = w'.heap.size := ⟨_, rfl⟩
    rw [← hxb] at X1 hz ⊢
    clear hxb
    generalize (w'.alloc (.cells #[.bool false, .slice none 0 0, .slice none 0 0] 116)) = W1 at X1 R1 E1 ⊢
    refine (HSG1.out _).mono ?_
    rintro e w2 ⟨ta, tc, rfl, hC1, hN1, hE⟩
    have hz1 : xb < W1.heap.size := cell_lt X1.c0
    have hN1x : ∀ p, ta = some p → p.block ≠ xb := fun p hp => by have := hN1 p hp; omega
    have hN1w : ∀ p, ta = some p → p.block ≠ w.heap.size := fun p hp => by have := hN1 p hp; omega
    replace X1 := X1.ext hE
    replace R1 := R1.ext hE
    replace E1 := E1.trans hE
    have hxw := cell_lt X1.c0
    dsimp only at hxw
    obtain ⟨x0, x1, x2, g0, g1, g2⟩ := X1
    have HC1 := Lib.hid hC1
    have HX1 := Lib.hid (Num3.mk x0 x1 x2 g0 g1 g2)
    have HR1 := Lib.hid R1
    clear hE hC1 HSG1 R1
    go_wp2_with fail
    have X2 : Num3 xb ((w2.setCell ⟨xb, 0, none⟩ (.bool sg)).setCell ⟨xb, 1, none⟩ (.slice ta (toB 1000000000 n1).length tc)) (.bool sg) (.slice ta (toB 1000000000 n1).length tc) (.slice none 0 0) := (HX1.out.set0 _).set1 _
    have R2 : Num3 w.heap.size ((w2.setCell ⟨xb, 0, none⟩ (.bool sg)).setCell ⟨xb, 1, none⟩ (.slice ta (toB 1000000000 n1).length tc)) (.bool false) (.slice none 0 0) (.slice none 0 0) := (HR1.out.other (by omega) _).other (by omega) _
    have E2 : Ext w ((w2.setCell ⟨xb, 0, none⟩ (.bool sg)).setCell ⟨xb, 1, none⟩ (.slice ta (toB 1000000000 n1).length tc)) := (E1.set (by omega) _).set (by omega) _
    have HC2 := Lib.hid ((HC1.out.set (c := xb) (o := 0) (v := .bool sg) hN1x).set (c := xb) (o := 1) (v := .slice ta (toB 1000000000 n1).length tc) hN1x)
    have HT := Lib.hid (And.intro hN1x hN1w)
    clear x0 x1 x2 g0 g1 g2 HX1 HR1 E1 HC1 hN1 hN1x hN1w hz1
    generalize ((w2.setCell ⟨xb, 0, none⟩ (.bool sg)).setCell ⟨xb, 1, none⟩ (.slice ta (toB 1000000000 n1).length tc)) = W2 at X2 R2 E2 HC2 ⊢
    refine (HSG2.out _).mono ?_
    rintro e w4 ⟨ba, bc, rfl, hC1, hN1, hE⟩
    have hz1 : xb < W2.heap.size := cell_lt X2.c0
    have hB1x : ∀ p, ba = some p → p.block ≠ xb := fun p hp => by have := hN1 p hp; omega
    have hB1w : ∀ p, ba = some p → p.block ≠ w.heap.size := fun p hp => by have := hN1 p hp; omega
    have HBT := Lib.hid (And.intro hB1x hB1w)
    have X4 := X2.ext hE
    have R4 := R2.ext hE
    have E4 := E2.trans hE
    have HC4 := Lib.hid (HC2.out.ext hE)
    have HD4 := Lib.hid hC1
    have hxw4 := cell_lt X4.c0
    dsimp only at hxw4
    clear hE hC1 hN1 hz1 hB1x hB1w X2 R2 E2 HC2 HSG2 hxw
    obtain ⟨x0, x1, x2, g0, g1, g2⟩ := X4
    obtain ⟨c0, c1, c2, f0, f1, f2⟩ := R4
    have hwx : w.heap.size ≠ xb := by omega
    have HC5 := Lib.hid (HC4.out.set (c := xb) (o := 2) (v := (.slice ba (toB 1000000000 n2).length bc)) HT.out.1)
    have HD5 := Lib.hid (HD4.out.set (c := xb) (o := 2) (v := (.slice ba (toB 1000000000 n2).length bc)) HBT.out.1)
    clear HC4 HD4 HZ0 HZ1
    go_wp2_with fail
    refine bodyPost_ret (v := .tuple #[.agg #[.bool sg, .slice ta (toB 1000000000 n1).length tc, (.slice ba (toB 1000000000 n2).length bc)], .int .i64 0]) (by rw [results_cell_tmp1 rfl]; go_simp) rfl ?_
    refine ⟨_, by rw [HZ.out.1]; rfl, ⟨_, _, _, _, _, _, _, rfl⟩, fun _ => ⟨ta, tc, ba, bc, by rw [HNU.out HZ.out.2], ?_, ?_⟩, extA⟩
    · rw [HNU.out HZ.out.2]
      exact ((HC5.out.set (c := w.heap.size) HT.out.2).set (c := w.heap.size) HT.out.2).set (c := w.heap.size) HT.out.2
    · rw [HNU.out HZ.out.2]
      exact ((HD5.out.set (c := w.heap.size) HBT.out.2).set (c := w.heap.size) HBT.out.2).set (c := w.heap.size) HBT.out.2
  · have HZ := Lib.hid (HZ1.out rfl)
    go_wp2_with (first
      | (go_at_call 127; (with_reducible refine (HCut.out _ EX).mono ?_); rintro e w' ⟨rfl, hE⟩; replace f0 := (Below.frozen (p := ⟨w.heap.size, 0, none⟩) hE (cell_lt c0)).trans f0; replace f1 := (Below.frozen (p := ⟨w.heap.size, 1, none⟩) hE (cell_lt c1)).trans f1; replace f2 := (Below.frozen (p := ⟨w.heap.size, 2, none⟩) hE (cell_lt c2)).trans f2; replace c0 := hE.cell c0; replace c1 := hE.cell c1; replace c2 := hE.cell c2; replace EX := EX.trans hE; clear hE)
      | (go_at_call 128; (with_reducible refine (HI1.out _).mono ?_); rintro e w' ⟨rfl, hE⟩; replace f0 := (Below.frozen (p := ⟨w.heap.size, 0, none⟩) hE (cell_lt c0)).trans f0; replace f1 := (Below.frozen (p := ⟨w.heap.size, 1, none⟩) hE (cell_lt c1)).trans f1; replace f2 := (Below.frozen (p := ⟨w.heap.size, 2, none⟩) hE (cell_lt c2)).trans f2; replace c0 := hE.cell c0; replace c1 := hE.cell c1; replace c2 := hE.cell c2; replace EX := EX.trans hE; clear hE)
      | (go_at_call 128; (with_reducible refine (HI2.out _).mono ?_); rintro e w' ⟨rfl, hE⟩; replace f0 := (Below.frozen (p := ⟨w.heap.size, 0, none⟩) hE (cell_lt c0)).trans f0; replace f1 := (Below.frozen (p := ⟨w.heap.size, 1, none⟩) hE (cell_lt c1)).trans f1; replace f2 := (Below.frozen (p := ⟨w.heap.size, 2, none⟩) hE (cell_lt c2)).trans f2; replace c0 := hE.cell c0; replace c1 := hE.cell c1; replace c2 := hE.cell c2; replace EX := EX.trans hE; clear hE)
      | (go_at_call 129; (with_reducible refine (HL1.out _).mono ?_); rintro e w' ⟨rfl, hE⟩; replace f0 := (Below.frozen (p := ⟨w.heap.size, 0, none⟩) hE (cell_lt c0)).trans f0; replace f1 := (Below.frozen (p := ⟨w.heap.size, 1, none⟩) hE (cell_lt c1)).trans f1; replace f2 := (Below.frozen (p := ⟨w.heap.size, 2, none⟩) hE (cell_lt c2)).trans f2; replace c0 := hE.cell c0; replace c1 := hE.cell c1; replace c2 := hE.cell c2; replace EX := EX.trans hE; clear hE)
      | (go_at_call 129; (with_reducible refine (HL2.out _).mono ?_); rintro e w' ⟨rfl, hE⟩; replace f0 := (Below.frozen (p := ⟨w.heap.size, 0, none⟩) hE (cell_lt c0)).trans f0; replace f1 := (Below.frozen (p := ⟨w.heap.size, 1, none⟩) hE (cell_lt c1)).trans f1; replace f2 := (Below.frozen (p := ⟨w.heap.size, 2, none⟩) hE (cell_lt c2)).trans f2; replace c0 := hE.cell c0; replace c1 := hE.cell c1; replace c2 := hE.cell c2; replace EX := EX.trans hE; clear hE))
    have hz := cell_lt c0
    dsimp only at hz
    have EA : Ext w' (w'.alloc (.cells #[.bool false, .slice none 0 0, .slice none 0 0] 116)) := extA
    have X1 : Num3 w'.heap.size (w'.alloc (.cells #[.bool false, .slice none 0 0, .slice none 0 0] 116)) (.bool false) (.slice none 0 0) (.slice none 0 0) := ⟨by go_simp, by go_simp, by go_simp, by go_simp, by go_simp, by go_simp⟩
    have R1 : Num3 w.heap.size (w'.alloc (.cells #[.bool false, .slice none 0 0, .slice none 0 0] 116)) (.bool false) (.slice none 0 0) (.slice none 0 0) := (Num3.mk c0 c1 c2 f0 f1 f2).ext EA
    have E1 := EX.trans EA
    clear c0 c1 c2 f0 f1 f2 EA EX
    obtain ⟨xb, hxb⟩ : ∃ xb, xb = w'.heap.size := ⟨_, rfl⟩
    rw [← hxb] at X1 hz ⊢
    clear hxb
    generalize (w'.alloc (.cells #[.bool false, .slice none 0 0, .slice none 0 0] 116)) = W1 at X1 R1 E1 ⊢
    refine (HSG1.out _).mono ?_
    rintro e w2 ⟨ta, tc, rfl, hC1, hN1, hE⟩
    have hz1 : xb < W1.heap.size := cell_lt X1.c0
    have hN1x : ∀ p, ta = some p → p.block ≠ xb := fun p hp => by have := hN1 p hp; omega
    have hN1w : ∀ p, ta = some p → p.block ≠ w.heap.size := fun p hp => by have := hN1 p hp; omega
    replace X1 := X1.ext hE
    replace R1 := R1.ext hE
    replace E1 := E1.trans hE
    have hxw := cell_lt X1.c0
    dsimp only at hxw
    obtain ⟨x0, x1, x2, g0, g1, g2⟩ := X1
    have HC1 := Lib.hid hC1
    have HX1 := Lib.hid (Num3.mk x0 x1 x2 g0 g1 g2)
    have HR1 := Lib.hid R1
    clear hE hC1 HSG1 R1
    go_wp2_with fail
    have X2 : Num3 xb ((w2.setCell ⟨xb, 0, none⟩ (.bool sg)).setCell ⟨xb, 1, none⟩ (.slice ta (toB 1000000000 n1).length tc)) (.bool sg) (.slice ta (toB 1000000000 n1).length tc) (.slice none 0 0) := (HX1.out.set0 _).set1 _
    have R2 : Num3 w.heap.size ((w2.setCell ⟨xb, 0, none⟩ (.bool sg)).setCell ⟨xb, 1, none⟩ (.slice ta (toB 1000000000 n1).length tc)) (.bool false) (.slice none 0 0) (.slice none 0 0) := (HR1.out.other (by omega) _).other (by omega) _
    have E2 : Ext w ((w2.setCell ⟨xb, 0, none⟩ (.bool sg)).setCell ⟨xb, 1, none⟩ (.slice ta (toB 1000000000 n1).length tc)) := (E1.set (by omega) _).set (by omega) _
    have HC2 := Lib.hid ((HC1.out.set (c := xb) (o := 0) (v := .bool sg) hN1x).set (c := xb) (o := 1) (v := .slice ta (toB 1000000000 n1).length tc) hN1x)
    have HT := Lib.hid (And.intro hN1x hN1w)
    clear x0 x1 x2 g0 g1 g2 HX1 HR1 E1 HC1 hN1 hN1x hN1w hz1
    generalize ((w2.setCell ⟨xb, 0, none⟩ (.bool sg)).setCell ⟨xb, 1, none⟩ (.slice ta (toB 1000000000 n1).length tc)) = W2 at X2 R2 E2 HC2 ⊢
    refine (HSG2.out _).mono ?_
    rintro e w4 ⟨ba, bc, rfl, hC1, hN1, hE⟩
    have hz1 : xb < W2.heap.size := cell_lt X2.c0
    have hB1x : ∀ p, ba = some p → p.block ≠ xb := fun p hp => by have := hN1 p hp; omega
    have hB1w : ∀ p, ba = some p → p.block ≠ w.heap.size := fun p hp => by have := hN1 p hp; omega
    have HBT := Lib.hid (And.intro hB1x hB1w)
    have X4 := X2.ext hE
    have R4 := R2.ext hE
    have E4 := E2.trans hE
    have HC4 := Lib.hid (HC2.out.ext hE)
    have HD4 := Lib.hid hC1
    have hxw4 := cell_lt X4.c0
    dsimp only at hxw4
    clear hE hC1 hN1 hz1 hB1x hB1w X2 R2 E2 HC2 HSG2 hxw
    have hwx : w.heap.size ≠ xb := by omega
    clear HZ0 HZ1
    cases sl
    rotate_left
    · have HE : Hid (fracE t = 3) := HZ.out.trans (by rw [if_pos rfl])
      obtain ⟨c0, c1, c2, f0, f1, f2⟩ := R4
      obtain ⟨x0, x1, x2, g0, g1, g2⟩ := X4
      clear HC4 HD4 HZ
      go_wp2_with fail
      refine bodyPost_ret (v := .tuple #[.agg #[.bool false, .slice none 0 0, .slice none 0 0], .int .i64 3]) (by rw [results_cell_tmp1 rfl]; go_simp) rfl ?_
      exact ⟨_, by rw [HE.out]; rfl, ⟨_, _, _, _, _, _, _, rfl⟩, fun h => absurd (HE.out.symm.trans h) (by decide), extA⟩
    · have HNM := Lib.hid (HNU.out rfl)
      have hZ := HZ.out
      rw [if_neg (by simp)] at hZ
      replace HZ := Lib.hid hZ
      clear hZ HNU
      have EV : Ext (w4.setCell ⟨xb, 2, none⟩ (.slice ba (toB 1000000000 n2).length bc)) ((w4.setCell ⟨xb, 2, none⟩ (.slice ba (toB 1000000000 n2).length bc)).alloc (.cells #[.int .u64 1] 161)) := extA
      have X : Num3 xb ((w4.setCell ⟨xb, 2, none⟩ (.slice ba (toB 1000000000 n2).length bc)).alloc (.cells #[.int .u64 1] 161)) (.bool sg) (.slice ta (toB 1000000000 n1).length tc) (.slice ba (toB 1000000000 n2).length bc) := (X4.set2 _).ext EV
      have R : Num3 w.heap.size ((w4.setCell ⟨xb, 2, none⟩ (.slice ba (toB 1000000000 n2).length bc)).alloc (.cells #[.int .u64 1] 161)) (.bool false) (.slice none 0 0) (.slice none 0 0) := (R4.other (by omega) _).ext EV
      have E : Ext w ((w4.setCell ⟨xb, 2, none⟩ (.slice ba (toB 1000000000 n2).length bc)).alloc (.cells #[.int .u64 1] 161)) := (E4.set (by omega) _).trans EV
      have HC := Lib.hid ((HC4.out.set (c := xb) (o := 2) (v := (.slice ba (toB 1000000000 n2).length bc)) HT.out.1).ext EV)
      have HD := Lib.hid ((HD4.out.set (c := xb) (o := 2) (v := (.slice ba (toB 1000000000 n2).length bc)) HBT.out.1).ext EV)
      have HL := Lib.hid (cells_lit (w4.setCell ⟨xb, 2, none⟩ (.slice ba (toB 1000000000 n2).length bc)) 161)
      obtain ⟨x0, x1, x2, g0, g1, g2⟩ := X4
      clear R4 E4 HC4 HD4 EV
      go_wp2_with fail
      have hs5 : (w4.setCell ⟨xb, 2, none⟩ (.slice ba (toB 1000000000 n2).length bc)).heap.size = w4.heap.size := by simp [World.setCell]
      rw [hs5] at HL
      generalize ((w4.setCell ⟨xb, 2, none⟩ (.slice ba (toB 1000000000 n2).length bc)).alloc (.cells #[.int .u64 1] 161)) = w6 at X R E HC HD HL ⊢
      clear x0 x1 x2 g0 g1 g2 hs5
      refine (compare1_any n2 _ ba bc w4.heap.size _ rfl (by omega) HD.out HL.out).mono ?_
      rintro e w7 ⟨rfl, hE⟩
      replace X := X.ext hE
      replace R := R.ext hE
      replace E := E.trans hE
      replace HC := Lib.hid (HC.out.ext hE)
      replace HD := Lib.hid (HD.out.ext hE)
      clear hE
      have hxw7 := cell_lt X.c0
      dsimp only at hxw7
      by_cases hle : n2 ≤ 1
      · have HE : Hid (fracE t = 3) := HZ.out.trans (by rw [if_pos hle])
        obtain ⟨z, hz, hz0⟩ : ∃ z, ordN n2 1 = z ∧ z ≤ 0 := ⟨_, rfl, ordN_le.2 hle⟩
        rw [hz]
        obtain ⟨c0, c1, c2, f0, f1, f2⟩ := R
        obtain ⟨x0, x1, x2, g0, g1, g2⟩ := X
        clear hz hle HC HD HL HZ HNM
        go_wp2_with fail
        refine bodyPost_ret (v := .tuple #[.agg #[.bool false, .slice none 0 0, .slice none 0 0], .int .i64 3]) (by rw [results_cell_tmp1 rfl]; go_simp) rfl ?_
        exact ⟨_, by rw [HE.out]; rfl, ⟨_, _, _, _, _, _, _, rfl⟩, fun h => absurd (HE.out.symm.trans h) (by decide), extA⟩
      · have hZ := HZ.out
        rw [if_neg hle] at hZ
        replace HZ := Lib.hid hZ
        obtain ⟨z, hz, hz0⟩ : ∃ z, ordN n2 1 = z ∧ ¬ z ≤ 0 := ⟨_, rfl, fun h => hle (ordN_le.1 h)⟩
        rw [hz]
        obtain ⟨g, hg⟩ : ∃ g, g = Nat.gcd n1 n2 := ⟨_, rfl⟩
        have hgl : (toB 1000000000 g).length ≤ 101 := len_le (by
          have h1 : Nat.gcd n1 n2 ≤ n2 := Nat.gcd_le_right _ (by omega)
          have h2 := lt_of_len (x := n2) rfl (by omega)
          have h3 : (1000000000 : Nat) ^ 100 ≤ 1000000000 ^ 101 := Nat.pow_le_pow_right (by omega) (by omega)
          omega)
        have hDV := (divisor_any n1 n2 _ _ ta ba tc bc w7 rfl rfl (by omega) (by omega) (by omega) HC.out HD.out).mono fun _ _ h => h.newB
        rw [← hg] at hDV
        have hZ2 : (g = 1 → fracE t = 0) ∧ (g ≠ 1 → fracE t = 3) := ⟨fun h => by rw [hZ, if_neg (by rw [hg] at h; simpa using h)], fun h => by rw [hZ, if_pos (by rw [hg] at h; exact h)]⟩
        have HZ2 := Lib.hid hZ2
        have HDV := Lib.hid hDV
        clear hz hZ hZ2 HZ HL hDV hg
        obtain ⟨x0, x1, x2, g0, g1, g2⟩ := X
        go_wp2_with fail
        have X := Num3.mk x0 x1 x2 g0 g1 g2
        clear x0 x1 x2 g0 g1 g2
        refine HDV.out.mono ?_
        rintro e w8 ⟨ga, gc, rfl, hgC, _, hE⟩
        replace X := X.ext hE
        replace R := R.ext hE
        replace E := E.trans hE
        replace HC := Lib.hid (HC.out.ext hE)
        replace HD := Lib.hid (HD.out.ext hE)
        clear hE
        have HGC := Lib.hid hgC
        clear hgC HDV
        have hE : Ext w8 (w8.alloc (.cells #[.int .u64 1] 161)) := extA
        replace X := X.ext hE
        replace R := R.ext hE
        replace E := E.trans hE
        replace HC := Lib.hid (HC.out.ext hE)
        replace HD := Lib.hid (HD.out.ext hE)
        have HG8 := Lib.hid (HGC.out.ext hE)
        have HL := Lib.hid (cells_lit w8 161)
        clear hE HGC
        go_wp2_with fail
        generalize (w8.alloc (.cells #[.int .u64 1] 161)) = w9 at X R E HC HD HL HG8 ⊢
        refine (compare1_any g _ ga gc w8.heap.size _ rfl (by omega) HG8.out HL.out).mono ?_
        rintro e w10 ⟨rfl, hE⟩
        replace X := X.ext hE
        replace R := R.ext hE
        replace E := E.trans hE
        replace HC := Lib.hid (HC.out.ext hE)
        replace HD := Lib.hid (HD.out.ext hE)
        clear hE
        clear HG8 HL
        obtain ⟨c0, c1, c2, f0, f1, f2⟩ := R
        obtain ⟨x0, x1, x2, g0, g1, g2⟩ := X
        by_cases h1 : g = 1
        · have HE : Hid (fracE t = 0) := HZ2.out.1 h1
          have hz1 : ordN g 1 = 0 := ordN_zero.2 h1
          rw [hz1]
          clear hz1 h1 HZ2
          go_wp2_with fail
          refine bodyPost_ret (v := .tuple #[.agg #[.bool sg, .slice ta (toB 1000000000 n1).length tc, (.slice ba (toB 1000000000 n2).length bc)], .int .i64 0]) (by rw [results_cell_tmp1 rfl]; go_simp) rfl ?_
          refine ⟨_, by rw [HE.out]; rfl, ⟨_, _, _, _, _, _, _, rfl⟩, fun _ => ⟨ta, tc, ba, bc, by rw [HNM.out], ?_, ?_⟩, extA⟩
          · rw [HNM.out]
            exact ((HC.out.set (c := w.heap.size) HT.out.2).set (c := w.heap.size) HT.out.2).set (c := w.heap.size) HT.out.2
          · rw [HNM.out]
            exact ((HD.out.set (c := w.heap.size) HBT.out.2).set (c := w.heap.size) HBT.out.2).set (c := w.heap.size) HBT.out.2
        · have HE : Hid (fracE t = 3) := HZ2.out.2 h1
          obtain ⟨z, hz, hz0⟩ : ∃ z, ordN g 1 = z ∧ (z != 0) = true := ⟨_, rfl, by rw [bne_iff_ne]; exact fun h => h1 (ordN_zero.1 h)⟩
          rw [hz]
          clear hz h1 HZ2
          go_wp2_with fail
          refine bodyPost_ret (v := .tuple #[.agg #[.bool false, .slice none 0 0, .slice none 0 0], .int .i64 3]) (by rw [results_cell_tmp1 rfl]; go_simp) rfl ?_
          exact ⟨_, by rw [HE.out]; rfl, ⟨_, _, _, _, _, _, _, rfl⟩, fun h => absurd (HE.out.symm.trans h) (by decide), extA⟩
end Go.Proofs.YtdejgaiocjfhjaaGreatDoor
namespace Go.Proofs.YtdejgaiocjfhjaaGreatDoor
open Go.RowKit
open Go.Lib (decDigits)
end Go.Proofs.YtdejgaiocjfhjaaGreatDoor
