/- A setting that comes in: what its lists read as. -/
import Derived.Test.YtfogkbdcbgpomaaGreatSet
import Derived.Lib.SmallJoins
import Derived.Lib.AtoiErrMem
import Derived.SizedLaws
import Derived.Carry
set_option linter.unusedSimpArgs false
set_option linter.unusedVariables false
namespace Go.Proofs.YtfogkbdcbgpomaaGreat
open Go.ChangeShapes Go.WideShapes Go.RowKit Go.Deep Go.Joins

theorem array8 {α : Type} {cs : Array α} (h : cs.size = 8) : ∃ c0 c1 c2 c3 c4 c5 c6 c7, cs = #[c0, c1, c2, c3, c4, c5, c6, c7] := by
  obtain ⟨l⟩ := cs
  match l, h with
  | [c0, c1, c2, c3, c4, c5, c6, c7], _ => exact ⟨c0, c1, c2, c3, c4, c5, c6, c7, rfl⟩

section
variable {H : Type} {enc : TypeId × Value → H} {P : Program} {w : World} {base : Nat} {spare : Nat → Bool} {held : Bool}
theorem trod_struct8 {t : TypeId} {f0 f1 f2 f3 f4 f5 f6 f7 : Field} {fuel : Nat} {cs : List Value} {x : DataW H × List MemPlace} (ht : P.underlying t = some (.struct #[f0, f1, f2, f3, f4, f5, f6, f7])) (h : DataW.trod enc P w base spare held fuel t cs = some x) :
    ∃ y0 y1 y2 y3 y4 y5 y6 y7 n, x.1 = .agg [y0.1, y1.1, y2.1, y3.1, y4.1, y5.1, y6.1, y7.1] ∧ DataW.trod enc P w base spare held n f0.type ((cs.drop f0.offset).take (P.cellsOf f0.type)) = some y0 ∧
      DataW.trod enc P w base spare held n f1.type ((cs.drop f1.offset).take (P.cellsOf f1.type)) = some y1 ∧ DataW.trod enc P w base spare held n f2.type ((cs.drop f2.offset).take (P.cellsOf f2.type)) = some y2 ∧
      DataW.trod enc P w base spare held n f3.type ((cs.drop f3.offset).take (P.cellsOf f3.type)) = some y3 ∧ DataW.trod enc P w base spare held n f4.type ((cs.drop f4.offset).take (P.cellsOf f4.type)) = some y4 ∧
      DataW.trod enc P w base spare held n f5.type ((cs.drop f5.offset).take (P.cellsOf f5.type)) = some y5 ∧ DataW.trod enc P w base spare held n f6.type ((cs.drop f6.offset).take (P.cellsOf f6.type)) = some y6 ∧
      DataW.trod enc P w base spare held n f7.type ((cs.drop f7.offset).take (P.cellsOf f7.type)) = some y7 := by
  obtain ⟨xs, n, _, rfl, hl, hlen, hf⟩ := DataW.trod_struct ht h
  match xs, hlen with
  | [y0, y1, y2, y3, y4, y5, y6, y7], _ => exact ⟨y0, y1, y2, y3, y4, y5, y6, y7, n, by simp, by simpa using hf 0 f0 rfl, by simpa using hf 1 f1 rfl, by simpa using hf 2 f2 rfl, by simpa using hf 3 f3 rfl, by simpa using hf 4 f4 rfl, by simpa using hf 5 f5 rfl, by simpa using hf 6 f6 rfl, by simpa using hf 7 f7 rfl⟩

theorem weight_all {e : TypeId} {ds : List (DataW H)} {d : DataW H} {n : Nat} (hd : d ∈ ds) (hn : n ∈ d.weights P e) : n ∈ DataW.weightsAll P e ds := by
  induction ds with
  | nil => simp at hd
  | cons a r ih =>
    simp only [DataW.weightsAll, List.mem_append]
    rcases List.mem_cons.1 hd with rfl | h
    · exact .inl hn
    · exact .inr (ih h)
theorem weight_str {e : TypeId} {ss : List ByteArray} {s : ByteArray} (hs : s ∈ ss) : s.size ∈ DataW.weightsAll P e (strs (H := H) ss) := by
  refine weight_all (d := .lit (.string s.data.toList)) (List.mem_map.2 ⟨s, hs, rfl⟩) ?_
  simp only [DataW.weights, List.mem_singleton]
  exact Array.length_toList.symm
theorem weight_slice {t e : TypeId} {el sp : List (DataW H)} {n : Nat} (ht : P.underlying t = some (.slice e)) (hn : n ∈ DataW.weightsAll P e el) : n ∈ (DataW.slice el sp).weights P t := by
  unfold DataW.weights
  rw [ht]
  exact List.mem_cons_of_mem _ (List.mem_append_left _ hn)

/-- Slices of strings. -/
theorem open_str {t e : TypeId} {fuel : Nat} {v : Value} {x : DataW H × List MemPlace} (ht : P.underlying t = some (.slice e)) (he : P.underlying e = some .string) (hc : P.cellsOf e = 1)
    (h : DataW.trod enc P w base (fun _ => true) held fuel t [v] = some x) : ∃ l : List ByteArray, Sw .string (fun _ => False) w v l ∧ ∀ s ∈ l, s.size ∈ x.1.weights P t := by
  rcases open_strings ht he hc h with ⟨hcs, hx⟩ | ⟨a, len, cap, ss, hcs, _, hl, hm, hz, hx, hcell, -⟩
  · simp only [List.cons.injEq, and_true] at hcs
    subst hcs
    exact ⟨[], ⟨none, 0, rfl, Nat.le_refl _, Nat.zero_le _, fun i hi => absurd hi (by simp)⟩, by simp⟩
  · simp only [List.cons.injEq, and_true] at hcs
    subst hcs hx
    simp only [if_true] at hz
    have hll : (ss.take len).length = len := by simp; omega
    refine ⟨ss.take len, ⟨some a, cap, by rw [hll], by omega, hm, fun i hi => ?_⟩, fun s hs => weight_slice ht (weight_str hs)⟩
    have hi' : i < ss.length := by simp at hi; omega
    have h1 := hcell i hi'
    have h0 := hcell 0 (by omega)
    obtain ⟨b, o, sp⟩ := a
    obtain rfl : sp = none := by simpa [Addr.add] using World.cell?_spot h0
    have hb := Go.Lib.lt_of_cell h0
    rw [Addr.add_lit] at h1 hb
    refine ⟨b, o, rfl, ⟨hb, fun x => x⟩, ?_⟩
    rw [h1]
    simp [hi']

/-- Slices of slices of bytes: the shapes alone. -/
theorem open_rows {t e e2 : TypeId} {fuel : Nat} {v : Value} {x : DataW H × List MemPlace} (ht : P.underlying t = some (.slice e)) (he : P.underlying e = some (.slice e2)) (hc : P.cellsOf e = 1)
    (h : DataW.trod enc P w base (fun _ => true) held fuel t [v] = some x) : ∃ l : List Row3, Sw enc3 (fun _ => False) w v l := by
  rcases open_slice1 ht hc h with ⟨hcs, hx⟩ | ⟨a, len, cap, m, n, V, D, Pl, hcs, _, hl, hm, hmm, hx, hcell⟩
  · simp only [List.cons.injEq, and_true] at hcs
    subst hcs
    exact ⟨[], none, 0, rfl, Nat.le_refl _, Nat.zero_le _, fun i hi => absurd hi (by simp)⟩
  · simp only [List.cons.injEq, and_true] at hcs
    subst hcs
    simp only [if_true] at hmm
    subst hmm
    obtain ⟨F, hF⟩ := choose_lt (α := Row3) (n := len) (p := fun i r => V i = enc3 r) (fun i hi => by
      obtain ⟨a', l', c', h'⟩ := slice_form he (hcell i (by omega)).2
      simp only [List.cons.injEq, and_true] at h'
      exact ⟨(a', l', c'), h'⟩)
    have hll : ((List.range len).map F).length = len := by simp
    refine ⟨(List.range len).map F, some a, m, by rw [hll], by omega, hm, fun i hi => ?_⟩
    have hi' : i < len := by simpa using hi
    have h1 := (hcell i (by omega)).1
    have h0 := (hcell 0 (by omega)).1
    obtain ⟨b, o, sp⟩ := a
    obtain rfl : sp = none := by simpa [Addr.add] using World.cell?_spot h0
    have hb := Go.Lib.lt_of_cell h0
    rw [Addr.add_lit] at h1 hb
    refine ⟨b, o, rfl, ⟨hb, fun x => x⟩, ?_⟩
    rw [h1, hF i hi']
    simp

/-- Slices of slices of strings. -/
theorem open_zones {t e e2 : TypeId} {fuel : Nat} {v : Value} {x : DataW H × List MemPlace} (ht : P.underlying t = some (.slice e)) (he : P.underlying e = some (.slice e2)) (he2 : P.underlying e2 = some .string) (hc : P.cellsOf e = 1) (hc2 : P.cellsOf e2 = 1)
    (h : DataW.trod enc P w base (fun _ => true) held fuel t [v] = some x) : ∃ l : List Zone, Sw encZ (fun _ => False) w v l ∧ ∀ z ∈ l, Sw .string (fun _ => False) w z.1 z.2 ∧ ∀ s ∈ z.2, s.size ∈ x.1.weights P t := by
  rcases open_slice1 ht hc h with ⟨hcs, hx⟩ | ⟨a, len, cap, m, n, V, D, Pl, hcs, _, hl, hm, hmm, hx, hcell⟩
  · simp only [List.cons.injEq, and_true] at hcs
    subst hcs
    exact ⟨[], ⟨none, 0, rfl, Nat.le_refl _, Nat.zero_le _, fun i hi => absurd hi (by simp)⟩, by simp⟩
  · simp only [List.cons.injEq, and_true] at hcs
    subst hcs
    simp only [if_true] at hmm
    subst hmm
    obtain ⟨F, hF⟩ := choose_lt (α := List ByteArray) (n := len) (p := fun i l => Sw .string (fun _ => False) w (V i) l ∧ ∀ s ∈ l, s.size ∈ (D i).weights P e) (fun i hi => by
      obtain ⟨l, h1, h2⟩ := open_str he he2 hc2 (hcell i (by omega)).2
      exact ⟨l, h1, h2⟩)
    have hll : ((List.range len).map fun i => ((V i, F i) : Zone)).length = len := by simp
    refine ⟨(List.range len).map fun i => (V i, F i), ⟨some a, m, by rw [hll], by omega, hm, fun i hi => ?_⟩, fun z hz => ?_⟩
    · have hi' : i < len := by simpa using hi
      have h1 := (hcell i (by omega)).1
      have h0 := (hcell 0 (by omega)).1
      obtain ⟨b, o, sp⟩ := a
      obtain rfl : sp = none := by simpa [Addr.add] using World.cell?_spot h0
      have hb := Go.Lib.lt_of_cell h0
      rw [Addr.add_lit] at h1 hb
      refine ⟨b, o, rfl, ⟨hb, fun x => x⟩, ?_⟩
      rw [h1]
      simp [encZ]
    · obtain ⟨i, hi, rfl⟩ := List.mem_map.1 hz
      have hi' : i < len := by simpa using hi
      refine ⟨(hF i hi').1, fun s hs => ?_⟩
      subst hx
      exact weight_slice ht (weight_all (List.mem_map.2 ⟨i, hi, rfl⟩) ((hF i hi').2 s hs))
end
end Go.Proofs.YtfogkbdcbgpomaaGreat
