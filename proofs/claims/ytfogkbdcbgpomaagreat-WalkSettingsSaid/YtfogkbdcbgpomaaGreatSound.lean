/- Names that may be: both packages' words for it. -/
import Derived.Test.YtfogkbdcbgpomaaGreatBase
import Derived.Test.YtfogkbdcbgpomaaGreatProg
set_option linter.unusedSimpArgs false
set_option linter.unusedVariables false
namespace Go.Proofs.YtfogkbdcbgpomaaGreat
open Go.RowKit

/-- A slice whose elements read as this list; where it is empty nothing is said of its address. -/
def Sw {α : Type} (enc : α → Value) (M : Nat → Prop) (w : World) (v : Value) (l : List α) : Prop :=
  ∃ a c, v = .slice a l.length c ∧ l.length ≤ c ∧ c ≤ maxLen ∧ ∀ i (hi : i < l.length), ∃ b o, a = some ⟨b, o, none⟩ ∧ Sure M w b ∧ w.cell? ⟨b, o + i, none⟩ = some (enc l[i])
section
variable {α : Type} {enc : α → Value} {M M' : Nat → Prop} {w w' : World} {v : Value} {l : List α}
theorem Sl.sw (h : Sl enc M w v l) : Sw enc M w v l := by
  rcases h with ⟨rfl, rfl⟩ | ⟨b, o, c, rfl, h1, h2, h3, h4⟩
  · exact ⟨none, 0, rfl, Nat.le_refl _, Nat.zero_le _, fun i hi => absurd hi (by simp)⟩
  · exact ⟨_, c, rfl, h1, h2, fun i hi => ⟨b, o, rfl, h3, h4 i _ (by simp [hi])⟩⟩
theorem Sw.shape (h : Sw enc M w v l) : ∃ a c, v = .slice a l.length c ∧ l.length ≤ maxLen ∧ (∀ i (hi : i < l.length), ∃ b o, a = some ⟨b, o, none⟩ ∧ Sure M w b ∧ w.cell? ⟨b, o + i, none⟩ = some (enc l[i])) := by
  obtain ⟨a, c, h1, h2, h3, h4⟩ := h
  exact ⟨a, c, h1, Nat.le_trans h2 h3, h4⟩
theorem Sw.keeps (h : Sw enc M w v l) (hk : Keeps M w w') : Sw enc M w' v l := by
  obtain ⟨a, c, h1, h2, h3, h4⟩ := h
  refine ⟨a, c, h1, h2, h3, fun i hi => ?_⟩
  obtain ⟨b, o, h5, h6, h7⟩ := h4 i hi
  exact ⟨b, o, h5, h6.keeps hk, (hk.cell h6).trans h7⟩
theorem Sw.below (h : Sw enc M w v l) (hb : Below w.heap.size w w') : Sw enc M w' v l := h.keeps (Keeps.of_below hb)
theorem Sw.weaken (h : Sw enc M w v l) (hM : ∀ k, k < w.heap.size → M' k → M k) : Sw enc M' w v l := by
  obtain ⟨a, c, h1, h2, h3, h4⟩ := h
  refine ⟨a, c, h1, h2, h3, fun i hi => ?_⟩
  obtain ⟨b, o, h5, h6, h7⟩ := h4 i hi
  exact ⟨b, o, h5, ⟨h6.1, fun x => h6.2 (hM b h6.1 x)⟩, h7⟩
theorem Sw.sl (h : Sw enc M w v l) (h0 : 0 < l.length) : Sl enc M w v l := by
  obtain ⟨a, c, h1, h2, h3, h4⟩ := h
  obtain ⟨b, o, rfl, h6, -⟩ := h4 0 h0
  refine .inr ⟨b, o, c, h1, h2, h3, h6, fun i x hx => ?_⟩
  have hi : i < l.length := by
    have := (List.getElem?_eq_some_iff.1 hx).1
    simpa using this
  obtain ⟨b', o', h5, -, h7⟩ := h4 i hi
  cases h5
  rw [h7]
  simpa [hi] using hx
end

def badL (s : ByteArray) : Bool := decide (s.size = 0) || decide (63 < s.size)
def nsz (l : List ByteArray) : Nat := (l.map fun s => 1 + s.size).sum
def nsize (l : List ByteArray) : Nat := 1 + nsz l
/-- A name that may be. -/
def soundB (l : List ByteArray) : Bool := !(l.any badL) && decide (nsize l ≤ 255)

theorem nsz_le (l : List ByteArray) (B : Nat) (hs : ∀ s ∈ l, s.size ≤ B) : nsz l ≤ l.length * (1 + B) := by
  induction l with
  | nil => simp [nsz]
  | cons a l ih =>
    have h1 := ih (fun s h => hs s (by simp [h]))
    have h2 := hs a (by simp)
    simp only [nsz, List.map_cons, List.sum_cons, List.length_cons, Nat.add_mul] at *
    omega
theorem nsz_snoc (l : List ByteArray) (k : Nat) (h : k < l.length) : nsz (l.take (k + 1)) = nsz (l.take k) + (1 + l[k].size) := by
  unfold nsz; rw [List.take_succ_eq_append_getElem h, List.map_append, List.sum_append]; simp
theorem any_snoc {α : Type} (p : α → Bool) (l : List α) (k : Nat) (h : k < l.length) : (l.take (k + 1)).any p = ((l.take k).any p || p l[k]) := by
  rw [List.take_succ_eq_append_getElem h, List.any_append]; simp
theorem any_of_take {α : Type} {p : α → Bool} {l : List α} {k : Nat} (h : k < l.length) (hp : p l[k] = true) : l.any p = true := List.any_eq_true.2 ⟨_, List.getElem_mem h, hp⟩
/-- A name of more labels than fit is too long. -/
theorem nsz_ge (l : List ByteArray) (h : l.any badL = false) : 2 * l.length ≤ nsz l := by
  induction l with
  | nil => simp [nsz]
  | cons a l ih =>
    simp only [List.any_cons, Bool.or_eq_false_iff] at h
    have h1 := ih h.2
    have h2 : a.size ≠ 0 := by
      intro h0
      have h3 := h.1
      unfold badL at h3
      rw [decide_eq_true h0] at h3
      exact absurd h3 (by simp)
    have h3 : nsz (a :: l) = (1 + a.size) + nsz l := by simp [nsz]
    rw [h3, List.length_cons]
    omega

set_option maxRecDepth 100000 in
theorem Sound_1 {w : World} {s : ByteArray} (hs : s.size ≤ 140737488355328) : Calls Tryz.prog 43 #[.string s] w fun e w' => e = .returned (.bool (badL s)) ∧ w = w' := by
  by_cases h0 : s.size = 0
  · obtain rfl : s = ByteArray.empty := by
      obtain ⟨d⟩ := s
      have hd : d.size = 0 := h0
      obtain rfl : d = #[] := Array.eq_empty_of_size_eq_zero hd
      rfl
    go_enter Tryz.func43, Tryz.ntmps43
    go_wp2
    go_ret
    exact ⟨rfl, rfl⟩
  · have ht : s.toList.isEmpty = false := by
      have : s.toList.length = s.size := by
        rw [Go.ByteArray.toList_eq]; exact Array.length_toList
      cases hs : s.toList with
      | nil => rw [hs] at this; exact absurd this.symm h0
      | cons a l => rfl
    have ht2 : ¬ s.toList = [] := by intro h; rw [h] at ht; exact absurd ht (by decide)
    go_enter Tryz.func43, Tryz.ntmps43
    go_wp2
    go_ret
    refine ⟨ret_bool ?_, rfl⟩
    simp [badL, h0]
    omega

set_option maxHeartbeats 400000 in
theorem name_Size {M : Nat → Prop} {v : Value} {l : List ByteArray} {w : World} (hv : Sw .string M w v l) (hl : l.length ≤ 1000) (hs : ∀ s ∈ l, s.size ≤ 140737488355328) :
    Calls Tryz.prog 44 #[v] w fun e w' => e = .returned (.int .i64 (nsize l)) ∧ w = w' := by
  obtain ⟨a, c, rfl, _, hc⟩ := hv.shape
  go_enter Tryz.func44, Tryz.ntmps44
  go_wp2
  go_loop [3, 5, 8] (fun n _ i => ∃ k : Nat, k ≤ l.length ∧ i = .int .i64 k ∧ n = .int .i64 (1 + nsz (l.take k) : Nat)) (fun _ _ i => l.length - (intOf i).toNat)
  case atStart => exact ⟨0, Nat.zero_le _, rfl, by simp [nsz]⟩
  case round =>
    obtain ⟨k, hk, rfl, rfl⟩ := hrel
    by_cases hlt : k < l.length
    · obtain ⟨b, o, rfl, _, hcell⟩ := hc k hlt
      have hb := nsz_le (l.take k) _ (fun s h => hs s (List.mem_of_mem_take h))
      have hsz := hs l[k] (by simp)
      have hb2 : nsz (l.take k) ≤ 1000 * (1 + 140737488355328) := Nat.le_trans hb (Nat.mul_le_mul (by simp; omega) (Nat.le_refl _))
      clear hb hs hc
      go_wp2
      go_round
      case rel => exact ⟨k + 1, by omega, by go_num, by rw [nsz_snoc l k hlt]; go_num⟩
      case measure => simp [intOf]; omega
    · clear hc
      go_wp2
      go_ret
      exact ⟨ret_int (by rw [List.take_of_length_le (by omega)]; rfl), rfl⟩
end Go.Proofs.YtfogkbdcbgpomaaGreat
