/- A device that is blank: contracts of package flash on it; the library's Clone. -/
import Derived.Test.YtfogkbdcbgpomaaGreatBase
import Derived.Lib.SliceRun
import Derived.Test.YtfogkbdcbgpomaaGreatProg
set_option linter.unusedSimpArgs false
set_option linter.unusedVariables false
namespace Go.Proofs.YtfogkbdcbgpomaaGreat
open Go.RowKit

theorem info_u8' : (Tryz.prog.info? 5).map (fun i => (i.zero, i.size, i.bytes)) = some (some (.int .u8 0), 1, 1) := by kernel_rfl
theorem info_str : (Tryz.prog.info? 9).map (fun i => (i.zero, i.size, i.bytes)) = some (some (.string ByteArray.empty), 1, 16) := by kernel_rfl
theorem info_bs : (Tryz.prog.info? 28).map (fun i => (i.zero, i.size, i.bytes)) = some (some (.slice none 0 0), 1, 24) := by kernel_rfl

set_option maxHeartbeats 400000 in
theorem Clone_u8 {α : Type} {enc : α → Value} {M : Nat → Prop} {v : Value} {l : List α} {w : World} (hv : Sl enc M w v l) (h1 : ∀ y, (enc y).oneCell' = true) (hl : l.length ≤ 1000000) :
    Calls Tryz.prog 130 #[v] w fun e w' => ∃ v', e = .returned v' ∧ Own enc w' w.heap.size 5 v' l ∧ Below w.heap.size w w' := by
  have hvn : (v = .slice none 0 0 ∧ l = []) ∨ ∃ ad c, v = .slice (some ad) l.length c := by
    rcases hv with h | ⟨b, o, c, h, _⟩
    · exact .inl h
    · exact .inr ⟨_, c, h⟩
  have qs : ∀ (w : World) (a : Option Addr) (n c n' c' : Nat), (binOp .eql 28 (.slice a n c) (.slice none n' c')).run Tryz.prog w = .ok (.bool a.isNone) w := fun w a n c n' c' => Lib.run_eql_slice_nil w _ _ a n c n' c' Tryz.underlying28
  have H1 := hid (h1)
  clear h1
  rcases hvn with ⟨rfl, rfl⟩ | ⟨ad, c, rfl⟩
  · go_enter Tryz.func130, Tryz.ntmps130
    clear hv
    go_wp2
    go_ret
    exact ⟨_, rfl, Own.nil _ _ _ _, Below.refl _ _⟩
  · have hv2 := hv.below (below_alloc w (.cells #[] 5))
    have HV := hid (hv2)
    have HB := hid (below_alloc w (.cells #[] 5))
    have HO : Own enc (w.alloc (.cells #[] 5)) w.heap.size 5 (.slice (some ⟨w.heap.size, 0, none⟩) 0 0) [] := Own.of_row (l := ([] : List α)) (At.new w [] 5) (Nat.le_refl _) (Nat.le_refl _) (by omega) rfl rfl
    clear hv hv2
    go_enter Tryz.func130, Tryz.ntmps130
    go_wp2_with (at_builtin; refine wpList_extend rfl _ _ 28 rfl w.heap.size 5 (.int .u8 0) 1 Tryz.underlying28 info_u8' rfl _ ([] : List α) (w.alloc (.cells #[] 5)) rfl HO (Below.refl _ _) M _ l rfl HV.out H1.out ?_ (by decide) ?_ ?_; (· simpa using hl); (· simp); intro v' w2 hown hb2 hg2 hw2)
    go_ret
    exact ⟨_, rfl, by simpa using hown, HB.out.trans hb2⟩

set_option maxHeartbeats 400000 in
theorem bytes_Clone {α : Type} {enc : α → Value} {M : Nat → Prop} {v : Value} {l : List α} {w : World} (hv : Sl enc M w v l) (h1 : ∀ y, (enc y).oneCell' = true) (hl : l.length ≤ 1000000) :
    Calls Tryz.prog 86 #[v] w fun e w' => ∃ v', e = .returned v' ∧ Own enc w' w.heap.size 5 v' l ∧ Below w.heap.size w w' := by
  have hvn : (v = .slice none 0 0 ∧ l = []) ∨ ∃ ad c, v = .slice (some ad) l.length c := by
    rcases hv with h | ⟨b, o, c, h, _⟩
    · exact .inl h
    · exact .inr ⟨_, c, h⟩
  have qs : ∀ (w : World) (a : Option Addr) (n c n' c' : Nat), (binOp .eql 28 (.slice a n c) (.slice none n' c')).run Tryz.prog w = .ok (.bool a.isNone) w := fun w a n c n' c' => Lib.run_eql_slice_nil w _ _ a n c n' c' Tryz.underlying28
  have H1 := hid (h1)
  clear h1
  rcases hvn with ⟨rfl, rfl⟩ | ⟨ad, c, rfl⟩
  · go_enter Tryz.func86, Tryz.ntmps86
    clear hv
    go_wp2
    go_ret
    exact ⟨_, rfl, Own.nil _ _ _ _, Below.refl _ _⟩
  · have hv2 := hv.below (below_alloc w (.cells #[] 5))
    have HV := hid (hv2)
    have HB := hid (below_alloc w (.cells #[] 5))
    have HO : Own enc (w.alloc (.cells #[] 5)) w.heap.size 5 (.slice (some ⟨w.heap.size, 0, none⟩) 0 0) [] := Own.of_row (l := ([] : List α)) (At.new w [] 5) (Nat.le_refl _) (Nat.le_refl _) (by omega) rfl rfl
    clear hv hv2
    go_enter Tryz.func86, Tryz.ntmps86
    go_wp2_with (at_builtin; refine wpList_extend rfl _ _ 28 rfl w.heap.size 5 (.int .u8 0) 1 Tryz.underlying28 info_u8' rfl _ ([] : List α) (w.alloc (.cells #[] 5)) rfl HO (Below.refl _ _) M _ l rfl HV.out H1.out ?_ (by decide) ?_ ?_; (· simpa using hl); (· simp); intro v' w2 hown hb2 hg2 hw2)
    go_ret
    exact ⟨_, rfl, by simpa using hown, HB.out.trans hb2⟩

set_option maxHeartbeats 400000 in
theorem Clone_str {α : Type} {enc : α → Value} {M : Nat → Prop} {v : Value} {l : List α} {w : World} (hv : Sl enc M w v l) (h1 : ∀ y, (enc y).oneCell' = true) (hl : l.length ≤ 1000000) :
    Calls Tryz.prog 14 #[v] w fun e w' => ∃ v', e = .returned v' ∧ Own enc w' w.heap.size 9 v' l ∧ Below w.heap.size w w' := by
  have hvn : (v = .slice none 0 0 ∧ l = []) ∨ ∃ ad c, v = .slice (some ad) l.length c := by
    rcases hv with h | ⟨b, o, c, h, _⟩
    · exact .inl h
    · exact .inr ⟨_, c, h⟩
  have qs : ∀ (w : World) (a : Option Addr) (n c n' c' : Nat), (binOp .eql 29 (.slice a n c) (.slice none n' c')).run Tryz.prog w = .ok (.bool a.isNone) w := fun w a n c n' c' => Lib.run_eql_slice_nil w _ _ a n c n' c' Tryz.underlying29
  have H1 := hid (h1)
  clear h1
  rcases hvn with ⟨rfl, rfl⟩ | ⟨ad, c, rfl⟩
  · go_enter Tryz.func14, Tryz.ntmps14
    clear hv
    go_wp2
    go_ret
    exact ⟨_, rfl, Own.nil _ _ _ _, Below.refl _ _⟩
  · have hv2 := hv.below (below_alloc w (.cells #[] 9))
    have HV := hid (hv2)
    have HB := hid (below_alloc w (.cells #[] 9))
    have HO : Own enc (w.alloc (.cells #[] 9)) w.heap.size 9 (.slice (some ⟨w.heap.size, 0, none⟩) 0 0) [] := Own.of_row (l := ([] : List α)) (At.new w [] 9) (Nat.le_refl _) (Nat.le_refl _) (by omega) rfl rfl
    clear hv hv2
    go_enter Tryz.func14, Tryz.ntmps14
    go_wp2_with (at_builtin; refine wpList_extend rfl _ _ 29 rfl w.heap.size 9 (.string ByteArray.empty) 16 Tryz.underlying29 info_str rfl _ ([] : List α) (w.alloc (.cells #[] 9)) rfl HO (Below.refl _ _) M _ l rfl HV.out H1.out ?_ (by decide) ?_ ?_; (· simpa using hl); (· simp); intro v' w2 hown hb2 hg2 hw2)
    go_ret
    exact ⟨_, rfl, by simpa using hown, HB.out.trans hb2⟩

set_option maxHeartbeats 400000 in
theorem Clone_bs {α : Type} {enc : α → Value} {M : Nat → Prop} {v : Value} {l : List α} {w : World} (hv : Sl enc M w v l) (h1 : ∀ y, (enc y).oneCell' = true) (hl : l.length ≤ 1000000) :
    Calls Tryz.prog 15 #[v] w fun e w' => ∃ v', e = .returned v' ∧ Own enc w' w.heap.size 28 v' l ∧ Below w.heap.size w w' := by
  have hvn : (v = .slice none 0 0 ∧ l = []) ∨ ∃ ad c, v = .slice (some ad) l.length c := by
    rcases hv with h | ⟨b, o, c, h, _⟩
    · exact .inl h
    · exact .inr ⟨_, c, h⟩
  have qs : ∀ (w : World) (a : Option Addr) (n c n' c' : Nat), (binOp .eql 22 (.slice a n c) (.slice none n' c')).run Tryz.prog w = .ok (.bool a.isNone) w := fun w a n c n' c' => Lib.run_eql_slice_nil w _ _ a n c n' c' Tryz.underlying22
  have H1 := hid (h1)
  clear h1
  rcases hvn with ⟨rfl, rfl⟩ | ⟨ad, c, rfl⟩
  · go_enter Tryz.func15, Tryz.ntmps15
    clear hv
    go_wp2
    go_ret
    exact ⟨_, rfl, Own.nil _ _ _ _, Below.refl _ _⟩
  · have hv2 := hv.below (below_alloc w (.cells #[] 28))
    have HV := hid (hv2)
    have HB := hid (below_alloc w (.cells #[] 28))
    have HO : Own enc (w.alloc (.cells #[] 28)) w.heap.size 28 (.slice (some ⟨w.heap.size, 0, none⟩) 0 0) [] := Own.of_row (l := ([] : List α)) (At.new w [] 28) (Nat.le_refl _) (Nat.le_refl _) (by omega) rfl rfl
    clear hv hv2
    go_enter Tryz.func15, Tryz.ntmps15
    go_wp2_with (at_builtin; refine wpList_extend rfl _ _ 22 rfl w.heap.size 28 (.slice none 0 0) 24 Tryz.underlying22 info_bs rfl _ ([] : List α) (w.alloc (.cells #[] 28)) rfl HO (Below.refl _ _) M _ l rfl HV.out H1.out ?_ (by decide) ?_ ?_; (· simpa using hl); (· simp); intro v' w2 hown hb2 hg2 hw2)
    go_ret
    exact ⟨_, rfl, by simpa using hown, HB.out.trans hb2⟩

/-- The zero of a sector. -/
def zSec : Value := .agg (List.replicate 512 (Value.int .u8 0) ++ [Value.bool false]).toArray
theorem sec_get (m j : Nat) (z b : Value) : (Value.agg (List.replicate m z ++ [b]).toArray).cells[j]! = if j < m then z else if j = m then b else default := by
  simp only [Value.cells, getElem!_def, List.getElem?_toArray, List.getElem?_append, List.length_replicate, List.getElem?_replicate]
  by_cases h : j < m
  · simp [h]
  · by_cases h2 : j = m
    · subst h2; simp
    · have : j - m ≠ 0 := by omega
      simp [h, h2]
      rcases hk : j - m with _ | k
      · omega
      · simp
theorem sec_size (m : Nat) (z b : Value) : (Value.agg (List.replicate m z ++ [b]).toArray).cells.size = m + 1 := by simp [Value.cells]
theorem info_sec : (Tryz.prog.info? 229).map (fun i => (i.zero, i.size, i.bytes)) = some (some zSec, 513, 513) := by kernel_rfl

/-- A device on which nothing was written, nothing is unsure, and the power stays. -/
structure Dev (w : World) (db sb n : Nat) : Prop where
  dev : At w db 83 [.slice (some ⟨sb, 0, none⟩) n n, .slice none 0 0, .int .i64 0, .bool false]
  data : ∀ i j, i < n → j < 512 → w.cell? ⟨sb, i * 513 + j, none⟩ = some (.int .u8 0)
  torn : ∀ i, i < n → w.cell? ⟨sb, i * 513 + 512, none⟩ = some (.bool false)
  row : ∃ cur : List Value, At w sb 229 cur ∧ cur.length = n * 513
  ne : db ≠ sb
  lt : sb < w.heap.size
theorem Dev.keeps {w w' : World} {db sb n : Nat} {M : Nat → Prop} (h : Dev w db sb n) (hk : Keeps M w w') (h1 : ¬ M db) (h2 : ¬ M sb) : Dev w' db sb n :=
  ⟨h.dev.keeps hk h1, fun i j hi hj => (hk.cell ⟨h.lt, h2⟩).trans (h.data i j hi hj), fun i hi => (hk.cell ⟨h.lt, h2⟩).trans (h.torn i hi), h.row.imp (fun _ h3 => ⟨h3.1.keeps hk h2, h3.2⟩), h.ne, Nat.lt_of_lt_of_le h.lt hk.size⟩
theorem Dev.later {w w' : World} {db sb n : Nat} (h : Dev w db sb n) (hb : Below w.heap.size w w') : Dev w' db sb n := h.keeps (M := fun _ => False) (Keeps.of_below hb) (fun x => x) (fun x => x)

theorem flash_New {w : World} {n : Nat} (h1 : 1 ≤ n) (h2 : n ≤ 4096) :
    Calls Tryz.prog 17 #[.int .i64 n] w fun e w' => ∃ db sb, e = .returned (.tuple #[.pointer (some ⟨db, 0, none⟩), .int .i64 0]) ∧ Dev w' db sb n ∧ w.heap.size ≤ db ∧ w.heap.size ≤ sb ∧ Below w.heap.size w w' := by
  go_enter Tryz.func17, Tryz.ntmps17
  go_wp2_with (at_make; refine wpList_make_info rfl _ _ 80 rfl 229 zSec 513 513 Tryz.underlying80 info_sec .i64 .i64 _ _ n n rfl rfl rfl rfl (Nat.le_refl _) ?_ ?_ ?_; (· omega); (· omega); intro w1 hrow1 hsz1 hb1)
  go_returns
  have hrow := hrow1.out
  have hnew : At (w1.alloc (.cells #[.slice (some ⟨w.heap.size, 0, none⟩) n n, .slice none 0 0, .int .i64 0, .bool false] 83)) (w.heap.size + 1) 83 [.slice (some ⟨w.heap.size, 0, none⟩) n n, .slice none 0 0, .int .i64 0, .bool false] := by
    have := At.new w1 [.slice (some ⟨w.heap.size, 0, none⟩) n n, .slice none 0 0, .int .i64 0, .bool false] 83
    rwa [hsz1] at this
  have hcell : ∀ k, k < n * 513 → (w1.alloc (.cells #[.slice (some ⟨w.heap.size, 0, none⟩) n n, .slice none 0 0, .int .i64 0, .bool false] 83)).cell? ⟨w.heap.size, k, none⟩ = some (zSec.cells[k % zSec.cells.size]!) := by
    intro k hk
    rw [World.cell?_of_block (w := w1) (a := ⟨w.heap.size, k, none⟩) (heap_alloc_old _ _ (show w.heap.size < w1.heap.size by omega))]
    simp only [World.cell?, hrow]
    simp [madeCells, hk]
  have hz : zSec.cells.size = 513 := sec_size 512 _ _
  refine ⟨w.heap.size + 1, w.heap.size, by rfl, ⟨hnew, ?_, ?_, ⟨(madeCells zSec.cells (n * 513)).toList, ?_, by simp [madeCells]⟩, by omega, by simp; omega⟩, by omega, Nat.le_refl _, hb1.alloc (by omega) _⟩
  · intro i j hi hj
    rw [hcell _ (by omega), hz, show (i * 513 + j) % 513 = j by omega, zSec, sec_get 512 j, if_pos hj]
  · intro i hi
    rw [hcell _ (by omega), hz, show (i * 513 + 512) % 513 = 512 by omega, zSec, sec_get 512 512, if_neg (by omega), if_pos rfl]
  · have h3 := heap_alloc_old w1 (.cells #[.slice (some ⟨w.heap.size, 0, none⟩) n n, .slice none 0 0, .int .i64 0, .bool false] 83) (show w.heap.size < w1.heap.size by omega)
    unfold At
    rw [h3, hrow]

theorem dev_Len {w : World} {db sb n : Nat} (h : Dev w db sb n) : Calls Tryz.prog 34 #[.pointer (some ⟨db, 0, none⟩)] w fun e w' => e = .returned (.int .i64 n) ∧ w = w' := by
  have h0 := h.dev.cell 0 rfl
  go_enter Tryz.func34, Tryz.ntmps34
  go_wp2
  go_ret
  exact ⟨rfl, rfl⟩
theorem dev_Down {w : World} {db sb n : Nat} (h : Dev w db sb n) : Calls Tryz.prog 59 #[.pointer (some ⟨db, 0, none⟩)] w fun e w' => e = .returned (.bool false) ∧ w = w' := by
  have h0 := h.dev.cell 3 rfl
  go_enter Tryz.func59, Tryz.ntmps59
  go_wp2
  go_ret
  exact ⟨rfl, rfl⟩
theorem dev_check {w : World} {db sb n i : Nat} (h : Dev w db sb n) (hi : i < n) : Calls Tryz.prog 129 #[.pointer (some ⟨db, 0, none⟩), .int .i64 i] w fun e w' => e = .returned (.int .i64 0) ∧ w = w' := by
  have h0 := h.dev.cell 0 rfl
  have h3 := h.dev.cell 3 rfl
  go_enter Tryz.func129, Tryz.ntmps129
  go_wp2
  go_ret
  exact ⟨rfl, rfl⟩
theorem dev_spend {w : World} {db sb n : Nat} (h : Dev w db sb n) : Calls Tryz.prog 133 #[.pointer (some ⟨db, 0, none⟩)] w fun e w' => e = .returned (.bool true) ∧ w = w' := by
  have h0 := h.dev.cell 2 rfl
  go_enter Tryz.func133, Tryz.ntmps133
  go_wp2
  go_ret
  exact ⟨rfl, rfl⟩

set_option maxHeartbeats 400000 in
set_option maxRecDepth 100000 in
theorem dev_Read {w : World} {db sb n i : Nat} (h : Dev w db sb n) (hi : i < n) : Calls Tryz.prog 91 #[.pointer (some ⟨db, 0, none⟩), .int .i64 i] w
    fun e w' => ∃ v', e = .returned (.tuple #[v', .int .i64 0]) ∧ Own (.int .u8) w' w.heap.size 5 v' (zeros 512) ∧ Below w.heap.size w w' := by
  have h0 := h.dev.cell 0 rfl
  have h1 := h.dev.cell 1 rfl
  have ht := h.torn i hi
  have H := hid (h)
  have hsl : Sl (.int .u8) (fun _ => False) w (.slice (some ⟨sb, i * 513, none⟩) 512 512) (zeros 512) :=
    sl_zeros (Nat.le_refl _) (by omega) ⟨h.lt, fun x => x⟩ (fun j hj => h.data i j hi hj)
  have HS := hid (hsl)
  clear h hsl
  go_enter Tryz.func91, Tryz.ntmps91
  go_wp2_with (go_at_call 129; refine (dev_check H.out hi).mono ?_; rintro e w' ⟨rfl, rfl⟩)
  refine wp_loop_rounds 1 ?_
  rw [rounds_succ]
  go_wp2_with (go_at_call 130; refine (Clone_u8 (enc := .int .u8) HS.out (fun _ => rfl) (by rw [length_zeros]; omega)).mono ?_; rintro e w' ⟨v', rfl, hown, hbel⟩)
  go_returns
  exact ⟨_, rfl, hown, hbel⟩
end Go.Proofs.YtfogkbdcbgpomaaGreat
