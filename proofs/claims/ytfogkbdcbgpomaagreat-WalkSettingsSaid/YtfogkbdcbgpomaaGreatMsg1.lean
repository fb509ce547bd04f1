/- The small functions of messages, at a question of the empty name. -/
import Derived.Test.YtfogkbdcbgpomaaGreatMsg0
import Derived.Test.YtfogkbdcbgpomaaGreatKnown
set_option linter.unusedSimpArgs false
set_option linter.unusedVariables false
namespace Go.Proofs.YtfogkbdcbgpomaaGreat
open Go.RowKit

set_option maxRecDepth 100000 in
theorem w_Name_nil {w : World} {b B mb : Nat} {l : List Int} (h : WriterAt w b B mb l) (hl : l.length ≤ 900) :
    Calls Tryz.prog 109 #[.pointer (some ⟨b, 0, none⟩), .slice none 0 0, .bool true] w fun e w' => (∃ x, e = .returned x) ∧ (∃ xs : List Int, xs.length = 1 ∧ WriterAt w' b B mb (l ++ xs)) ∧ Below B w w' ∧ Oth w w' := by
  have hlt := h.lt
  have H := hid h
  have HL := hid hl
  clear h hl
  go_enter Tryz.func109, Tryz.ntmps109
  go_wp2_with (go_at_call 23; refine Sound_nil.mono ?_; rintro e w2 ⟨rfl, rfl⟩)
  refine wp_loop_rounds 1 ?_
  rw [rounds_succ]
  go_wp2_with (go_at_call 107; (refine (w_Num H.out (by have := HL.out; simp; omega) (by decide) (by decide) (by decide) (by decide)).mono ?_; rintro e w2 ⟨rfl, hx2, hb2, ho2⟩; have HX2 := hid hx2; have HO2 := hid ho2; clear hx2 ho2))
  go_ret
  exact ⟨⟨_, rfl⟩, HX2.out, hb2, HO2.out⟩

/-- A message that asks for the empty name's addresses. -/
def MsgAt (w : World) (b : Nat) (id : Int) (qg : Nat) : Prop := At w b 222 [.int .i64 id, .bool false, .int .i64 0, .bool false, .bool false, .bool false, .bool false, .int .i64 0, .slice (some ⟨qg, 0, none⟩) 1 1, .slice none 0 0, .slice none 0 0, .slice none 0 0, .bool true, .int .i64 1232]

set_option maxRecDepth 100000 in
theorem msg_sections {w : World} {b : Nat} : Calls Tryz.prog 168 #[.pointer (some ⟨b, 0, none⟩)] w fun e w' => ∃ g, w.heap.size ≤ g ∧ e = .returned (.slice (some ⟨g, 0, none⟩) 3 3) ∧ At w' g 275 [.pointer (some ⟨b, 9, none⟩), .pointer (some ⟨b, 10, none⟩), .pointer (some ⟨b, 11, none⟩)] ∧ Below w.heap.size w w' := by
  go_enter Tryz.func168, Tryz.ntmps168
  go_wp2
  go_region
  all_goals
    go_wp2
    go_ret
    exact ⟨_, Nat.le_refl _, rfl, At.new w [.pointer (some ⟨b, 9, none⟩), .pointer (some ⟨b, 10, none⟩), .pointer (some ⟨b, 11, none⟩)] 275, (below_alloc _ _).drew⟩

theorem msg_bit {w : World} {n : Int} : Calls Tryz.prog 189 #[.bool false, .int .i64 n] w fun e w' => e = .returned (.int .i64 0) ∧ w = w' := by
  go_enter Tryz.func189, Tryz.ntmps189
  go_wp2
  go_ret
  exact ⟨rfl, rfl⟩

theorem msg_bitq {w : World} {k : Nat} {n : Int} : Calls Tryz.prog 189 #[.bool false, .int .i64 n] (w.drewN k) fun e w' => e = .returned (.int .i64 0) ∧ ∃ m, w' = w.drewN m :=
  msg_bit.mono fun _ _ h => ⟨h.1, k, h.2.symm⟩

set_option maxRecDepth 100000 in
theorem msg_flags {w : World} {b qg : Nat} {id : Int} (h : MsgAt w b id qg) : Calls Tryz.prog 175 #[.pointer (some ⟨b, 0, none⟩)] w fun e w' => e = .returned (.int .i64 0) ∧ Below w.heap.size w w' := by
  have c1 := h.cell 1 rfl
  have c2 := h.cell 2 rfl
  have c3 := h.cell 3 rfl
  have c4 := h.cell 4 rfl
  have c5 := h.cell 5 rfl
  have c6 := h.cell 6 rfl
  have c7 := h.cell 7 rfl
  have hl := h.lt
  clear h
  go_enter Tryz.func175, Tryz.ntmps175
  go_wp2
  go_quiet (exact msg_bitq)
  go_wp2
  go_ret
  exact ⟨ret_int (by decide), ((Keeps.refl (fun _ => False) w).drewN nq).below⟩

set_option maxRecDepth 100000 in
theorem msg_question {w : World} : Calls Tryz.prog 174 #[.agg #[.slice none 0 0, .int .i64 1, .int .i64 1]] w fun e w' => e = .returned (.bool true) ∧ Below w.heap.size w w' := by
  go_enter Tryz.func174, Tryz.ntmps174
  go_wp2_with (first
    | (go_at_call 23; refine Sound_nil.mono ?_; rintro e w2 ⟨rfl, rfl⟩)
    | (go_at_call 94; refine (Fits_yes (by decide) (by decide) (by decide) (by decide)).mono ?_; rintro e w2 ⟨rfl, rfl⟩))
  go_ret
  exact ⟨rfl, below_alloc _ _⟩

set_option maxRecDepth 100000 in
theorem Sound_2 {w : World} : Calls Tryz.prog 173 #[.agg #[.slice none 0 0, .int .i64 1, .int .i64 1]] w fun e w' => e = .returned (.bool false) ∧ Below w.heap.size w w' := by
  go_enter Tryz.func173, Tryz.ntmps173
  go_wp2_with (go_at_call 174; refine msg_question.mono ?_; rintro e w2 ⟨rfl, hb2⟩)
  go_ret
  exact ⟨rfl, (below_alloc _ _).trans (hb2.mono (by simp))⟩

/-- The one question. -/
def QAt (w : World) (qg : Nat) : Prop := At w qg 38 [.slice none 0 0, .int .i64 1, .int .i64 1]

set_option maxRecDepth 100000 in
theorem Index_Q {w : World} {qg : Nat} (h : QAt w qg) : Calls Tryz.prog 188 #[.slice (some ⟨qg, 0, none⟩) 1 1, .func (.func 173) #[] #[]] w fun e w' => e = .returned (.int .i64 (-1)) ∧ Below w.heap.size w w' := by
  have c0 := h.cell 0 rfl
  have c1 := h.cell 1 rfl
  have c2 := h.cell 2 rfl
  have hl := h.lt
  clear h
  go_enter Tryz.func188, Tryz.ntmps188
  go_wp2
  refine wp_loop_rounds 2 ?_
  rw [rounds_succ]
  go_wp2_with (go_at_call 173; refine Sound_2.mono ?_; rintro e w2 ⟨rfl, hb2⟩)
  rw [rounds_succ]
  go_wp2
  go_ret
  exact ⟨rfl, hb2⟩

theorem Contains_Q {w : World} {qg : Nat} (h : QAt w qg) : Calls Tryz.prog 172 #[.slice (some ⟨qg, 0, none⟩) 1 1, .func (.func 173) #[] #[]] w fun e w' => e = .returned (.bool false) ∧ Below w.heap.size w w' := by
  have H := hid h
  clear h
  go_enter Tryz.func172, Tryz.ntmps172
  go_wp2_with (go_at_call 188; refine (Index_Q H.out).mono ?_; rintro e w' ⟨rfl, hb2⟩)
  go_ret
  exact ⟨rfl, hb2⟩
end Go.Proofs.YtfogkbdcbgpomaaGreat
