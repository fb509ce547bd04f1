/- A message that asks for the empty name's addresses: it is sound, and its bytes. -/
import Derived.Test.YtfogkbdcbgpomaaGreatMsg1
set_option linter.unusedSimpArgs false
set_option linter.unusedVariables false
namespace Go.Proofs.YtfogkbdcbgpomaaGreat
open Go.RowKit

set_option maxRecDepth 100000 in
set_option maxHeartbeats 1000000 in
theorem msg_Sound {w : World} {id : Int} {qg : Nat} (hQ : QAt w qg) (h0 : 0 ≤ id) (h1 : id < 65536) :
    Calls Tryz.prog 151 #[.agg #[.int .i64 id, .bool false, .int .i64 0, .bool false, .bool false, .bool false, .bool false, .int .i64 0, .slice (some ⟨qg, 0, none⟩) 1 1, .slice none 0 0, .slice none 0 0, .slice none 0 0, .bool true, .int .i64 1232]] w fun e w' => e = .returned (.bool true) ∧ Below w.heap.size w w' := by
  have hql := hQ.lt
  have HQ := hid hQ
  have H1 := hid h1
  have HA := hid (show MsgAt (w.alloc (.cells #[.int .i64 id, .bool false, .int .i64 0, .bool false, .bool false, .bool false, .bool false, .int .i64 0, .slice (some ⟨qg, 0, none⟩) 1 1, .slice none 0 0, .slice none 0 0, .slice none 0 0, .bool true, .int .i64 1232] 222)) w.heap.size id qg from At.new w [.int .i64 id, .bool false, .int .i64 0, .bool false, .bool false, .bool false, .bool false, .int .i64 0, .slice (some ⟨qg, 0, none⟩) 1 1, .slice none 0 0, .slice none 0 0, .slice none 0 0, .bool true, .int .i64 1232] 222)
  clear hQ h1
  go_enter Tryz.func151, Tryz.ntmps151
  go_wp2_with (go_at_call 168; refine msg_sections.mono ?_; rintro e w2 ⟨g, hg, rfl, hAg, hb2⟩; have HG := hid hAg; have g0 := hAg.cell 0 rfl; have g1 := hAg.cell 1 rfl; have g2 := hAg.cell 2 rfl; have gl := hAg.lt; have HA2 := hid (At.later HA.out hb2); have x0 := HA2.out.cell 0 rfl; have x2 := HA2.out.cell 2 rfl; have x7 := HA2.out.cell 7 rfl; have x8 := HA2.out.cell 8 rfl; have x9 := HA2.out.cell 9 rfl; have x10 := HA2.out.cell 10 rfl; have x11 := HA2.out.cell 11 rfl; have x12 := HA2.out.cell 12 rfl; have x13 := HA2.out.cell 13 rfl; have xl := HA2.out.lt; have HQ2 := hid (At.later (At.later HQ.out (below_alloc w (.cells #[.int .i64 id, .bool false, .int .i64 0, .bool false, .bool false, .bool false, .bool false, .int .i64 0, .slice (some ⟨qg, 0, none⟩) 1 1, .slice none 0 0, .slice none 0 0, .slice none 0 0, .bool true, .int .i64 1232] 222))) hb2); clear hAg)
  refine wp_loop_rounds 4 ?_
  rw [rounds_succ]
  go_wp2_with (go_at_call 169; refine Contains_RR.mono ?_; rintro e w3 ⟨rfl, rfl⟩)
  rw [rounds_succ]
  go_wp2_with (go_at_call 169; refine Contains_RR.mono ?_; rintro e w3 ⟨rfl, rfl⟩)
  rw [rounds_succ]
  go_wp2_with (go_at_call 169; refine Contains_RR.mono ?_; rintro e w3 ⟨rfl, rfl⟩)
  rw [rounds_succ]
  go_wp2_with (first
    | (go_at_call 94; (refine (Fits_yes (by decide) (by decide) (by first | assumption | decide) (by first | exact H1.out | decide)).mono ?_; rintro e w3 ⟨rfl, rfl⟩))
    | (go_at_call 172; (refine (Contains_Q HQ2.out).mono ?_; rintro e w3 ⟨rfl, hb3⟩)))
  go_ret
  refine ⟨rfl, ?_⟩
  have := hb2.size
  exact ((below_alloc _ _).trans (hb2.mono (by simp))).trans (hb3.mono (by simp at this; omega))
end Go.Proofs.YtfogkbdcbgpomaaGreat
