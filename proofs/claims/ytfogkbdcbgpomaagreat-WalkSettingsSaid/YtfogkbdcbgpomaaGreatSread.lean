/- Package super on a blank device: nothing is loaded, a first block is saved. -/
import Derived.Test.YtfogkbdcbgpomaaGreatSector
import Derived.Deep.RegionHeld3
set_option linter.unusedSimpArgs false
set_option linter.unusedVariables false
namespace Go.Proofs.YtfogkbdcbgpomaaGreat
open Go.RowKit

def blk0 : Value := .agg #[.int .i64 0, .int .i64 0, .int .i64 0, .int .i64 0, .int .i64 0]

set_option maxRecDepth 100000 in
set_option maxHeartbeats 1000000 in
theorem super_read {w : World} {db sb n i : Nat} (h : Dev w db sb n) (hi : i < n) :
    Calls Tryz.prog 90 #[.pointer (some ⟨db, 0, none⟩), .int .i64 i] w fun e w' => e = .returned (.tuple #[.agg #[.int .i64 0, .int .i64 0, .int .i64 0, .int .i64 0, .int .i64 0], .bool false, .int .i64 0]) ∧ Below w.heap.size w w' := by
  have hA := At.new w [.int .i64 0, .int .i64 0, .int .i64 0, .int .i64 0, .int .i64 0] 133
  have hB := below_alloc w (.cells #[.int .i64 0, .int .i64 0, .int .i64 0, .int .i64 0, .int .i64 0] 133)
  have hD := h.later hB
  have HA := hid hA
  clear hA h
  go_enter Tryz.func90, Tryz.ntmps90
  go_wp2_with (first
    | (go_at_call 91; refine (dev_Read hD hi).mono ?_; rintro e w2 ⟨v2, rfl, hown2, hb2⟩)
    | (go_at_call 100; refine (sector_Open_blank hown2).mono ?_; rintro e w3 ⟨rfl, hb3⟩; have HA3 := hid ((HA.out.later hb2).later hb3); obtain ⟨gl, g0, g1, g2, g3, g4, r0, r1, r2, r3, r4⟩ := HA3.out.five))
  try simp only [Exit.inBlock, Exit.then]
  refine bodyPost_ret (by simp [results, Tryz.results90, go_sem, g0, g1, g2, g3, g4, gl]; try rfl) rfl ?_
  exact ⟨rfl, (below_set5 ((hB.trans (hb2.mono hB.size)).trans (hb3.mono (Nat.le_trans hB.size hb2.size))) (Nat.le_refl _) _ _ _ _ _).alloc (by simp; omega) _⟩

end Go.Proofs.YtfogkbdcbgpomaaGreat
