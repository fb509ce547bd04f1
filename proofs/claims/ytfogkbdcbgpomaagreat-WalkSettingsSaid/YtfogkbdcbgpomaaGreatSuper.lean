/- Package super on a blank device: nothing is loaded, a first block is saved. -/
import Derived.Test.YtfogkbdcbgpomaaGreatSread
set_option linter.unusedSimpArgs false
set_option linter.unusedVariables false
namespace Go.Proofs.YtfogkbdcbgpomaaGreat
open Go.RowKit

set_option maxRecDepth 100000 in
set_option maxHeartbeats 1000000 in
theorem super_Load {w : World} {db sb n : Nat} (h : Dev w db sb n) (hn : 2 ≤ n) :
    Calls Tryz.prog 60 #[.pointer (some ⟨db, 0, none⟩)] w fun e w' => e = .returned (.tuple #[.agg #[.int .i64 0, .int .i64 0, .int .i64 0, .int .i64 0, .int .i64 0], .int .i64 11]) ∧ Below w.heap.size w w' := by
  have hA := At.new w [.int .i64 0, .int .i64 0, .int .i64 0, .int .i64 0, .int .i64 0] 133
  have hB := below_alloc w (.cells #[.int .i64 0, .int .i64 0, .int .i64 0, .int .i64 0, .int .i64 0] 133)
  have hD := h.later hB
  have HD := hid h
  have HA := hid hA
  clear hA h
  go_enter Tryz.func60, Tryz.ntmps60
  go_wp2_with (first
    | (go_at_call 34; refine (dev_Len hD).mono ?_; rintro e w2 ⟨rfl, rfl⟩)
    | (go_at_call 59; refine (dev_Down hD).mono ?_; rintro e w2 ⟨rfl, rfl⟩))
  have hB2 := hB.alloc (by simp) (.cells #[.int .i64 0, .int .i64 0, .int .i64 0, .int .i64 0, .int .i64 0] 133)
  have HA2 := HA.out.later (below_alloc _ (.cells #[.int .i64 0, .int .i64 0, .int .i64 0, .int .i64 0, .int .i64 0] 133))
  go_loopw [5, 19] (fun fd i wr => ∃ j : Nat, j ≤ 2 ∧ i = .int .i64 j ∧ fd = .bool false ∧ At wr w.heap.size 133 [.int .i64 0, .int .i64 0, .int .i64 0, .int .i64 0, .int .i64 0] ∧ Below w.heap.size w wr) (fun _ i _ => 2 - (intOf i).toNat)
  case atStart => exact ⟨0, by omega, rfl, rfl, HA2, hB2⟩
  case round =>
    clear HA2 hB2 hD hB HA
    obtain ⟨j, hj, rfl, rfl, hA, hbr⟩ := hrel
    have hs := hbr.size
    by_cases hlt : j < 2
    · have hDr := HD.out.later hbr
      have HA := hid hA
      clear hA
      go_wp2_with (go_at_call 90; (refine (super_read hDr ?_).mono ?_; (· omega); rintro e w2 ⟨rfl, hb2⟩))
      go_roundw
      case rel => exact ⟨j + 1, by omega, by go_num, rfl, (HA.out.later hb2).later (below_alloc _ _), (hbr.trans (hb2.mono hs)).alloc (by have := hb2.size; omega) _⟩
      case measure => simp [intOf]; omega
    · have HA3 := hid hA
      obtain ⟨gl, g0, g1, g2, g3, g4, r0, r1, r2, r3, r4⟩ := HA3.out.five
      clear hA
      go_wp2
      try simp only [Exit.inBlock, Exit.then]
      refine bodyPost_ret (by simp [results, Tryz.results60, go_sem, g0, g1, g2, g3, g4]; try rfl) rfl ?_
      exact ⟨rfl, below_set5 hbr (Nat.le_refl _) _ _ _ _ _⟩
end Go.Proofs.YtfogkbdcbgpomaaGreat
