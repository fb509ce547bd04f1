/- seglog.blank on a blank device. -/
import Derived.Test.YtfogkbdcbgpomaaGreatFlash
set_option linter.unusedSimpArgs false
set_option linter.unusedVariables false
namespace Go.Proofs.YtfogkbdcbgpomaaGreat
open Go.RowKit

set_option maxRecDepth 100000 in
set_option maxHeartbeats 2000000 in
theorem seglog_blank {w : World} {db sb n : Nat} (h : Dev w db sb n) (hn : n ≤ 4096) :
    Calls Tryz.prog 61 #[.pointer (some ⟨db, 0, none⟩)] w fun e w' => e = .returned (.tuple #[.bool true, .int .i64 0]) ∧ Below w.heap.size w w' := by
  have hdl := h.dev.lt
  have HD := hid h
  clear h
  go_enter Tryz.func61, Tryz.ntmps61
  go_wp2_with (go_at_call 34; refine (dev_Len HD.out).mono ?_; rintro e w2 ⟨rfl, rfl⟩)
  go_loopw [11] (fun i wr => ∃ j : Nat, j ≤ n ∧ i = .int .i64 j ∧ Below w.heap.size w wr) (fun i _ => n - (intOf i).toNat)
  case atStart => exact ⟨0, by omega, rfl, Below.refl _ _⟩
  case round =>
    obtain ⟨j, hj, rfl, hbr⟩ := hrel
    have hs := hbr.size
    by_cases hlt : j < n
    · have HDr := hid (HD.out.later hbr)
      go_wp2_with (go_at_call 91; refine (dev_Read HDr.out hlt).mono ?_; rintro e w2 ⟨v2, rfl, hown2, hb2⟩; obtain ⟨a2, c2, N, rfl, hN⟩ := hown2.shapeN; have HO := hid hown2.sl0.shape; have HN := hid (hN.trans (length_zeros 512)); have hNb : N ≤ 512 := (by have := length_zeros 512; omega); clear hown2 hN)
      go_loop [27] (fun i => ∃ q : Nat, q ≤ N ∧ i = .int .i64 q) (fun i => N - (intOf i).toNat)
      case atStart => exact ⟨0, by omega, rfl⟩
      case round =>
        obtain ⟨q, hq, rfl⟩ := hrel
        by_cases hqt : q < N
        · have HN' := HN.out
          have hq5 : q < (zeros 512).length := by rw [length_zeros, ← HN']; exact hqt
          obtain ⟨a3, c3, he, -, hc3⟩ := HO.out
          obtain ⟨b4, o4, rfl, -, hc4⟩ := hc3 q hq5
          simp only [Value.slice.injEq] at he
          obtain ⟨rfl, -, -⟩ := he
          rw [show (zeros 512)[q]'hq5 = 0 from mem_zeros (List.getElem_mem _)] at hc4
          clear HN' hq5
          clear hc3
          go_wp2
          go_round
          case rel => exact ⟨q + 1, by omega, by go_num⟩
          case measure => simp [intOf]; omega
        · go_wp2
          go_round
          case rel => exact ⟨j + 1, by omega, by go_num, hbr.trans (hb2.mono hs)⟩
          case measure => simp [intOf]; omega
    · go_wp2
      go_returns
      exact ⟨rfl, hbr⟩
end Go.Proofs.YtfogkbdcbgpomaaGreat
