/- super.Save on a blank device. -/
import Derived.Test.YtfogkbdcbgpomaaGreatSuper
import Derived.Test.YtfogkbdcbgpomaaGreatFlash2
import Derived.Test.YtfogkbdcbgpomaaGreatNumbers
set_option linter.unusedSimpArgs false
set_option linter.unusedVariables false
namespace Go.Proofs.YtfogkbdcbgpomaaGreat
open Go.RowKit

theorem head_super : HeadFine 1 0 0 0 1 := ⟨by decide, by decide, by decide, by decide, by decide, by decide, by decide, by decide, by decide⟩

set_option maxRecDepth 100000 in
set_option maxHeartbeats 2000000 in
theorem super_Save {w : World} {db sb n : Nat} (h : Dev w db sb n) (h2 : 2 ≤ n) (hn : n ≤ 4096) :
    Calls Tryz.prog 63 #[.pointer (some ⟨db, 0, none⟩), .agg #[.int .i64 0, .int .i64 1, .int .i64 0, .int .i64 0, .int .i64 0]] w fun e w' => e = .returned (.int .i64 0) ∧ DevW w' db sb n (.slice none 0 0) ∧ Keeps (fun k => k = db ∨ k = sb) w w' := by
  have hA := At.new w [.int .i64 0, .int .i64 1, .int .i64 0, .int .i64 0, .int .i64 0] 133
  have hB := below_alloc w (.cells #[.int .i64 0, .int .i64 1, .int .i64 0, .int .i64 0, .int .i64 0] 133)
  have hD := h.later hB
  have HD := hid h
  have hdl := h.dev.lt
  have hsl := h.lt
  have hne := h.ne
  have HA := hid hA
  have HB := hid hB
  clear hA hB h
  have x0 : ∀ w' : World, (Instr.index 186 (.agg #[.pointer (some ⟨w.heap.size, 0, none⟩), .pointer (some ⟨w.heap.size, 1, none⟩), .pointer (some ⟨w.heap.size, 2, none⟩), .pointer (some ⟨w.heap.size, 3, none⟩), .pointer (some ⟨w.heap.size, 4, none⟩)]) (.int .i64 0)).run Tryz.prog w' = .ok (.pointer (some ⟨w.heap.size, 0, none⟩)) w' := fun _ => by kernel_rfl
  have x1 : ∀ w' : World, (Instr.index 186 (.agg #[.pointer (some ⟨w.heap.size, 0, none⟩), .pointer (some ⟨w.heap.size, 1, none⟩), .pointer (some ⟨w.heap.size, 2, none⟩), .pointer (some ⟨w.heap.size, 3, none⟩), .pointer (some ⟨w.heap.size, 4, none⟩)]) (.int .i64 1)).run Tryz.prog w' = .ok (.pointer (some ⟨w.heap.size, 1, none⟩)) w' := fun _ => by kernel_rfl
  have x2 : ∀ w' : World, (Instr.index 186 (.agg #[.pointer (some ⟨w.heap.size, 0, none⟩), .pointer (some ⟨w.heap.size, 1, none⟩), .pointer (some ⟨w.heap.size, 2, none⟩), .pointer (some ⟨w.heap.size, 3, none⟩), .pointer (some ⟨w.heap.size, 4, none⟩)]) (.int .i64 2)).run Tryz.prog w' = .ok (.pointer (some ⟨w.heap.size, 2, none⟩)) w' := fun _ => by kernel_rfl
  have x3 : ∀ w' : World, (Instr.index 186 (.agg #[.pointer (some ⟨w.heap.size, 0, none⟩), .pointer (some ⟨w.heap.size, 1, none⟩), .pointer (some ⟨w.heap.size, 2, none⟩), .pointer (some ⟨w.heap.size, 3, none⟩), .pointer (some ⟨w.heap.size, 4, none⟩)]) (.int .i64 3)).run Tryz.prog w' = .ok (.pointer (some ⟨w.heap.size, 3, none⟩)) w' := fun _ => by kernel_rfl
  have x4 : ∀ w' : World, (Instr.index 186 (.agg #[.pointer (some ⟨w.heap.size, 0, none⟩), .pointer (some ⟨w.heap.size, 1, none⟩), .pointer (some ⟨w.heap.size, 2, none⟩), .pointer (some ⟨w.heap.size, 3, none⟩), .pointer (some ⟨w.heap.size, 4, none⟩)]) (.int .i64 4)).run Tryz.prog w' = .ok (.pointer (some ⟨w.heap.size, 4, none⟩)) w' := fun _ => by kernel_rfl
  go_enter Tryz.func63, Tryz.ntmps63
  go_wp2_with (first
    | (go_at_call 60; refine (super_Load hD h2).mono ?_; rintro e w2 ⟨rfl, hb2⟩)
    | (go_at_call 93; refine super_numbers.mono ?_; rintro e w3 ⟨rfl, hb3⟩))
  have HA3 := ((HA.out.later hb2).later (below_alloc _ _)).later hb3
  have hbA := (HB.out.trans (hb2.mono HB.out.size)).alloc (by have := hb2.size; have := HB.out.size; omega) (.cells #[.int .i64 0, .int .i64 0, .int .i64 0, .int .i64 0, .int .i64 0] 133)
  have hb := hbA.trans (hb3.mono hbA.size)
  go_loopw [7, 27] (fun out i wr => ∃ (j : Nat) (xs : List Int), j ≤ 5 ∧ i = .int .i64 j ∧ xs.length = 7 * j ∧ Own (.int .u8) wr w.heap.size 5 out xs ∧ At wr w.heap.size 133 [.int .i64 0, .int .i64 1, .int .i64 0, .int .i64 0, .int .i64 0] ∧ Below w.heap.size w wr) (fun _ i _ => 5 - (intOf i).toNat)
  case atStart => exact ⟨0, [], by omega, rfl, rfl, Own.nil _ _ _ _, HA3, hb⟩
  case round =>
    clear HA3 hbA hb hb2 hb3 hD HA HB
    obtain ⟨j, xs, hj, rfl, hxl, hown, hA, hbr⟩ := hrel
    have hs := hbr.size
    by_cases hlt : j < 5
    · obtain ⟨gl, g0, g1, g2, g3, g4, -⟩ := hA.five
      have HA := hid hA
      have HO := hid hown.sl0
      have hxb : xs.length ≤ 35 := by omega
      have HX := hid hxl
      clear hA hown hxl
      rcases (show j = 0 ∨ j = 1 ∨ j = 2 ∨ j = 3 ∨ j = 4 by omega) with rfl | rfl | rfl | rfl | rfl
      all_goals
        go_wp2_with (first
          | (go_at_call 94; refine (Fits_yes (by decide) (by decide) (by decide) (by decide)).mono ?_; rintro e w4 ⟨rfl, rfl⟩)
          | (go_at_call 95; refine (num_Put HO.out (Nat.le_trans hxb (by decide)) (by decide) (by decide) (by decide) (by decide)).mono ?_; rintro e w4 ⟨v4, xs4, rfl, hx4, hown4, hb4⟩))
        go_roundw
        case rel => exact ⟨_, xs4, by decide, rfl, by rw [hx4, HX.out]; rfl, hown4.base hs, HA.out.later hb4, hbr.trans (hb4.mono hs)⟩
        case measure => simp [intOf]
    · obtain rfl : j = 5 := by omega
      obtain ⟨gl, g0, -⟩ := hA.five
      have HA := hid hA
      have hsl5 := hid hown.sl0
      have HX := hid hxl
      have HDr := hid (HD.out.later hbr)
      clear hA hown hxl x0 x1 x2 x3 x4
      go_wp2_with (first
        | (go_at_call 96; refine (sector_Seal hsl5.out (by rw [HX.out]; decide) head_super).mono ?_; rintro e w5 ⟨v5, xs5, rfl, hx5, hown5, hb5⟩; have HD5 := hid (HDr.out.later hb5); have HA5 := hid (HA.out.later hb5))
        | (go_at_call 97; refine (dev_Sync0 HD5.out).mono ?_; rintro e w6 ⟨rfl, hD6, hk6⟩; have HD6 := hid hD6; have HA6 := hid (HA5.out.keeps hk6 (fun e => by omega)); have g0 := HA6.out.cell 0 rfl)
        | (go_at_call 98; (refine (dev_Write HD6.out (i := 0) (by omega) ((hown5.keeps hk6 (fun k hk e => by have := hown5.lt k hk; omega)).sl _ (fun k hk (hx : k = db) => by omega)) hx5).mono ?_; rintro e w7 ⟨rfl, u7, hD7, hu7, hk7⟩))
        | (go_at_call 97; refine (dev_Sync1 hD7 hu7 (by omega) hn ?_ ?_).mono ?_; (· have := hb5.size; have := hk6.size; omega); (· have := hb5.size; have := hk6.size; omega); rintro e w8 ⟨rfl, hD8, hk8⟩))
      go_ret
      exact ⟨rfl, hD8, ((((Keeps.of_below hbr).trans (Keeps.of_below hb5)).trans (hk6.mono (fun k _ hk => .inl hk))).trans (hk7.mono (fun k _ hk => .inl hk))).trans hk8⟩
end Go.Proofs.YtfogkbdcbgpomaaGreat
