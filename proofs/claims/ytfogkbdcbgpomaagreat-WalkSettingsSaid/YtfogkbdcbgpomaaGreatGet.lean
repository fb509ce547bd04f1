/- Nothing is got out of a keep that knows nothing. -/
import Derived.Test.YtfogkbdcbgpomaaGreatFind
set_option linter.unusedSimpArgs false
set_option linter.unusedVariables false
namespace Go.Proofs.YtfogkbdcbgpomaaGreat
open Go.RowKit

set_option maxRecDepth 100000 in
set_option maxHeartbeats 2000000 in
theorem cache_find {w : World} {cb mb most stale : Nat} {kind : Int} {fv : Value} (h : Cache0 w cb mb most stale) (hk : kind = 1 ∨ kind = 2 ∨ kind = 5) :
    Calls Tryz.prog 114 #[.pointer (some ⟨cb, 0, none⟩), .slice none 0 0, .int .i64 kind, fv] w fun e w' => e = .returned (.pointer none) ∧ Below w.heap.size w w' := by
  have H := hid h
  have hT := hid (fun w1 => fact_Typed (w := w1) hk)
  have hC := hid (fun (w1 : World) (hb : Below w.heap.size w w1) => cache_at (w := w1) (kind := kind) (h.later hb) (by omega))
  have hC0 := hid (fun (w1 : World) (hb : Below w.heap.size w w1) => cache_at (w := w1) (kind := 0) (h.later hb) (by omega))
  have hB := hid (below_alloc w (.cells #[.int .i64 kind, .int .i64 0] 3))
  have hA := hid (At.new w [.int .i64 kind, .int .i64 0] 3)
  clear h hk
  go_enter Tryz.func114, Tryz.ntmps114
  go_wp2_with (go_at_call 30; refine (hT.out _).mono ?_; rintro e w2 ⟨rfl, rfl⟩)
  refine wp_loop_rounds 3 ?_
  rw [rounds_succ]
  go_wp2_with (go_at_call 146; refine (hC.out _ hB.out).mono ?_; rintro e w3 ⟨rfl, hb3⟩; have hB3 := hid (hB.out.trans (hb3.mono hB.out.size)); have g1 := (hA.out.later hb3).cell 1 rfl)
  rw [rounds_succ]
  go_wp2_with (go_at_call 146; refine (hC0.out _ hB3.out).mono ?_; rintro e w4 ⟨rfl, hb4⟩; have hB4 := hid (hB3.out.trans (hb4.mono hB3.out.size)))
  rw [rounds_succ]
  go_wp2
  go_ret
  exact ⟨rfl, hB4.out⟩

set_option maxRecDepth 100000 in
theorem cache_told {w : World} {cb : Nat} :
    Calls Tryz.prog 113 #[.pointer (some ⟨cb, 0, none⟩), .pointer none] w fun e w' => e = .returned (.tuple #[(.agg #[.slice none 0 0, .int .i64 0, .int .i64 0, .int .i64 0, .int .i64 0, .int .i64 0, .slice none 0 0, .slice none 0 0, .slice none 0 0, .slice none 0 0, .slice none 0 0, .slice none 0 0, .slice none 0 0]), .bool false]) ∧ Below w.heap.size w w' := by
  go_enter Tryz.func113, Tryz.ntmps113
  go_wp2
  go_returns
  exact ⟨rfl, below_alloc _ _⟩

set_option maxRecDepth 100000 in
set_option maxHeartbeats 2000000 in
theorem cache_Get {w : World} {cb mb most stale : Nat} {kind now : Int} (h : Cache0 w cb mb most stale) (hk : kind = 1 ∨ kind = 2 ∨ kind = 5) :
    Calls Tryz.prog 74 #[.pointer (some ⟨cb, 0, none⟩), .slice none 0 0, .int .i64 kind, .int .i64 now] w fun e w' => e = .returned (.tuple #[(.agg #[.slice none 0 0, .int .i64 0, .int .i64 0, .int .i64 0, .int .i64 0, .int .i64 0, .slice none 0 0, .slice none 0 0, .slice none 0 0, .slice none 0 0, .slice none 0 0, .slice none 0 0, .slice none 0 0]), .bool false]) ∧ Below w.heap.size w w' := by
  have hZ := hid (Zf.new w)
  have hB := hid (below_alloc w (.cells #[.slice none 0 0, .int .i64 0, .int .i64 0, .int .i64 0, .int .i64 0, .int .i64 0, .slice none 0 0, .slice none 0 0, .slice none 0 0, .slice none 0 0, .slice none 0 0, .slice none 0 0, .slice none 0 0] 100))
  have H := hid h
  have HK := hid hk
  clear h hk
  go_enter Tryz.func74, Tryz.ntmps74
  go_wp2_with (first
    | (go_at_call 115; refine (cache_when (H.out.later hB.out)).mono ?_; rintro e w2 ⟨⟨v2, rfl⟩, hb2⟩)
    | (go_at_call 114; refine (cache_find ((H.out.later hB.out).later hb2) HK.out).mono ?_; rintro e w3 ⟨rfl, hb3⟩)
    | (go_at_call 113; refine cache_told.mono ?_; rintro e w4 ⟨rfl, hb4⟩; have Z4 := hid (((hZ.out.later hb2).later hb3).later hb4); have zz := Z4.out.all))
  try simp only [Exit.inBlock, Exit.then]
  refine bodyPost_ret (by simp [results, Tryz.results74, go_sem, zz]; try rfl) rfl ?_
  exact ⟨rfl, ((hB.out.trans (hb2.mono hB.out.size)).trans (hb3.mono (Nat.le_trans hB.out.size hb2.size))).trans (hb4.mono (Nat.le_trans (Nat.le_trans hB.out.size hb2.size) hb3.size))⟩

end Go.Proofs.YtfogkbdcbgpomaaGreat
