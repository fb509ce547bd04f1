/- Keep.Get on a keep that knows nothing. -/
import Derived.Test.YtfogkbdcbgpomaaGreatGet
set_option linter.unusedSimpArgs false
set_option linter.unusedVariables false
namespace Go.Proofs.YtfogkbdcbgpomaaGreat
open Go.RowKit

/-- What Get keeps, from one step to the next. -/
structure KI (w0 : World) (kb cb mb b : Nat) (w : World) : Prop where
  ok : KeepOK w kb cb mb
  z : Zf w b
  fr : Keeps (fun k => k = kb) w0 w
  ne : b ≠ kb
theorem KI.cell {w0 w : World} {kb cb mb b : Nat} (h : KI w0 kb cb mb b w) : w.cell? ⟨kb, 0, none⟩ = some (.pointer (some ⟨cb, 0, none⟩)) := by
  obtain ⟨t, _, _, h⟩ := h.ok
  obtain ⟨lb, pl, x4, hA⟩ := h.at_
  exact hA.cell 0 rfl
theorem KI.both {w0 w : World} {kb cb mb b : Nat} (h : KI w0 kb cb mb b w) : w.cell? ⟨kb, 0, none⟩ = some (.pointer (some ⟨cb, 0, none⟩)) ∧ KI w0 kb cb mb b w := ⟨h.cell, h⟩
theorem KI.below {w0 w w' : World} {kb cb mb b : Nat} (h : KI w0 kb cb mb b w) (hb : Below w.heap.size w w') : KI w0 kb cb mb b w' := ⟨h.ok.later hb, h.z.later hb, h.fr.trans (Keeps.of_below hb), h.ne⟩
theorem KI.drew {w0 w : World} {kb cb mb b : Nat} (h : KI w0 kb cb mb b w) : KI w0 kb cb mb b w.drew := h.below (Below.refl _ _).drew
theorem KI.step {w0 w w' : World} {kb cb mb b : Nat} (h : KI w0 kb cb mb b w) (h1 : KeepOK w' kb cb mb) (h2 : Keeps (fun k => k = kb) w w') : KI w0 kb cb mb b w' := ⟨h1, h.z.keeps h2 h.ne, h.fr.trans h2, h.ne⟩
theorem KI.get {w0 w : World} {kb cb mb b : Nat} {kind now : Int} (h : KI w0 kb cb mb b w) (hk : kind = 1 ∨ kind = 2 ∨ kind = 5) :
    Calls Tryz.prog 74 #[.pointer (some ⟨cb, 0, none⟩), .slice none 0 0, .int .i64 kind, .int .i64 now] w fun e w' => e = .returned (.tuple #[(.agg #[.slice none 0 0, .int .i64 0, .int .i64 0, .int .i64 0, .int .i64 0, .int .i64 0, .slice none 0 0, .slice none 0 0, .slice none 0 0, .slice none 0 0, .slice none 0 0, .slice none 0 0, .slice none 0 0]), .bool false]) ∧ Below w.heap.size w w' := by
  obtain ⟨t, _, _, h⟩ := h.ok
  exact cache_Get h.cache hk

set_option maxRecDepth 100000 in
set_option maxHeartbeats 2000000 in
theorem keep_Get {w : World} {kb cb mb : Nat} {kind now : Int} (h : KeepOK w kb cb mb) (hk : kind = 1 ∨ kind = 2 ∨ kind = 5) (h0 : 0 ≤ now) (h1 : now ≤ 1000) :
    Calls Tryz.prog 45 #[.pointer (some ⟨kb, 0, none⟩), .slice none 0 0, .int .i64 kind, .int .i64 now] w fun e w' => e = .returned (.tuple #[(.agg #[.slice none 0 0, .int .i64 0, .int .i64 0, .int .i64 0, .int .i64 0, .int .i64 0, .slice none 0 0, .slice none 0 0, .slice none 0 0, .slice none 0 0, .slice none 0 0, .slice none 0 0, .slice none 0 0]), .bool false]) ∧ KeepOK w' kb cb mb ∧ Keeps (fun k => k = kb) w w' := by
  have hkl := h.lts.1
  have hKI : KI w kb cb mb w.heap.size (w.alloc (.cells #[.slice none 0 0, .int .i64 0, .int .i64 0, .int .i64 0, .int .i64 0, .int .i64 0, .slice none 0 0, .slice none 0 0, .slice none 0 0, .slice none 0 0, .slice none 0 0, .slice none 0 0, .slice none 0 0] 100)) := ⟨h.later (below_alloc _ _), Zf.new w, Keeps.of_below (below_alloc _ _), by omega⟩
  have HK := hid hk
  have hc := hKI.cell
  clear h hk
  go_enter Tryz.func45, Tryz.ntmps45
  go_wp2
  go_region_held3 (fun w' => w'.cell? ⟨kb, 0, none⟩ = some (.pointer (some ⟨cb, 0, none⟩)) ∧ KI w kb cb mb w.heap.size w')
    (first | exact KI.both (by assumption) | exact KI.both (KI.drew (by assumption)) | (exact KI.both (And.right (by assumption))) | exact KI.both (KI.drew (And.right (by assumption))))
    (first
      | (go_at_call 75; (refine (keep_at (KI.ok (w0 := w) (cb := cb) (mb := mb) (b := w.heap.size) (by first | assumption | exact KI.drew (by assumption))) h0 h1).mono ?_; rintro e w2 ⟨t2, rfl, hK2, hk2⟩; have hI2 : KI w kb cb mb w.heap.size w2 := KI.step (by first | assumption | exact KI.drew (by assumption)) hK2 hk2))
      | (go_at_call 74; (refine (KI.get (w0 := w) (kb := kb) (mb := mb) (b := w.heap.size) (by first | assumption | exact KI.drew (by assumption)) HK.out).mono ?_; rintro e w3 ⟨rfl, hb3⟩; have hI3 : KI w kb cb mb w.heap.size w3 := KI.below (by first | assumption | exact KI.drew (by assumption)) hb3; have zz := hI3.z.all)))
  go_wp2
  try simp only [Exit.inBlock, Exit.then]
  refine bodyPost_ret (by simp [results, Tryz.results45, go_sem, zz]; try rfl) rfl ?_
  exact ⟨rfl, hI3.ok, hI3.fr⟩
end Go.Proofs.YtfogkbdcbgpomaaGreat
