/- A chase in what knows nothing. -/
import Derived.Test.YtfogkbdcbgpomaaGreatGet2
set_option linter.unusedSimpArgs false
set_option linter.unusedVariables false
namespace Go.Proofs.YtfogkbdcbgpomaaGreat
open Go.RowKit

/-- A finder that has found nothing. -/
def FinderAt (w : World) (fb kb : Nat) (now : Int) : Prop := At w fb 74 [.pointer (some ⟨kb, 0, none⟩), .int .i64 now, .bool false, .int .i64 0, .slice none 0 0, .slice none 0 0, .bool false]

set_option maxRecDepth 100000 in
set_option maxHeartbeats 2000000 in
theorem finder_get {w : World} {fb kb cb mb : Nat} {kind now : Int} (h : KeepOK w kb cb mb) (hF : FinderAt w fb kb now) (hk : kind = 1 ∨ kind = 2 ∨ kind = 5) (h0 : 0 ≤ now) (h1 : now ≤ 1000) (hne : fb ≠ kb) :
    Calls Tryz.prog 48 #[.pointer (some ⟨fb, 0, none⟩), .slice none 0 0, .int .i64 kind] w fun e w' => e = .returned (.tuple #[(.agg #[.slice none 0 0, .int .i64 0, .int .i64 0, .int .i64 0, .int .i64 0, .int .i64 0, .slice none 0 0, .slice none 0 0, .slice none 0 0, .slice none 0 0, .slice none 0 0, .slice none 0 0, .slice none 0 0]), .bool false]) ∧ KeepOK w' kb cb mb ∧ Keeps (fun k => k = kb) w w' := by
  have hkl := h.lts.1
  have hKI : KI w kb cb mb w.heap.size (w.alloc (.cells #[.slice none 0 0, .int .i64 0, .int .i64 0, .int .i64 0, .int .i64 0, .int .i64 0, .slice none 0 0, .slice none 0 0, .slice none 0 0, .slice none 0 0, .slice none 0 0, .slice none 0 0, .slice none 0 0] 100)) := ⟨h.later (below_alloc _ _), Zf.new w, Keeps.of_below (below_alloc _ _), by omega⟩
  have HK := hid hk
  have hfl := hF.lt
  have HX := hid (fun (w' : World) (hI : KI w kb cb mb w.heap.size w') => (show w'.cell? ⟨fb, 0, none⟩ = some (.pointer (some ⟨kb, 0, none⟩)) ∧ w'.cell? ⟨fb, 1, none⟩ = some (.int .i64 now) ∧ KI w kb cb mb w.heap.size w' from
    ⟨(hF.keeps hI.fr hne).cell 0 rfl, (hF.keeps hI.fr hne).cell 1 rfl, hI⟩))
  obtain ⟨c0, c1, -⟩ := HX.out _ hKI
  have c2 := hF.cell 2 rfl
  have HF := hid hF
  have hZ2 : Zf ((w.alloc (.cells #[.slice none 0 0, .int .i64 0, .int .i64 0, .int .i64 0, .int .i64 0, .int .i64 0, .slice none 0 0, .slice none 0 0, .slice none 0 0, .slice none 0 0, .slice none 0 0, .slice none 0 0, .slice none 0 0] 100)).alloc (.cells #[.slice none 0 0, .int .i64 0, .int .i64 0, .int .i64 0, .int .i64 0, .int .i64 0, .slice none 0 0, .slice none 0 0, .slice none 0 0, .slice none 0 0, .slice none 0 0, .slice none 0 0, .slice none 0 0] 100)).drew (w.heap.size + 1) := by
    have := (Zf.new (w.alloc (.cells #[.slice none 0 0, .int .i64 0, .int .i64 0, .int .i64 0, .int .i64 0, .int .i64 0, .slice none 0 0, .slice none 0 0, .slice none 0 0, .slice none 0 0, .slice none 0 0, .slice none 0 0, .slice none 0 0] 100))).later (Below.refl _ _).drew
    simpa using this
  clear h hk hF
  go_enter Tryz.func48, Tryz.ntmps48
  go_wp2
  go_region_held3 (fun w' => w'.cell? ⟨fb, 0, none⟩ = some (.pointer (some ⟨kb, 0, none⟩)) ∧ w'.cell? ⟨fb, 1, none⟩ = some (.int .i64 now) ∧ KI w kb cb mb w.heap.size w')
    (first | exact HX.out _ (by assumption) | exact HX.out _ (KI.drew (by assumption)) | exact HX.out _ (KI.below (by assumption) (below_alloc _ _)) | exact HX.out _ (KI.drew (KI.below (by assumption) (below_alloc _ _))))
    (first
      | (go_at_call 45; (refine (keep_Get (KI.ok (w0 := w) (cb := cb) (mb := mb) (b := w.heap.size) (by first | assumption | exact KI.drew (by assumption) | exact KI.drew (KI.below (by assumption) (below_alloc _ _)))) HK.out h0 h1).mono ?_; rintro e w2 ⟨rfl, hK2, hk2⟩; have hI2 : KI w kb cb mb w.heap.size w2 := KI.step (by first | assumption | exact KI.drew (by assumption) | exact KI.drew (KI.below (by assumption) (below_alloc _ _))) hK2 hk2)); first | ((have zz := (Zf.keeps hZ2 hk2 (by omega)).all)) | skip)
  all_goals
    have hff := HF.out.keeps hI2.fr hne
    have e2 := hff.cell 2 rfl
    have l2 := hff.lt
    have z6 := hI2.z.all
    have l6 := At.lt hI2.z
    clear hff
    go_wp2
    try simp only [Exit.inBlock, Exit.then]
    refine bodyPost_ret (by simp [results, Tryz.results48, go_sem, z6, l6]; try rfl) rfl ?_
  · exact ⟨rfl, hI2.ok.later (below_alloc _ _), hI2.fr.trans (Keeps.of_below (below_alloc _ _))⟩
  · exact ⟨rfl, hI2.ok, hI2.fr⟩
end Go.Proofs.YtfogkbdcbgpomaaGreat
