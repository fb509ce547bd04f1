/- A chase in what knows nothing ends at the name itself. -/
import Derived.Test.YtfogkbdcbgpomaaGreatChase
set_option linter.unusedSimpArgs false
set_option linter.unusedVariables false
namespace Go.Proofs.YtfogkbdcbgpomaaGreat
open Go.RowKit

theorem FinderAt.keeps {w w' : World} {fb kb : Nat} {now : Int} {M : Nat → Prop} (h : FinderAt w fb kb now) (hk : Keeps M w w') (hM : ¬ M fb) : FinderAt w' fb kb now := At.keeps h hk hM

set_option maxRecDepth 100000 in
set_option maxHeartbeats 2000000 in
theorem finder_final {w : World} {fb kb cb mb : Nat} {kind now : Int} (h : KeepOK w kb cb mb) (hF : FinderAt w fb kb now) (hk : kind = 1 ∨ kind = 2 ∨ kind = 5) (h0 : 0 ≤ now) (h1 : now ≤ 1000) (hne : fb ≠ kb) :
    Calls Tryz.prog 47 #[.pointer (some ⟨fb, 0, none⟩), .slice none 0 0, .int .i64 kind] w fun e w' => e = .returned (.bool false) ∧ KeepOK w' kb cb mb ∧ Keeps (fun k => k = kb) w w' := by
  have HG := hid (finder_get h hF hk h0 h1 hne)
  clear h hF hk
  go_enter Tryz.func47, Tryz.ntmps47
  go_wp2_with (go_at_call 48; refine HG.out.mono ?_; rintro e w2 ⟨rfl, hK2, hk2⟩)
  go_ret
  exact ⟨rfl, hK2.later (below_alloc _ _), hk2.trans (Keeps.of_below (below_alloc _ _))⟩

set_option maxRecDepth 100000 in
set_option maxHeartbeats 2000000 in
theorem finder_chase {w : World} {fb kb cb mb : Nat} {now : Int} (h : KeepOK w kb cb mb) (hF : FinderAt w fb kb now) (h0 : 0 ≤ now) (h1 : now ≤ 1000) (hne : fb ≠ kb) :
    Calls Tryz.prog 28 #[.pointer (some ⟨fb, 0, none⟩), .agg #[.slice none 0 0, .int .i64 1, .int .i64 1]] w fun e w' => e = .returned (.tuple #[.slice none 0 0, .int .i64 1]) ∧ KeepOK w' kb cb mb ∧ Keeps (fun k => k = kb) w w' := by
  have hfl := hF.lt
  have hkl := h.lts.1
  have HK := hid h
  have HF := hid hF
  have hB3 : Below w.heap.size w (((w.alloc (.cells #[.slice none 0 0, .int .i64 1, .int .i64 1] 38)).alloc (.cells #[.slice none 0 0] 29)).alloc (.cells #[.slice none 0 0] 29)) := (((below_alloc w _).alloc (by simp) _).alloc (by simp; omega) _)
  have HB := hid hB3
  have HQ := hid (((At.new w [.slice none 0 0, .int .i64 1, .int .i64 1] 38).later (below_alloc _ (.cells #[.slice none 0 0] 29))).later (below_alloc _ (.cells #[.slice none 0 0] 29)))
  have HN := hid ((At.new (w.alloc (.cells #[.slice none 0 0, .int .i64 1, .int .i64 1] 38)) [.slice none 0 0] 29).later (below_alloc _ (.cells #[.slice none 0 0] 29)))
  clear h hF hB3
  go_enter Tryz.func28, Tryz.ntmps28
  go_wp2
  refine wp_loop_rounds 1 ?_
  rw [rounds_succ]
  go_wp2_with (first
    | (go_at_call 47; (refine (finder_final (HK.out.later HB.out) (HF.out.keeps (M := fun _ => False) (Keeps.of_below HB.out) (fun x => x)) (.inl rfl) h0 h1 hne).mono ?_; rintro e w2 ⟨rfl, hK2, hk2⟩; have q2 := hk2.size; have HQ2 := hid (HQ.out.keeps hk2 (by omega)); have HN2 := hid (HN.out.keeps hk2 (by simp; omega)); have HF2 := hid ((HF.out.keeps (M := fun _ => False) (Keeps.of_below HB.out) (fun x => x)).keeps hk2 hne); have n0 := HN2.out.cell 0 rfl; have g1 := HQ2.out.cell 1 rfl; have lN := HN2.out.lt; have lQ := HQ2.out.lt; simp only [World.size_alloc] at n0 lN))
    | (go_at_call 48; (refine (finder_get (by first | exact hK2 | exact hK2.later (below_alloc _ _)) HF2.out (.inr (.inr rfl)) h0 h1 hne).mono ?_; rintro e w3 ⟨rfl, hK3, hk3⟩; have HQ3 := hid (HQ2.out.keeps hk3 (by omega)); have HN3 := hid (HN2.out.keeps hk3 (by simp; omega)); have n0 := HN3.out.cell 0 rfl; have g1 := HQ3.out.cell 1 rfl; have lN := HN3.out.lt; have fN := HN3.out.frozen 0; have lQ := HQ3.out.lt; simp only [World.size_alloc] at n0 lN fN; have sN := setCell_same n0)))
  try simp only [Exit.inBlock, Exit.then]
  refine bodyPost_ret (by simp [results, Tryz.results28, go_sem, n0, lN]; try rfl) rfl ?_
  exact ⟨rfl, hK3.later (below_alloc _ _), (((Keeps.of_below HB.out).trans hk2).trans (by first | exact hk3 | exact (Keeps.of_below (below_alloc _ _)).trans hk3)).trans (Keeps.of_below (below_alloc _ _))⟩
end Go.Proofs.YtfogkbdcbgpomaaGreat
