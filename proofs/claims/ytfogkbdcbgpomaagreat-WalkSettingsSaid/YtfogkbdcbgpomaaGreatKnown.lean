/- walk.Known, fine, look on a keep that knows nothing. -/
import Derived.Test.YtfogkbdcbgpomaaGreatChase2
import Derived.Test.YtfogkbdcbgpomaaGreatSound2
set_option linter.unusedSimpArgs false
set_option linter.unusedVariables false
namespace Go.Proofs.YtfogkbdcbgpomaaGreat
open Go.RowKit

theorem Sound_nil {w : World} : Calls Tryz.prog 23 #[.slice none 0 0] w fun e w' => e = .returned (.bool true) ∧ w = w' :=
  name_Sound (M := fun _ => False) (l := []) (Sl.sw (.inl ⟨rfl, rfl⟩)) (by simp)

set_option maxRecDepth 100000 in
theorem walk_fine {w : World} : Calls Tryz.prog 13 #[.agg #[.slice none 0 0, .int .i64 1, .int .i64 1]] w fun e w' => e = .returned (.bool true) ∧ Below w.heap.size w w' := by
  go_enter Tryz.func13, Tryz.ntmps13
  go_wp2_with (first
    | (go_at_call 23; refine Sound_nil.mono ?_; rintro e w2 ⟨rfl, rfl⟩)
    | (go_at_call 30; refine (fact_Typed (.inl rfl)).mono ?_; rintro e w2 ⟨rfl, rfl⟩))
  go_ret
  exact ⟨rfl, below_alloc _ _⟩

set_option maxRecDepth 100000 in
set_option maxHeartbeats 2000000 in
theorem walk_Known {w : World} {kb cb mb : Nat} {now : Int} (h : KeepOK w kb cb mb) (h0 : 0 ≤ now) (h1 : now ≤ 1000) :
    Calls Tryz.prog 31 #[.pointer (some ⟨kb, 0, none⟩), .agg #[.slice none 0 0, .int .i64 1, .int .i64 1], .int .i64 now, .bool false] w fun e w' =>
      e = .returned (.tuple #[.agg #[.int .i64 0, .slice none 0 0, .slice none 0 0, .bool false], .bool false]) ∧ KeepOK w' kb cb mb ∧ Keeps (fun k => k = kb) w w' := by
  obtain ⟨hkl, hcl, hml, -, -, -⟩ := h.lts
  have HK := hid h
  have hQ := At.new w [.slice none 0 0, .int .i64 1, .int .i64 1] 38
  have hB1 := below_alloc w (.cells #[.slice none 0 0, .int .i64 1, .int .i64 1] 38)
  have hR := At.new (w.alloc (.cells #[.slice none 0 0, .int .i64 1, .int .i64 1] 38)) [.int .i64 0, .slice none 0 0, .slice none 0 0, .bool false] 58
  have hB2 := hB1.alloc (by simp) (.cells #[.int .i64 0, .slice none 0 0, .slice none 0 0, .bool false] 58)
  have HQ := hid (hQ.later (below_alloc _ (.cells #[.int .i64 0, .slice none 0 0, .slice none 0 0, .bool false] 58)))
  have HR := hid hR
  have HB := hid hB2
  clear h hQ hR hB1 hB2
  go_enter Tryz.func31, Tryz.ntmps31
  go_wp2_with (first
    | (go_at_call 13; refine walk_fine.mono ?_; rintro e w2 ⟨rfl, hb2⟩; have HK2 := hid ((HK.out.later HB.out).later hb2); have HQ2 := hid (HQ.out.later hb2); have HR2 := hid (HR.out.later hb2); have hs2 := hb2.size; simp only [World.size_alloc] at hs2 HR2; have q0 := HQ2.out.cell 0 rfl; have q1 := HQ2.out.cell 1 rfl; have q2 := HQ2.out.cell 2 rfl; have lQ := HQ2.out.lt; have lR := HR2.out.lt; have r0 := HR2.out.cell 0 rfl)
    | (go_at_call 58; refine (keep_Now HK2.out).mono ?_; rintro e w3 ⟨t, t0, t1, rfl, rfl⟩)
    | (go_at_call 28; (refine (finder_chase (cb := cb) (mb := mb) (HK2.out.later (below_alloc _ _)) (At.new _ [.pointer (some ⟨kb, 0, none⟩), .int .i64 _, .bool false, .int .i64 0, .slice none 0 0, .slice none 0 0, .bool false] 74) (by first | exact t0 | exact h0) (by first | exact t1 | exact h1) (by omega)).mono ?_; rintro e w4 ⟨rfl, hK4, hk4⟩; have HR4 := hid ((HR2.out.later (below_alloc _ _)).keeps hk4 (by omega)); have z0 := HR4.out.cell 0 rfl; have z1 := HR4.out.cell 1 rfl; have z2 := HR4.out.cell 2 rfl; have z3 := HR4.out.cell 3 rfl; have f0 := HR4.out.frozen 0; have f1 := HR4.out.frozen 1; have f2 := HR4.out.frozen 2; have f3 := HR4.out.frozen 3; have y0 := setCell_same z0; have y1 := setCell_same z1; have y2 := setCell_same z2; have y3 := setCell_same z3)))
  all_goals
    try simp only [Exit.inBlock, Exit.then]
    refine bodyPost_ret (by simp [results, Tryz.results31, go_sem, z0, z1, z2, z3]; try rfl) rfl ?_
    exact ⟨rfl, hK4, ((((Keeps.of_below HB.out).trans (Keeps.of_below hb2)).trans (Keeps.of_below (below_alloc _ _))).trans hk4)⟩

/-- What look keeps. -/
structure LI (w0 : World) (kb cb mb : Nat) (w : World) : Prop where
  ok : KeepOK w kb cb mb
  fr : Keeps (fun k => k = kb) w0 w
theorem LI.below {w0 w w' : World} {kb cb mb : Nat} (h : LI w0 kb cb mb w) (hb : Below w.heap.size w w') : LI w0 kb cb mb w' := ⟨h.ok.later hb, h.fr.trans (Keeps.of_below hb)⟩
theorem LI.drew {w0 w : World} {kb cb mb : Nat} (h : LI w0 kb cb mb w) : LI w0 kb cb mb w.drew := h.below (Below.refl _ _).drew
theorem LI.step {w0 w w' : World} {kb cb mb : Nat} (h : LI w0 kb cb mb w) (h1 : KeepOK w' kb cb mb) (h2 : Keeps (fun k => k = kb) w w') : LI w0 kb cb mb w' := ⟨h1, h.fr.trans h2⟩

/-- A walk whose question is the root's address. -/
def WalkAt (w : World) (wb kb : Nat) (ss : List Value) (bg sends goals tried dead out an ak zone sent done r0 r1 r2 r3 : Value) : Prop :=
  ∃ s0 s1 s2 s3 s4 s5 s6 s7 : Value, ss = [s0, s1, s2, s3, s4, s5, s6, s7] ∧ At w wb 60 [.pointer (some ⟨kb, 0, none⟩), s0, s1, s2, s3, s4, s5, s6, s7, .slice none 0 0, .int .i64 1, .int .i64 1, bg, sends, goals, tried, dead, out, an, ak, zone, sent, done, r0, r1, r2, r3]

set_option maxRecDepth 100000 in
set_option maxHeartbeats 2000000 in
theorem walk_look {w : World} {wb kb cb mb : Nat} {now : Int} {ss : List Value} {bg sends goals tried dead out an ak zone sent r0 r1 r2 r3 : Value} (h : KeepOK w kb cb mb) (hW : WalkAt w wb kb ss bg sends goals tried dead out an ak zone sent (.bool false) r0 r1 r2 r3) (h0 : 0 ≤ now) (h1 : now ≤ 1000) (hne : wb ≠ kb) :
    Calls Tryz.prog 16 #[.pointer (some ⟨wb, 0, none⟩), .int .i64 now] w fun e w' => e = .returned (.tuple #[]) ∧ KeepOK w' kb cb mb ∧ Keeps (fun k => k = kb) w w' := by
  obtain ⟨s0, s1, s2, s3, s4, s5, s6, s7, rfl, hA⟩ := hW
  obtain ⟨hkl, -⟩ := h.lts
  have hLI : LI w kb cb mb w := ⟨h, Keeps.refl _ _⟩
  have HX := hid (fun (w' : World) (hI : LI w kb cb mb w') => (show w'.cell? ⟨wb, 0, none⟩ = some (.pointer (some ⟨kb, 0, none⟩)) ∧ w'.cell? ⟨wb, 9, none⟩ = some (.slice none 0 0) ∧ w'.cell? ⟨wb, 10, none⟩ = some (.int .i64 1) ∧ w'.cell? ⟨wb, 11, none⟩ = some (.int .i64 1) ∧ LI w kb cb mb w' from
    ⟨(hA.keeps hI.fr hne).cell 0 rfl, (hA.keeps hI.fr hne).cell 9 rfl, (hA.keeps hI.fr hne).cell 10 rfl, (hA.keeps hI.fr hne).cell 11 rfl, hI⟩))
  obtain ⟨c0, c9, c10, c11, -⟩ := HX.out _ hLI
  have HA := hid hA
  have hZ2 : At (w.alloc (.cells #[.int .i64 0, .slice none 0 0, .slice none 0 0, .bool false] 58)).drew w.heap.size 58 [.int .i64 0, .slice none 0 0, .slice none 0 0, .bool false] :=
    (At.new w [.int .i64 0, .slice none 0 0, .slice none 0 0, .bool false] 58).later (Below.refl _ _).drew
  have HZ := hid hZ2
  clear h hA hZ2
  go_enter Tryz.func16, Tryz.ntmps16
  go_wp2
  go_region_held3 (fun w' => w'.cell? ⟨wb, 0, none⟩ = some (.pointer (some ⟨kb, 0, none⟩)) ∧ w'.cell? ⟨wb, 9, none⟩ = some (.slice none 0 0) ∧ w'.cell? ⟨wb, 10, none⟩ = some (.int .i64 1) ∧ w'.cell? ⟨wb, 11, none⟩ = some (.int .i64 1) ∧ LI w kb cb mb w')
    (first | exact HX.out _ (by assumption) | exact HX.out _ (LI.drew (by assumption)) | exact HX.out _ (LI.below (by assumption) (below_alloc _ _)) | exact HX.out _ (LI.drew (LI.below (by assumption) (below_alloc _ _))))
    (first
      | (go_at_call 31; (refine (walk_Known (LI.ok (w0 := w) (cb := cb) (mb := mb) (by first | assumption | exact LI.drew (by assumption) | exact LI.drew (LI.below (by assumption) (below_alloc _ _)))) h0 h1).mono ?_; rintro e w2 ⟨rfl, hK2, hk2⟩; have hI2 : LI w kb cb mb w2 := LI.step (by first | assumption | exact LI.drew (by assumption) | exact LI.drew (LI.below (by assumption) (below_alloc _ _))) hK2 hk2); first | ((have hZ3 := At.keeps HZ.out hk2 (by omega); have z0 := hZ3.cell 0 rfl; have z1 := hZ3.cell 1 rfl; have z2 := hZ3.cell 2 rfl; have z3 := hZ3.cell 3 rfl; have f0 := hZ3.frozen 0; have f1 := hZ3.frozen 1; have f2 := hZ3.frozen 2; have f3 := hZ3.frozen 3; have y0 := setCell_same z0; have y1 := setCell_same z1; have y2 := setCell_same z2; have y3 := setCell_same z3; have HZ3 := hid hZ3; clear hZ3)) | skip))
  · go_wp2
    refine bodyPost_end (results_none rfl _ _ _) rfl ?_
    exact ⟨rfl, hI2.ok.later (below_alloc _ _), hI2.fr.trans (Keeps.of_below (below_alloc _ _))⟩
  · go_wp2
    refine bodyPost_end (results_none rfl _ _ _) rfl ?_
    exact ⟨rfl, hI2.ok, hI2.fr⟩
end Go.Proofs.YtfogkbdcbgpomaaGreat
