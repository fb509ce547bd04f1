/- The key of the empty name. -/
import Derived.Test.YtfogkbdcbgpomaaGreatFresh
import Derived.Lib.Builder
import Derived.Lib.UnsafeStr
set_option linter.unusedSimpArgs false
set_option linter.unusedVariables false
namespace Go.Proofs.YtfogkbdcbgpomaaGreat
open Go.RowKit

set_option maxRecDepth 100000 in
theorem copyCheck_new {w : World} {b : Nat} {v : Value} (h : At w b 212 [.pointer none, v]) :
    Calls Tryz.prog 147 #[.pointer (some ⟨b, 0, none⟩)] w fun e w' => e = .returned (.tuple #[]) ∧ w' = w.setCell ⟨b, 0, none⟩ (.pointer (some ⟨b, 0, none⟩)) := by
  have c0 := h.cell 0 rfl
  have f0 := h.frozen 0
  have hsh : w.shape? b = some (212, 2) := by unfold At at h; simp [World.shape?, h]
  obtain ⟨j, hj, hjs⟩ := Option.map_eq_some_iff.1 (show (Tryz.prog.info? 212).map (·.size) = some 2 by kernel_rfl)
  have HL := hid (show liesAt Tryz.prog Tryz.prog.depth 212 (2 / Tryz.prog.cellsOf 212) 0 212 1 = true by kernel_rfl)
  have HJ := hid hj
  have HS := hid hjs
  have HH := hid hsh
  clear h hj hjs hsh
  go_enter Tryz.func147, Tryz.ntmps147
  go_wp2
  rw [Lib.run_to_unsafe w ⟨b, 0, none⟩ Tryz.underlying210 Tryz.underlying268 HJ.out (by rw [HS.out]; decide) HH.out (Nat.zero_lt_succ 1)]
  simp only [Result.andThen]
  rw [Oper.upon_value]
  go_wp2
  rw [run_callFunc_extern Tryz.func165 (by kernel_rfl) (by kernel_rfl) (by kernel_rfl) (e := Extern.AbiNoEscape.same) (by kernel_rfl)]
  rw [Lib.run_noEscape]
  simp only [Result.andThen]
  rw [Oper.upon_value]
  go_wp2
  rw [Lib.run_from_unsafe w ⟨b, 0, none⟩ Tryz.underlying268 Tryz.underlying210 HJ.out HH.out HL.out]
  simp only [Result.andThen]
  rw [Oper.upon_value]
  go_wp2
  go_end0
  exact ⟨rfl, rfl⟩

set_option maxRecDepth 100000 in
theorem builder_Write {w : World} {b : Nat} {M : Nat → Prop} {v : Value} {l : List Int} (h : At w b 212 [.pointer none, .slice none 0 0]) (hv : Sl (.int .u8) M w v l) (hl : l.length ≤ 1000) (hM : M b) :
    Calls Tryz.prog 120 #[.pointer (some ⟨b, 0, none⟩), v] w fun e w' => (∃ x, e = .returned x) ∧ ∃ v' p, At w' b 212 [p, v'] ∧ Own (.int .u8) w' w.heap.size 5 v' l ∧ Keeps (fun k => k = b) w w' := by
  obtain ⟨a, c, N, rfl, hN⟩ : ∃ a c N, v = .slice a N c ∧ N = l.length := by
    obtain ⟨a, c, h, -⟩ := hv.shape
    exact ⟨a, c, _, h, rfl⟩
  have c1 := h.cell 1 rfl
  have f1 := h.frozen 1
  have hbl := h.lt
  have hk1 : Keeps (fun k => k = b) w (w.setCell ⟨b, 0, none⟩ (.pointer (some ⟨b, 0, none⟩))) := Keeps.setCell _ _ _ rfl
  have HA := hid (h.set 0 (.pointer (some ⟨b, 0, none⟩)))
  have HV := hid (hv.keeps (hk1.mono (fun k _ hk => hk ▸ hM)))
  have HK := hid hk1
  have H := hid h
  have HN := hid hN
  clear h hv hk1 hN
  go_enter Tryz.func120, Tryz.ntmps120
  go_wp2_with (first
    | (go_at_call 147; refine (copyCheck_new H.out).mono ?_; rintro e w2 ⟨rfl, rfl⟩)
    | (at_builtin; (refine wpList_extend rfl _ _ 28 rfl w.heap.size 5 (.int .u8 0) 1 Tryz.underlying28 info_u8' rfl _ ([] : List Int) (w.setCell ⟨b, 0, none⟩ (.pointer (some ⟨b, 0, none⟩))) rfl (Own.nil _ _ _ _) (Below.refl _ _) M _ l rfl HV.out (fun _ => rfl) ?_ (by decide) ?_ ?_; (· simp only [List.length_nil]; omega); (· simp); intro v3 w3 hown3 hb3 hg3 hw3; have HO3 := hid hown3; have HA3 := hid (HA.out.below hb3 hbl); have g1 := HA3.out.cell 1 rfl; have e1 := HA3.out.frozen 1; obtain ⟨a3, c3, N3, rfl, hN3⟩ := hown3.shapeN; clear hown3 hw3 hN3)))
  go_returns
  refine ⟨⟨_, rfl⟩, _, _, HA3.out.set 1 _, ?_, ?_⟩
  · exact (Own.keeps (M := fun k => k = b) (by simpa using HO3.out) (Keeps.setCell _ _ _ rfl) (fun k hk e => by have := HO3.out.lt k hk; omega))
  · exact (HK.out.trans (show Keeps (fun k => k = b) _ w3 from Keeps.of_below (hb3.mono (by simp)))).trans (Keeps.setCell _ _ _ rfl)

/-- Bytes, as numbers. -/
def ints (l : List UInt8) : List Int := l.map fun b => (b.toNat : Int)

set_option maxRecDepth 100000 in
set_option maxHeartbeats 1000000 in
theorem builder_String {w : World} {b B : Nat} {v p : Value} {l : List UInt8} (h : At w b 212 [p, v]) (hown : Own (.int .u8) w B 5 v (ints l)) (h0 : l ≠ []) :
    Calls Tryz.prog 121 #[.pointer (some ⟨b, 0, none⟩)] w fun e w' => (∃ s, e = .returned (.string s)) ∧ Below B w w' := by
  have hl0 : l.length ≠ 0 := by simpa using h0
  have hil : (ints l).length = l.length := by simp [ints]
  have hcells := fun g hg => World.ownsRow.cells hown (g := g) hg
  obtain ⟨g, cap, cur, rfl, hbg, hg, hnc, hcm, hcs, htake⟩ : ∃ g cap cur, v = .slice (some ⟨g, 0, none⟩) l.length cap ∧ B ≤ g ∧ w.heap[g]? = some (.cells cur 5 (0, 0)) ∧ l.length ≤ cap ∧ cap ≤ maxLen ∧ cur.size = cap * 1 ∧ cur.toList.take (l.length * 1) = (ints l).map (.int .u8) := by
    rw [← hil]
    rcases hown.2 with ⟨_, hz⟩ | ⟨g, cap, cur, hv, r⟩
    · rw [hil] at hz; exact absurd hz hl0
    · exact ⟨g, cap, cur, hv, r⟩
  have c1 : w.drew.cell? ⟨b, 1, none⟩ = some (.slice (some ⟨g, 0, none⟩) l.length cap) := h.cell 1 rfl
  have hSD : (Builtin.unsafeSliceData_ #[28] 251 #[.slice (some ⟨g, 0, none⟩) l.length cap]).run Tryz.prog w.drew = .ok (.pointer (some ⟨g, 0, none⟩)) w.drew :=
    Lib.run_unsafeSliceData_row _ _ _ _ _ _ (by omega)
  have hUS : (Builtin.unsafeString_ #[251, 3] 9 #[.pointer (some ⟨g, 0, none⟩), .int .i64 l.length]).run Tryz.prog w.drew = .ok (.string ⟨l.toArray⟩) (w.drew.freeze ⟨g, 0, none⟩ l.length) := by
    refine Lib.run_unsafeString_row w.drew 251 3 9 5 Tryz.underlying251 (by kernel_rfl) g cur.size (by have hg' : w.drew.heap[g]? = some (.cells cur 5 (0, 0)) := hg; simp [World.shape?, hg']) l h0 (by omega) (by unfold maxLen at hcm; omega) ?_
    intro j x hx
    have := hcells g rfl j (.int .u8 x.toNat) (by simp [ints, hx])
    exact this
  clear h hown hcells hg htake
  go_enter Tryz.func121, Tryz.ntmps121
  go_wp2
  go_region
  all_goals (go_wp2; go_ret; exact ⟨⟨_, rfl⟩, Lib.below_freeze (Below.drew (Below.refl B w)) (p := ⟨g, 0, none⟩) hbg _⟩)

set_option maxRecDepth 100000 in
theorem Lower_nil {w : World} : Calls Tryz.prog 117 #[.slice none 0 0] w fun e w' => (∃ a c, e = .returned (.slice a 0 c)) ∧ Below w.heap.size w w' := by
  go_enter Tryz.func117, Tryz.ntmps117
  go_wp2_with (at_make; refine wpList_make_one rfl _ _ 29 rfl 9 (.string ByteArray.empty) 16 Tryz.underlying29 info_str rfl .i64 .i64 _ _ 0 0 rfl rfl rfl rfl (Nat.le_refl _) (by decide) (by decide) ?_; intro w1 hrow1 hsz1 hb1; clear hrow1)
  refine wp_loop_rounds 1 ?_
  rw [rounds_succ]
  go_wp2
  go_ret
  exact ⟨⟨_, _, rfl⟩, hb1⟩

theorem Sl.of_At {α : Type} {enc : α → Value} {M : Nat → Prop} {w : World} {b : Nat} {t : TypeId} {l : List α} (h : At w b t (l.map enc)) (hM : ¬ M b) (hl : l.length ≤ 1000000000) : Sl enc M w (.slice (some ⟨b, 0, none⟩) l.length l.length) l :=
  .inr ⟨b, 0, l.length, rfl, Nat.le_refl _, le_maxLen hl, ⟨h.lt, hM⟩, fun i x hx => by rw [Nat.zero_add]; exact h.cell i hx⟩

def factOf (kind : Int) : Value := .agg #[.slice none 0 0, .int .i64 kind, .int .i64 0, .int .i64 0, .int .i64 0, .int .i64 0, .slice none 0 0, .slice none 0 0, .slice none 0 0, .slice none 0 0, .slice none 0 0, .slice none 0 0, .slice none 0 0]

set_option maxRecDepth 100000 in
set_option maxHeartbeats 2000000 in
theorem fact_Key {w : World} {kind : Int} (hk : kind = 0 ∨ kind = 1 ∨ kind = 2 ∨ kind = 5) :
    Calls Tryz.prog 76 #[.agg #[.slice none 0 0, .int .i64 kind, .int .i64 0, .int .i64 0, .int .i64 0, .int .i64 0, .slice none 0 0, .slice none 0 0, .slice none 0 0, .slice none 0 0, .slice none 0 0, .slice none 0 0, .slice none 0 0]] w fun e w' => (∃ s, e = .returned (.string s)) ∧ Below w.heap.size w w' := by
  have hB1 := below_alloc w (.cells #[.slice none 0 0, .int .i64 kind, .int .i64 0, .int .i64 0, .int .i64 0, .int .i64 0, .slice none 0 0, .slice none 0 0, .slice none 0 0, .slice none 0 0, .slice none 0 0, .slice none 0 0, .slice none 0 0] 100)
  have HF := hid (At.new w [.slice none 0 0, .int .i64 kind, .int .i64 0, .int .i64 0, .int .i64 0, .int .i64 0, .slice none 0 0, .slice none 0 0, .slice none 0 0, .slice none 0 0, .slice none 0 0, .slice none 0 0, .slice none 0 0] 100)
  have HB := hid (At.new (w.alloc (.cells #[.slice none 0 0, .int .i64 kind, .int .i64 0, .int .i64 0, .int .i64 0, .int .i64 0, .slice none 0 0, .slice none 0 0, .slice none 0 0, .slice none 0 0, .slice none 0 0, .slice none 0 0, .slice none 0 0] 100)) [.pointer none, .slice none 0 0] 212)
  have hB2 := hid (hB1.alloc hB1.size (.cells #[.pointer none, .slice none 0 0] 212))
  clear hB1
  go_enter Tryz.func76, Tryz.ntmps76
  go_wp2_with (go_at_call 117; refine Lower_nil.mono ?_; rintro e w2 ⟨⟨a2, c2, rfl⟩, hb2⟩; have HF2 := hid ((HF.out.later (below_alloc _ _)).later hb2); have HB2 := hid (HB.out.later hb2); have g1 := HF2.out.cell 1 rfl; have q1 := HF2.out.lt; have q2 := HB2.out.lt)
  simp only [World.size_alloc] at HB2 q2
  refine wp_loop_rounds 1 ?_
  rw [rounds_succ]
  obtain ⟨l8, hl8, hne⟩ : ∃ l8 : List UInt8, ints l8 = [0, kind / 256, kind] ∧ l8 ≠ [] := by
    rcases hk with rfl | rfl | rfl | rfl
    · exact ⟨[0, 0, 0], by decide, by decide⟩
    · exact ⟨[0, 0, 1], by decide, by decide⟩
    · exact ⟨[0, 0, 2], by decide, by decide⟩
    · exact ⟨[0, 0, 5], by decide, by decide⟩
  have HW := hid (At.new w2 ([0, kind / 256, kind].map (Value.int .u8)) 5)
  have HL := hid hl8
  have HB3 := hid (HB2.out.later (below_alloc w2 (.cells #[.int .u8 0, .int .u8 (kind / 256), .int .u8 kind] 5)))
  have hs2 := hb2.size
  simp only [World.size_alloc] at hs2
  have HS := hid (Sl.of_At (M := fun k => k = w.heap.size + 1) HW.out (by omega) (by simp))
  clear hl8 HB2
  go_wp2_with (first
    | (go_at_call 120; (refine (builder_Write HB3.out HS.out (by simp) rfl).mono ?_; rintro e w3 ⟨⟨x3, rfl⟩, v3, p3, hA3, hO3, hK3⟩; rw [← HL.out] at hO3; have HA3 := hid hA3; have HO3 := hid hO3; clear hA3 hO3))
    | (go_at_call 121; (refine (builder_String HA3.out HO3.out hne).mono ?_; rintro e w4 ⟨⟨s4, rfl⟩, hb4⟩)))
  go_ret
  have hb5 : Below w.heap.size w w2 := hB2.out.trans (hb2.mono (by simp; omega))
  have hb6 : Below w.heap.size w w3 := below_keeps (hb5.alloc (by omega) _) hK3 (by simp; omega) (fun k hk h => by omega)
  exact ⟨⟨_, rfl⟩, hb6.trans (hb4.mono (by simp; omega))⟩
end Go.Proofs.YtfogkbdcbgpomaaGreat
