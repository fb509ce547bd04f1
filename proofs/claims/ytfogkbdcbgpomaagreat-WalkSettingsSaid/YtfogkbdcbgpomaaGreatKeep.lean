/- A keep on a new device: nothing is known. -/
import Derived.Test.YtfogkbdcbgpomaaGreatSave
import Derived.Test.YtfogkbdcbgpomaaGreatBlank
import Derived.Carry
set_option linter.unusedSimpArgs false
set_option linter.unusedVariables false
namespace Go.Proofs.YtfogkbdcbgpomaaGreat
open Go.RowKit

theorem ttl_Time {w : World} {t : Int} : Calls Tryz.prog 25 #[.int .i64 t] w fun e w' => e = .returned (.bool (decide (0 ≤ t ∧ t ≤ 36028797018963968))) ∧ w = w' := by
  go_enter Tryz.func25, Tryz.ntmps25
  by_cases h1 : 0 ≤ t
  · by_cases h2 : t ≤ 36028797018963968
    · go_wp2
      go_ret
      exact ⟨ret_bool (by simp [h1, h2]), rfl⟩
    · go_wp2
      go_ret
      exact ⟨ret_bool (by simp [h1, h2]), rfl⟩
  · go_wp2
    go_ret
    exact ⟨ret_bool (by simp; omega), rfl⟩

theorem ttl_Time_ok {w : World} {t : Int} (h0 : 0 ≤ t) (h1 : t ≤ 36028797018963968) : Calls Tryz.prog 25 #[.int .i64 t] w fun e w' => e = .returned (.bool true) ∧ w = w' := by
  have := ttl_Time (w := w) (t := t)
  rwa [decide_eq_true (And.intro h0 h1)] at this
theorem keeps_set5at {M : Nat → Prop} (w : World) (b : Nat) (hb : M b) (o0 o1 o2 o3 o4 : Nat) (y0 y1 y2 y3 y4 : Value) :
    Keeps M w (((((w.setCell ⟨b, o0, none⟩ y0).setCell ⟨b, o1, none⟩ y1).setCell ⟨b, o2, none⟩ y2).setCell ⟨b, o3, none⟩ y3).setCell ⟨b, o4, none⟩ y4) :=
  ((((Keeps.setCell w ⟨b, o0, none⟩ y0 hb).trans (Keeps.setCell _ ⟨b, o1, none⟩ y1 hb)).trans (Keeps.setCell _ ⟨b, o2, none⟩ y2 hb)).trans (Keeps.setCell _ ⟨b, o3, none⟩ y3 hb)).trans (Keeps.setCell _ ⟨b, o4, none⟩ y4 hb)
/-- A cache in which nothing is. -/
structure Cache0 (w : World) (cb mb most stale : Nat) : Prop where
  at_ : At w cb 131 [.int .i64 most, .int .i64 stale, .map (some mb), .int .i64 0]
  items : ∃ n, w.heap[mb]? = some (.map #[] n)
  ne : cb ≠ mb

set_option maxRecDepth 100000 in
theorem cache_New {w : World} {most stale : Nat} (h1 : 1 ≤ most) (h2 : most ≤ 4096) (h3 : stale ≤ 100000) :
    Calls Tryz.prog 32 #[.int .i64 most, .int .i64 stale] w fun e w' => ∃ cb mb, e = .returned (.tuple #[.pointer (some ⟨cb, 0, none⟩), .int .i64 0]) ∧ Cache0 w' cb mb most stale ∧ w.heap.size ≤ cb ∧ w.heap.size ≤ mb ∧ Below w.heap.size w w' := by
  go_enter Tryz.func32, Tryz.ntmps32
  have hm := fun w => run_makeMap (P := Tryz.prog) 129 w
  go_wp2_with (go_at_call 25; refine (ttl_Time_ok (by omega) (by omega)).mono ?_; rintro e w2 ⟨rfl, rfl⟩)
  go_returns
  refine ⟨w.heap.size + 1, w.heap.size, by rfl, ⟨?_, ⟨0, ?_⟩, by omega⟩, by omega, Nat.le_refl _, (below_alloc w _).alloc (by simp) _⟩
  · simpa using At.new (w.alloc (.map #[] 0)) [.int .i64 most, .int .i64 stale, .map (some w.heap.size), .int .i64 0] 131
  · rw [heap_alloc_old _ _ (by simp)]
    exact heap_alloc_new w _

set_option maxRecDepth 100000 in
set_option maxHeartbeats 1000000 in
theorem seglog_Open {w : World} {db sb n : Nat} (h : Dev w db sb n) (h4 : 4 ≤ n) (hn : n ≤ 4096) :
    Calls Tryz.prog 33 #[.pointer (some ⟨db, 0, none⟩)] w fun e w' => ∃ lb, e = .returned (.tuple #[.pointer (some ⟨lb, 0, none⟩), .int .i64 0]) ∧ DevW w' db sb n (.slice none 0 0) ∧ Keeps (fun k => k = db ∨ k = sb) w w' ∧ w.heap.size ≤ lb ∧
      At w' lb 136 [.pointer (some ⟨db, 0, none⟩), .int .i64 0, .int .i64 1, .int .i64 0, .int .i64 0, .int .i64 0, .slice none 0 0, .int .i64 0, .bool false] := by
  have HD := hid h
  have hdl := h.dev.lt
  have hsl := h.lt
  clear h
  have HA := hid (At.new w [.pointer (some ⟨db, 0, none⟩), .int .i64 0, .int .i64 0, .int .i64 0, .int .i64 0, .int .i64 0, .slice none 0 0, .int .i64 0, .bool false] 136)
  go_enter Tryz.func33, Tryz.ntmps33
  go_wp2_with (first
    | (go_at_call 34; refine (dev_Len HD.out).mono ?_; rintro e w2 ⟨rfl, rfl⟩)
    | (go_at_call 59; refine (dev_Down HD.out).mono ?_; rintro e w2 ⟨rfl, rfl⟩)
    | (go_at_call 60; (refine (super_Load (HD.out.later (below_alloc _ _)) (by omega)).mono ?_; rintro e w3 ⟨rfl, hb3⟩))
    | (go_at_call 61; (refine (seglog_blank ((HD.out.later (below_alloc _ _)).later (hb3.alloc hb3.size _)) hn).mono ?_; rintro e w4 ⟨rfl, hb4⟩; have hq3 := hb3.size; have hq4 := hb4.size; have HA4 := hid (((HA.out.later hb3).later (below_alloc _ _)).later hb4); have hal := HA4.out.lt; have HD4 := hid (((HD.out.later (below_alloc _ _)).later (hb3.alloc hb3.size _)).later hb4); have g0 := HA4.out.cell 0 rfl; have r0 := HA4.out.frozen 0; have g1 := HA4.out.cell 1 rfl; have r1 := HA4.out.frozen 1; have g2 := HA4.out.cell 2 rfl; have r2 := HA4.out.frozen 2; have g3 := HA4.out.cell 3 rfl; have r3 := HA4.out.frozen 3; have g4 := HA4.out.cell 4 rfl; have r4 := HA4.out.frozen 4; have g5 := HA4.out.cell 5 rfl; have r5 := HA4.out.frozen 5; simp only [World.size_alloc] at hq3 hq4; have HD5 := hid (HD4.out.keeps (keeps_set5at (M := fun k => k = w.heap.size) w4 w.heap.size rfl 1 2 3 4 5 (.int .i64 0) (.int .i64 1) (.int .i64 0) (.int .i64 0) (.int .i64 0)) (by omega) (by omega)); have HA5 := hid (((((HA4.out.set 1 (.int .i64 0)).set 2 (.int .i64 1)).set 3 (.int .i64 0)).set 4 (.int .i64 0)).set 5 (.int .i64 0)); have HK5 := hid (keeps_set5at (M := fun k => k = db ∨ k = sb ∨ k = w.heap.size) w4 w.heap.size (.inr (.inr rfl)) 1 2 3 4 5 (.int .i64 0) (.int .i64 1) (.int .i64 0) (.int .i64 0) (.int .i64 0))))
    | (go_at_call 63; (refine (super_Save HD5.out (by omega) hn).mono ?_; rintro e w5 ⟨rfl, hD5, hk5⟩)))
  go_returns
  refine ⟨w.heap.size, by rfl, hD5, ?_, Nat.le_refl _, HA5.out.keeps hk5 (fun e => by omega)⟩
  have hb34 : Below w.heap.size w w4 := (((below_alloc w _).trans (hb3.mono (by simp))).alloc (by omega) _).trans (hb4.mono (by simp; omega))
  have hk : Keeps (fun k => k = db ∨ k = sb ∨ k = w.heap.size) w w5 := ((Keeps.of_below hb34).trans HK5.out).trans (hk5.mono (fun k _ hk => hk.imp id .inl))
  exact hk.mono (fun k hk h => by
    rcases h with h | h | h
    · exact .inl h
    · exact .inr h
    · omega)
end Go.Proofs.YtfogkbdcbgpomaaGreat
