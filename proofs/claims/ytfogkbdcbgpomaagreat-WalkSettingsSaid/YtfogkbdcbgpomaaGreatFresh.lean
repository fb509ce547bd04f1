/- keep.Open on a new device, and the law's fresh. -/
import Derived.Test.YtfogkbdcbgpomaaGreatKeep
set_option linter.unusedSimpArgs false
set_option linter.unusedVariables false
namespace Go.Proofs.YtfogkbdcbgpomaaGreat
open Go.RowKit

/-- What lies below B is kept by a call that changes other blocks alone. -/
theorem below_keeps {B : Nat} {w w2 w3 : World} {M : Nat → Prop} (hb : Below B w w2) (hk : Keeps M w2 w3) (hB : B ≤ w2.heap.size) (hM : ∀ k, k < B → ¬ M k) : Below B w w3 :=
  ⟨hk.os.trans hb.os, hk.tape.trans hb.tape, hk.output.trans hb.output, Nat.le_trans hb.size hk.size, fun k h => (hk.block k (Nat.lt_of_lt_of_le h hB) (hM k h)).trans (hb.block k h)⟩
theorem log_First {w : World} {lb : Nat} {x0 x1 x2 x4 x5 x6 x7 x8 : Value} {n : Int} (h : At w lb 136 [x0, x1, x2, .int .i64 n, x4, x5, x6, x7, x8]) :
    Calls Tryz.prog 35 #[.pointer (some ⟨lb, 0, none⟩)] w fun e w' => e = .returned (.int .i64 n) ∧ w = w' := by
  have c := h.cell 3 rfl
  go_enter Tryz.func35, Tryz.ntmps35
  go_wp2
  go_ret
  exact ⟨rfl, rfl⟩

set_option maxRecDepth 100000 in
theorem log_Next {w : World} {lb : Nat} {x0 x1 x2 x4 x5 x7 x8 : Value} (h : At w lb 136 [x0, x1, x2, .int .i64 0, x4, x5, .slice none 0 0, x7, x8]) :
    Calls Tryz.prog 36 #[.pointer (some ⟨lb, 0, none⟩)] w fun e w' => e = .returned (.int .i64 0) ∧ ∃ n, w' = w.drewN n := by
  have c := h.cell 3 rfl
  have c6 := h.cell 6 rfl
  go_enter Tryz.func36, Tryz.ntmps36
  go_wp2
  go_region
  go_wp2
  go_ret
  exact ⟨rfl, 1, rfl⟩

theorem dev_Len' {w : World} {db sb n : Nat} {u : Value} (h : DevW w db sb n u) : Calls Tryz.prog 34 #[.pointer (some ⟨db, 0, none⟩)] w fun e w' => e = .returned (.int .i64 n) ∧ w = w' := by
  have h0 := h.dev.cell 0 rfl
  go_enter Tryz.func34, Tryz.ntmps34
  go_wp2
  go_ret
  exact ⟨rfl, rfl⟩

theorem Cache0.keeps {w w' : World} {cb mb most stale : Nat} {M : Nat → Prop} (h : Cache0 w cb mb most stale) (hk : Keeps M w w') (h1 : ¬ M cb) (h2 : ¬ M mb) : Cache0 w' cb mb most stale :=
  ⟨h.at_.keeps hk h1, h.items.imp (fun n hn => by rw [hk.block mb (Array.getElem?_eq_some_iff.1 hn).1 h2]; exact hn), h.ne⟩
theorem Cache0.mlt {w : World} {cb mb most stale : Nat} (h : Cache0 w cb mb most stale) : mb < w.heap.size := by obtain ⟨n, hn⟩ := h.items; exact (Array.getElem?_eq_some_iff.1 hn).1
theorem Cache0.later {w w' : World} {cb mb most stale : Nat} (h : Cache0 w cb mb most stale) (hb : Below w.heap.size w w') : Cache0 w' cb mb most stale := h.keeps (M := fun _ => False) (Keeps.of_below hb) (fun x => x) (fun x => x)

/-- A keep that knows nothing; its time is t. -/
structure Keep0 (w : World) (kb cb mb most stale : Nat) (t : Int) : Prop where
  at_ : ∃ lb pl x4, At w kb 92 [.pointer (some ⟨cb, 0, none⟩), .pointer (some ⟨lb, 0, none⟩), pl, .int .i64 t, x4, .bool false, .bool false]
  cache : Cache0 w cb mb most stale
  nc : kb ≠ cb
  nm : kb ≠ mb
theorem Keep0.keeps {w w' : World} {kb cb mb most stale : Nat} {t : Int} {M : Nat → Prop} (h : Keep0 w kb cb mb most stale t) (hk : Keeps M w w') (h1 : ¬ M kb) (h2 : ¬ M cb) (h3 : ¬ M mb) : Keep0 w' kb cb mb most stale t := by
  obtain ⟨lb, pl, x4, h4⟩ := h.at_
  exact ⟨⟨lb, pl, x4, h4.keeps hk h1⟩, h.cache.keeps hk h2 h3, h.nc, h.nm⟩
theorem Keep0.later {w w' : World} {kb cb mb most stale : Nat} {t : Int} (h : Keep0 w kb cb mb most stale t) (hb : Below w.heap.size w w') : Keep0 w' kb cb mb most stale t := h.keeps (M := fun _ => False) (Keeps.of_below hb) (fun x => x) (fun x => x) (fun x => x)

set_option maxRecDepth 100000 in
set_option maxHeartbeats 1000000 in
theorem keep_Open {w : World} {db sb n most stale : Nat} (h : Dev w db sb n) (h4 : 4 ≤ n) (hn : n ≤ 4096) (h1 : 1 ≤ most) (h2 : most ≤ 4096) (h3 : stale ≤ 100000) :
    Calls Tryz.prog 18 #[.pointer (some ⟨db, 0, none⟩), .int .i64 most, .int .i64 stale] w fun e w' => ∃ kb cb mb, e = .returned (.tuple #[.pointer (some ⟨kb, 0, none⟩), .int .i64 0]) ∧ Keep0 w' kb cb mb most stale 0 ∧ w.heap.size ≤ kb ∧ w.heap.size ≤ cb ∧ w.heap.size ≤ mb ∧ Keeps (fun k => k = db ∨ k = sb) w w' := by
  have HD := hid h
  have hdl := h.dev.lt
  have hsl := h.lt
  clear h
  go_enter Tryz.func18, Tryz.ntmps18
  go_wp2_with (first
    | (go_at_call 32; refine (cache_New h1 h2 h3).mono ?_; rintro e w2 ⟨cb, mb, rfl, hC, hcb, hmb, hb2⟩; have HC := hid hC; have HD2 := hid (HD.out.later hb2); have hs2 := hb2.size; clear hC)
    | (go_at_call 33; refine (seglog_Open HD2.out h4 hn).mono ?_; rintro e w3 ⟨lb, rfl, hD3, hk3, hlb, hL3⟩; have HD3 := hid hD3; have HL3 := hid hL3; have hs3 := hk3.size; have HC3 := hid (HC.out.keeps hk3 (by omega) (by omega)); have HL4 := hid (show At (w3.alloc (.cells #[.pointer (some ⟨cb, 0, none⟩), .pointer (some ⟨lb, 0, none⟩), .int .i64 ((n : Int) - 2), .int .i64 0, .int .i64 0, .bool false, .bool false] 92)) lb 136 _ from hL3.later (below_alloc _ _)); clear hD3 hL3)
    | (go_at_call 34; refine (dev_Len' HD3.out).mono ?_; rintro e w4 ⟨rfl, rfl⟩)
    | (go_at_call 35; (refine (log_First HL4.out).mono ?_; rintro e w4 ⟨rfl, rfl⟩)))
  refine wp_loop_rounds 1 ?_
  rw [rounds_succ]
  go_wp2_with (go_at_call 36; refine (log_Next HL4.out).mono ?_; rintro e w5 ⟨rfl, nq, rfl⟩)
  go_returns
  have hcl := HC.out.at_.lt
  have hml := HC.out.mlt
  have hK : Keep0 (w3.alloc (.cells #[.pointer (some ⟨cb, 0, none⟩), .pointer (some ⟨lb, 0, none⟩), .int .i64 ((n : Int) - 2), .int .i64 0, .int .i64 0, .bool false, .bool false] 92)) w3.heap.size cb mb most stale 0 :=
    ⟨⟨lb, _, _, At.new w3 [.pointer (some ⟨cb, 0, none⟩), .pointer (some ⟨lb, 0, none⟩), .int .i64 ((n : Int) - 2), .int .i64 0, .int .i64 0, .bool false, .bool false] 92⟩, HC3.out.later (below_alloc _ _), by omega, by omega⟩
  refine ⟨w3.heap.size, cb, mb, by rfl, hK.keeps (M := fun _ => False) ((Keeps.refl _ _).drewN nq) (fun x => x) (fun x => x) (fun x => x), by omega, hcb, hmb, ?_⟩
  exact (((Keeps.of_below hb2).trans hk3).alloc _).drewN nq

theorem law_fresh {w : World} {n : Nat} (h4 : 4 ≤ n) (hn : n ≤ 4096) :
    Calls Tryz.prog 8 #[.int .i64 n] w fun e w' => ∃ kb cb mb, e = .returned (.pointer (some ⟨kb, 0, none⟩)) ∧ Keep0 w' kb cb mb 500 1000 0 ∧ w.heap.size ≤ kb ∧ w.heap.size ≤ cb ∧ w.heap.size ≤ mb ∧ Below w.heap.size w w' := by
  go_enter Tryz.func8, Tryz.ntmps8
  go_wp2_with (first
    | (go_at_call 17; refine (flash_New (by omega) hn).mono ?_; rintro e w2 ⟨db, sb, rfl, hD, hdb, hsb, hb2⟩; have hs2 := hb2.size; have HD := hid hD; clear hD)
    | (go_at_call 18; refine (keep_Open (most := 500) (stale := 1000) HD.out h4 hn (by decide) (by decide) (by decide)).mono ?_; rintro e w3 ⟨kb, cb, mb, rfl, hK, hkb, hcb, hmb, hk3⟩))
  go_ret
  exact ⟨kb, cb, mb, rfl, hK, by omega, by omega, by omega, below_keeps hb2 hk3 hs2 (fun k hk h => by rcases h with h | h <;> omega)⟩
end Go.Proofs.YtfogkbdcbgpomaaGreat
