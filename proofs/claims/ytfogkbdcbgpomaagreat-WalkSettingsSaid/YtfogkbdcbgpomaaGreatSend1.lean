/- The datagram of a question. -/
import Derived.Test.YtfogkbdcbgpomaaGreatMsg3
set_option linter.unusedSimpArgs false
set_option linter.unusedVariables false
namespace Go.Proofs.YtfogkbdcbgpomaaGreat
open Go.RowKit

theorem keeps_set3 {M : Nat → Prop} (w : World) (b : Nat) (hb : M b) (x y z : Value) : Keeps M w (((w.setCell ⟨b, 0, none⟩ x).setCell ⟨b, 1, none⟩ y).setCell ⟨b, 2, none⟩ z) :=
  ((Keeps.setCell w ⟨b, 0, none⟩ x hb).trans (Keeps.setCell _ ⟨b, 1, none⟩ y hb)).trans (Keeps.setCell _ ⟨b, 2, none⟩ z hb)

/-- What Query keeps. -/
structure SI (w0 : World) (v : Value) (l : List Int) (port id : Int) (w : World) : Prop where
  o : At w w0.heap.size 177 [v, .int .i64 port, .int .i64 id, .slice none 0 0, .int .i64 1, .int .i64 1]
  d : ∃ d0 d1 d2, At w (w0.heap.size + 1) 42 [d0, d1, d2]
  sl : Sl (.int .u8) (fun k => w0.heap.size ≤ k) w v l
  fr : Below w0.heap.size w0 w
section
variable {w0 w w' : World} {v : Value} {l : List Int} {port id : Int}
theorem SI.below (h : SI w0 v l port id w) (hb : Below w.heap.size w w') : SI w0 v l port id w' := ⟨h.o.later hb, by obtain ⟨d0, d1, d2, hd⟩ := h.d; exact ⟨d0, d1, d2, hd.later hb⟩, h.sl.below hb, h.fr.trans (hb.mono h.fr.size)⟩
theorem SI.set (h : SI w0 v l port id w) (x y z : Value) : SI w0 v l port id (((w.setCell ⟨w0.heap.size + 1, 0, none⟩ x).setCell ⟨w0.heap.size + 1, 1, none⟩ y).setCell ⟨w0.heap.size + 1, 2, none⟩ z) := by
  have hk : Keeps (fun k => k = w0.heap.size + 1) w (((w.setCell ⟨w0.heap.size + 1, 0, none⟩ x).setCell ⟨w0.heap.size + 1, 1, none⟩ y).setCell ⟨w0.heap.size + 1, 2, none⟩ z) := keeps_set3 (M := fun k => k = w0.heap.size + 1) _ _ rfl _ _ _
  obtain ⟨d0, d1, d2, hd⟩ := h.d
  exact ⟨h.o.keeps hk (by omega), ⟨_, _, _, ((hd.set 0 x).set 1 y).set 2 z⟩, h.sl.keeps (hk.mono (fun k _ e => by omega)), ((h.fr.setCell (by simp) _).setCell (by simp) _).setCell (by simp) _⟩
theorem SI.drew (h : SI w0 v l port id w) : SI w0 v l port id w.drew := h.below (Below.refl _ _).drew
theorem SI.all (h : SI w0 v l port id w) : w.cell? ⟨w0.heap.size, 0, none⟩ = some v ∧ w.cell? ⟨w0.heap.size, 1, none⟩ = some (.int .i64 port) ∧ SI w0 v l port id w := ⟨h.o.cell 0 rfl, h.o.cell 1 rfl, h⟩
theorem SI.cells (h : SI w0 v l port id w) : w.cell? ⟨w0.heap.size, 0, none⟩ = some v ∧ w.cell? ⟨w0.heap.size, 1, none⟩ = some (.int .i64 port) ∧ w0.heap.size < w.heap.size := ⟨h.o.cell 0 rfl, h.o.cell 1 rfl, h.o.lt⟩
theorem SI.dcells (h : SI w0 v l port id w) : ∃ d0 d1 d2, w.cell? ⟨w0.heap.size + 1, 0, none⟩ = some d0 ∧ w.cell? ⟨w0.heap.size + 1, 1, none⟩ = some d1 ∧ w.cell? ⟨w0.heap.size + 1, 2, none⟩ = some d2 ∧ w.frozen? ⟨w0.heap.size + 1, 0, none⟩ = false ∧ w.frozen? ⟨w0.heap.size + 1, 1, none⟩ = false ∧ w.frozen? ⟨w0.heap.size + 1, 2, none⟩ = false ∧ w0.heap.size + 1 < w.heap.size := by
  obtain ⟨d0, d1, d2, hd⟩ := h.d
  exact ⟨d0, d1, d2, hd.cell 0 rfl, hd.cell 1 rfl, hd.cell 2 rfl, hd.frozen 0, hd.frozen 1, hd.frozen 2, hd.lt⟩
end

set_option maxRecDepth 100000 in
set_option maxHeartbeats 1000000 in
theorem scrub_Query {w : World} {v : Value} {l : List Int} {port id : Int} (hv : Sl (.int .u8) (fun _ => False) w v l) (hl : l.length = 4) (p0 : 0 ≤ port) (p1 : port < 65536) (h0 : 0 ≤ id) (h1 : id < 65536) :
    Calls Tryz.prog 88 #[.agg #[v, .int .i64 port, .int .i64 id, .slice none 0 0, .int .i64 1, .int .i64 1]] w fun e w' => (∃ a c xa xn xc, e = .returned (.tuple #[.agg #[.slice a 4 c, .int .i64 port, .slice xa xn xc], .int .i64 0]) ∧ Own (.int .u8) w' w.heap.size 5 (.slice a 4 c) l) ∧ Below w.heap.size w w' := by
  obtain ⟨a, c, n, rfl, hn⟩ : ∃ a c n, v = .slice a n c ∧ n = l.length := by
    obtain ⟨a, c, h, -⟩ := hv.shape
    exact ⟨a, c, _, h, rfl⟩
  obtain rfl : n = 4 := hn.trans hl
  clear hn
  have hI : SI w (.slice a 4 c) l port id ((w.alloc (.cells #[.slice a 4 c, .int .i64 port, .int .i64 id, .slice none 0 0, .int .i64 1, .int .i64 1] 177)).alloc (.cells #[.slice none 0 0, .int .i64 0, .slice none 0 0] 42)) :=
    ⟨(At.new w [.slice a 4 c, .int .i64 port, .int .i64 id, .slice none 0 0, .int .i64 1, .int .i64 1] 177).later (below_alloc _ _), ⟨_, _, _, by simpa using At.new (w.alloc (.cells #[.slice a 4 c, .int .i64 port, .int .i64 id, .slice none 0 0, .int .i64 1, .int .i64 1] 177)) [.slice none 0 0, .int .i64 0, .slice none 0 0] 42⟩,
      ((hv.weaken (fun k hk h => by omega)).below (below_alloc _ _)).below (below_alloc _ _), (below_alloc _ _).alloc (by simp) _⟩
  have hI3 := hI.below (below_alloc _ (.cells #[.slice none 0 0, .int .i64 1, .int .i64 1] 38))
  have HI3 := hid hI3
  have HQ := hid (show QAt (((w.alloc (.cells #[.slice a 4 c, .int .i64 port, .int .i64 id, .slice none 0 0, .int .i64 1, .int .i64 1] 177)).alloc (.cells #[.slice none 0 0, .int .i64 0, .slice none 0 0] 42)).alloc (.cells #[.slice none 0 0, .int .i64 1, .int .i64 1] 38)) (w.heap.size + 1 + 1) from by
    simpa [QAt] using At.new ((w.alloc (.cells #[.slice a 4 c, .int .i64 port, .int .i64 id, .slice none 0 0, .int .i64 1, .int .i64 1] 177)).alloc (.cells #[.slice none 0 0, .int .i64 0, .slice none 0 0] 42)) [.slice none 0 0, .int .i64 1, .int .i64 1] 38)
  have HL := hid hl
  have H1 := hid h1
  have P1 := hid p1
  clear hv h1 p1 hI hI3 hl
  go_enter Tryz.func88, Tryz.ntmps88
  go_wp2_with (first
    | (go_at_call 126; (refine (msg_Encode HQ.out h0 H1.out).mono ?_; rintro e w2 ⟨⟨a2, n2, c2, rfl⟩, hb2⟩; have hI2 := HI3.out.below hb2; have hc2 := hI2.cells))
    | (go_at_call 94; (refine (Fits_yes (by decide) (by decide) p0 (by exact P1.out)).mono ?_; rintro e w3 ⟨rfl, rfl⟩)))
  go_region_held3 (fun w' => w'.cell? ⟨w.heap.size, 0, none⟩ = some (.slice a 4 c) ∧ w'.cell? ⟨w.heap.size, 1, none⟩ = some (.int .i64 port) ∧ SI w (.slice a 4 c) l port id w')
    (first | exact SI.all (by assumption) | exact SI.all (SI.drew (by assumption)) | exact SI.all hI2 | exact SI.all (SI.drew hI2) | exact SI.all (SI.set (by assumption) _ _ _) | exact SI.all (SI.set (SI.drew (by assumption)) _ _ _))
    (first | (go_at_call 86; (refine (bytes_Clone (enc := .int .u8) (l := l) (M := fun k => w.heap.size ≤ k) (SI.sl (w0 := w) (port := port) (id := id) (by first | exact hI2 | exact SI.drew hI2 | assumption | exact SI.drew (by assumption))) (fun _ => rfl) (by rw [HL.out]; decide)).mono ?_; rintro e w4 ⟨v4, rfl, ho4, hb4⟩; have hI4 : SI w (.slice a 4 c) l port id w4 := SI.below (by first | exact hI2 | exact SI.drew hI2 | assumption | exact SI.drew (by assumption)) hb4; have hc4 := hI4.cells; obtain ⟨d0, d1, d2, hd4⟩ := hI4.dcells; have HO4 := hid ho4; obtain ⟨a4, c4, n4, rfl, hn4⟩ := ho4.shapeN; obtain rfl : n4 = 4 := hn4.trans HL.out; clear ho4 hn4)))
  go_wp2
  refine bodyPost_ret (by simp [results, Tryz.results88, go_sem, hd4]; try rfl) rfl ?_
  have hS := (hI4.set (.slice a4 4 c4) (.int .i64 port) (.slice a2 n2 c2)).fr
  have hb9 := HI3.out.fr.size
  have hb8 := hb2.size
  refine ⟨⟨_, _, _, _, _, rfl, (Own.keeps (M := fun k => k = w.heap.size + 1) HO4.out (keeps_set3 (M := fun k => k = w.heap.size + 1) _ _ rfl _ _ _) (fun k hk e => ?_)).base ?_⟩, hS⟩
  · have := (HO4.out.lt k hk).1
    simp at this hb8
    omega
  · simp at hb8 ⊢
    omega
end Go.Proofs.YtfogkbdcbgpomaaGreat
