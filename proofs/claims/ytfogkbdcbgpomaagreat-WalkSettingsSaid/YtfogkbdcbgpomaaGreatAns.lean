/- What the law's own program answers first: true. -/
import Derived.Test.YtfogkbdcbgpomaaGreatNew
set_option linter.unusedSimpArgs false
set_option linter.unusedVariables false
namespace Go.Proofs.YtfogkbdcbgpomaaGreat
open Go.RowKit

theorem own_cells {α : Type} {enc : α → Value} {w : World} {B e : Nat} {v : Value} {l : List α} (h : Own enc w B e v l) (h0 : 0 < l.length) :
    ∃ b o c, v = .slice (some ⟨b, o, none⟩) l.length c ∧ B ≤ b ∧ b < w.heap.size ∧ ∀ i x, l[i]? = some x → w.cell? ⟨b, o + i, none⟩ = some (enc x) := by
  have hs := h.sl0
  rcases hs with ⟨rfl, rfl⟩ | ⟨b, o, c, rfl, h1, h2, h3, h4⟩
  · simp at h0
  · have := h.lt b (by
      rcases h.2 with ⟨hv, -⟩ | ⟨g, cap, cur, hv, -⟩
      · cases hv
      · cases hv; rfl)
    exact ⟨b, o, c, rfl, this.1, this.2, fun i x hx => h4 i _ (by simp [hx])⟩

theorem sl_u8 {M : Nat → Prop} {w : World} {b n : Nat} {t : TypeId} {l : List Int} (h : At w b t (l.map (Value.int .u8))) (hn : n = l.length) (hl : l.length ≤ 1000) (hM : ¬ M b) : Sl (.int .u8) M w (.slice (some ⟨b, 0, none⟩) n n) l := by
  subst hn
  exact .inr ⟨b, 0, _, rfl, Nat.le_refl _, le_maxLen (by omega), ⟨h.lt, hM⟩, fun i x hx => h.cell (0 + i) (by simpa using hx)⟩

theorem setB_usual (x : Row3) (hx : x.2.1 = 4) : setB [x] [] 500 1000 2 3 60 4 = true := by
  simp [setB, badA, inB, timeB, hx]

set_option maxRecDepth 100000 in
set_option maxHeartbeats 2000000 in
theorem law_answers {w : World} : Calls Tryz.prog 4 #[] w fun e w' => e = .returned (.bool true) ∧ Below w.heap.size w w' := by
  go_enter Tryz.func4, Tryz.ntmps4
  go_wp2_with (first
    | (go_at_call 8; (refine (law_fresh (n := 8) (by decide) (by decide)).mono ?_; rintro e w2 ⟨kb, cb, mb, rfl, hK2, hkb, hcb, hmb, hb2⟩; have HK2 := hid (show KeepOK w2 kb cb mb from ⟨0, by decide, by decide, hK2⟩); clear hK2))
    | (go_at_call 10; (refine law_usual.mono ?_; rintro e w3 ⟨ub, rb, rfl, hr3, hu3, hrb, hub, hb3⟩; have HR3 := hid hr3; have HU3 := hid hu3; have HK3 := hid (HK2.out.later hb3); have hkl := HK2.out.lts.1; have hz3 := hb3.size; clear hr3 hu3))
    | (go_at_call 7; (refine (walk_New (rs := [(some ⟨ub, 0, none⟩, 4, 4)]) (zs := []) HK3.out (Sl.sw (.inr ⟨rb, 0, 1, rfl, Nat.le_refl 1, le_maxLen (by decide), ⟨HR3.out.lt, by omega⟩, fun i x hx => HR3.out.cell (0 + i) (by simpa [enc3] using hx)⟩)) (Nat.le_of_lt (by simp)) (Sl.sw (.inl ⟨rfl, rfl⟩)) (by decide) (by simp) (setB_usual _ rfl) (by decide) (by decide)).mono ?_; rintro e w4 ⟨wb, tm, gb, rfl, hN⟩; have HN := hid hN; clear hN))
    | (go_at_call 11; (obtain ⟨v5, dm, ho5, hW5⟩ := HN.out.at_; obtain ⟨b5, o5, c5, rfl, hb5, hbl5, hc5⟩ := own_cells ho5 (Nat.zero_lt_one); have hr5 := hc5 0 _ rfl; refine (walk_Step (l := [10, 0, 0, 1]) (rc := c5) HN.out.ok hW5 HN.out.map_ ⟨HN.out.goal.cell 0 rfl, HN.out.goal.cell 1 rfl⟩ HN.out.goal.lt hr5 hbl5 ((sl_u8 (l := [10, 0, 0, 1]) (M := fun k => k = kb) HU3.out rfl (by decide) (by omega)).keeps HN.out.fr) rfl (by have := HN.out.lo; omega) (by have := HN.out.lo; omega) (by omega) (by have := HN.out.lo; omega)).mono ?_; rintro e w6 ⟨⟨a6, c6, p6, xa, xn, xc, rfl, ho6⟩, hk6⟩; obtain ⟨b6, o6, c7, hv6, hb6, hbl6, hc6⟩ := own_cells ho6 (by decide); cases hv6; have hr6 := hc6 3 _ rfl; clear hc6 hc5 hW5 ho5 ho6 hr5)))
  go_ret
  have hlo := HN.out.lo
  have hz2 := hb2.size
  have hka : Keeps (fun k => w.heap.size ≤ k) w _ := ((((Keeps.of_below hb2).trans (Keeps.of_below hb3)).trans (HN.out.fr.mono (fun k _ h => by omega))).trans (hk6.mono (fun k _ h => by omega))).trans (Keeps.of_below (below_alloc w6 (.cells #[.slice (some ⟨b6, o6, none⟩) 4 c6, .int .i64 p6, .slice xa xn xc] 42)))
  exact ⟨rfl, (hka.mono (fun k hk h => absurd hk (by omega))).below⟩
end Go.Proofs.YtfogkbdcbgpomaaGreat
