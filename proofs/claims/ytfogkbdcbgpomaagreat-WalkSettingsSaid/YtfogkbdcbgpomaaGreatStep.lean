/- A walk steps for the first time: a question goes to the one root. -/
import Derived.Test.YtfogkbdcbgpomaaGreatAsk
set_option linter.unusedSimpArgs false
set_option linter.unusedVariables false
namespace Go.Proofs.YtfogkbdcbgpomaaGreat
open Go.RowKit

/-- What stands between the parts of Step. -/
structure StepI (w : World) (kb cb mb : Nat) (W : World) : Prop where
  fr : Keeps (fun k => k = kb) w W
  ok : KeepOK W kb cb mb
  d : At W w.heap.size 42 [.slice none 0 0, .int .i64 0, .slice none 0 0]
theorem StepI.below {w W W' : World} {kb cb mb : Nat} (h : StepI w kb cb mb W) (hb : Below W.heap.size W W') : StepI w kb cb mb W' := ⟨h.fr.trans (Keeps.of_below hb), h.ok.later hb, h.d.later hb⟩
theorem StepI.drewN {w W : World} {kb cb mb : Nat} (h : StepI w kb cb mb W) (n : Nat) : StepI w kb cb mb (W.drewN n) := h.below ((Keeps.refl (fun _ => False) W).drewN n).below
theorem StepI.step {w W W' : World} {kb cb mb : Nat} (h : StepI w kb cb mb W) (h1 : KeepOK W' kb cb mb) (h2 : Keeps (fun k => k = kb) W W') (hk : kb < w.heap.size) : StepI w kb cb mb W' := ⟨h.fr.trans h2, h1, h.d.keeps h2 (by omega)⟩

set_option maxRecDepth 100000 in
set_option maxHeartbeats 2000000 in
theorem walk_Step {w : World} {wb kb cb mb tm rb ro rc gb : Nat} {aa : Option Addr} {ac : Nat} {l : List Int} {s1 s2 s3 s6 sz dead an ak zone sent r0 r1 r2 r3 : Value} (h : KeepOK w kb cb mb)
    (hW : WalkAt w wb kb [.slice (some ⟨rb, ro, none⟩) 1 rc, s1, s2, s3, .int .i64 3, .int .i64 60, s6, sz] (.int .i64 5) (.int .i64 0) (.slice (some ⟨gb, 0, none⟩) 1 1) (.map (some tm)) dead (.pointer none) an ak zone sent (.bool false) r0 r1 r2 r3) (hm : ∃ n, w.heap[tm]? = some (.map #[] n))
    (hg : w.cell? ⟨gb, 0, none⟩ = some (.slice none 0 0) ∧ w.cell? ⟨gb, 1, none⟩ = some (.int .i64 1)) (hgl : gb < w.heap.size)
    (hr : w.cell? ⟨rb, ro, none⟩ = some (.slice aa 4 ac)) (hrl : rb < w.heap.size) (hv : Sl (.int .u8) (fun k => k = kb) w (.slice aa 4 ac) l) (hl : l.length = 4) (hne : wb ≠ kb) (hne2 : tm ≠ kb) (hne3 : rb ≠ kb) (hne4 : gb ≠ kb) :
    Calls Tryz.prog 11 #[.pointer (some ⟨wb, 0, none⟩), .int .i64 5, .int .u64 1] w fun e w' => (∃ a c p xa xn xc, e = .returned (.tuple #[.agg #[.slice a 4 c, .int .i64 p, .slice xa xn xc], .bool true]) ∧ Own (.int .u8) w' w.heap.size 5 (.slice a 4 c) l) ∧ Keeps (fun k => k = kb ∨ k = wb ∨ k = tm) w w' := by
  obtain ⟨n0, hm⟩ := hm
  have hwl := hW.lt
  have htl : tm < w.heap.size := (Array.getElem?_eq_some_iff.1 hm).1
  have hkl := h.lts.1
  have HB := hid (below_alloc w (.cells #[.slice none 0 0, .int .i64 0, .slice none 0 0] 42))
  have HD := hid (At.new w [.slice none 0 0, .int .i64 0, .slice none 0 0] 42)
  have hA := hW.at8
  have c22 := hA.cell 22 rfl
  have c12 := hA.cell 12 rfl
  have c6 := hA.cell 6 rfl
  have HW := hid hW
  have HK := hid h
  have HM := hid hm
  have HR := hid hr
  have HG := hid hg
  have HV := hid hv
  have HL := hid hl
  clear h hW hm hr hv hl hg hA
  go_enter Tryz.func11, Tryz.ntmps11
  go_wp2
  go_quiet (fail)
  refine then_of (P := StepI w kb cb mb) (StepI.drewN ⟨Keeps.of_below HB.out, HK.out.later HB.out, HD.out⟩ nq) (fun W1 hI1 => ?_)
  clear c22 c12 c6
  have hA1 := (HW.out.keeps hI1.fr hne).at8
  have c17 := hA1.cell 17 rfl
  have HI1 := hid hI1
  clear hA1 hI1
  go_wp2
  go_quiet (fail)
  refine then_of (P := StepI w kb cb mb) (HI1.out.drewN nq) (fun W2 hI2 => ?_)
  clear c17 HI1
  have hA2 := (HW.out.keeps hI2.fr hne).at8
  have c17 := hA2.cell 17 rfl
  have f17 := hA2.frozen 17
  have l17 := hA2.lt
  have y17 := setCell_same c17
  have HW2 := hid (HW.out.keeps hI2.fr hne)
  have HI2 := hid hI2
  clear hA2 hI2
  go_wp2_with (go_at_call 16; (refine (walk_look HI2.out.ok HW2.out (by decide) (by decide) hne).mono ?_; rintro e w3 ⟨rfl, hK3, hk3⟩))
  have hI3 := HI2.out.step hK3 hk3 hkl
  have hA3 := (HW.out.keeps hI3.fr hne).at8
  have c22 := hA3.cell 22 rfl
  have c14 := hA3.cell 14 rfl
  have g0 := (hI3.fr.cell (o := 0) ⟨hgl, hne4⟩).trans HG.out.1
  have g1 := (hI3.fr.cell (o := 1) ⟨hgl, hne4⟩).trans HG.out.2
  have gl : gb < w3.heap.size := Nat.lt_of_lt_of_le hgl hI3.fr.size
  have HI3 := hid hI3
  have l3 := hA3.lt
  clear HI2 HW2 c17 f17 l17 y17 hA3 hI3 hK3 hk3
  refine wp_loop_rounds 1 ?_
  rw [rounds_succ]
  go_wp2
  go_region
  refine then_of (P := fun W => StepI w kb cb mb W ∧ At W w3.heap.size 51 [.slice none 0 0, .int .i64 1]) ⟨(HI3.out.below (below_alloc _ _)).below (Below.refl _ _).drew, At.new w3 [.slice none 0 0, .int .i64 1] 51⟩ (fun W4 h4 => ?_)
  have hz3 := HI3.out.fr.size
  have hz3' := HI3.out.d.lt
  clear c22 c14 g0 g1 gl l3
  obtain ⟨hI4, hG4⟩ := h4
  have hA4 := (HW.out.keeps hI4.fr hne).at8
  have c0 := hA4.cell 0 rfl
  have c9 := hA4.cell 9 rfl
  have c10 := hA4.cell 10 rfl
  have c11 := hA4.cell 11 rfl
  have c14 := hA4.cell 14 rfl
  have l4 := hA4.lt
  have hk4 := (hI4.ok.lts).1
  have HI4 := hid hI4
  have HG4 := hid hG4
  have HF4 := hid (At.new W4 [.pointer (some ⟨kb, 0, none⟩), .int .i64 5, .bool false, .int .i64 0, .slice none 0 0, .slice none 0 0, .bool false] 74)
  clear hA4 hI4 hG4
  go_wp2_with (first
    | (go_at_call 28; (refine (finder_chase (cb := cb) (mb := mb) (HI4.out.ok.later (below_alloc _ _)) HF4.out (by decide) (by decide) (by omega)).mono ?_; rintro e w5 ⟨rfl, hK5, hk5⟩; have hI5 : StepI w kb cb mb w5 := (HI4.out.below (below_alloc _ _)).step hK5 hk5 hkl; have HI5 := hid hI5; have hG5 := (HG4.out.later (below_alloc _ _)).keeps hk5 (by omega); have c14 := (HW.out.keeps hI5.fr hne).at8.cell 14 rfl; have e0 := hG5.cell 0 rfl; have e1 := hG5.cell 1 rfl; have ef := hG5.frozen 0; have el := hG5.lt; have ey := setCell_same e0; clear hK5 hk5 hI5 hG5))
    | (go_at_call 29; (refine (walk_ask (tm := tm) HI5.out.ok (HW.out.keeps HI5.out.fr hne) ⟨n0, (HI5.out.fr.block tm htl hne2).trans HM.out⟩ ((HI5.out.fr.cell (o := ro) ⟨hrl, hne3⟩).trans HR.out) (Nat.lt_of_lt_of_le hrl HI5.out.fr.size) (HV.out.keeps HI5.out.fr) HL.out (by decide) (by decide) hne hne2 hne3).mono ?_; rintro e w6 ⟨⟨a6, c6, p6, xa, xn, xc, rfl, ho6⟩, hk6⟩; have hD6 := HI5.out.d.keeps hk6 (by omega); have HD6 := hid hD6; have HO6 := hid ho6; have d0 := hD6.cell 0 rfl; have d1 := hD6.cell 1 rfl; have d2 := hD6.cell 2 rfl; have df0 := hD6.frozen 0; have df1 := hD6.frozen 1; have df2 := hD6.frozen 2; have dl := hD6.lt; clear hD6 ho6)))
  have hE := (((HD6.out.set 0 (.slice a6 4 c6)).set 1 (.int .i64 p6)).set 2 (.slice xa xn xc)).later (below_alloc _ (.cells #[.slice a6 4 c6, .int .i64 p6, .slice xa xn xc] 42))
  have k0 := hE.cell 0 rfl
  have k1 := hE.cell 1 rfl
  have k2 := hE.cell 2 rfl
  try simp only [Exit.inBlock, Exit.then]
  refine bodyPost_ret (by simp [results, Tryz.results11, go_sem, k0, k1, k2]; try rfl) rfl ?_
  have hk9 : Keeps (fun k => k = w.heap.size) w6 _ := (keeps_set3 (M := fun k => k = w.heap.size) w6 w.heap.size rfl (.slice a6 4 c6) (.int .i64 p6) (.slice xa xn xc)).trans (Keeps.of_below (below_alloc _ (.cells #[.slice a6 4 c6, .int .i64 p6, .slice xa xn xc] 42)))
  have hz5 := HI5.out.d.lt
  have hlo : ∀ k, (Value.slice a6 4 c6).ownBlock = some k → w.heap.size < k := fun k hk => by
    have := (HO6.out.lt k hk).1
    omega
  have ho9 := HO6.out.keeps hk9 (fun k hk => by have := hlo k hk; omega)
  refine ⟨⟨a6, c6, p6, xa, xn, xc, rfl, ho9.base (by omega)⟩, ?_⟩
  have hka : Keeps (fun k => (k = kb ∨ k = wb ∨ k = tm) ∨ k = w.heap.size) w _ := ((HI5.out.fr.mono (fun k _ hk => .inl (.inl hk))).trans (hk6.mono (fun k _ hk => .inl hk))).trans (hk9.mono (fun k _ hk => .inr hk))
  exact hka.mono (fun k hk h => h.elim id (fun h => absurd hk (by omega)))
end Go.Proofs.YtfogkbdcbgpomaaGreat
