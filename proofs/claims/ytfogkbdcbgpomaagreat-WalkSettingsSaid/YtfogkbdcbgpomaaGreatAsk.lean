/- A server is asked. -/
import Derived.Test.YtfogkbdcbgpomaaGreatSend2
import Derived.Test.YtfogkbdcbgpomaaGreatNear
set_option linter.unusedSimpArgs false
set_option linter.unusedVariables false
namespace Go.Proofs.YtfogkbdcbgpomaaGreat
open Go.RowKit

theorem WalkAt.keeps {M : Nat → Prop} {w w' : World} {wb kb : Nat} {ss : List Value} {bg sends goals tried dead out an ak zone sent dn r0 r1 r2 r3 : Value} (h : WalkAt w wb kb ss bg sends goals tried dead out an ak zone sent dn r0 r1 r2 r3) (hk : Keeps M w w') (hM : ¬ M wb) : WalkAt w' wb kb ss bg sends goals tried dead out an ak zone sent dn r0 r1 r2 r3 := by
  obtain ⟨s0, s1, s2, s3, s4, s5, s6, s7, hs, hA⟩ := h
  exact ⟨s0, s1, s2, s3, s4, s5, s6, s7, hs, hA.keeps hk hM⟩
theorem WalkAt.lt {w : World} {wb kb : Nat} {ss : List Value} {bg sends goals tried dead out an ak zone sent dn r0 r1 r2 r3 : Value} (h : WalkAt w wb kb ss bg sends goals tried dead out an ak zone sent dn r0 r1 r2 r3) : wb < w.heap.size := by
  obtain ⟨s0, s1, s2, s3, s4, s5, s6, s7, hs, hA⟩ := h
  exact hA.lt
theorem WalkAt.at8 {w : World} {wb kb : Nat} {s0 s1 s2 s3 s4 s5 s6 s7 : Value} {bg sends goals tried dead out an ak zone sent dn r0 r1 r2 r3 : Value} (h : WalkAt w wb kb [s0, s1, s2, s3, s4, s5, s6, s7] bg sends goals tried dead out an ak zone sent dn r0 r1 r2 r3) :
    At w wb 60 [.pointer (some ⟨kb, 0, none⟩), s0, s1, s2, s3, s4, s5, s6, s7, .slice none 0 0, .int .i64 1, .int .i64 1, bg, sends, goals, tried, dead, out, an, ak, zone, sent, dn, r0, r1, r2, r3] := by
  obtain ⟨x0, x1, x2, x3, x4, x5, x6, x7, hs, hA⟩ := h
  cases hs
  exact hA
theorem kp_D {wb tm b o : Nat} {v : Value} {w0 w : World} (h : Keeps (fun k => k = wb ∨ k = tm ∨ k = b) w0 w) : Keeps (fun k => k = wb ∨ k = tm ∨ k = b) w0 (w.setCell ⟨b, o, none⟩ v) := h.trans (Keeps.setCell (M := fun k => k = wb ∨ k = tm ∨ k = b) w ⟨b, o, none⟩ v (.inr (.inr rfl)))
theorem kp_D2 {wb tm b : Nat} {w0 w w' : World} (h : Keeps (fun _ => False) w0 w) (h2 : Keeps (fun k => k = wb ∨ k = tm) w w') : Keeps (fun k => k = wb ∨ k = tm ∨ k = b) w0 w' := (h.mono (fun _ _ x => x.elim)).trans (h2.mono (fun k _ x => x.elim .inl (fun x => .inr (.inl x))))
theorem kp_D0 {wb tm b : Nat} {w0 w : World} (h : Keeps (fun _ => False) w0 w) : Keeps (fun k => k = wb ∨ k = tm ∨ k = b) w0 w := h.mono (fun _ _ x => x.elim)
theorem then_of {P : World → Prop} {K : Act → World → Prop} {Q : Exit → Act → World → Prop} {a : Act} {W : World} (hk : P W) (h : ∀ W7, P W7 → Exit.then K Q .normal a W7) : Exit.then K Q .normal a W := h W hk

set_option maxRecDepth 100000 in
set_option maxHeartbeats 2000000 in
theorem walk_ask {w : World} {wb kb cb mb tm rb ro rc : Nat} {aa : Option Addr} {ac : Nat} {l : List Int} {now : Int} {s1 s2 s3 s5 s6 sz bg goals dead out an ak zone sent dn r0 r1 r2 r3 : Value} (h : KeepOK w kb cb mb)
    (hW : WalkAt w wb kb [.slice (some ⟨rb, ro, none⟩) 1 rc, s1, s2, s3, .int .i64 3, s5, s6, sz] bg (.int .i64 0) goals (.map (some tm)) dead out an ak zone sent dn r0 r1 r2 r3) (hm : ∃ n, w.heap[tm]? = some (.map #[] n))
    (hr : w.cell? ⟨rb, ro, none⟩ = some (.slice aa 4 ac)) (hrl : rb < w.heap.size) (hv : Sl (.int .u8) (fun k => k = kb) w (.slice aa 4 ac) l) (hl : l.length = 4) (h0 : 0 ≤ now) (h1 : now ≤ 1000) (hne : wb ≠ kb) (hne2 : tm ≠ kb) (hne3 : rb ≠ kb) :
    Calls Tryz.prog 29 #[.pointer (some ⟨wb, 0, none⟩), .agg #[.slice none 0 0, .int .i64 1], .int .i64 now, .int .u64 1] w fun e w' => (∃ a c p xa xn xc, e = .returned (.tuple #[.agg #[.slice a 4 c, .int .i64 p, .slice xa xn xc], .bool true]) ∧ Own (.int .u8) w' w.heap.size 5 (.slice a 4 c) l) ∧ Keeps (fun k => k = kb ∨ k = wb ∨ k = tm) w w' := by
  obtain ⟨n0, hm⟩ := hm
  have hwl := hW.lt
  have htl : tm < w.heap.size := (Array.getElem?_eq_some_iff.1 hm).1
  have hkl := h.lts.1
  have HB := hid ((below_alloc w (.cells #[.slice none 0 0, .int .i64 1] 51)).alloc (by simp) (.cells #[.slice none 0 0, .int .i64 0, .slice none 0 0] 42))
  have HG := hid (show At ((w.alloc (.cells #[.slice none 0 0, .int .i64 1] 51)).alloc (.cells #[.slice none 0 0, .int .i64 0, .slice none 0 0] 42)) w.heap.size 51 [.slice none 0 0, .int .i64 1] from (At.new w [.slice none 0 0, .int .i64 1] 51).later (below_alloc _ _))
  have HD := hid (show At ((w.alloc (.cells #[.slice none 0 0, .int .i64 1] 51)).alloc (.cells #[.slice none 0 0, .int .i64 0, .slice none 0 0] 42)) (w.heap.size + 1) 42 [.slice none 0 0, .int .i64 0, .slice none 0 0] from by simpa using At.new (w.alloc (.cells #[.slice none 0 0, .int .i64 1] 51)) [.slice none 0 0, .int .i64 0, .slice none 0 0] 42)
  have HK := hid (h.later HB.out)
  have HW := hid (hW.keeps (M := fun _ => False) (Keeps.of_below HB.out) (fun x => x))
  have HW0 := hid hW
  have HM := hid hm
  have HR := hid hr
  have HV := hid hv
  have HL := hid hl
  clear h hW hm hr hv hl
  go_enter Tryz.func29, Tryz.ntmps29
  go_upto_region 2 with (go_at_call 52; (refine (walk_nearest (cb := cb) (mb := mb) HK.out HW.out h0 h1 hne).mono ?_; rintro e w2 ⟨rfl, hK2, hk2⟩))
  obtain ⟨W1, hW1⟩ : ∃ W, W = w2.alloc (.cells #[.slice none 0 0, .slice (some ⟨rb, ro, none⟩) 1 rc, .slice none 0 0] 118) := ⟨_, rfl⟩
  have hS1 : At W1 w2.heap.size 118 [.slice none 0 0, .slice (some ⟨rb, ro, none⟩) 1 rc, .slice none 0 0] := by rw [hW1]; exact At.new w2 [.slice none 0 0, .slice (some ⟨rb, ro, none⟩) 1 rc, .slice none 0 0] 118
  have hk12 := hk2.trans (Keeps.of_below (below_alloc w2 (.cells #[.slice none 0 0, .slice (some ⟨rb, ro, none⟩) 1 rc, .slice none 0 0] 118)))
  rw [← hW1] at hk12 ⊢
  have hk01 : Keeps (fun k => k = kb) w W1 := (Keeps.of_below HB.out).trans hk12
  have hs2 : w.heap.size + 2 ≤ w2.heap.size := by simpa using hk2.size
  have HA := hid (HW0.out.keeps hk01 hne).at8
  have HS := hid hS1
  have HG1 := hid (HG.out.keeps hk12 (by omega))
  have HD1 := hid (HD.out.keeps hk12 (by omega))
  have HM1 := hid ((hk01.block tm htl hne2).trans HM.out)
  have HR1 := hid ((hk01.cell (o := ro) ⟨hrl, hne3⟩).trans HR.out)
  have HV1 := hid ((HV.out.keeps hk01).weaken (M' := fun _ => False) (fun k _ h => h.elim))
  have HK01 := hid hk01
  clear hS1 hk12 hk01 hW1 hk2 hK2 HG HD HK HW
  have HX := hid (fun (w' : World) (hk : Keeps (fun _ => False) W1 w') => (show w'.cell? ⟨wb, 15, none⟩ = some (.map (some tm)) ∧ w'.cell? ⟨w.heap.size, 0, none⟩ = some (.slice none 0 0) ∧ w'.cell? ⟨w.heap.size, 1, none⟩ = some (.int .i64 1) ∧ Keeps (fun _ => False) W1 w' from
    ⟨(HA.out.keeps hk (fun x => x)).cell 15 rfl, (HG1.out.keeps hk (fun x => x)).cell 0 rfl, (HG1.out.keeps hk (fun x => x)).cell 1 rfl, hk⟩))
  have HF := hid (fun (w' : World) (hk : Keeps (fun _ => False) W1 w') => (show (∀ s : ByteArray, (Instr.lookup 53 (.map (some tm)) (.string s) false).run Tryz.prog w' = .ok (.slice none 0 0) w') from fun s =>
      lookup_empty Tryz.underlying53 Tryz.underlying9 (Tryz.zeroValue120 w') ((hk.block tm (Array.getElem?_eq_some_iff.1 HM1.out).1 (fun x => x)).trans HM1.out)))
  have h00 := HX.out W1 (Keeps.refl _ _)
  go_region_held3 (fun w' => w'.cell? ⟨wb, 15, none⟩ = some (.map (some tm)) ∧ w'.cell? ⟨w.heap.size, 0, none⟩ = some (.slice none 0 0) ∧ w'.cell? ⟨w.heap.size, 1, none⟩ = some (.int .i64 1) ∧ Keeps (fun _ => False) W1 w')
      (with_reducible (refine HX.out _ ?_; repeat (first | assumption | exact Keeps.refl _ _ | refine kp_drew ?_ | refine kp_alloc ?_ _)))
      (first | (go_at_call 46; (refine goal_key.mono ?_; rintro e w7 ⟨⟨s7, rfl⟩, hb7⟩; have hB7 : Keeps (fun _ => False) W1 w7 := Keeps.trans (by with_reducible (repeat (first | assumption | exact Keeps.refl _ _ | refine kp_drew ?_))) (Keeps.of_below hb7); have lk7 := HF.out w7 hB7; have lk7d := HF.out w7.drew (kp_drew hB7))))
  rename_i hh
  obtain ⟨-, -, -, hk7⟩ := hh
  refine then_of (P := fun W => Keeps (fun _ => False) W1 W) hk7 (fun W2 hk2 => ?_)
  clear hk7 lk7 lk7d hB7 hb7 h00
  have HA2 := hid (HA.out.keeps hk2 (fun x => x))
  have HG2 := hid (HG1.out.keeps hk2 (fun x => x))
  have HD2 := hid (HD1.out.keeps hk2 (fun x => x))
  have HS2 := hid (HS.out.keeps hk2 (fun x => x))
  have HK2 := hid hk2
  have hs3 := hk2.size
  have hsl := HS.out.lt
  have v5 := HA2.out.cell 5 rfl
  have v13 := HA2.out.cell 13 rfl
  have vl := HA2.out.lt
  have t0 := HS2.out.cell 0 rfl
  have t1 := HS2.out.cell 1 rfl
  have t2 := HS2.out.cell 2 rfl
  have tl := HS2.out.lt
  have rb1 : rb < W1.heap.size := Nat.lt_of_lt_of_le hrl HK01.out.size
  have rr := (hk2.cell (o := ro) ⟨rb1, fun x => x⟩).trans HR1.out
  have rl : rb < W2.heap.size := Nat.lt_of_lt_of_le rb1 hs3
  clear hk2
  go_wp2
  refine wp_loop_rounds 2 ?_
  rw [rounds_succ]
  go_wp2_with (first
    | (go_at_call 53; refine Index_tried.mono ?_; rintro e w' ⟨rfl, rfl⟩)
    | (at_builtin; (refine wpList_push3 rfl _ _ 120 rfl W2.heap.size 123 _ 40 Tryz.underlying120 info_tried rfl rfl _ (.slice aa 4 ac) (.int .i64 0) (.bool false) rfl ?_ rfl rfl rfl (by decide) ?_ ?_; (· refine ⟨?_, ?_, ?_⟩ <;> go_simp); (· simp; omega); intro v3 w3 hown3 hb3 hg3)))
  obtain ⟨g3, c3, rfl⟩ := hg3
  have hk23 : Keeps (fun _ => False) W2 w3 := ((Keeps.of_below (below_alloc W2 (.cells #[.slice aa 4 ac] 28))).trans (Keeps.of_below (below_alloc _ (.cells #[.slice aa 4 ac, .int .i64 0, .bool false] 123)))).trans (Keeps.of_below hb3)
  have HY := hid (fun (w' : World) (hk : Keeps (fun k => k = wb ∨ k = tm ∨ k = w.heap.size + 1) w3 w') => (show w'.cell? ⟨w.heap.size, 0, none⟩ = some (.slice none 0 0) ∧ w'.cell? ⟨w.heap.size, 1, none⟩ = some (.int .i64 1) ∧ w'.cell? ⟨w2.heap.size, 0, none⟩ = some (.slice none 0 0) ∧ w'.cell? ⟨g3, 0, none⟩ = some (.slice aa 4 ac) ∧ g3 < w'.heap.size ∧ Keeps (fun k => k = wb ∨ k = tm ∨ k = w.heap.size + 1) w3 w' from by
    have hg := hown3.lt g3 rfl
    have hc := World.ownsRow.cells hown3 (g := g3) rfl 0 _ rfl
    rw [Addr.add_lit] at hc
    exact ⟨((HG2.out.keeps hk23 (fun x => x)).keeps hk (by omega)).cell 0 rfl, ((HG2.out.keeps hk23 (fun x => x)).keeps hk (by omega)).cell 1 rfl, ((HS2.out.keeps hk23 (fun x => x)).keeps hk (by omega)).cell 0 rfl, (hk.cell (o := 0) ⟨hg.2, by omega⟩).trans hc, Nat.lt_of_lt_of_le hg.2 hk.size, hk⟩))
  have HK23 := hid hk23
  have hs4 := hk23.size
  have v5 := (HA2.out.keeps hk23 (fun x => x)).cell 5 rfl
  have vl := (HA2.out.keeps hk23 (fun x => x)).lt
  clear hk23 hb3 t0 t1 t2 tl v13 rr rl
  rw [rounds_succ]
  go_upto_region 15 with (go_at_call 56; (refine (pick_Next hown3).mono ?_; rintro e w4 ⟨rfl, hb4⟩; have v13 := (HA2.out.keeps (HK23.out.trans (Keeps.of_below hb4)) (fun x => x)).cell 13 rfl; have vl4 := (HA2.out.keeps (HK23.out.trans (Keeps.of_below hb4)) (fun x => x)).lt))
  have HSd := hid (fun (w' : World) (hk : Keeps (fun _ => False) w3 w') => walk_send (w := w') (now := now) (((HV1.out.keeps HK2.out).keeps HK23.out).keeps hk) HL.out
    (show WalkAt w' wb kb [.slice (some ⟨rb, ro, none⟩) 1 rc, s1, s2, s3, .int .i64 3, s5, s6, sz] bg (.int .i64 0) goals (.map (some tm)) dead out an ak zone sent dn r0 r1 r2 r3 from ⟨_, _, _, _, _, _, _, _, rfl, HA2.out.keeps (HK23.out.trans hk) (fun x => x)⟩)
    ⟨n0, (((HK2.out.trans HK23.out).trans hk).block tm (Array.getElem?_eq_some_iff.1 HM1.out).1 (fun x => x)).trans HM1.out⟩)
  have HE := hid (fun (w' w5 : World) (hk : Keeps (fun _ => False) w3 w') (h5 : Keeps (fun k => k = wb ∨ k = tm) w' w5) => (show At w5 (w.heap.size + 1) 42 [.slice none 0 0, .int .i64 0, .slice none 0 0] from
    ((HD2.out.keeps (HK23.out.trans hk) (fun x => x)).keeps h5 (by omega))))
  have h40 : Keeps (fun _ => False) w3 w4 := Keeps.of_below hb4
  clear hb4
  have h41 := HY.out w4 (kp_D0 h40)
  go_region_held3 (fun w' => w'.cell? ⟨w.heap.size, 0, none⟩ = some (.slice none 0 0) ∧ w'.cell? ⟨w.heap.size, 1, none⟩ = some (.int .i64 1) ∧ w'.cell? ⟨w2.heap.size, 0, none⟩ = some (.slice none 0 0) ∧ w'.cell? ⟨g3, 0, none⟩ = some (.slice aa 4 ac) ∧ g3 < w'.heap.size ∧ Keeps (fun k => k = wb ∨ k = tm ∨ k = w.heap.size + 1) w3 w')
      (with_reducible (refine HY.out _ ?_; repeat (first | assumption | exact kp_D0 h40 | refine kp_drew ?_ | refine kp_D ?_)))
      (first | (go_at_call 57; (refine (HSd.out _ (by with_reducible (repeat (first | exact h40 | refine kp_drew ?_)))).mono ?_; rintro e w5 ⟨⟨a5, c5, p5, xa, xn, xc, rfl, ho5⟩, hk5⟩; have hk35 : Keeps (fun k => k = wb ∨ k = tm ∨ k = w.heap.size + 1) w3 w5 := kp_D2 (by with_reducible (repeat (first | exact h40 | refine kp_drew ?_))) hk5; have hD5 := HE.out _ w5 (by with_reducible (repeat (first | exact h40 | refine kp_drew ?_))) hk5; have f0 := hD5.frozen 0; have f1 := hD5.frozen 1; have f2 := hD5.frozen 2; have e0 := hD5.cell 0 rfl; have e1 := hD5.cell 1 rfl; have e2 := hD5.cell 2 rfl; have el := hD5.lt; have HD5 := hid hD5; have HO5 := hid ho5; clear hD5 ho5)))
  have hE := ((HD5.out.set 0 (.slice a5 4 c5)).set 1 (.int .i64 p5)).set 2 (.slice xa xn xc)
  have k0 := hE.cell 0 rfl
  have k1 := hE.cell 1 rfl
  have k2 := hE.cell 2 rfl
  go_wp2
  try simp only [Exit.inBlock, Exit.then]
  refine bodyPost_ret (by simp [results, Tryz.results29, go_sem, k0, k1, k2]; try rfl) rfl ?_
  have hk9 : Keeps (fun k => k = w.heap.size + 1) w5 _ := keeps_set3 (M := fun k => k = w.heap.size + 1) w5 (w.heap.size + 1) rfl (.slice a5 4 c5) (.int .i64 p5) (.slice xa xn xc)
  have hz4 : w3.heap.size ≤ w4.heap.size := h40.size
  have hz5 : w4.drew.heap.size = w4.heap.size := rfl
  have hlo : ∀ k, (Value.slice a5 4 c5).ownBlock = some k → w.heap.size + 2 < k := fun k hk => by
    have := (HO5.out.lt k hk).1
    omega
  have ho9 := HO5.out.keeps hk9 (fun k hk => by have := hlo k hk; omega)
  refine ⟨⟨a5, c5, p5, xa, xn, xc, rfl, ho9.base (by omega)⟩, ?_⟩
  have hka : Keeps (fun k => k = kb ∨ k = wb ∨ k = tm ∨ k = w.heap.size + 1) w _ := (((((HK01.out.mono (fun k _ hk => .inl hk))).trans (HK2.out.mono (fun k _ hk => hk.elim))).trans (HK23.out.mono (fun k _ hk => hk.elim))).trans (hk35.mono (fun k _ hk => .inr hk))).trans (hk9.mono (fun k _ hk => .inr (.inr (.inr hk))))
  exact hka.mono (fun k hk h => h.elim .inl (fun h => h.elim (fun h => .inr (.inl h)) (fun h => h.elim (fun h => .inr (.inr h)) (fun h => absurd hk (by omega)))))
end Go.Proofs.YtfogkbdcbgpomaaGreat
