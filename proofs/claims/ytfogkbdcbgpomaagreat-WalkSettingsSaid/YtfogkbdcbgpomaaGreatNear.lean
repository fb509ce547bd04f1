/- The servers that are nearest, where nothing is known: the roots. -/
import Derived.Test.YtfogkbdcbgpomaaGreatKnown
import Derived.RangeFuncNested
import Derived.RangeFuncBound
import Derived.RangeFuncCalls
import Derived.RangeFuncLeaves
import Derived.RangeFuncFrom
import Derived.Shelf.Abstract
import Derived.OwnWalkIn
import Derived.TacticsInMore
import Derived.LoopNIn
import Derived.LoopIn
set_option linter.unusedSimpArgs false
set_option linter.unusedVariables false
namespace Go.Proofs.YtfogkbdcbgpomaaGreat
open Go.RowKit Go.Shelf
attribute [local go_sem] Oper.semAt_some

set_option maxRecDepth 100000 in
theorem walk_up {w : World} : Calls Tryz.prog 83 #[.slice none 0 0] w fun e w' => e = .returned (.func (.func 124) #[] #[.pointer (some ⟨w.heap.size, 0, none⟩)]) ∧ w' = w.alloc (.cells #[.slice none 0 0] 29) := by
  go_enter Tryz.func83, Tryz.ntmps83
  go_wp2
  go_ret
  exact ⟨rfl, rfl⟩

set_option maxRecDepth 100000 in
set_option maxHeartbeats 1000000 in
theorem walk_at {w : World} {wb kb cb mb : Nat} {now : Int} {ss : List Value} {bg sends goals tried dead out an ak zone sent dn r0 r1 r2 r3 : Value} (h : KeepOK w kb cb mb) (hW : WalkAt w wb kb ss bg sends goals tried dead out an ak zone sent dn r0 r1 r2 r3) (h0 : 0 ≤ now) (h1 : now ≤ 1000) :
    Calls Tryz.prog 84 #[.pointer (some ⟨wb, 0, none⟩), .slice none 0 0, .int .i64 now] w fun e w' => e = .returned (.tuple #[.agg #[.slice none 0 0, .slice none 0 0, .slice none 0 0], .bool false]) ∧ KeepOK w' kb cb mb ∧ Keeps (fun k => k = kb) w w' := by
  obtain ⟨s0, s1, s2, s3, s4, s5, s6, s7, rfl, hA⟩ := hW
  have c0 := hA.cell 0 rfl
  have lw := hA.lt
  obtain ⟨hkl, -⟩ := h.lts
  have HK := hid h
  have HR := hid (At.new w [.slice none 0 0, .slice none 0 0, .slice none 0 0] 118)
  clear h hA
  go_enter Tryz.func84, Tryz.ntmps84
  go_wp2_with (go_at_call 45; (refine (keep_Get (HK.out.later (below_alloc _ _)) (.inr (.inl rfl)) h0 h1).mono ?_; rintro e w2 ⟨rfl, hK2, hk2⟩; have HR2 := hid (HR.out.keeps hk2 (by omega)); have z0 := HR2.out.cell 0 rfl; have z1 := HR2.out.cell 1 rfl; have z2 := HR2.out.cell 2 rfl; have f0 := HR2.out.frozen 0; have f1 := HR2.out.frozen 1; have f2 := HR2.out.frozen 2; have y0 := setCell_same z0; have y1 := setCell_same z1; have y2 := setCell_same z2; have lR := HR2.out.lt))
  try simp only [Exit.inBlock, Exit.then]
  refine bodyPost_ret (by simp [results, Tryz.results84, go_sem, z0, z1, z2, lR]; try rfl) rfl ?_
  exact ⟨rfl, hK2.later (below_alloc _ _), ((Keeps.of_below (below_alloc _ _)).trans hk2).trans (Keeps.of_below (below_alloc _ _))⟩

/-- The iterator over the empty name: one round. -/
theorem up_1 {bx : Nat} (l : Nat) (J Jx : List Unit → World → Prop)
    (hY : ∀ pre x W, J pre W → pre.length < 1 → YieldAt Fence.wide 2 Tryz.prog l #[.slice none 0 0] W fun e W' =>
      (e = .returned (.bool true) ∧ J (pre ++ [x]) W' ∧ True) ∨ (e = .returned (.bool false) ∧ Jx (pre ++ [x]) W'))
    (W : World) (hb : W.cell? ⟨bx, 0, none⟩ = some (.slice none 0 0)) (h0 : J [] W) :
    CallsIn Fence.wide 3 Tryz.prog 124 #[.func (.yield l) #[] #[], .pointer (some ⟨bx, 0, none⟩)] W fun e W' => (∃ v, e = .returned v) ∧
      ((∃ ys, ys = [()] ∧ J ys W') ∨ (∃ pre : List Unit, True ∧ Jx pre W')) := by
  refine callsIn_of_wp Tryz.func124 rfl trivial ?_ rfl
  simp only [Tryz.ntmps124, List.size_toArray, List.length_cons, List.length_nil, Nat.reduceAdd, Nat.reduceSub, Array.replicate_succ, Array.replicate_zero, List.push_toArray, List.append_toArray, List.nil_append, List.cons_append]
  obtain ⟨fn, tmps, assign, body, hy, hR⟩ := hY [] () W h0 (by decide)
  gi_wp2
  refine wpIn_loop_rounds 2 ?_
  rw [roundsIn_succ]
  gi_wp2
  refine hR.mono ?_
  rintro e W2 (⟨rfl, hJ2, -⟩ | ⟨rfl, hJx2⟩)
  · gi_wp2
    rw [roundsIn_succ]
    gi_wp2
    go_end0
    exact ⟨⟨_, rfl⟩, .inl ⟨[()], rfl, hJ2⟩⟩
  · gi_wp2
    refine bodyPost_ret (results_none rfl _ _ _) rfl ?_
    exact ⟨⟨_, rfl⟩, .inr ⟨_, trivial, hJx2⟩⟩

theorem up_stops {bx : Nat} {w : World} (hbl : bx < w.heap.size) (hb : w.cell? ⟨bx, 0, none⟩ = some (.slice none 0 0)) :
    SeqStopsK Fence.wide 3 Tryz.prog 124 #[.pointer (some ⟨bx, 0, none⟩)] (fun _ : Unit => #[Value.slice none 0 0]) (fun _ _ => True) (fun ys => ys = [()]) (fun _ => True) 1 w := fun l J Jx W hW _ _ hY h0 =>
  up_1 l J Jx hY W ((hW.cell (p := ⟨bx, 0, none⟩) hbl).trans hb) h0

/-- What holds between two rounds of nearest. -/
structure NI (w0 : World) (kb cb mb b : Nat) (w : World) : Prop where
  ok : KeepOK w kb cb mb
  fr : Keeps (fun k => k = kb) w0 w
theorem NI.own {w0 : World} {kb cb mb b B : Nat} (hB : w0.heap.size ≤ B) (hk : kb < B ∧ cb < B ∧ mb < B) : OwnFrom B (fun (_ : List Unit) (W : World) => NI w0 kb cb mb b W) := by
  intro s W W' row h hg hr
  have hK : Keeps (fun k => B ≤ k) W W' := ⟨hg.os, hg.tape, hg.output, hg.size, fun k hk hn => hg.block k hk (fun e => hn (hr k e.symm).1)⟩
  refine ⟨h.ok.keeps hK (by omega) (by omega) (by omega), ⟨hg.os.trans h.fr.os, hg.tape.trans h.fr.tape, hg.output.trans h.fr.output, Nat.le_trans h.fr.size hg.size, fun k hk hn => ?_⟩⟩
  exact (hg.block k (Nat.lt_of_lt_of_le hk h.fr.size) (fun e => by have := (hr k e.symm).1; omega)).trans (h.fr.block k hk hn)

theorem keepsO_set2 (W : World) (b : Nat) (u v : Value) : KeepsOthers W ((W.setCell ⟨b, 1, none⟩ u).setCell ⟨b, 2, none⟩ v) := (KeepsOthers.setCell _ _ _).trans (KeepsOthers.setCell _ _ _)

set_option maxRecDepth 100000 in
set_option maxHeartbeats 4000000 in
theorem walk_nearest {w : World} {wb kb cb mb : Nat} {now : Int} {ra : Option Addr} {rn rc : Nat} {s1 s2 s3 s4 s5 s6 s7 : Value} {bg sends goals tried dead out an ak zone sent dn r0 r1 r2 r3 : Value} (h : KeepOK w kb cb mb) (hW : WalkAt w wb kb [.slice ra rn rc, s1, s2, s3, s4, s5, s6, s7] bg sends goals tried dead out an ak zone sent dn r0 r1 r2 r3) (h0 : 0 ≤ now) (h1 : now ≤ 1000) (hne : wb ≠ kb) :
    Calls Tryz.prog 52 #[.pointer (some ⟨wb, 0, none⟩), .slice none 0 0, .int .i64 now] w fun e w' => e = .returned (.agg #[.slice none 0 0, .slice ra rn rc, .slice none 0 0]) ∧ KeepOK w' kb cb mb ∧ Keeps (fun k => k = kb) w w' := by
  obtain ⟨hkl, hcl, hml, -⟩ := h.lts
  have hwl : wb < w.heap.size := by obtain ⟨s0, s1, s2, s3, s4, s5, s6, s7, -, hA⟩ := hW; exact hA.lt
  have HK := hid h
  have HW := hid hW
  clear h hW
  refine (callsIn_wide (n := 4)).1 ?_
  refine callsIn_of_wp_marks Tryz.func52 rfl trivial ?_ rfl
  simp only [Tryz.ntmps52, List.size_toArray, List.length_cons, List.length_nil, Nat.reduceAdd, Nat.reduceSub, Array.replicate_succ, Array.replicate_zero, List.push_toArray, List.append_toArray, List.nil_append, List.cons_append]
  gi_wp2_with (refine ⟨trivial, ?_⟩; gi_at_call 83; refine (callsIn_wide.2 walk_up).mono ?_; rintro e w' ⟨rfl, rfl⟩)
  obtain ⟨W0, hW0⟩ : ∃ W0 : World, W0 = (((w.alloc (.cells #[.pointer (some ⟨wb, 0, none⟩)] 31)).alloc (.cells #[.int .i64 now] 3)).alloc (.cells #[.slice none 0 0, .slice none 0 0, .slice none 0 0] 118)).alloc (.cells #[.slice none 0 0] 29) := ⟨_, rfl⟩
  have hB0 : Below w.heap.size w W0 := by
    rw [hW0]
    exact ((((below_alloc w _).alloc (by simp) _).alloc (by simp; omega) _).alloc (by simp; omega) _)
  have hsz : W0.heap.size = w.heap.size + 4 := by rw [hW0]; simp
  have A3 : At W0 w.heap.size 31 [.pointer (some ⟨wb, 0, none⟩)] := by
    rw [hW0]
    exact (((At.new w [.pointer (some ⟨wb, 0, none⟩)] 31).later (below_alloc _ _)).later (below_alloc _ _)).later (below_alloc _ _)
  have A5 : At W0 (w.heap.size + 1) 3 [.int .i64 now] := by
    rw [hW0]
    simpa using ((At.new (w.alloc (.cells #[.pointer (some ⟨wb, 0, none⟩)] 31)) [.int .i64 now] 3).later (below_alloc _ (.cells #[.slice none 0 0, .slice none 0 0, .slice none 0 0] 118))).later (below_alloc _ (.cells #[.slice none 0 0] 29))
  have A6 : At W0 (w.heap.size + 1 + 1) 118 [.slice none 0 0, .slice none 0 0, .slice none 0 0] := by
    rw [hW0]
    simpa using (At.new ((w.alloc (.cells #[.pointer (some ⟨wb, 0, none⟩)] 31)).alloc (.cells #[.int .i64 now] 3)) [.slice none 0 0, .slice none 0 0, .slice none 0 0] 118).later (below_alloc _ (.cells #[.slice none 0 0] 29))
  have A7 : At W0 (w.heap.size + 1 + 1 + 1) 29 [.slice none 0 0] := by
    rw [hW0]
    simpa using At.new (((w.alloc (.cells #[.pointer (some ⟨wb, 0, none⟩)] 31)).alloc (.cells #[.int .i64 now] 3)).alloc (.cells #[.slice none 0 0, .slice none 0 0, .slice none 0 0] 118)) [.slice none 0 0] 29
  rw [← hW0]
  clear hW0
  refine wpIn_rangeFunc_ownF rfl (by decide) (gf := 124) (lb := #[.pointer (some ⟨w.heap.size + 1 + 1 + 1, 0, none⟩)]) rfl trivial (enters_of Tryz.func124 (by kernel_rfl) rfl)
    (up_stops A7.lt (A7.cell 0 rfl)) (fun _ _ => trivial) (fun _ _ _ _ _ _ _ _ => trivial) (Below.refl _ _) (fun _ => rfl)
    (fun _ W => NI W0 kb cb mb 0 W) (fun _ _ _ => False)
    (NI.own (Nat.le_refl _) (by omega)) (fun _ _ _ _ _ hs _ _ => hs) ⟨HK.out.keeps (M := fun _ => False) (Keeps.of_below hB0) (fun x => x) (fun x => x) (fun x => x), Keeps.refl _ _⟩
    (fun _ => { tmps := #[.pointer (some ⟨wb, 0, none⟩), .slice none 0 0, .int .i64 now, .pointer (some ⟨w.heap.size, 0, none⟩), undef, .pointer (some ⟨w.heap.size + 1, 0, none⟩), .pointer (some ⟨w.heap.size + 1 + 1, 0, none⟩), .slice none 0 0, undef, undef, .slice none 0 0, .func (.func 124) #[] #[.pointer (some ⟨w.heap.size + 1 + 1 + 1, 0, none⟩)], .slice none 0 0, undef, undef, undef, undef, undef, undef, undef, undef, undef, undef, undef, undef, undef, undef, undef], defers := [] }) ?assign ?body ?done ?stop
  case assign =>
    intro l x W K hK
    gi_wp2
    exact hK
  case body =>
    rintro l pre x W hN -
    have q3 := (A3.keeps hN.fr (by omega)).cell 0 rfl
    have q5 := (A5.keeps hN.fr (by omega)).cell 0 rfl
    have HW2 := hid (show WalkAt W wb kb _ bg sends goals tried dead out an ak zone sent dn r0 r1 r2 r3 from by
      obtain ⟨x0, x1, x2, x3, x4, x5, x6, x7, hx, hA⟩ := HW.out
      exact ⟨x0, x1, x2, x3, x4, x5, x6, x7, hx, (hA.below hB0 hA.lt).keeps hN.fr hne⟩)
    gi_wp2_with (refine ⟨trivial, ?_⟩; gi_at_call 84; refine (CallsIn.inRound l (callsIn_wide.2 (walk_at hN.ok HW2.out h0 h1))).mono ?_; rintro e W2 ⟨rfl, hK2, hk2⟩)
    have hk3 := hk2.trans (Keeps.of_below (below_alloc W2 (.cells #[.slice none 0 0, .slice none 0 0, .slice none 0 0] 118)))
    refine ⟨⟨hk3.size, fun k o hk ho => ?_⟩, trivial, hK2.later (below_alloc _ _), hN.fr.trans hk3⟩
    have hkk : k ≠ kb := by
      intro e
      subst e
      obtain ⟨t, _, _, h⟩ := hN.ok
      obtain ⟨lb, pl, x4, hA⟩ := h.at_
      unfold At at hA
      rw [hk] at hA
      cases hA
      simp [Obj.isCells] at ho
    rw [hk3.block k (Array.getElem?_eq_some_iff.1 hk).1 hkk]
    exact hk
  case done =>
    rintro D ys W hD rfl hN hK
    have q3 := (A3.keeps hN.fr (by omega)).cell 0 rfl
    have q6 := hid (A6.keeps hN.fr (by omega))
    have z0 := q6.out.cell 0 rfl
    have z1 := q6.out.cell 1 rfl
    have z2 := q6.out.cell 2 rfl
    have f0 := q6.out.frozen 0
    have f1 := q6.out.frozen 1
    have f2 := q6.out.frozen 2
    have y0 := setCell_same z0
    have c1 : W.cell? ⟨wb, 1, none⟩ = some (.slice ra rn rc) := by
      obtain ⟨x0, x1, x2, x3, x4, x5, x6, x7, hx, hA⟩ := HW.out
      cases hx
      exact ((hA.below hB0 hA.lt).keeps hN.fr hne).cell 1 rfl
    gi_wp2
    have hD0 : ¬ D = w.heap.size + 1 + 1 := by omega
    have hst := keepsO_set2 W (w.heap.size + 1 + 1) (.slice ra rn rc) (.slice none 0 0)
    have hK2 := hst.same D _ hK rfl
    have HS := hid hst
    have A8 := ((q6.out.set 1 (.slice ra rn rc)).set 2 (.slice none 0 0))
    have A9 : At (((W.setCell ⟨w.heap.size + 1 + 1, 1, none⟩ (.slice ra rn rc)).setCell ⟨w.heap.size + 1 + 1, 2, none⟩ (.slice none 0 0)).putObj D (.deferred none)) (w.heap.size + 1 + 1) 118 [.slice none 0 0, .slice ra rn rc, .slice none 0 0] := by
      unfold At at A8 ⊢
      rw [World.putObj_heap_other (fun e => hD0 e.symm)]
      exact A8
    have k0 := A9.cell 0 rfl
    have k1 := A9.cell 1 rfl
    have k2 := A9.cell 2 rfl
    refine ⟨by simp, .inl ⟨_, _, rfl, run_takeDeferred hK2, ?_⟩⟩
    refine ⟨_, by simp [results, Tryz.results52, go_sem, k0, k1, k2]; try rfl, ?_⟩
    have hk4 : Keeps (fun k => w.heap.size ≤ k) W (((W.setCell ⟨w.heap.size + 1 + 1, 1, none⟩ (.slice ra rn rc)).setCell ⟨w.heap.size + 1 + 1, 2, none⟩ (.slice none 0 0)).putObj D (.deferred none)) :=
      ((Keeps.setCell W ⟨w.heap.size + 1 + 1, 1, none⟩ _ (show w.heap.size ≤ w.heap.size + 1 + 1 by omega)).trans (Keeps.setCell _ ⟨w.heap.size + 1 + 1, 2, none⟩ _ (show w.heap.size ≤ w.heap.size + 1 + 1 by omega))).trans
        ⟨rfl, rfl, rfl, by simp, fun k _ hk => World.putObj_heap_other (fun e => hk (by omega))⟩
    refine ⟨rfl, hN.ok.keeps hk4 (by omega) (by omega) (by omega), ?_⟩
    have h9 : Keeps (fun k => k = kb ∨ w.heap.size ≤ k) w _ := (((Keeps.of_below hB0).trans (hN.fr.mono (fun k _ hk => .inl hk))).trans (hk4.mono (fun k _ hk => .inr hk)))
    exact h9.mono (fun k hk h => h.elim id (fun h => absurd hk (by omega)))
  case stop =>
    rintro D c pre W hD _ h _
    exact h.elim
end Go.Proofs.YtfogkbdcbgpomaaGreat
