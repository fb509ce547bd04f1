/- A question goes out. -/
import Derived.Test.YtfogkbdcbgpomaaGreatSend1
import Derived.WideMake
import Derived.Deep.DeepCutAuto
set_option linter.unusedSimpArgs false
set_option linter.unusedVariables false
namespace Go.Proofs.YtfogkbdcbgpomaaGreat
open Go.RowKit

theorem Mix_1 {w : World} : Calls Tryz.prog 85 #[.int .u64 1] w fun e w' => e = .returned (.int .u64 7806831264735756412) ∧ w = w' :=
  pick_Mix.mono fun e w' ⟨h, hw⟩ => ⟨h.trans (by rw [show IntKind.u64.wrap (IntKind.u64.wrap (1 * 6364136223846793005) + 1442695040888963407) = 7806831264735756412 from by decide]), hw⟩
theorem Mix_2 {w : World} : Calls Tryz.prog 85 #[.int .u64 7806831264735756412] w fun e w' => e = .returned (.int .u64 9396908728118811419) ∧ w = w' :=
  pick_Mix.mono fun e w' ⟨h, hw⟩ => ⟨h.trans (by rw [show IntKind.u64.wrap (IntKind.u64.wrap (7806831264735756412 * 6364136223846793005) + 1442695040888963407) = 9396908728118811419 from by decide]), hw⟩

/-- What send keeps, ahead of the map's change: hs, the heap's size at its start. -/
structure DI (w0 : World) (v : Value) (l : List Int) (w : World) : Prop where
  g : At w w0.heap.size 51 [.slice none 0 0, .int .i64 1]
  sl : Sl (.int .u8) (fun k => w0.heap.size ≤ k) w v l
  fr : Below w0.heap.size w0 w
  d : At w (w0.heap.size + 1) 42 [.slice none 0 0, .int .i64 0, .slice none 0 0]
section
variable {w0 w w' : World} {v : Value} {l : List Int}
theorem DI.keeps (h : DI w0 v l w) (hk : Keeps (fun k => w0.heap.size + 2 ≤ k) w w') : DI w0 v l w' :=
  ⟨h.g.keeps hk (by omega), h.sl.keeps (hk.mono (fun k _ e => by omega)), ⟨hk.os.trans h.fr.os, hk.tape.trans h.fr.tape, hk.output.trans h.fr.output, Nat.le_trans h.fr.size hk.size, fun k hk1 => (hk.block k (Nat.lt_of_lt_of_le hk1 h.fr.size) (by omega)).trans (h.fr.block k hk1)⟩, h.d.keeps hk (by omega)⟩
theorem DI.below (h : DI w0 v l w) (hb : Below w.heap.size w w') : DI w0 v l w' := h.keeps (Keeps.of_below hb)
theorem DI.alloc (h : DI w0 v l w) (o : Obj) : DI w0 v l (w.alloc o) := h.below (below_alloc _ _)
theorem DI.drew (h : DI w0 v l w) : DI w0 v l w.drew := h.below (Below.refl _ _).drew
theorem DI.all (h : DI w0 v l w) : w.cell? ⟨w0.heap.size, 0, none⟩ = some (.slice none 0 0) ∧ w.cell? ⟨w0.heap.size, 1, none⟩ = some (.int .i64 1) ∧ DI w0 v l w := ⟨h.g.cell 0 rfl, h.g.cell 1 rfl, h⟩
end

theorem At.drew {w : World} {b : Nat} {t : TypeId} {cs : List Value} (h : At w b t cs) : At w.drew b t cs := h
/-- A new variable for a question that goes out. -/
def OutZ (w : World) (b : Nat) : Prop := At w b 177 [.slice none 0 0, .int .i64 0, .int .i64 0, .slice none 0 0, .int .i64 0, .int .i64 0]
theorem OutZ.new {w w' : World} (hb : Below (w.alloc (.cells #[.slice none 0 0, .int .i64 0, .int .i64 0, .slice none 0 0, .int .i64 0, .int .i64 0] 177)).heap.size (w.alloc (.cells #[.slice none 0 0, .int .i64 0, .int .i64 0, .slice none 0 0, .int .i64 0, .int .i64 0] 177)) w') : OutZ w' w.heap.size :=
  At.later (At.new w [.slice none 0 0, .int .i64 0, .int .i64 0, .slice none 0 0, .int .i64 0, .int .i64 0] 177) hb
theorem OutZ.newd {w w' : World} (hb : Below (w.alloc (.cells #[.slice none 0 0, .int .i64 0, .int .i64 0, .slice none 0 0, .int .i64 0, .int .i64 0] 177)).drew.heap.size (w.alloc (.cells #[.slice none 0 0, .int .i64 0, .int .i64 0, .slice none 0 0, .int .i64 0, .int .i64 0] 177)).drew w') : OutZ w' w.heap.size :=
  At.later (At.drew (At.new w [.slice none 0 0, .int .i64 0, .int .i64 0, .slice none 0 0, .int .i64 0, .int .i64 0] 177)) hb
theorem OutZ.newE {w w' : World} {b : Nat} (hb : Below (w.alloc (.cells #[.slice none 0 0, .int .i64 0, .int .i64 0, .slice none 0 0, .int .i64 0, .int .i64 0] 177)).heap.size (w.alloc (.cells #[.slice none 0 0, .int .i64 0, .int .i64 0, .slice none 0 0, .int .i64 0, .int .i64 0] 177)) w') (e : w.heap.size = b) : OutZ w' b := e ▸ OutZ.new hb
theorem OutZ.newdE {w w' : World} {b : Nat} (hb : Below (w.alloc (.cells #[.slice none 0 0, .int .i64 0, .int .i64 0, .slice none 0 0, .int .i64 0, .int .i64 0] 177)).drew.heap.size (w.alloc (.cells #[.slice none 0 0, .int .i64 0, .int .i64 0, .slice none 0 0, .int .i64 0, .int .i64 0] 177)).drew w') (e : w.heap.size = b) : OutZ w' b := e ▸ OutZ.newd hb
theorem OutZ.later {w w' : World} {b : Nat} (h : OutZ w b) (hb : Below w.heap.size w w') : OutZ w' b := At.later h hb
theorem OutZ.laterd {w w' : World} {b : Nat} (h : OutZ w b) (hb : Below w.drew.heap.size w.drew w') : OutZ w' b := At.later (At.drew h) hb
theorem OutZ.laterdd {w w' : World} {b : Nat} (h : OutZ w b) (hb : Below w.drew.drew.heap.size w.drew.drew w') : OutZ w' b := At.later (At.drew (At.drew h)) hb
theorem OutZ.all {w : World} {b : Nat} (h : OutZ w b) : w.cell? ⟨b, 0, none⟩ = some (.slice none 0 0) ∧ w.cell? ⟨b, 1, none⟩ = some (.int .i64 0) ∧ w.cell? ⟨b, 2, none⟩ = some (.int .i64 0) ∧ w.cell? ⟨b, 3, none⟩ = some (.slice none 0 0) ∧ w.cell? ⟨b, 4, none⟩ = some (.int .i64 0) ∧ w.cell? ⟨b, 5, none⟩ = some (.int .i64 0) ∧ w.frozen? ⟨b, 0, none⟩ = false ∧ w.frozen? ⟨b, 1, none⟩ = false ∧ w.frozen? ⟨b, 2, none⟩ = false ∧ w.frozen? ⟨b, 3, none⟩ = false ∧ w.frozen? ⟨b, 4, none⟩ = false ∧ w.frozen? ⟨b, 5, none⟩ = false ∧ b < w.heap.size :=
  ⟨h.cell 0 rfl, h.cell 1 rfl, h.cell 2 rfl, h.cell 3 rfl, h.cell 4 rfl, h.cell 5 rfl, h.frozen 0, h.frozen 1, h.frozen 2, h.frozen 3, h.frozen 4, h.frozen 5, h.lt⟩
theorem DI.set6 {w0 w : World} {v : Value} {l : List Int} (h : DI w0 v l w) {b : Nat} (hb : w0.heap.size + 2 ≤ b) (x0 x1 x2 x3 x4 x5 : Value) :
    DI w0 v l ((((((w.setCell ⟨b, 0, none⟩ x0).setCell ⟨b, 1, none⟩ x1).setCell ⟨b, 2, none⟩ x2).setCell ⟨b, 3, none⟩ x3).setCell ⟨b, 4, none⟩ x4).setCell ⟨b, 5, none⟩ x5) :=
  h.keeps ((keeps_set5 w b hb x0 x1 x2 x3 x4).trans (Keeps.setCell _ ⟨b, 5, none⟩ x5 hb))
theorem DI.sz {w0 w : World} {v : Value} {l : List Int} (h : DI w0 v l w) : w0.heap.size + 2 ≤ w.heap.size := h.d.lt

theorem own_set6 {α : Type} {enc : α → Value} {w : World} {B e t b : Nat} {v : Value} {l : List α} {cs : List Value} (h : Own enc w B e v l) (hA : At w b t cs) (hne : e ≠ t) (x0 x1 x2 x3 x4 x5 : Value) :
    Own enc ((((((w.setCell ⟨b, 0, none⟩ x0).setCell ⟨b, 1, none⟩ x1).setCell ⟨b, 2, none⟩ x2).setCell ⟨b, 3, none⟩ x3).setCell ⟨b, 4, none⟩ x4).setCell ⟨b, 5, none⟩ x5) B e v l :=
  h.keeps (M := fun k => k = b) ((keeps_set5 (M := fun k => k = b) w b rfl x0 x1 x2 x3 x4).trans (Keeps.setCell _ ⟨b, 5, none⟩ x5 rfl)) (fun k hk e1 => own_ne h hA hne k hk e1)

theorem kp_drew {M : Nat → Prop} {w0 w : World} (h : Keeps M w0 w) : Keeps M w0 w.drew := h.trans (Keeps.of_below (Below.refl _ _).drew)
theorem kp_alloc {M : Nat → Prop} {w0 w : World} (h : Keeps M w0 w) (o : Obj) : Keeps M w0 (w.alloc o) := h.trans (Keeps.of_below (below_alloc _ _))
theorem kp_upd {tm : Nat} {w0 w : World} (h : Keeps (fun k => k = tm) w0 w) (o : Obj) : Keeps (fun k => k = tm) w0 { w with heap := w.heap.setIfInBounds tm o } :=
  h.trans ⟨rfl, rfl, rfl, by simp, fun k _ hk => by simp only [Array.getElem?_setIfInBounds]; rw [if_neg (fun e => hk e.symm)]⟩
theorem by_chain {B : Nat} {w0 w w' : World} (h : Below B w0 w) (hb : Below w.heap.size w w') (hB : B = w0.heap.size := by rfl) : Below B w0 w' := h.trans (hb.mono (hB ▸ h.size))

theorem then_keeps {M : Nat → Prop} {K : Act → World → Prop} {Q : Exit → Act → World → Prop} {a : Act} {W6 W : World} (hk : Keeps M W6 W) (h : ∀ W7, Keeps M W6 W7 → Exit.then K Q .normal a W7) : Exit.then K Q .normal a W := h W hk
theorem keeps_at {b : Nat} {w0 w : World} (h : Keeps (fun k => k = b) w0 w) (o : Nat) (v : Value) : Keeps (fun k => k = b) w0 (w.setCell ⟨b, o, none⟩ v) := h.trans (Keeps.setCell (M := fun k => k = b) w ⟨b, o, none⟩ v rfl)
theorem then_any {K : Act → World → Prop} {Q : Exit → Act → World → Prop} {a : Act} {W6 W : World} {tm : Nat} (hk : Keeps (fun k => k = tm) W6 W) (h : ∀ W7, Keeps (fun k => k = tm) W6 W7 → Exit.then K Q .normal a W7) : Exit.then K Q .normal a W := h W hk

/-- A question that goes out. -/
def OutAt (w : World) (b : Nat) (v : Value) (id : Int) : Prop := At w b 177 [v, .int .i64 55254, .int .i64 id, .slice none 0 0, .int .i64 1, .int .i64 1]

set_option maxRecDepth 100000 in
set_option maxHeartbeats 2000000 in
theorem walk_send {w : World} {wb kb tm : Nat} {v : Value} {l : List Int} {now : Int} {ss : List Value} {bg goals dead out an ak zone sent dn r0 r1 r2 r3 : Value} (hv : Sl (.int .u8) (fun _ => False) w v l) (hl : l.length = 4) (hW : WalkAt w wb kb ss bg (.int .i64 0) goals (.map (some tm)) dead out an ak zone sent dn r0 r1 r2 r3) (hm : ∃ n, w.heap[tm]? = some (.map #[] n)) :
    Calls Tryz.prog 57 #[.pointer (some ⟨wb, 0, none⟩), .agg #[.slice none 0 0, .int .i64 1], .slice none 0 0, v, .int .i64 now, .int .u64 1] w fun e w' => (∃ a c p xa xn xc, e = .returned (.tuple #[.agg #[.slice a 4 c, .int .i64 p, .slice xa xn xc], .bool true]) ∧ Own (.int .u8) w' w.heap.size 5 (.slice a 4 c) l) ∧ Keeps (fun k => k = wb ∨ k = tm) w w' := by
  obtain ⟨a, c, n, rfl, hn⟩ : ∃ a c n, v = .slice a n c ∧ n = l.length := by
    obtain ⟨a, c, h, -⟩ := hv.shape
    exact ⟨a, c, _, h, rfl⟩
  obtain rfl : n = 4 := hn.trans hl
  clear hn
  have hD : DI w (.slice a 4 c) l ((w.alloc (.cells #[.slice none 0 0, .int .i64 1] 51)).alloc (.cells #[.slice none 0 0, .int .i64 0, .slice none 0 0] 42)) :=
    ⟨(At.new w [.slice none 0 0, .int .i64 1] 51).later (below_alloc _ _), ((hv.weaken (fun k hk h => by omega)).below (below_alloc _ _)).below (below_alloc _ _), (below_alloc _ _).alloc (by simp) _,
      by simpa using At.new (w.alloc (.cells #[.slice none 0 0, .int .i64 1] 51)) [.slice none 0 0, .int .i64 0, .slice none 0 0] 42⟩
  have HL := hid hl
  have HW := hid hW
  have HM := hid hm
  have hD2 := hD.drew
  clear hv hl hW hm
  go_enter Tryz.func57, Tryz.ntmps57
  go_upto_region 3 with (go_at_call 85; refine Mix_1.mono ?_; rintro e w2 ⟨rfl, rfl⟩)
  go_cut [16] (fun s16 wx => ∃ (ob : Nat) (a4 : Option Addr) (c4 : Nat) (id : Int), s16 = .pointer (some ⟨ob, 0, none⟩) ∧ OutAt wx ob (.slice a4 4 c4) id ∧ 0 ≤ id ∧ id < 65536 ∧ Own (.int .u8) wx (w.heap.size + 2) 5 (.slice a4 4 c4) l ∧ DI w (.slice a 4 c) l wx ∧ w.heap.size + 2 ≤ ob)
  case first =>
    go_region_held3 (fun w' => w'.cell? ⟨w.heap.size, 0, none⟩ = some (.slice none 0 0) ∧ w'.cell? ⟨w.heap.size, 1, none⟩ = some (.int .i64 1) ∧ DI w (.slice a 4 c) l w')
      (with_reducible (refine DI.all ?_; repeat (first | assumption | refine DI.drew ?_ | refine DI.alloc ?_ _ | refine DI.set6 ?_ (by first | exact hD4.sz | omega) _ _ _ _ _ _)))
      (first
        | (go_at_call 86; (refine (bytes_Clone (enc := .int .u8) (l := l) (M := fun k => w.heap.size ≤ k) (DI.sl (w0 := w) (by with_reducible (repeat (first | assumption | refine DI.drew ?_ | refine DI.alloc ?_ _)))) (fun _ => rfl) (by rw [HL.out]; decide)).mono ?_; rintro e w4 ⟨v4, rfl, ho4, hb4⟩; have hD4 : DI w (.slice a 4 c) l w4 := DI.below (by with_reducible (repeat (first | assumption | refine DI.drew ?_ | refine DI.alloc ?_ _))) hb4; have HO4 := hid ho4; obtain ⟨a4, c4, n4, rfl, hn4⟩ := ho4.shapeN; obtain rfl : n4 = 4 := hn4.trans HL.out; clear ho4 hn4); (first | (have hz4 : OutZ w4 (w.heap.size + 1 + 1) := by (first | (with_reducible refine OutZ.newE hb4 ?_; simp; done) | (with_reducible refine OutZ.newdE hb4 ?_; simp; done))) | skip))
        | (go_at_call 85; refine Mix_2.mono ?_; rintro e w2 ⟨rfl, rfl⟩)
        | (go_at_call 87; (refine goal_question.mono ?_; rintro e w5 ⟨rfl, hb5⟩; have hD5 : DI w (.slice a 4 c) l w5 := DI.below (by with_reducible (repeat (first | assumption | refine DI.drew ?_ | refine DI.alloc ?_ _))) hb5); (first | (have hz5 : OutZ w5 (w.heap.size + 1 + 1) := by (first | (with_reducible exact hz4.later hb5) | (with_reducible exact hz4.laterd hb5) | (with_reducible exact hz4.laterdd hb5))) | (have hz5 : OutZ w5 w4.heap.size := by (first | (with_reducible refine OutZ.newE hb5 ?_; simp; done) | (with_reducible refine OutZ.newdE hb5 ?_; simp; done))) | skip); (first | (have zz5 := hz5.all) | skip)))
    all_goals
      go_wp2_with fail
      go_meet
    · exact ⟨_, _, _, _, rfl, At.new w5 [.slice a4 4 c4, .int .i64 55254, .int .i64 ((IntKind.i64.wrap 1093944153).tmod 65536), .slice none 0 0, .int .i64 1, .int .i64 1] 177, by decide, by decide, ((HO4.out.below hb5).below (below_alloc _ _)).base (by simp), DI.alloc hD5 _, by have := hD5.sz; simpa using this⟩
    · exact ⟨_, _, _, _, rfl, ((((((At.set hz5 0 _).set 1 _).set 2 _).set 3 _).set 4 _).set 5 _), by decide, by decide, ((own_set6 ((HO4.out.below (below_alloc _ _)).below hb5) hz5 (by decide) _ _ _ _ _ _).base (by simp)), DI.set6 hD5 hD4.sz _ _ _ _ _ _, hD4.sz⟩
    · exact ⟨_, _, _, _, rfl, ((((((At.set hz5 0 _).set 1 _).set 2 _).set 3 _).set 4 _).set 5 _), by decide, by decide, ((own_set6 ((HO4.out.below (below_alloc _ _)).below hb5) hz5 (by decide) _ _ _ _ _ _).base (by simp)), DI.set6 hD5 hD4.sz _ _ _ _ _ _, hD4.sz⟩
    · exact ⟨_, _, _, _, rfl, ((((((At.set hz5 0 _).set 1 _).set 2 _).set 3 _).set 4 _).set 5 _), by decide, by decide, ((own_set6 (HO4.out.below hb5) hz5 (by decide) _ _ _ _ _ _).base (by simp)), DI.set6 hD5 (by omega) _ _ _ _ _ _, by omega⟩
  case rest =>
    obtain ⟨ob, a4, c4, id, rfl, hOb, i0, i1, hO, hD, hob⟩ := hcut
    have o0 := hOb.cell 0 rfl
    have o1 := hOb.cell 1 rfl
    have o2 := hOb.cell 2 rfl
    have o3 := hOb.cell 3 rfl
    have o4 := hOb.cell 4 rfl
    have o5 := hOb.cell 5 rfl
    have ol := hOb.lt
    have HO := hid hO
    have hg0 := hD.g.cell 0 rfl
    have hg1 := hD.g.cell 1 rfl
    have hgl := hD.g.lt
    have I1 := hid i1
    have HD := hid hD
    clear hOb hO hD i1 hD2
    go_upto_region 5 with (go_at_call 88; (refine (scrub_Query HO.out.sl0 HL.out (by decide) (by decide) i0 I1.out).mono ?_; rintro e w6 ⟨⟨a6, c6, xa, xn, xc, rfl, ho6⟩, hb6⟩; have HO6 := hid ho6; clear ho6))
    obtain ⟨W6, hW6⟩ : ∃ W, W = w6.alloc (.cells #[.slice a6 4 c6, .int .i64 55254, .slice xa xn xc] 42) := ⟨_, rfl⟩
    have hA6 : At W6 w6.heap.size 42 [.slice a6 4 c6, .int .i64 55254, .slice xa xn xc] := by rw [hW6]; exact At.new w6 [.slice a6 4 c6, .int .i64 55254, .slice xa xn xc] 42
    have hB6 : Below w.heap.size w W6 := by rw [hW6]; exact (HD.out.fr.trans (hb6.mono HD.out.fr.size)).alloc (Nat.le_trans HD.out.fr.size hb6.size) _
    have hcW : Below wc.heap.size wc W6 := by rw [hW6]; exact hb6.alloc hb6.size _
    have hO6 : Own (.int .u8) W6 wc.heap.size 5 (.slice a6 4 c6) l := by rw [hW6]; exact HO6.out.below (below_alloc _ _)
    have hD6 : DI w (.slice a 4 c) l W6 := HD.out.below hcW
    rw [← hW6]
    have hwbl : wb < w.heap.size := by obtain ⟨s0, s1, s2, s3, s4, s5, s6, s7, -, hA⟩ := HW.out; exact hA.lt
    obtain ⟨n0, hn0⟩ := HM.out
    have htl : tm < w.heap.size := (Array.getElem?_eq_some_iff.1 hn0).1
    have hm6 : W6.heap[tm]? = some (.map #[] n0) := (hB6.block tm htl).trans hn0
    have hne : wb ≠ tm := by
      obtain ⟨s0, s1, s2, s3, s4, s5, s6, s7, -, hA⟩ := HW.out
      rintro rfl
      unfold At at hA
      rw [hn0] at hA
      simp at hA
    have HX := hid (fun (w' : World) (hk : Keeps (fun k => k = tm) W6 w') => (show w'.cell? ⟨wb, 15, none⟩ = some (.map (some tm)) ∧ w'.cell? ⟨w.heap.size, 0, none⟩ = some (.slice none 0 0) ∧ w'.cell? ⟨w.heap.size, 1, none⟩ = some (.int .i64 1) ∧ Keeps (fun k => k = tm) W6 w' from by
      obtain ⟨s0, s1, s2, s3, s4, s5, s6, s7, -, hA⟩ := HW.out
      exact ⟨((hA.below hB6 hA.lt).keeps hk hne).cell 15 rfl, (hD6.g.keeps hk (by omega)).cell 0 rfl, (hD6.g.keeps hk (by omega)).cell 1 rfl, hk⟩))
    have HF := hid (fun (w' : World) (hb : Below W6.heap.size W6 w') => (show (∀ s : ByteArray, (Instr.lookup 53 (.map (some tm)) (.string s) false).run Tryz.prog w' = .ok (.slice none 0 0) w') ∧ (∀ (s : ByteArray) (v : Value), (Instr.mapUpdate 53 (.map (some tm)) (.string s) v).run Tryz.prog w' = .ok () { w' with heap := w'.heap.setIfInBounds tm (.map #[{ key := .string s, val := v, born := n0 }] (n0 + 1)) }) ∧ Keeps (fun k => k = tm) W6 w' from by
      have hm' : w'.heap[tm]? = some (.map #[] n0) := (hb.block tm (Nat.lt_of_lt_of_le htl hB6.size)).trans hm6
      exact ⟨fun s => lookup_empty Tryz.underlying53 Tryz.underlying9 (Tryz.zeroValue120 w') hm', fun s v => run_mapUpdate_first w' _ _ _ tm n0 s v Tryz.underlying53 Tryz.underlying9 hm', Keeps.of_below hb⟩))
    have HS6 := hid hD6.sl
    have h00 := HX.out W6 (Keeps.refl _ _)
    have HA6 := hid hA6
    have HO7 := hid hO6
    have HB6 := hid hB6
    have HM6 := hid hm6
    have HD7 := hid hD6
    have hszw : w.heap.size + 2 ≤ w6.heap.size := Nat.le_trans HD.out.sz hb6.size
    clear hn0 hm6 hA6 hO6 hD6 hcW hW6 o0 o1 o2 o3 o4 o5 hg0 hg1 hb6
    go_region_held3 (fun w' => w'.cell? ⟨wb, 15, none⟩ = some (.map (some tm)) ∧ w'.cell? ⟨w.heap.size, 0, none⟩ = some (.slice none 0 0) ∧ w'.cell? ⟨w.heap.size, 1, none⟩ = some (.int .i64 1) ∧ Keeps (fun k => k = tm) W6 w')
      (with_reducible (refine HX.out _ ?_; repeat (first | assumption | exact Keeps.refl _ _ | refine kp_drew ?_ | refine kp_alloc ?_ _ | refine kp_upd ?_ _)))
      (first
        | (go_at_call 46; (refine goal_key.mono ?_; rintro e w7 ⟨⟨s7, rfl⟩, hb7⟩; have hB7 : Below W6.heap.size W6 w7 := by_chain (by with_reducible (repeat (first | assumption | exact Below.refl _ _ | refine Below.drew ?_))) hb7; obtain ⟨lk7, mu7, kk7⟩ := HF.out w7 hB7; obtain ⟨lk7d, mu7d, kk7d⟩ := HF.out w7.drew hB7.drew))
        | (go_at_call 89; (refine (pick_Note (HS6.out.below (by with_reducible (repeat (first | assumption | exact Below.refl _ _ | refine Below.drew ?_)))) (by rw [HL.out]; decide)).mono ?_; rintro e w8 ⟨⟨x8, rfl⟩, hb8⟩; have hB8 : Below W6.heap.size W6 w8 := by_chain (by with_reducible (repeat (first | assumption | exact Below.refl _ _ | refine Below.drew ?_))) hb8; obtain ⟨lk8, mu8, kk8⟩ := HF.out w8 hB8; obtain ⟨lk8d, mu8d, kk8d⟩ := HF.out w8.drew hB8.drew)))
    rename_i hh
    obtain ⟨-, -, -, hk7⟩ := hh
    refine then_any hk7 (fun W7 hk7 => ?_)
    clear lk7 mu7 kk7 lk7d mu7d kk7d lk8 mu8 kk8 lk8d mu8d kk8d hB7 hB8 hb7 hb8 h00
    have hs6 := HB6.out.size
    have hd6 := HA6.out.lt
    obtain ⟨s0, s1, s2, s3, s4, s5, s6, s7, rfl, hA⟩ := HW.out
    have HA7 := hid ((hA.below HB6.out hA.lt).keeps hk7 hne)
    have v13 := HA7.out.cell 13 rfl
    have v17 := HA7.out.cell 17 rfl
    have v18 := HA7.out.cell 18 rfl
    have v19 := HA7.out.cell 19 rfl
    have v20 := HA7.out.cell 20 rfl
    have v21 := HA7.out.cell 21 rfl
    have f13 := HA7.out.frozen 13
    have f17 := HA7.out.frozen 17
    have f18 := HA7.out.frozen 18
    have f19 := HA7.out.frozen 19
    have f20 := HA7.out.frozen 20
    have f21 := HA7.out.frozen 21
    have fl := HA7.out.lt
    have g7 := (HD7.out.g.keeps hk7 (by omega)).cell 0 rfl
    have g8 := (HD7.out.g.keeps hk7 (by omega)).cell 1 rfl
    have d0 := (HA6.out.keeps hk7 (by omega)).cell 0 rfl
    have d1 := (HA6.out.keeps hk7 (by omega)).cell 1 rfl
    have d2 := (HA6.out.keeps hk7 (by omega)).cell 2 rfl
    have dl := (HA6.out.keeps hk7 (by omega)).lt
    have e0 := (HD7.out.d.keeps hk7 (by omega)).cell 0 rfl
    have e1 := (HD7.out.d.keeps hk7 (by omega)).cell 1 rfl
    have e2 := (HD7.out.d.keeps hk7 (by omega)).cell 2 rfl
    have ef0 := (HD7.out.d.keeps hk7 (by omega)).frozen 0
    have ef1 := (HD7.out.d.keeps hk7 (by omega)).frozen 1
    have ef2 := (HD7.out.d.keeps hk7 (by omega)).frozen 2
    have el := (HD7.out.d.keeps hk7 (by omega)).lt
    have n5 : ¬ w6.heap.size = wb := by omega
    have n3 : ¬ w.heap.size + 1 = wb := by omega
    have HK7 := hid hk7
    have HAA := hid hA
    clear hA hk7
    go_upto_region 7 with fail
    go_region
    refine then_keeps (M := fun k => k = wb) (kp_drew (keeps_at (keeps_at (keeps_at (keeps_at (keeps_at (keeps_at (Keeps.refl _ W7) 13 _) 17 _) 18 _) 19 _) 20 _) 21 _)) (fun W8 hk8 => ?_)
    have hd8 := HA6.out.keeps HK7.out (by omega)
    have he8 := (HD7.out.d.keeps HK7.out (by omega))
    have hd9 := hd8.keeps hk8 n5
    have he9 := he8.keeps hk8 n3
    have HK8 := hid hk8
    have HE9 := hid he9
    clear hd8 he8 hk8 d0 d1 d2 dl e0 e1 e2 ef0 ef1 ef2 el v13 v17 v18 v19 v20 v21 f13 f17 f18 f19 f20 f21 g7 g8
    have d0 := hd9.cell 0 rfl
    have d1 := hd9.cell 1 rfl
    have d2 := hd9.cell 2 rfl
    have dl := hd9.lt
    have e0 := he9.cell 0 rfl
    have e1 := he9.cell 1 rfl
    have e2 := he9.cell 2 rfl
    have ef0 := he9.frozen 0
    have ef1 := he9.frozen 1
    have ef2 := he9.frozen 2
    have el := he9.lt
    clear hd9 he9
    go_wp2
    have hE := ((HE9.out.set 0 (.slice a6 4 c6)).set 1 (.int .i64 55254)).set 2 (.slice xa xn xc)
    have k0 := hE.cell 0 rfl
    have k1 := hE.cell 1 rfl
    have k2 := hE.cell 2 rfl
    have kl := hE.lt
    try simp only [Exit.inBlock, Exit.then]
    refine bodyPost_ret (by simp [results, Tryz.results57, go_sem, k0, k1, k2, kl]; try rfl) rfl ?_
    have hk9 : Keeps (fun k => k = w.heap.size + 1) W8 _ := keeps_set3 (M := fun k => k = w.heap.size + 1) W8 (w.heap.size + 1) rfl (.slice a6 4 c6) (.int .i64 55254) (.slice xa xn xc)
    have hlo : ∀ k, (Value.slice a6 4 c6).ownBlock = some k → w.heap.size + 2 < k := fun k hk => by
      have := (HO7.out.lt k hk).1
      omega
    have ho9 := ((HO7.out.keeps HK7.out (fun k hk => by have := hlo k hk; omega)).keeps HK8.out (fun k hk => by have := hlo k hk; omega)).keeps hk9 (fun k hk => by have := hlo k hk; omega)
    refine ⟨⟨a6, c6, 55254, xa, xn, xc, rfl, ho9.base (by omega)⟩, ?_⟩
    have hka : Keeps (fun k => k = wb ∨ k = tm ∨ k = w.heap.size + 1) w _ := (((Keeps.of_below HB6.out).trans (HK7.out.mono (fun k _ hk => .inr (.inl hk)))).trans (HK8.out.mono (fun k _ hk => .inl hk))).trans (hk9.mono (fun k _ hk => .inr (.inr hk)))
    exact hka.mono (fun k hk h => h.elim .inl (fun h => h.elim .inr (fun h => absurd hk (by omega))))
end Go.Proofs.YtfogkbdcbgpomaaGreat
