/- The bytes of a message that asks for the empty name's addresses. -/
import Derived.Test.YtfogkbdcbgpomaaGreatMsg2
set_option linter.unusedSimpArgs false
set_option linter.unusedVariables false
namespace Go.Proofs.YtfogkbdcbgpomaaGreat
open Go.RowKit

/-- A writer that has written so many bytes. -/
def WriterN (w : World) (b B mb n : Nat) : Prop := ∃ l : List Int, l.length = n ∧ WriterAt w b B mb l
theorem WriterN.below {w w' : World} {b B mb n : Nat} (h : WriterN w b B mb n) (hb : Below w.heap.size w w') : WriterN w' b B mb n := by
  obtain ⟨l, hl, h⟩ := h
  exact ⟨l, hl, h.below hb⟩
theorem n_Num {w : World} {b B mb m : Nat} {n s : Int} (h : WriterN w b B mb m) (hl : m + s.toNat ≤ 1000) (h1 : 1 ≤ s) (h7 : s ≤ 7) (h0 : 0 ≤ n) (hn : n < 2 ^ (8 * s.toNat)) :
    Calls Tryz.prog 107 #[.pointer (some ⟨b, 0, none⟩), .int .i64 n, .int .i64 s] w fun e w' => (e = .returned (.tuple #[])) ∧ WriterN w' b B mb (m + s.toNat) ∧ Below B w w' ∧ Oth w w' := by
  obtain ⟨l, rfl, h⟩ := h
  exact (w_Num h hl h1 h7 h0 hn).mono fun e w' ⟨he, ⟨xs, hx, hw⟩, hr⟩ => ⟨he, ⟨_, by simp [hx], hw⟩, hr⟩
theorem n_Name {w : World} {b B mb m : Nat} (h : WriterN w b B mb m) (hl : m ≤ 900) :
    Calls Tryz.prog 109 #[.pointer (some ⟨b, 0, none⟩), .slice none 0 0, .bool true] w fun e w' => (∃ x, e = .returned x) ∧ WriterN w' b B mb (m + 1) ∧ Below B w w' ∧ Oth w w' := by
  obtain ⟨l, rfl, h⟩ := h
  exact (w_Name_nil h hl).mono fun e w' ⟨he, ⟨xs, hx, hw⟩, hr⟩ => ⟨he, ⟨_, by simp [hx], hw⟩, hr⟩
theorem n_Raw {M : Nat → Prop} {w : World} {b B mb m : Nat} {bs : List Int} {v : Value} (h : WriterN w b B mb m) (hv : Sl (.int .u8) M w v bs) (hl : m + bs.length ≤ 1000) :
    Calls Tryz.prog 141 #[.pointer (some ⟨b, 0, none⟩), v] w fun e w' => (e = .returned (.tuple #[])) ∧ WriterN w' b B mb (m + bs.length) ∧ Below B w w' ∧ Oth w w' := by
  obtain ⟨l, rfl, h⟩ := h
  exact (w_Raw h hv hl).mono fun e w' ⟨he, hw, hr⟩ => ⟨he, ⟨_, by simp, hw⟩, hr⟩
theorem n_Bytes {w : World} {b B mb m : Nat} (h : WriterN w b B mb m) (hl : m ≤ 1000) :
    Calls Tryz.prog 110 #[.pointer (some ⟨b, 0, none⟩)] w fun e w' => ∃ v, e = .returned v ∧ (∃ l : List Int, l.length = m ∧ Own (.int .u8) w' w.heap.size 5 v l) ∧ Below w.heap.size w w' := by
  obtain ⟨l, rfl, h⟩ := h
  exact (w_Bytes h hl).mono fun e w' ⟨v, he, ho, hr⟩ => ⟨v, he, ⟨l, rfl, ho⟩, hr⟩

/-- What Raw keeps, from one step to the next. -/
structure RI (w0 : World) (b : Nat) (id : Int) (qg wb mb n : Nat) (w : World) : Prop where
  m : MsgAt w b id qg
  q : QAt w qg
  wr : WriterN w wb w0.heap.size mb n
  fr : Below w0.heap.size w0 w
theorem RI.below {w0 w w' : World} {b : Nat} {id : Int} {qg wb mb n : Nat} (h : RI w0 b id qg wb mb n w) (hb : Below w.heap.size w w') : RI w0 b id qg wb mb n w' :=
  ⟨At.later h.m hb, At.later h.q hb, h.wr.below hb, h.fr.trans (hb.mono h.fr.size)⟩
theorem RI.drew {w0 w : World} {b : Nat} {id : Int} {qg wb mb n : Nat} (h : RI w0 b id qg wb mb n w) : RI w0 b id qg wb mb n w.drew := h.below (Below.refl _ _).drew
theorem RI.all {w0 w : World} {b : Nat} {id : Int} {qg wb mb n : Nat} (h : RI w0 b id qg wb mb n w) :
    w.cell? ⟨b, 0, none⟩ = some (.int .i64 id) ∧ w.cell? ⟨b, 8, none⟩ = some (.slice (some ⟨qg, 0, none⟩) 1 1) ∧ w.cell? ⟨b, 9, none⟩ = some (.slice none 0 0) ∧ w.cell? ⟨b, 10, none⟩ = some (.slice none 0 0) ∧ RI w0 b id qg wb mb n w :=
  ⟨h.m.cell 0 rfl, h.m.cell 8 rfl, h.m.cell 9 rfl, h.m.cell 10 rfl, h⟩
theorem RI.step {w0 w w' : World} {b : Nat} {id : Int} {qg wb mb n n' : Nat} (h : RI w0 b id qg wb mb n w) (hw : WriterN w' wb w0.heap.size mb n') (hb : Below w0.heap.size w w') (ho : Oth w w') : RI w0 b id qg wb mb n' w' :=
  ⟨ho _ _ _ h.m (by decide) (by decide), ho _ _ _ h.q (by decide) (by decide), hw, h.fr.trans hb⟩
/-- The message's and the question's cells. -/
theorem RI.cells {w0 w : World} {b : Nat} {id : Int} {qg wb mb n : Nat} (h : RI w0 b id qg wb mb n w) :
    w.cell? ⟨b, 8, none⟩ = some (.slice (some ⟨qg, 0, none⟩) 1 1) ∧ w.cell? ⟨b, 9, none⟩ = some (.slice none 0 0) ∧ w.cell? ⟨b, 10, none⟩ = some (.slice none 0 0) ∧ w.cell? ⟨b, 11, none⟩ = some (.slice none 0 0) ∧ w.cell? ⟨b, 12, none⟩ = some (.bool true) ∧ w.cell? ⟨b, 13, none⟩ = some (.int .i64 1232) ∧ b < w.heap.size ∧ w.cell? ⟨qg, 0, none⟩ = some (.slice none 0 0) ∧ w.cell? ⟨qg, 1, none⟩ = some (.int .i64 1) ∧ w.cell? ⟨qg, 2, none⟩ = some (.int .i64 1) ∧ qg < w.heap.size :=
  ⟨h.m.cell 8 rfl, h.m.cell 9 rfl, h.m.cell 10 rfl, h.m.cell 11 rfl, h.m.cell 12 rfl, h.m.cell 13 rfl, h.m.lt, h.q.cell 0 rfl, h.q.cell 1 rfl, h.q.cell 2 rfl, h.q.lt⟩

/-- The six numbers of the head. -/
def SixAt (w : World) (g : Nat) (id : Int) : Prop := At w g 3 [.int .i64 id, .int .i64 0, .int .i64 1, .int .i64 0, .int .i64 0, .int .i64 1]
theorem SixAt.all {w : World} {g : Nat} {id : Int} (h : SixAt w g id) : w.cell? ⟨g, 0, none⟩ = some (.int .i64 id) ∧ w.cell? ⟨g, 1, none⟩ = some (.int .i64 0) ∧ w.cell? ⟨g, 2, none⟩ = some (.int .i64 1) ∧ w.cell? ⟨g, 3, none⟩ = some (.int .i64 0) ∧ w.cell? ⟨g, 4, none⟩ = some (.int .i64 0) ∧ w.cell? ⟨g, 5, none⟩ = some (.int .i64 1) ∧ g < w.heap.size :=
  ⟨h.cell 0 rfl, h.cell 1 rfl, h.cell 2 rfl, h.cell 3 rfl, h.cell 4 rfl, h.cell 5 rfl, h.lt⟩

set_option maxRecDepth 100000 in
set_option maxHeartbeats 2000000 in
theorem msg_Raw {w : World} {id : Int} {qg : Nat} (hQ : QAt w qg) (h0 : 0 ≤ id) (h1 : id < 65536) :
    Calls Tryz.prog 152 #[.agg #[.int .i64 id, .bool false, .int .i64 0, .bool false, .bool false, .bool false, .bool false, .int .i64 0, .slice (some ⟨qg, 0, none⟩) 1 1, .slice none 0 0, .slice none 0 0, .slice none 0 0, .bool true, .int .i64 1232]] w fun e w' => ∃ v l, e = .returned v ∧ Own (.int .u8) w' w.heap.size 5 v l ∧ l.length ≤ 100 ∧ Below w.heap.size w w' := by
  have hql := hQ.lt
  have H1 := hid h1
  have hM := At.new w [.int .i64 id, .bool false, .int .i64 0, .bool false, .bool false, .bool false, .bool false, .int .i64 0, .slice (some ⟨qg, 0, none⟩) 1 1, .slice none 0 0, .slice none 0 0, .slice none 0 0, .bool true, .int .i64 1232] 222
  have hB := below_alloc w (.cells #[.int .i64 id, .bool false, .int .i64 0, .bool false, .bool false, .bool false, .bool false, .int .i64 0, .slice (some ⟨qg, 0, none⟩) 1 1, .slice none 0 0, .slice none 0 0, .slice none 0 0, .bool true, .int .i64 1232] 222)
  have HQ := hid (At.later hQ hB)
  have HM := hid hM
  have HB := hid hB
  clear hQ h1 hM hB
  go_enter Tryz.func152, Tryz.ntmps152
  go_wp2_with (go_at_call 106; (refine wname_New.mono ?_; rintro e w2 ⟨wb, mb, rfl, hW2, hb2⟩; have hsz2 := hW2.lt; simp only [World.size_alloc] at hsz2; have HI2 := hid (show RI w w.heap.size id qg wb mb 0 w2 from ⟨At.later HM.out hb2, At.later HQ.out hb2, ⟨[], rfl, hW2.base (by simp)⟩, HB.out.trans (hb2.mono (by simp))⟩); clear hW2; have x11 := HI2.out.m.cell 11 rfl; have x12 := HI2.out.m.cell 12 rfl; have xl := HI2.out.m.lt))
  go_region_held3 (fun w' => w'.cell? ⟨w.heap.size, 0, none⟩ = some (.int .i64 id) ∧ w'.cell? ⟨w.heap.size, 8, none⟩ = some (.slice (some ⟨qg, 0, none⟩) 1 1) ∧ w'.cell? ⟨w.heap.size, 9, none⟩ = some (.slice none 0 0) ∧ w'.cell? ⟨w.heap.size, 10, none⟩ = some (.slice none 0 0) ∧ RI w w.heap.size id qg wb mb 0 w')
    (first | exact RI.all (by assumption) | exact RI.all HI2.out | exact RI.all (RI.drew (by assumption)) | exact RI.all (RI.drew HI2.out) | exact RI.all (RI.below (by assumption) (below_alloc _ _)) | exact RI.all (RI.below HI2.out (below_alloc _ _)) | exact RI.all (RI.below (RI.drew HI2.out) (below_alloc _ _)) | exact RI.all (RI.below (RI.drew (by assumption)) (below_alloc _ _)))
    (first | (go_at_call 175; (refine (msg_flags (RI.m (w0 := w) (by first | exact HI2.out | exact RI.drew HI2.out | assumption | exact RI.drew (by assumption)))).mono ?_; rintro e w3 ⟨rfl, hb3⟩; have hI3 : RI w w.heap.size id qg wb mb 0 w3 := RI.below (by first | exact HI2.out | exact RI.drew HI2.out | assumption | exact RI.drew (by assumption)) hb3)))
  have HI4 := hid (RI.below hI3 (below_alloc w3 (.cells #[.int .i64 id, .int .i64 0, .int .i64 1, .int .i64 0, .int .i64 0, .int .i64 1] 3)))
  have HS4 := hid (show SixAt (w3.alloc (.cells #[.int .i64 id, .int .i64 0, .int .i64 1, .int .i64 0, .int .i64 0, .int .i64 1] 3)) w3.heap.size id from At.new w3 [.int .i64 id, .int .i64 0, .int .i64 1, .int .i64 0, .int .i64 0, .int .i64 1] 3)
  clear hI3 hb3
  go_wp2
  refine wp_loop_rounds 7 ?_
  rw [rounds_succ]
  go_wp2_with (go_at_call 107; (refine (n_Num HI4.out.wr (by decide) (by decide) (by decide) (by first | decide | exact h0) (by first | decide | exact H1.out)).mono ?_; rintro e w5 ⟨rfl, hw5, hb5, ho5⟩; have HI5 := hid (HI4.out.step hw5 hb5 ho5); have HS5 := hid (show SixAt w5 w3.heap.size id from ho5 _ _ _ HS4.out (by decide) (by decide)); have ha5 := HS5.out.all; clear hw5 hb5 ho5))
  rw [rounds_succ]
  go_wp2_with (go_at_call 107; (refine (n_Num HI5.out.wr (by decide) (by decide) (by decide) (by first | decide | exact h0) (by first | decide | exact H1.out)).mono ?_; rintro e w6 ⟨rfl, hw6, hb6, ho6⟩; have HI6 := hid (HI5.out.step hw6 hb6 ho6); have HS6 := hid (show SixAt w6 w3.heap.size id from ho6 _ _ _ HS5.out (by decide) (by decide)); have ha6 := HS6.out.all; clear hw6 hb6 ho6))
  rw [rounds_succ]
  go_wp2_with (go_at_call 107; (refine (n_Num HI6.out.wr (by decide) (by decide) (by decide) (by first | decide | exact h0) (by first | decide | exact H1.out)).mono ?_; rintro e w7 ⟨rfl, hw7, hb7, ho7⟩; have HI7 := hid (HI6.out.step hw7 hb7 ho7); have HS7 := hid (show SixAt w7 w3.heap.size id from ho7 _ _ _ HS6.out (by decide) (by decide)); have ha7 := HS7.out.all; clear hw7 hb7 ho7))
  rw [rounds_succ]
  go_wp2_with (go_at_call 107; (refine (n_Num HI7.out.wr (by decide) (by decide) (by decide) (by first | decide | exact h0) (by first | decide | exact H1.out)).mono ?_; rintro e w8 ⟨rfl, hw8, hb8, ho8⟩; have HI8 := hid (HI7.out.step hw8 hb8 ho8); have HS8 := hid (show SixAt w8 w3.heap.size id from ho8 _ _ _ HS7.out (by decide) (by decide)); have ha8 := HS8.out.all; clear hw8 hb8 ho8))
  rw [rounds_succ]
  go_wp2_with (go_at_call 107; (refine (n_Num HI8.out.wr (by decide) (by decide) (by decide) (by first | decide | exact h0) (by first | decide | exact H1.out)).mono ?_; rintro e w9 ⟨rfl, hw9, hb9, ho9⟩; have HI9 := hid (HI8.out.step hw9 hb9 ho9); have HS9 := hid (show SixAt w9 w3.heap.size id from ho9 _ _ _ HS8.out (by decide) (by decide)); have ha9 := HS9.out.all; clear hw9 hb9 ho9))
  rw [rounds_succ]
  go_wp2_with (go_at_call 107; (refine (n_Num HI9.out.wr (by decide) (by decide) (by decide) (by first | decide | exact h0) (by first | decide | exact H1.out)).mono ?_; rintro e w10 ⟨rfl, hw10, hb10, ho10⟩; have HI10 := hid (HI9.out.step hw10 hb10 ho10); have HS10 := hid (show SixAt w10 w3.heap.size id from ho10 _ _ _ HS9.out (by decide) (by decide)); have ha10 := HS10.out.all; clear hw10 hb10 ho10))
  have hc10 := HI10.out.cells
  rw [rounds_succ]
  go_wp2
  have HI11 := hid (RI.below HI10.out (below_alloc w10 (.cells #[.slice none 0 0, .int .i64 1, .int .i64 1] 38)))
  have HS11 := hid (show QAt (w10.alloc (.cells #[.slice none 0 0, .int .i64 1, .int .i64 1] 38)) w10.heap.size from At.new w10 [.slice none 0 0, .int .i64 1, .int .i64 1] 38)
  refine wp_loop_rounds 2 ?_
  rw [rounds_succ]
  go_wp2_with (first
    | (go_at_call 109; (refine (n_Name HI11.out.wr (by decide)).mono ?_; rintro e w12 ⟨⟨x12, rfl⟩, hw12, hb12, ho12⟩; have HI12 := hid (HI11.out.step hw12 hb12 ho12); have HS12 := hid (show QAt w12 w10.heap.size from ho12 _ _ _ HS11.out (by decide) (by decide)); have qa12 := HS12.out.cell 1 rfl; have qb12 := HS12.out.lt; clear hw12 hb12 ho12))
    | (go_at_call 107; (refine (n_Num HI13.out.wr (by decide) (by decide) (by decide) (by decide) (by decide)).mono ?_; rintro e w14 ⟨rfl, hw14, hb14, ho14⟩; have HI14 := hid (HI13.out.step hw14 hb14 ho14); clear hw14 hb14 ho14))
    | (go_at_call 107; (refine (n_Num HI12.out.wr (by decide) (by decide) (by decide) (by decide) (by decide)).mono ?_; rintro e w13 ⟨rfl, hw13, hb13, ho13⟩; have HI13 := hid (HI12.out.step hw13 hb13 ho13); have HS13 := hid (show QAt w13 w10.heap.size from ho13 _ _ _ HS12.out (by decide) (by decide)); have qa13 := HS13.out.cell 2 rfl; have qb13 := HS13.out.lt; clear hw13 hb13 ho13)))
  rw [rounds_succ]
  go_wp2_with (go_at_call 168; refine msg_sections.mono ?_; rintro e w15 ⟨g, hg, rfl, hAg, hb15⟩; have g0 := hAg.cell 0 rfl; have g1 := hAg.cell 1 rfl; have g2 := hAg.cell 2 rfl; have gl := hAg.lt; have HI15 := hid (HI14.out.below hb15); have hc15 := HI15.out.cells; clear hAg)
  refine wp_loop_rounds 4 ?_
  rw [rounds_succ]
  go_wp2
  refine wp_loop_rounds 1 ?_
  rw [rounds_succ]
  go_wp2
  rw [rounds_succ]
  go_wp2
  refine wp_loop_rounds 1 ?_
  rw [rounds_succ]
  go_wp2
  rw [rounds_succ]
  go_wp2
  refine wp_loop_rounds 1 ?_
  rw [rounds_succ]
  go_wp2
  rw [rounds_succ]
  have HI16 := hid (RI.below HI15.out (below_alloc w15 (.cells #[.int .u8 0] 5)))
  have HV16 := hid (Sl.of_At (enc := .int .u8) (M := fun _ => False) (l := [0]) (show At (w15.alloc (.cells #[.int .u8 0] 5)) w15.heap.size 5 ([0].map (.int .u8)) from At.new w15 [.int .u8 0] 5) (fun x => x) (by decide))
  go_wp2_with (first
    | (go_at_call 141; (refine (n_Raw HI16.out.wr HV16.out (by decide)).mono ?_; rintro e w17 ⟨rfl, hw17, hb17, ho17⟩; have HI17 := hid (HI16.out.step hw17 hb17 ho17); have hc17 := HI17.out.cells; clear hw17 hb17 ho17))
    | (go_at_call 110; (refine (n_Bytes HI20.out.wr (by decide)).mono ?_; rintro e w21 ⟨v21, rfl, hw21, hb21⟩; have HI21 := hid (HI20.out.below hb21); have HO21 := hid hw21; clear hw21 hb21))
    | (go_at_call 107; (refine (n_Num HI19.out.wr (by decide) (by decide) (by decide) (by decide) (by decide)).mono ?_; rintro e w20 ⟨rfl, hw20, hb20, ho20⟩; have HI20 := hid (HI19.out.step hw20 hb20 ho20); have hc20 := HI20.out.cells; clear hw20 hb20 ho20))
    | (go_at_call 107; (refine (n_Num HI18.out.wr (by decide) (by decide) (by decide) (by decide) (by decide)).mono ?_; rintro e w19 ⟨rfl, hw19, hb19, ho19⟩; have HI19 := hid (HI18.out.step hw19 hb19 ho19); have hc19 := HI19.out.cells; clear hw19 hb19 ho19))
    | (go_at_call 107; (refine (n_Num HI17.out.wr (by decide) (by decide) (by decide) (by decide) (by decide)).mono ?_; rintro e w18 ⟨rfl, hw18, hb18, ho18⟩; have HI18 := hid (HI17.out.step hw18 hb18 ho18); have hc18 := HI18.out.cells; clear hw18 hb18 ho18)))
  go_ret
  obtain ⟨l, hl, ho⟩ := HO21.out
  exact ⟨_, l, rfl, ho.base HI20.out.fr.size, by rw [hl]; decide, HI21.out.fr⟩

set_option maxRecDepth 100000 in
theorem msg_Encode {w : World} {id : Int} {qg : Nat} (hQ : QAt w qg) (h0 : 0 ≤ id) (h1 : id < 65536) :
    Calls Tryz.prog 126 #[.agg #[.int .i64 id, .bool false, .int .i64 0, .bool false, .bool false, .bool false, .bool false, .int .i64 0, .slice (some ⟨qg, 0, none⟩) 1 1, .slice none 0 0, .slice none 0 0, .slice none 0 0, .bool true, .int .i64 1232]] w fun e w' => (∃ a n c, e = .returned (.tuple #[.slice a n c, .int .i64 0])) ∧ Below w.heap.size w w' := by
  have hB := below_alloc w (.cells #[.int .i64 id, .bool false, .int .i64 0, .bool false, .bool false, .bool false, .bool false, .int .i64 0, .slice (some ⟨qg, 0, none⟩) 1 1, .slice none 0 0, .slice none 0 0, .slice none 0 0, .bool true, .int .i64 1232] 222)
  have hA := At.new w [.int .i64 id, .bool false, .int .i64 0, .bool false, .bool false, .bool false, .bool false, .int .i64 0, .slice (some ⟨qg, 0, none⟩) 1 1, .slice none 0 0, .slice none 0 0, .slice none 0 0, .bool true, .int .i64 1232] 222
  have HQ := hid (At.later hQ hB)
  have HB := hid hB
  have HA := hid hA
  have H1 := hid h1
  clear hQ h1 hB hA
  go_enter Tryz.func126, Tryz.ntmps126
  go_wp2_with (first
    | (go_at_call 151; (refine (msg_Sound HQ.out h0 H1.out).mono ?_; rintro e w2 ⟨rfl, hb2⟩; have HQ2 := hid (At.later HQ.out hb2); have hA2 := At.later HA.out hb2; have k0 := hA2.cell 0 rfl; have k1 := hA2.cell 1 rfl; have k2 := hA2.cell 2 rfl; have k3 := hA2.cell 3 rfl; have k4 := hA2.cell 4 rfl; have k5 := hA2.cell 5 rfl; have k6 := hA2.cell 6 rfl; have k7 := hA2.cell 7 rfl; have k8 := hA2.cell 8 rfl; have k9 := hA2.cell 9 rfl; have k10 := hA2.cell 10 rfl; have k11 := hA2.cell 11 rfl; have k12 := hA2.cell 12 rfl; have k13 := hA2.cell 13 rfl; have kl := hA2.lt; clear hA2))
    | (go_at_call 152; (refine (msg_Raw HQ2.out h0 H1.out).mono ?_; rintro e w3 ⟨v3, l3, rfl, ho3, hl3, hb3⟩; obtain ⟨a3, c3, n3, rfl, hn3⟩ := ho3.shapeN; clear ho3)))
  go_ret2
  have h12 := HB.out.trans (hb2.mono HB.out.size)
  exact ⟨⟨_, _, _, rfl⟩, h12.trans (hb3.mono h12.size)⟩
end Go.Proofs.YtfogkbdcbgpomaaGreat
