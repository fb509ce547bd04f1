/- A writer of bytes and names. -/
import Derived.Test.YtfogkbdcbgpomaaGreatSend0
set_option linter.unusedSimpArgs false
set_option linter.unusedVariables false
namespace Go.Proofs.YtfogkbdcbgpomaaGreat
open Go.RowKit

/-- A writer that has written these bytes; its own blocks lie at B and behind. -/
def WriterAt (w : World) (b B mb : Nat) (l : List Int) : Prop := B ≤ b ∧ ∃ v, At w b 243 [v, .map (some mb)] ∧ Own (.int .u8) w B 5 v l
theorem WriterAt.below {w w' : World} {b B mb : Nat} {l : List Int} (h : WriterAt w b B mb l) (hb : Below w.heap.size w w') : WriterAt w' b B mb l := by
  obtain ⟨h0, v, hA, hO⟩ := h
  exact ⟨h0, v, hA.later hb, hO.below hb⟩
theorem WriterAt.lt {w : World} {b B mb : Nat} {l : List Int} (h : WriterAt w b B mb l) : B ≤ b ∧ b < w.heap.size := ⟨h.1, by obtain ⟨-, v, hA, -⟩ := h; exact hA.lt⟩

/-- Variables of other types are kept. -/
def Oth (w w' : World) : Prop := ∀ k t cs, At w k t cs → t ≠ 5 → t ≠ 243 → At w' k t cs
theorem Oth.below {w w' : World} (h : Below w.heap.size w w') : Oth w w' := fun _ _ _ hA _ _ => hA.later h
theorem Oth.trans {a b c : World} (h : Oth a b) (k : Oth b c) : Oth a c := fun n t cs hA h1 h2 => k n t cs (h n t cs hA h1 h2) h1 h2
theorem At.other {w : World} {a b s t : Nat} {cs ds : List Value} (h : At w a s cs) (k : At w b t ds) (hne : s ≠ t) : a ≠ b := by
  intro e
  subst e
  unfold At at h k
  rw [h] at k
  simp only [Option.some.injEq, Obj.cells.injEq] at k
  exact hne k.2.1
theorem WriterAt.base {w : World} {b B B' mb : Nat} {l : List Int} (h : WriterAt w b B mb l) (hB : B' ≤ B) : WriterAt w b B' mb l := by
  obtain ⟨h0, v, hA, hO⟩ := h
  exact ⟨Nat.le_trans hB h0, v, hA, hO.base hB⟩

set_option maxRecDepth 100000 in
theorem wname_New {w : World} : Calls Tryz.prog 106 #[] w fun e w' => ∃ b mb, e = .returned (.pointer (some ⟨b, 0, none⟩)) ∧ WriterAt w' b w.heap.size mb [] ∧ Below w.heap.size w w' := by
  have hm := fun w => run_makeMap (P := Tryz.prog) 241 w
  go_enter Tryz.func106, Tryz.ntmps106
  go_wp2
  go_ret
  refine ⟨_, w.heap.size, rfl, ⟨by simp, _, by simpa using At.new (w.alloc (.map #[] 0)) [.slice none 0 0, .map (some w.heap.size)] 243, Own.nil _ _ _ _⟩, ?_⟩
  exact (below_alloc _ _).alloc (by simp) _

/-- Where two blocks have other types, they are others. -/
theorem own_ne {α : Type} {enc : α → Value} {w : World} {B e t b : Nat} {v : Value} {l : List α} {cs : List Value} (h : Own enc w B e v l) (hA : At w b t cs) (hne : e ≠ t) : ∀ k, v.ownBlock = some k → k ≠ b := by
  intro k hk e1
  subst e1
  rcases h.2 with ⟨rfl, _⟩ | ⟨g, cap, cur, rfl, _, hg, _⟩
  · simp [Value.ownBlock] at hk
  · simp only [Value.ownBlock, Option.some.injEq] at hk
    subst hk
    rw [show w.heap[g]? = some (.cells cs.toArray t (0, 0)) from hA] at hg
    simp only [Option.some.injEq, Obj.cells.injEq] at hg
    exact hne hg.2.1.symm

set_option maxRecDepth 100000 in
theorem w_Raw {M : Nat → Prop} {w : World} {b B mb : Nat} {l bs : List Int} {v : Value} (h : WriterAt w b B mb l) (hv : Sl (.int .u8) M w v bs) (hl : l.length + bs.length ≤ 1000) :
    Calls Tryz.prog 141 #[.pointer (some ⟨b, 0, none⟩), v] w fun e w' => (e = .returned (.tuple #[])) ∧ WriterAt w' b B mb (l ++ bs) ∧ Below B w w' ∧ Oth w w' := by
  obtain ⟨hB, u, hA, hO⟩ := h
  obtain ⟨a, c, rfl, -⟩ := hv.shape
  obtain ⟨ua, uc, un, rfl, hun⟩ := hO.shapeN
  have hbl := hA.lt
  have c0 := hA.cell 0 rfl
  have f0 := hA.frozen 0
  have HA := hid hA
  have HO := hid hO
  have HV := hid hv
  have HL := hid hl
  clear hA hO hv hl hun
  go_enter Tryz.func141, Tryz.ntmps141
  go_wp2_with (at_builtin; (refine wpList_extend rfl _ _ 28 rfl B 5 (.int .u8 0) 1 Tryz.underlying28 info_u8 rfl _ l w rfl HO.out (Below.refl _ _) M _ bs rfl HV.out (fun _ => rfl) (Nat.le_trans HL.out (by decide)) (by decide) (Nat.le_trans hB (Nat.le_of_lt hbl)) ?_; intro v3 w3 hown3 hb3 hg3 hw3; have HO3 := hid hown3; have HA3 := hid (show At w3 b 243 [.slice ua un uc, .map (some mb)] from by unfold At; rw [hg3.block b hbl (fun e => own_ne HO.out HA.out (by decide) b e.symm rfl)]; exact HA.out); have HOth := hid (show Oth w w3 from fun k t cs hAk n1 _ => by unfold At; rw [hg3.block k hAk.lt (fun e => own_ne HO.out hAk (fun e1 => n1 e1.symm) k e.symm rfl)]; exact hAk); have g0 := HA3.out.frozen 0; have g1 := HA3.out.cell 0 rfl; have gl := HA3.out.lt; obtain ⟨a3, c3, n3, rfl, hn3⟩ := hown3.shapeN; clear hown3 hw3 hg3 hn3))
  go_end0
  refine ⟨rfl, ⟨hB, _, HA3.out.set 0 _, HO3.out.keeps (M := fun k => k = b) (Keeps.setCell _ _ _ rfl) (fun k hk e => own_ne HO3.out HA3.out (by decide) k hk e)⟩, hb3.setCell hB _, HOth.out.trans (fun k t cs hAk n1 n2 => hAk.keeps (M := fun k => k = b) (Keeps.setCell _ _ _ rfl) (hAk.other HA3.out n2))⟩

set_option maxRecDepth 100000 in
theorem w_Num {w : World} {b B mb : Nat} {l : List Int} {n s : Int} (h : WriterAt w b B mb l) (hl : l.length + s.toNat ≤ 1000) (h1 : 1 ≤ s) (h7 : s ≤ 7) (h0 : 0 ≤ n) (hn : n < 2 ^ (8 * s.toNat)) :
    Calls Tryz.prog 107 #[.pointer (some ⟨b, 0, none⟩), .int .i64 n, .int .i64 s] w fun e w' => (e = .returned (.tuple #[])) ∧ (∃ xs : List Int, xs.length = s.toNat ∧ WriterAt w' b B mb (l ++ xs)) ∧ Below B w w' ∧ Oth w w' := by
  have hlt := h.lt
  have H := hid h
  have H1 := hid h1
  have H7 := hid h7
  have H0 := hid h0
  have HN := hid hn
  have HL := hid hl
  clear h h1 h7 h0 hn hl
  go_enter Tryz.func107, Tryz.ntmps107
  go_wp2_with (first
    | (go_at_call 95; (refine (num_Put (l := []) (M := fun _ => False) (.inl ⟨rfl, rfl⟩) (by simp) H1.out H7.out H0.out HN.out).mono ?_; rintro e w2 ⟨v2, xs, rfl, hx2, ho2, hb2⟩; have HO2 := hid ho2; have HX2 := hid hx2; clear ho2 hx2))
    | (go_at_call 141; (refine (w_Raw (H.out.below hb2) HO2.out.sl0 (by have h8 := HX2.out; have h9 := HL.out; simp at h8; omega)).mono ?_; rintro e w3 ⟨rfl, hW3, hb3, ho3⟩; have HOth3 := hid ho3; clear ho3; have HW3 := hid hW3; clear hW3)))
  go_end0
  exact ⟨rfl, ⟨xs, by simpa using HX2.out, HW3.out⟩, (hb2.mono (by omega)).trans hb3, (Oth.below hb2).trans HOth3.out⟩

set_option maxRecDepth 100000 in
theorem w_Bytes {w : World} {b B mb : Nat} {l : List Int} (h : WriterAt w b B mb l) (hl : l.length ≤ 1000) :
    Calls Tryz.prog 110 #[.pointer (some ⟨b, 0, none⟩)] w fun e w' => ∃ v, e = .returned v ∧ Own (.int .u8) w' w.heap.size 5 v l ∧ Below w.heap.size w w' := by
  obtain ⟨hB, u, hA, hO⟩ := h
  have c0 := hA.cell 0 rfl
  have HO := hid hO
  have HL := hid hl
  obtain ⟨ua, uc, un, rfl, hun⟩ := hO.shapeN
  clear hA hO hl hun
  go_enter Tryz.func110, Tryz.ntmps110
  go_wp2_with (go_at_call 130; (refine (Clone_u8 HO.out.sl0 (fun _ => rfl) (Nat.le_trans HL.out (by decide))).mono ?_; rintro e w2 ⟨v2, rfl, ho2, hb2⟩; have HO2 := hid ho2; clear ho2))
  go_ret
  exact ⟨_, rfl, HO2.out, hb2⟩
end Go.Proofs.YtfogkbdcbgpomaaGreat
