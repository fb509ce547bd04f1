/- Small functions on the way of a question. -/
import Derived.Test.YtfogkbdcbgpomaaGreatFind
import Derived.Test.YtfogkbdcbgpomaaGreatSound2
set_option linter.unusedSimpArgs false
set_option linter.unusedVariables false
namespace Go.Proofs.YtfogkbdcbgpomaaGreat
open Go.RowKit

theorem goal_key {w : World} : Calls Tryz.prog 46 #[.agg #[.slice none 0 0, .int .i64 1]] w fun e w' => (∃ s, e = .returned (.string s)) ∧ Below w.heap.size w w' := by
  go_enter Tryz.func46, Tryz.ntmps46
  go_wp2_with (go_at_call 76; refine (fact_Key (.inr (.inl rfl))).mono ?_; rintro e w2 ⟨⟨s, rfl⟩, hb2⟩)
  go_ret
  exact ⟨⟨_, rfl⟩, (below_alloc _ _).trans (hb2.mono (by simp))⟩

theorem pick_Mix {w : World} {x : Int} : Calls Tryz.prog 85 #[.int .u64 x] w fun e w' => e = .returned (.int .u64 (IntKind.u64.wrap (IntKind.u64.wrap (x * 6364136223846793005) + 1442695040888963407))) ∧ w = w' := by
  go_enter Tryz.func85, Tryz.ntmps85
  go_wp2
  go_ret
  exact ⟨rfl, rfl⟩

theorem Clone_str_nil {w : World} : Calls Tryz.prog 14 #[.slice none 0 0] w fun e w' => e = .returned (.slice none 0 0) ∧ w = w' := by
  have qs : ∀ (w : World) (a : Option Addr) (n c n' c' : Nat), (binOp .eql 29 (.slice a n c) (.slice none n' c')).run Tryz.prog w = .ok (.bool a.isNone) w := fun w a n c n' c' => Lib.run_eql_slice_nil w _ _ a n c n' c' Tryz.underlying29
  go_enter Tryz.func14, Tryz.ntmps14
  go_wp2
  go_ret
  exact ⟨rfl, rfl⟩

set_option maxRecDepth 100000 in
theorem goal_question {w : World} : Calls Tryz.prog 87 #[.agg #[.slice none 0 0, .int .i64 1]] w fun e w' => e = .returned (.agg #[.slice none 0 0, .int .i64 1, .int .i64 1]) ∧ Below w.heap.size w w' := by
  go_enter Tryz.func87, Tryz.ntmps87
  go_wp2
  go_region_held3 (fun w' => w'.cell? ⟨w.heap.size, 0, none⟩ = some (.slice none 0 0) ∧ w'.cell? ⟨w.heap.size, 1, none⟩ = some (.int .i64 1)) (first | (constructor <;> go_simp) | assumption | (simp [*]; done))
    (first | (go_at_call 14; refine Clone_str_nil.mono ?_; rintro e w2 ⟨rfl, rfl⟩))
  go_wp2
  try simp only [Exit.inBlock, Exit.then]
  refine bodyPost_ret (by simp [results, Tryz.results87, go_sem]; try rfl) rfl ?_
  refine ⟨rfl, ?_⟩
  exact ((below_alloc _ _).alloc (by simp) _).drew

set_option maxRecDepth 100000 in
theorem Index_tried {w : World} {fv : Value} : Calls Tryz.prog 53 #[.slice none 0 0, fv] w fun e w' => e = .returned (.int .i64 (-1)) ∧ w = w' := by
  go_enter Tryz.func53, Tryz.ntmps53
  go_wp2
  refine wp_loop_rounds 1 ?_
  rw [rounds_succ]
  go_wp2
  go_ret
  exact ⟨rfl, rfl⟩
theorem Index_RR {w : World} {fv : Value} : Calls Tryz.prog 186 #[.slice none 0 0, fv] w fun e w' => e = .returned (.int .i64 (-1)) ∧ w = w' := by
  go_enter Tryz.func186, Tryz.ntmps186
  go_wp2
  refine wp_loop_rounds 1 ?_
  rw [rounds_succ]
  go_wp2
  go_ret
  exact ⟨rfl, rfl⟩
theorem Contains_RR {w : World} {fv : Value} : Calls Tryz.prog 169 #[.slice none 0 0, fv] w fun e w' => e = .returned (.bool false) ∧ w = w' := by
  go_enter Tryz.func169, Tryz.ntmps169
  go_wp2_with (go_at_call 186; refine Index_RR.mono ?_; rintro e w' ⟨rfl, rfl⟩)
  go_ret
  exact ⟨rfl, rfl⟩

set_option maxRecDepth 100000 in
theorem pick_Next {w : World} {B : Nat} {v : Value} {aa : Option Addr} {an ac : Nat} (h : w.ownsRow B 123 3 v 1 [.slice aa an ac, .int .i64 0, .bool false]) :
    Calls Tryz.prog 56 #[v, .int .i64 3, .int .i64 0] w fun e w' => e = .returned (.int .i64 0) ∧ Below w.heap.size w w' := by
  obtain ⟨-, ⟨-, h0⟩ | ⟨g, cap, cur, rfl, -, hg, hn, hc, hs, ht⟩⟩ := h
  · omega
  have hgl : g < w.heap.size := (Array.getElem?_eq_some_iff.1 hg).1
  have hcell : ∀ i x, [.slice aa an ac, Value.int .i64 0, .bool false][i]? = some x → w.cell? ⟨g, i, none⟩ = some x := by
    intro i x hx
    rw [← ht, List.getElem?_take] at hx
    split at hx
    · rename_i hi
      simp only [World.cell?, hg]
      simpa using hx
    · exact absurd hx (by simp)
  have c0 := hcell 0 _ rfl
  have c1 := hcell 1 _ rfl
  have c2 := hcell 2 _ rfl
  have H := hid hg
  have HC := hid hc
  clear hg ht hs hcell hc
  go_enter Tryz.func56, Tryz.ntmps56
  go_wp2
  refine wp_loop_rounds 2 ?_
  rw [rounds_succ]
  go_wp2
  go_quiet (fail)
  go_wp2
  rw [rounds_succ]
  go_wp2
  go_ret
  exact ⟨rfl, ((((Keeps.refl (fun _ => False) w).alloc _).drewN nq).alloc _).below⟩

/-- 'append(nil, x)' of one record of three cells. -/
theorem wpList_push3 {P : Program} {w : World} {ops : Array Oper} {rest : List Oper} {o : Oper} {a : Act} {Q : Exit → Act → World → Prop} (hgd : o.guard = none) (s x : Operand) (t : TypeId)
    (ho : o.op = .call { callee := .builtin .append, args := #[s, x], argTypes := #[t, t] })
    (B : Nat) (e : TypeId) (z : Value) (bytes : Nat) (ht : P.underlying t = some (.slice e)) (hinfo : (P.info? e).map (fun i => (i.zero, i.size, i.bytes)) = some (some z, 3, bytes)) (hzs : z.cells.size = 3)
    (hs : a.eval s = .slice none 0 0) (ad : Addr) (x0 x1 x2 : Value) (hx : a.eval x = .slice (some ad) 1 1) (hc : w.cell? (ad.add 0) = some x0 ∧ w.cell? (ad.add 1) = some x1 ∧ w.cell? (ad.add 2) = some x2)
    (h0 : x0.oneCell' = true) (h1 : x1.oneCell' = true) (h2 : x2.oneCell' = true) (hby : bytes ≤ 1000) (hbase : B ≤ w.heap.size)
    (h : ∀ v' w', w'.ownsRow B e 3 v' 1 [x0, x1, x2] → Below w.heap.size w w' → (∃ g c, v' = .slice (some ⟨g, 0, none⟩) 1 c) → wpList P ops Q rest (a.put o.dst v') w') : wpList P ops Q (o :: rest) a w := by
  obtain ⟨i, hi, hz, hsize, hbys⟩ := info_parts hinfo
  refine wpList_append_own_at w hgd s x t ho B e i z 3 bytes ht hi hz hsize hbys hzs (by decide) (.slice none 0 0) 0 [] hs (World.ownsRow_nil w B e 3) ad 1 1 [x0, x1, x2] hx rfl (fun j u hj => ?_) (fun u hu => ?_)
    (le_maxLen (by omega)) (by omega) hbase (fun v' w' k2 k3 k4 k5 => ?_)
  · match j, hj with
    | 0, hj => simp at hj; subst hj; exact hc.1
    | 1, hj => simp at hj; subst hj; exact hc.2.1
    | 2, hj => simp at hj; subst hj; exact hc.2.2
    | j + 3, hj => simp at hj
  · simp only [List.mem_cons, List.not_mem_nil, or_false] at hu
    rcases hu with rfl | rfl | rfl <;> assumption
  · refine h v' w' (by simpa using k2) ((Below.refl _ w).grown k3 (Nat.le_refl _) (fun k hk => by simp [Value.ownBlock] at hk)) ?_
    rcases k2.2 with ⟨_, hz⟩ | ⟨g, cap, _, rfl, _⟩
    · omega
    · exact ⟨g, cap, rfl⟩

theorem info_tried : (Tryz.prog.info? 123).map (fun i => (i.zero, i.size, i.bytes)) = some (some (.agg #[.slice none 0 0, .int .i64 0, .bool false]), 3, 40) := by kernel_rfl

set_option maxRecDepth 100000 in
theorem pick_Note {M : Nat → Prop} {w : World} {v : Value} {l : List Int} (hv : Sl (.int .u8) M w v l) (hl : l.length ≤ 1000) :
    Calls Tryz.prog 89 #[.slice none 0 0, v, .bool false] w fun e w' => (∃ x, e = .returned x) ∧ Below w.heap.size w w' := by
  obtain ⟨a, c, rfl, -⟩ := hv.shape
  have HV := hid hv
  have HL := hid hl
  clear hv hl
  go_enter Tryz.func89, Tryz.ntmps89
  go_wp2
  refine wp_loop_rounds 1 ?_
  rw [rounds_succ]
  go_wp2_with (first
    | (go_at_call 53; refine Index_tried.mono ?_; rintro e w' ⟨rfl, rfl⟩)
    | (go_at_call 86; (refine (bytes_Clone (HV.out.below (below_alloc _ _)) (fun _ => rfl) (by have := HL.out; omega)).mono ?_; rintro e w2 ⟨v2, rfl, hown2, hb2⟩; have HO2 := hid hown2; obtain ⟨a2, c2, n2, rfl, hn2⟩ := hown2.shapeN; clear hown2 hn2))
    | (at_builtin; (refine wpList_push3 rfl _ _ 120 rfl w.heap.size 123 _ 40 Tryz.underlying120 info_tried rfl rfl _ (.slice a2 n2 c2) (.int .i64 1) (.bool false) rfl ?_ rfl rfl rfl (by decide) ?_ ?_; (· refine ⟨?_, ?_, ?_⟩ <;> go_simp); (· have := hb2.size; simp at this ⊢; omega); intro v3 w3 hown3 hb3 hg3; clear hg3)))
  go_ret
  have hs2 := hb2.size
  have hb4 : Below w.heap.size w w2 := (below_alloc _ _).trans (hb2.mono (by simp))
  have hb5 := hb4.alloc hb4.size (.cells #[.slice a2 n2 c2, .int .i64 1, .bool false] 123)
  exact ⟨⟨_, rfl⟩, hb5.trans (hb3.mono hb5.size)⟩
end Go.Proofs.YtfogkbdcbgpomaaGreat
