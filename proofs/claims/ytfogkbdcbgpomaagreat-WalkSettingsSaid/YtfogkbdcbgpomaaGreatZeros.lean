/- 'append(s, make([]byte, n)...)' onto the call's own slice, as a law for the walk. -/
import Derived.Test.YtfogkbdcbgpomaaGreatBase
import Derived.Lib.AppendZerosOnto
set_option linter.unusedSimpArgs false
set_option linter.unusedVariables false
namespace Go.Proofs.YtfogkbdcbgpomaaGreat
open Go.RowKit

theorem zeroCells_u8 (n : Nat) : Builtin.zeroCells (Value.int .u8 0).cells n = ((zeros n).map (Value.int .u8)).toArray := by
  apply Array.ext
  · simp [Builtin.zeroCells, Value.cells, zeros]
  · intro i h1 h2
    simp [Builtin.zeroCells, Value.cells, zeros, Nat.mod_one]

theorem run_push_zeros {P : Program} {w : World} (t tn ty B e : TypeId) (ht : P.underlying t = some (.slice e)) (htn : P.underlying tn = some (.int .i64))
    (hinfo : (P.info? e).map (fun i => (i.zero, i.size, i.bytes)) = some (some (.int .u8 0), 1, 1)) (v : Value) (l : List Int) (hown : Own (.int .u8) w B e v l) (n : Nat) (hlen : l.length + n ≤ 1000000) (hbase : B ≤ w.heap.size) :
    ∃ v' w', (Builtin.append_ #[t, tn] ty #[v, .int .i64 n]).run P w = .ok v' w' ∧ Own (.int .u8) w' B e v' (l ++ zeros n) ∧ Below B w w' := by
  obtain ⟨i, hi, hz, hsize, hbys⟩ := info_parts hinfo
  have hw : IntKind.i64.wrap (n : Int) = n := by rw [IntKind.wrap_i64]; omega
  have h48i : ¬ (281474976710656 < (n : Int) * (i.bytes : Int)) := by rw [hbys]; omega
  have hneg : ¬ ((n : Int) < 0) := by omega
  have hnew : ∀ (w1 : World) (cs : List Value) (C : Nat), w1.heap.size = w.heap.size → cs.length = C → l.length + n ≤ C → C ≤ maxLen → cs.take (l.length + n) = (l ++ zeros n).map (.int .u8) →
      Own (.int .u8) (w1.alloc (.cells cs.toArray e)) B e (.slice (some ⟨w.heap.size, 0, none⟩) (l.length + n) C) (l ++ zeros n) := by
    intro w1 cs C h1 h2 h3 h4 h5
    have hr : (w1.alloc (.cells cs.toArray e)).heap[w.heap.size]? = some (.cells cs.toArray e (0, 0)) := by rw [← h1]; exact heap_alloc_new w1 _
    have hll : (l ++ zeros n).length = l.length + n := by rw [List.length_append, length_zeros]
    refine ⟨by simp, .inr ⟨w.heap.size, C, cs.toArray, by rw [hll], hbase, hr, by rw [hll]; exact h3, h4, by simp [h2], ?_⟩⟩
    rw [hll, Nat.mul_one]; exact h5
  rcases hown.2 with ⟨rfl, h0⟩ | ⟨g, cap, cur, rfl, hb, hg, hn, hc, hs, htk⟩
  · have hl0 : l = [] := List.eq_nil_of_length_eq_zero h0
    subst hl0
    by_cases hn : n = 0
    · subst hn
      refine ⟨.slice none 0 0, w, ?_, Own.nil _ _ _ _, Below.refl _ _⟩
      have hw0 : IntKind.i64.wrap (0 : Int) = 0 := by rw [IntKind.wrap_i64]; omega
      simp [Builtin.append_, run_underlying ht, run_underlying htn, sizeOf, typeInfo, hi, asInt, asIntOf, hw0]
    · have hr := Lib.run_append_nil_zeros (P := P) w t tn ty e i (.int .u8 0) .i64 .i64 ht htn hi hz n (by omega) (by omega) (by omega) (by rw [hbys]; omega)
      refine ⟨_, _, hr, ?_, ((Below.refl _ _).drew.alloc (by simpa using hbase) _)⟩
      have hge := grownCap_ge w n 0 e
      have := hnew w.drew (((zeros n).map (Value.int .u8)) ++ ((zeros (grownCap w n 0 e - n)).map (Value.int .u8))) (grownCap w n 0 e) rfl (by simp [length_zeros]; omega) (by simpa using hge) (grownCap_le_maxLen w n 0 e (le_maxLen (by omega))) (by
        simp only [List.length_nil, Nat.zero_add, List.nil_append]
        rw [List.take_append_of_le_length (by simp [length_zeros]), List.take_of_length_le (by simp [length_zeros])])
      simpa [zeroCells_u8] using this
  · have hll : (l ++ zeros n).length = l.length + n := by rw [List.length_append, length_zeros]
    have hzl : ((zeros n).map (Value.int .u8)).length = n := by rw [List.length_map, length_zeros]
    have hzu := u8s_one (zeros n)
    by_cases hroom : l.length + n ≤ cap
    · have hst := run_storeCells_at P g l.length e ((zeros n).map (Value.int .u8)) 0 cur w hg (by rw [hs, hzl]; omega) hzu
      have hzr := zeroCells_u8 n
      obtain ⟨zs, hzs⟩ : ∃ zs, zs = (zeros n).map (Value.int .u8) := ⟨_, rfl⟩
      rw [← hzs] at hst hzl hzr
      simp only [Nat.add_zero] at hst
      have hrun : (Builtin.append_ #[t, tn] ty #[.slice (some ⟨g, 0, none⟩) l.length cap, .int .i64 n]).run P w = .ok (.slice (some ⟨g, 0, none⟩) (l.length + n) cap) (w.setRow g (cur.toList.take l.length ++ zs ++ cur.toList.drop (l.length + zs.length)).toArray) := by
        by_cases hn0 : n = 0
        · subst hn0
          obtain rfl : zs = [] := List.eq_nil_of_length_eq_zero hzl
          have hw0 : IntKind.i64.wrap (0 : Int) = 0 := by rw [IntKind.wrap_i64]; omega
          simp [Builtin.append_, run_underlying ht, run_underlying htn, sizeOf, typeInfo, hi, asInt, asIntOf, hw0, hn, Addr.add_lit, storeCells]
          exact (setRow_self w g cur e (0, 0) hg).symm
        · simp [Builtin.append_, run_underlying ht, run_underlying htn, sizeOf, typeInfo, zeroValue, hi, hz, asInt, asIntOf, hw, hneg, h48i, hroom, hsize, hn0, Addr.add_lit, hzr]
          rw [hst]
          simp
      refine ⟨_, _, hrun, ?_, below_setRow (Below.refl _ _) hb _⟩
      refine ⟨by simp, .inr ⟨g, cap, _, by rw [hll], hb, setRow_heap w g _ _ e _ hg, by rw [hll]; exact hroom, hc, ?_, ?_⟩⟩
      · simp only [List.size_toArray, List.length_append, List.length_take, List.length_drop, Array.length_toList, hzl, hs]
        omega
      · have htk' : cur.toList.take l.length = l.map (Value.int .u8) := by rw [← htk, Nat.mul_one]
        rw [hll, Nat.mul_one, htk', List.map_append, ← hzs]
        exact List.take_left' (by simp [hzl])
    · have hold := run_firstCells_some (P := P) w.drew i.size l.length ⟨g, 0, none⟩ l.length cap (l.map (Value.int .u8)) (by simp [hsize]) (by
        have hcs := World.ownsRow.cells hown (g := g) rfl
        intro j u hj
        exact hcs j u hj)
      have hr := Lib.run_append_grow_zeros (P := P) w t tn ty e i (.int .u8 0) .i64 .i64 ht htn hi hz (some ⟨g, 0, none⟩) l.length cap (l.map (Value.int .u8)) hold n (by omega) (by omega) (by omega) (by omega) (by rw [hbys]; omega) (growslice_fits (by omega) (by rw [hbys]; omega))
      refine ⟨_, _, hr, ?_, ((Below.refl _ _).drew.alloc (by simpa using hbase) _)⟩
      have hge := grownCap_ge w (l.length + n) cap e
      have := hnew w.drew (l.map (Value.int .u8) ++ (zeros n).map (Value.int .u8) ++ ((zeros (grownCap w (l.length + n) cap e - (l.length + n))).map (Value.int .u8))) (grownCap w (l.length + n) cap e) rfl (by simp [length_zeros]; omega) hge (grownCap_le_maxLen w (l.length + n) cap e (le_maxLen (by omega))) (by
        rw [List.take_append_of_le_length (by simp [length_zeros]), List.take_of_length_le (by simp [length_zeros]), List.map_append])
      simpa [zeroCells_u8] using this

/-- 'append(s, make([]byte, n)...)', at the operation. -/
theorem wpList_push_zeros {P : Program} {w : World} {ops : Array Oper} {rest : List Oper} {o : Oper} {a : Act} {Q : Exit → Act → World → Prop} (hgd : o.guard = none) (s x : Operand) (t tn B e : TypeId)
    (ho : o.op = .call { callee := .builtin .append, args := #[s, x], argTypes := #[t, tn] }) (ht : P.underlying t = some (.slice e)) (htn : P.underlying tn = some (.int .i64))
    (hinfo : (P.info? e).map (fun i => (i.zero, i.size, i.bytes)) = some (some (.int .u8 0), 1, 1)) (v : Value) (l : List Int) (hs : a.eval s = v) (hown : Own (.int .u8) w B e v l) (n : Nat) (N : Int) (hx : a.eval x = .int .i64 N) (hN : N = n) (hlen : l.length + n ≤ 1000000) (hbase : B ≤ w.heap.size)
    (h : ∀ v' w', Own (.int .u8) w' B e v' (l ++ zeros n) → Below B w w' → wpList P ops Q rest (a.put o.dst v') w') : wpList P ops Q (o :: rest) a w := by
  subst hN
  obtain ⟨v', w', hr, h1, h2⟩ := run_push_zeros (w := w) t tn o.type B e ht htn hinfo v l hown n hlen hbase
  exact Lib.wpList_append_run w hgd s x t tn ho v _ hs hx v' w' hr (h v' w' h1 h2)
end Go.Proofs.YtfogkbdcbgpomaaGreat
