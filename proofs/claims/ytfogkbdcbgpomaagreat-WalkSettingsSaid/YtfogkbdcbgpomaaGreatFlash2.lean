/- A device is written, and what was written is sure. -/
import Derived.Test.YtfogkbdcbgpomaaGreatFlash
import Derived.Deep.QuietTactic
import Derived.BigQuiet
import Derived.Deep.RegionLaw
set_option linter.unusedSimpArgs false
set_option linter.unusedVariables false
namespace Go.Proofs.YtfogkbdcbgpomaaGreat
open Go.RowKit

theorem Keeps.alloc {M : Nat → Prop} {w w' : World} (h : Keeps M w w') (o : Obj) : Keeps M w (w'.alloc o) := h.trans (Keeps.of_below (below_alloc _ _))
theorem Keeps.drew {M : Nat → Prop} {w w' : World} (h : Keeps M w w') : Keeps M w w'.drew := ⟨h.os, h.tape, h.output, h.size, h.block⟩
theorem Keeps.drewN {M : Nat → Prop} {w w' : World} (h : Keeps M w w') (n : Nat) : Keeps M w (w'.drewN n) := ⟨h.os, h.tape, h.output, h.size, h.block⟩

/-- 'copy' into a row that is known, in a region that draws: only that row turns. -/
theorem step_copy_keeps {P : Program} {ops : Array Oper} {o : Oper} {a : Act} {w : World} {K : Act → World → Prop} {Q : Exit → Act → World → Prop} {E : Prop} (hgd : o.guard = none) (d s : Operand) (dT sT : TypeId)
    (ho : o.op = .call { callee := .builtin .copy, args := #[d, s], argTypes := #[dT, sT] }) (elem : TypeId) (hu : P.underlying dT = some (.slice elem)) (hsz : (P.info? elem).map (·.size) = some 1)
    (dp sp : Option Addr) (dLen dCap sLen sCap : Nat) (hd : a.eval d = .slice dp dLen dCap) (hs : a.eval s = .slice sp sLen sCap)
    (g off : Nat) (cur : List Value) (t : TypeId) (hg : At w g t cur) (cs : List Value) (hn : cs.length = Nat.min sLen dLen) (h0 : 0 < cs.length)
    (hdp : dp = some ⟨g, off, none⟩) (hsp : ∃ ad, sp = some ad ∧ ∀ j v, cs[j]? = some v → w.cell? (ad.add j) = some v)
    (hfit : off + cs.length ≤ cur.length) (h1 : ∀ v ∈ cs, v.oneCell' = true)
    (h : ∀ w', At w' g t (splice cur off cs) → Keeps (fun k => k = g) w w' → K (a.put o.dst (goInt cs.length)) w') :
    if Region.wanted o (yielded ops a.tmps) = true then Oper.wp P o a w K Q else E := by
  have hw : Region.wanted o (yielded ops a.tmps) = true := by simp [Region.wanted, hgd]
  rw [if_pos hw]
  obtain ⟨ad, rfl, hsrc⟩ := hsp
  subst hdp
  have hrun := run_copy_row (P := P) w dT sT o.type elem g off dLen dCap ad sLen sCap cur.toArray t cs hu hsz hg hn hsrc (by simpa using hfit) h1
  unfold Oper.wp
  simp [execOp, ho, resolve, invoke, builtin, hd, hs, hrun, Result.andThen]
  refine h _ ?_ ?_
  · have := setRow_heap w g cur.toArray (splice cur off cs).toArray t (0, 0) hg
    simpa [At, splice] using this
  · exact ⟨rfl, rfl, rfl, by simp [World.setRow], fun k _ hk => setRow_other w g k _ hk⟩

/-- A device, whatever lies on it. -/
structure DevW (w : World) (db sb n : Nat) (u : Value) : Prop where
  dev : At w db 83 [.slice (some ⟨sb, 0, none⟩) n n, u, .int .i64 0, .bool false]
  row : ∃ cur : List Value, At w sb 229 cur ∧ cur.length = n * 513
  ne : db ≠ sb

set_option maxRecDepth 100000 in
set_option maxHeartbeats 1000000 in
theorem dev_settle {w : World} {db sb n i : Nat} {u : Value} {l : List Int} {M : Nat → Prop} {v : Value} (h : DevW w db sb n u) (hi : i < n) (hn : n ≤ 4096) (hv : Sl (.int .u8) M w v l) (hl : l.length = 512) (hM : M sb) :
    Calls Tryz.prog 134 #[.pointer (some ⟨db, 0, none⟩), .agg #[.int .i64 i, v], .bool false] w fun e w' => e = .returned (.tuple #[]) ∧ Keeps (fun k => k = sb) w w' ∧ ∃ cur : List Value, At w' sb 229 cur ∧ cur.length = n * 513 := by
  obtain ⟨a, c, rfl, -, -⟩ := hv.shape
  obtain ⟨hd, ⟨cur, hcur, hcl⟩, hne⟩ := h
  rw [hl] at hv ⊢
  have h0 := hd.cell 0 rfl
  have hdl := hd.lt
  have hcx := hcur.cell (i * 513 + 512) (x := cur[i * 513 + 512]'(by omega)) (by simp)
  have hfx := hcur.frozen (i * 513 + 512)
  have HC := hid hcur
  have hsl := hcur.lt
  have HV := hid hv
  have HL := hid hl
  clear hcur hv hd hl
  go_enter Tryz.func134, Tryz.ntmps134
  go_wp2
  go_quiet (fail)
  go_wp2
  have hK1 : Keeps (fun k => k = sb) w (((w.alloc (.cells #[.int .i64 i, .slice a 512 c] 226)).drewN nq).setCell ⟨sb, i * 513 + 512, none⟩ (.bool false)) :=
    (((Keeps.refl _ w).alloc _).drewN nq).trans (Keeps.setCell _ _ _ rfl)
  have hA1 : At (((w.alloc (.cells #[.int .i64 i, .slice a 512 c] 226)).drewN nq).setCell ⟨sb, i * 513 + 512, none⟩ (.bool false)) sb 229 (cur.set (i * 513 + 512) (.bool false)) :=
    ((HC.out.keeps (((Keeps.refl (fun _ => False) w).alloc (.cells #[.int .i64 i, .slice a 512 c] 226)).drewN nq) (fun x => x))).set _ _
  have hsrc : ∃ ad, a = some ad ∧ ∀ j v, (l.map (Value.int .u8))[j]? = some v → (((w.alloc (.cells #[.int .i64 i, .slice a 512 c] 226)).drewN nq).setCell ⟨sb, i * 513 + 512, none⟩ (.bool false)).cell? (ad.add j) = some v :=
    ((HV.out.keeps (hK1.mono (fun k _ hk => hk ▸ hM))).src (by rw [List.length_map, HL.out]; decide))
  have HK1 := hid hK1
  have HA1 := hid hA1
  have HS := hid hsrc
  clear hK1 hA1 hsrc
  go_region_law (first
    | (refine step_copy_keeps rfl (.tmp 21) (.tmp 23) 28 28 rfl 5 Tryz.underlying28 (by kernel_rfl) _ _ _ _ _ _ rfl rfl sb (i * 513) (cur.set (i * 513 + 512) (.bool false)) 229 HA1.out (l.map (.int .u8)) (by rw [List.length_map, HL.out]; rfl) (by rw [List.length_map, HL.out]; decide) rfl HS.out (by rw [List.length_map, HL.out, List.length_set]; omega) (u8s_one l) ?_; intro w4 hg4 hb4))
  refine bodyPost_end (results_none rfl _ _ _) rfl ?_
  exact ⟨rfl, HK1.out.drew.trans hb4, _, hg4, by rw [length_splice _ _ _ (by rw [List.length_map, HL.out, List.length_set]; omega), List.length_set]; exact hcl⟩

theorem dev_spend' {w : World} {db sb n : Nat} {u : Value} (h : DevW w db sb n u) : Calls Tryz.prog 133 #[.pointer (some ⟨db, 0, none⟩)] w fun e w' => e = .returned (.bool true) ∧ w = w' := by
  have h0 := h.dev.cell 2 rfl
  go_enter Tryz.func133, Tryz.ntmps133
  go_wp2
  go_ret
  exact ⟨rfl, rfl⟩
theorem Dev.w {w : World} {db sb n : Nat} (h : Dev w db sb n) : DevW w db sb n (.slice none 0 0) := ⟨h.dev, h.row, h.ne⟩

set_option maxRecDepth 100000 in
theorem dev_Sync0 {w : World} {db sb n : Nat} (h : Dev w db sb n) :
    Calls Tryz.prog 97 #[.pointer (some ⟨db, 0, none⟩)] w fun e w' => e = .returned (.int .i64 0) ∧ Dev w' db sb n ∧ Keeps (fun k => k = db) w w' := by
  have c1 := h.dev.cell 1 rfl
  have c3 := h.dev.cell 3 rfl
  have f1 := h.dev.frozen 1
  have H := hid h
  clear h
  go_enter Tryz.func97, Tryz.ntmps97
  go_wp2_with (go_at_call 133; refine (dev_spend H.out).mono ?_; rintro e w2 ⟨rfl, rfl⟩)
  refine wp_loop_rounds 1 ?_
  rw [rounds_succ]
  go_wp2
  go_ret
  have hk : Keeps (fun k => k = db) w (w.setCell ⟨db, 1, none⟩ (.slice none 0 0)) := Keeps.setCell _ _ _ rfl
  obtain ⟨cur, h3, h4⟩ := H.out.row
  refine ⟨rfl, ⟨H.out.dev.set 1 _, fun i j hi hj => (hk.cell ⟨H.out.lt, fun e => H.out.ne e.symm⟩).trans (H.out.data i j hi hj), fun i hi => (hk.cell ⟨H.out.lt, fun e => H.out.ne e.symm⟩).trans (H.out.torn i hi), ⟨cur, h3.keeps hk (fun e => H.out.ne e.symm), h4⟩, H.out.ne, by simpa using H.out.lt⟩, hk⟩

/-- A write that is not sure. -/
structure Unsure (w : World) (u : Value) (i B : Nat) : Prop where
  is : ∃ (ub uc : Nat) (v : Value) (l : List Int), u = .slice (some ⟨ub, 0, none⟩) 1 uc ∧ B ≤ ub ∧ w.cell? ⟨ub, 0, none⟩ = some (.int .i64 i) ∧ w.cell? ⟨ub, 1, none⟩ = some v ∧ Sl (.int .u8) (fun k => k < B) w v l ∧ l.length = 512

theorem info_write : (Tryz.prog.info? 226).map (fun i => (i.zero, i.size, i.bytes)) = some (some (.agg #[.int .i64 0, .slice none 0 0]), 2, 32) := by kernel_rfl

set_option maxRecDepth 100000 in
set_option maxHeartbeats 1000000 in
theorem dev_Write {w : World} {db sb n i : Nat} {M : Nat → Prop} {v : Value} {l : List Int} (h : Dev w db sb n) (hi : i < n) (hv : Sl (.int .u8) M w v l) (hl : l.length = 512) :
    Calls Tryz.prog 98 #[.pointer (some ⟨db, 0, none⟩), .int .i64 i, v] w fun e w' => e = .returned (.int .i64 0) ∧ ∃ u, DevW w' db sb n u ∧ Unsure w' u i w.heap.size ∧ Keeps (fun k => k = db) w w' := by
  obtain ⟨a, c, rfl, -, -⟩ := hv.shape
  obtain ⟨i0, hi0, hz0, hz1, hz2⟩ := info_parts info_write
  rw [hl] at hv ⊢
  have c1 := h.dev.cell 1 rfl
  have f1 := h.dev.frozen 1
  have H := hid h
  have HV := hid hv
  have HI := hid (And.intro hi0 (And.intro hz0 (And.intro hz1 hz2)))
  have HL := hid hl
  clear h hv hi0 hz0 hz1 hz2 hl
  have hdl := H.out.dev.lt
  go_enter Tryz.func98, Tryz.ntmps98
  go_wp2_with (first
    | (go_at_call 129; refine (dev_check H.out hi).mono ?_; rintro e w2 ⟨rfl, rfl⟩)
    | (go_at_call 133; refine (dev_spend H.out).mono ?_; rintro e w2 ⟨rfl, rfl⟩)
    | (at_make; have q1 : (512 : Int) = (l.length : Int) := (by rw [HL.out]; rfl); have q2 : 1 * l.length ≤ 281474976710656 := (by rw [HL.out]; decide); have q3 : l.length ≤ 1000000000 := (by rw [HL.out]; decide); refine wpList_make_one rfl _ _ 28 rfl 5 (.int .u8 0) 1 Tryz.underlying28 info_u8' rfl .i64 .i64 _ _ l.length l.length rfl rfl q1 q1 (Nat.le_refl _) q2 q3 ?_; intro w1 hrow1 hsz1 hb1; have HG := hid (show w1.heap[w.heap.size]? = some (.cells (List.replicate l.length (Value.int .u8 0)).toArray 5 (0, 0)) by simpa using hrow1.out); clear hrow1 q1 q2 q3; have HS := hid (HV.out.below hb1).src)
    | (refine wpList_copy_splice rfl (.tmp 25) (.tmp 26) 28 28 rfl 5 Tryz.underlying28 (by kernel_rfl) _ _ _ _ _ _ rfl rfl w.heap.size 0 (List.replicate l.length (Value.int .u8 0)) 5 HG.out (l.map (.int .u8)) (by rw [List.length_map, HL.out]; rfl) (fun h0 => ⟨rfl, HS.out h0⟩) (by simp) (u8s_one l) w.heap.size w hb1 (Nat.le_refl _) ?_; intro w2 hrow2 hb2; have g1 := (hb2.cell (p := ⟨db, 1, none⟩) hdl).trans c1; have s2 := hb2.size; have HO2 := hid (show Own (.int .u8) w2 w.heap.size 5 (.slice (some ⟨w.heap.size, 0, none⟩) l.length l.length) l from Own.of_row hrow2.out (Nat.le_refl _) (Nat.le_refl _) (by rw [HL.out]; decide) (by rw [length_splice _ _ _ (by simp)]; simp) (by have h2 := splice_head (List.replicate l.length (Value.int .u8 0)) (l.map (.int .u8)); rwa [List.length_map] at h2)))
    | (at_builtin; (refine wpList_append_own_at _ rfl _ _ 81 rfl w.heap.size 226 i0 (.agg #[.int .i64 0, .slice none 0 0]) 2 32 Tryz.underlying81 HI.out.1 HI.out.2.1 HI.out.2.2.1 HI.out.2.2.2 rfl (by decide) _ 0 [] rfl (World.ownsRow_nil _ _ _ _) ⟨w2.heap.size, 0, none⟩ 1 1 [.int .i64 i, .slice (some ⟨w.heap.size, 0, none⟩) l.length l.length] rfl rfl ?_ ?_ ?_ ?_ ?_ ?_; (· exact fun j u hj => (by have h5 := (At.new w2 [.int .i64 i, .slice (some ⟨w.heap.size, 0, none⟩) l.length l.length] 226).cell j hj; simpa [Addr.add_lit] using h5)); (· intro u hu; simp only [List.mem_cons, List.not_mem_nil, or_false] at hu; rcases hu with rfl | rfl <;> rfl); (· exact le_maxLen (by decide)); (· decide); (· simp only [World.size_alloc]; omega); intro v3 w3 hown3 hgrow3 hnn3 hat3; clear hat3; obtain ⟨g, cp, rfl, hgb, hg3⟩ : ∃ g cp, v3 = .slice (some ⟨g, 0, none⟩) 1 cp ∧ w.heap.size ≤ g ∧ Hid (w3.ownsRow w.heap.size 226 2 (.slice (some ⟨g, 0, none⟩) 1 cp) 1 [.int .i64 i, .slice (some ⟨w.heap.size, 0, none⟩) l.length l.length]) := (by rcases hown3.2 with ⟨h, _⟩ | ⟨g, cp, cu, rfl, hbg, _⟩; (· exact absurd (hnn3.1 h).2 (by decide)); (· exact ⟨g, cp, rfl, hbg, hown3⟩)); have hb3 : Below w.heap.size w w3 := ((hb2.alloc s2 _).grown hgrow3 (by simp only [World.size_alloc]; omega) (fun k hk => by cases hk)); have HO3 := hid (show Own (.int .u8) w3 w.heap.size 5 (.slice (some ⟨w.heap.size, 0, none⟩) l.length l.length) l from World.ownsRow.kept (HO2.out.below (below_alloc _ _)) hgrow3 (.inr (show (some w.heap.size : Option Nat) ≠ none from (by intro e; cases e)))); have g1 := (hb3.cell (p := ⟨db, 1, none⟩) hdl).trans c1; have e1 := (hb3.frozen (p := ⟨db, 1, none⟩) hdl).trans f1)))
  go_ret
  have hk : Keeps (fun k => k = db) w (w3.setCell ⟨db, 1, none⟩ (.slice (some ⟨g, 0, none⟩) 1 cp)) := (Keeps.of_below hb3).trans (Keeps.setCell _ _ _ rfl)
  have hne2 : ∀ k, w.heap.size ≤ k → ¬ k = db := fun k hk e => by omega
  have hcs := hg3.out.cells (g := g) rfl
  have hgs : g < w3.heap.size := (hg3.out.lt g rfl).2
  have hK3 : Keeps (fun k => k = db) w3 (w3.setCell ⟨db, 1, none⟩ (.slice (some ⟨g, 0, none⟩) 1 cp)) := Keeps.setCell _ _ _ rfl
  obtain ⟨cur, h3, h4⟩ := H.out.row
  refine ⟨rfl, _, ⟨(H.out.dev.below hb3 hdl).set 1 _, ⟨cur, h3.keeps hk (fun e => H.out.ne e.symm), h4⟩, H.out.ne⟩, ⟨g, cp, .slice (some ⟨w.heap.size, 0, none⟩) l.length l.length, l, rfl, hgb, ?_, ?_, ?_, HL.out⟩, hk⟩
  · exact (hK3.cell ⟨hgs, hne2 g hgb⟩).trans (by simpa [Addr.add_lit] using hcs 0 _ rfl)
  · exact (hK3.cell ⟨hgs, hne2 g hgb⟩).trans (by simpa [Addr.add_lit] using hcs 1 _ rfl)
  · exact (HO3.out.keeps hK3 (fun k hk e => by simp [Value.ownBlock] at hk; omega)).sl _ (fun k hk h => by omega)

set_option maxRecDepth 100000 in
set_option maxHeartbeats 1000000 in
theorem dev_Sync1 {w : World} {db sb n i B : Nat} {u : Value} (h : DevW w db sb n u) (hu : Unsure w u i B) (hi : i < n) (hn : n ≤ 4096) (h1 : db < B) (h2 : sb < B) :
    Calls Tryz.prog 97 #[.pointer (some ⟨db, 0, none⟩)] w fun e w' => e = .returned (.int .i64 0) ∧ DevW w' db sb n (.slice none 0 0) ∧ Keeps (fun k => k = db ∨ k = sb) w w' := by
  obtain ⟨ub, uc, v, l, rfl, hub, u0, u1, hv, hl⟩ := hu
  obtain ⟨a, c, rfl, -, -⟩ := hv.shape
  have c1 := h.dev.cell 1 rfl
  have c2 := h.dev.cell 2 rfl
  have c3 := h.dev.cell 3 rfl
  have hdl := h.dev.lt
  have H := hid h
  rw [hl] at u1 hv
  have f1 := h.dev.frozen 1
  have HV := hid hv
  have HL := hid hl
  clear h hv hl
  have hKa : Keeps (fun k => k = db ∨ k = sb) w (w.alloc (.cells #[.int .i64 i, .slice a 512 c] 226)) := (Keeps.refl _ w).alloc _
  have hK0 : Keeps (fun _ => False) w (w.alloc (.cells #[.int .i64 i, .slice a 512 c] 226)) := (Keeps.refl _ w).alloc _
  have HH := hid (show DevW (w.alloc (.cells #[.int .i64 i, .slice a 512 c] 226)) db sb n (.slice (some ⟨ub, 0, none⟩) 1 uc) from ⟨H.out.dev.keeps hK0 (fun x => x), H.out.row.imp (fun _ h3 => ⟨h3.1.keeps hK0 (fun x => x), h3.2⟩), H.out.ne⟩)
  have HVa := hid (HV.out.keeps (hK0.mono (fun _ _ x => x.elim)))
  have hKb := hid hKa
  clear hKa hK0
  go_enter Tryz.func97, Tryz.ntmps97
  go_wp2_with (go_at_call 133; refine (dev_spend' H.out).mono ?_; rintro e w2 ⟨rfl, rfl⟩)
  refine wp_loop_rounds 2 ?_
  rw [rounds_succ]
  go_wp2_with (go_at_call 134; (refine (dev_settle HH.out hi hn HVa.out HL.out h2).mono ?_; rintro e w2 ⟨rfl, hk2, hrow2⟩; have hK2 := hid (hKb.out.trans (hk2.mono (fun k _ hk => .inr hk))); have HD2 := hid (HH.out.dev.keeps hk2 (fun e => H.out.ne e)); have g1 := HD2.out.cell 1 rfl; have e1 := HD2.out.frozen 1))
  rw [rounds_succ]
  go_wp2
  go_ret
  have hk3 : Keeps (fun k => k = db ∨ k = sb) w2 (w2.setCell ⟨db, 1, none⟩ (.slice none 0 0)) := Keeps.setCell _ _ _ (.inl rfl)
  obtain ⟨cur, h3, h4⟩ := hrow2
  refine ⟨rfl, ⟨HD2.out.set 1 _, ⟨cur, h3.keeps (M := fun k => k = db) (Keeps.setCell _ _ _ rfl) (fun e => H.out.ne e.symm), h4⟩, H.out.ne⟩, hK2.out.trans hk3⟩
end Go.Proofs.YtfogkbdcbgpomaaGreat
