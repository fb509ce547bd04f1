/- A walk begins; what the law's own program answers first. -/
import Derived.Test.YtfogkbdcbgpomaaGreatStep
import Derived.Test.YtfogkbdcbgpomaaGreatSet
set_option linter.unusedSimpArgs false
set_option linter.unusedVariables false
namespace Go.Proofs.YtfogkbdcbgpomaaGreat
open Go.RowKit

set_option maxRecDepth 100000 in
theorem law_usual {w : World} : Calls Tryz.prog 10 #[] w fun e w' => ∃ ub rb, e = .returned (.agg #[.slice (some ⟨rb, 0, none⟩) 1 1, .int .i64 500, .int .i64 1000, .int .i64 2, .int .i64 3, .int .i64 60, .int .i64 4, .slice none 0 0]) ∧
    At w' rb 28 [.slice (some ⟨ub, 0, none⟩) 4 4] ∧ At w' ub 5 [.int .u8 10, .int .u8 0, .int .u8 0, .int .u8 1] ∧ w.heap.size ≤ rb ∧ w.heap.size ≤ ub ∧ Below w.heap.size w w' := by
  go_enter Tryz.func10, Tryz.ntmps10
  go_wp2
  have hb := ((below_alloc w (.cells #[.slice (some ⟨w.heap.size + 1 + 1, 0, none⟩) 1 1, .int .i64 500, .int .i64 1000, .int .i64 2, .int .i64 3, .int .i64 60, .int .i64 4, .slice none 0 0] 25)).alloc (by simp) (.cells #[.int .u8 10, .int .u8 0, .int .u8 0, .int .u8 1] 5)).alloc (by simp; omega) (.cells #[.slice (some ⟨w.heap.size + 1, 0, none⟩) 4 4] 28)
  have hr := At.new ((w.alloc (.cells #[.slice (some ⟨w.heap.size + 1 + 1, 0, none⟩) 1 1, .int .i64 500, .int .i64 1000, .int .i64 2, .int .i64 3, .int .i64 60, .int .i64 4, .slice none 0 0] 25)).alloc (.cells #[.int .u8 10, .int .u8 0, .int .u8 0, .int .u8 1] 5)) [.slice (some ⟨w.heap.size + 1, 0, none⟩) 4 4] 28
  have hu := (At.new (w.alloc (.cells #[.slice (some ⟨w.heap.size + 1 + 1, 0, none⟩) 1 1, .int .i64 500, .int .i64 1000, .int .i64 2, .int .i64 3, .int .i64 60, .int .i64 4, .slice none 0 0] 25)) [.int .u8 10, .int .u8 0, .int .u8 0, .int .u8 1] 5).later (below_alloc _ (.cells #[.slice (some ⟨w.heap.size + 1, 0, none⟩) 4 4] 28))
  simp only [World.size_alloc] at hr hu
  try simp only [Exit.inBlock, Exit.then]
  refine bodyPost_ret (by simp [results, Tryz.results10, go_sem]; try rfl) rfl ?_
  exact ⟨w.heap.size + 1, w.heap.size + 1 + 1, rfl, hr, hu, by omega, by omega, hb⟩

set_option maxRecDepth 100000 in
set_option maxHeartbeats 2000000 in
theorem walk_New_bad {w : World} {kb : Nat} {M : Nat → Prop} {v z : Value} {rs : List Row3} {zs : List Zone} {ca st ti tr de pe now : Int} (hv : Sw enc3 M w v rs) (hl : rs.length ≤ 1000) (hz : Sw encZ M w z zs) (hzl : zs.length ≤ 1000) (hzs : ∀ z ∈ zs, Sw .string M w z.1 z.2 ∧ ∀ s ∈ z.2, s.size ≤ 140737488355328)
    (hB : setB rs zs ca st ti tr de pe = false) :
    Calls Tryz.prog 7 #[.pointer (some ⟨kb, 0, none⟩), .agg #[v, .int .i64 ca, .int .i64 st, .int .i64 ti, .int .i64 tr, .int .i64 de, .int .i64 pe, z], .agg #[.slice none 0 0, .int .i64 1, .int .i64 1], .int .i64 now] w fun e w' => e = .returned (.tuple #[.pointer none, .int .i64 1]) ∧ Below w.heap.size w w' := by
  have HB := hid ((below_alloc w (.cells #[v, .int .i64 ca, .int .i64 st, .int .i64 ti, .int .i64 tr, .int .i64 de, .int .i64 pe, z] 25)).alloc (by simp) (.cells #[.slice none 0 0, .int .i64 1, .int .i64 1] 38))
  have HS := hid (walk_Setting (ca := ca) (st := st) (ti := ti) (tr := tr) (de := de) (pe := pe) (hv.below HB.out) hl (hz.below HB.out) hzl (fun x hx => ⟨(hzs x hx).1.below HB.out, (hzs x hx).2⟩))
  have HE := hid hB
  clear hv hz hzs hB
  go_enter Tryz.func7, Tryz.ntmps7
  go_wp2_with (go_at_call 9; (refine HS.out.mono ?_; rw [HE.out]; rintro e w2 ⟨rfl, hb2⟩))
  try simp only [Exit.inBlock, Exit.then]
  refine bodyPost_ret (by simp [results, Tryz.results7, go_sem]; try rfl) rfl ?_
  exact ⟨rfl, HB.out.trans (hb2.mono HB.out.size)⟩

theorem setB_pos {rs : List Row3} {zs : List Zone} {ca st ti tr de pe : Int} (h : setB rs zs ca st ti tr de pe = true) : 0 < rs.length := by
  unfold setB at h
  simp only [Bool.and_eq_true, Bool.not_eq_true', Bool.or_eq_false_iff, decide_eq_false_iff_not] at h
  omega

/-- What New leaves. -/
structure Newly (w : World) (kb cb mb : Nat) (rs : List Row3) (ca st ti tr de pe now : Int) (z : Value) (wb tm gb : Nat) (w' : World) : Prop where
  ok : KeepOK w' kb cb mb
  at_ : ∃ v' dm, Own enc3 w' w.heap.size 28 v' rs ∧ WalkAt w' wb kb [v', .int .i64 ca, .int .i64 st, .int .i64 ti, .int .i64 tr, .int .i64 de, .int .i64 pe, z] (.int .i64 now) (.int .i64 0) (.slice (some ⟨gb, 0, none⟩) 1 1) (.map (some tm)) dm (.pointer none) (.slice none 0 0) (.int .i64 0) (.slice none 0 0) (.int .i64 0) (.bool false) (.int .i64 0) (.slice none 0 0) (.slice none 0 0) (.bool false)
  map_ : ∃ n, w'.heap[tm]? = some (.map #[] n)
  goal : At w' gb 51 [.slice none 0 0, .int .i64 1]
  lo : w.heap.size ≤ wb ∧ w.heap.size ≤ tm ∧ w.heap.size ≤ gb
  fr : Keeps (fun k => k = kb) w w'

set_option maxRecDepth 100000 in
set_option maxHeartbeats 2000000 in
theorem walk_New {w : World} {kb cb mb : Nat} {v z : Value} {rs : List Row3} {zs : List Zone} {ca st ti tr de pe now : Int} (h : KeepOK w kb cb mb) (hv : Sw enc3 (fun k => k = kb) w v rs) (hl : rs.length ≤ 1000) (hz : Sw encZ (fun k => k = kb) w z zs) (hzl : zs.length ≤ 1000) (hzs : ∀ z ∈ zs, Sw .string (fun k => k = kb) w z.1 z.2 ∧ ∀ s ∈ z.2, s.size ≤ 140737488355328)
    (hB : setB rs zs ca st ti tr de pe = true) (h0 : 0 ≤ now) (h1 : now ≤ 1000) :
    Calls Tryz.prog 7 #[.pointer (some ⟨kb, 0, none⟩), .agg #[v, .int .i64 ca, .int .i64 st, .int .i64 ti, .int .i64 tr, .int .i64 de, .int .i64 pe, z], .agg #[.slice none 0 0, .int .i64 1, .int .i64 1], .int .i64 now] w fun e w' => ∃ wb tm gb, e = .returned (.tuple #[.pointer (some ⟨wb, 0, none⟩), .int .i64 0]) ∧ Newly w kb cb mb rs ca st ti tr de pe now z wb tm gb w' := by
  have HB := hid ((below_alloc w (.cells #[v, .int .i64 ca, .int .i64 st, .int .i64 ti, .int .i64 tr, .int .i64 de, .int .i64 pe, z] 25)).alloc (by simp) (.cells #[.slice none 0 0, .int .i64 1, .int .i64 1] 38))
  have HS := hid (walk_Setting (ca := ca) (st := st) (ti := ti) (tr := tr) (de := de) (pe := pe) (hv.below HB.out) hl (hz.below HB.out) hzl (fun x hx => ⟨(hzs x hx).1.below HB.out, (hzs x hx).2⟩))
  have HE := hid hB
  have HA := hid (show At ((w.alloc (.cells #[v, .int .i64 ca, .int .i64 st, .int .i64 ti, .int .i64 tr, .int .i64 de, .int .i64 pe, z] 25)).alloc (.cells #[.slice none 0 0, .int .i64 1, .int .i64 1] 38)) w.heap.size 25 [v, .int .i64 ca, .int .i64 st, .int .i64 ti, .int .i64 tr, .int .i64 de, .int .i64 pe, z] from
    (At.new w [v, .int .i64 ca, .int .i64 st, .int .i64 ti, .int .i64 tr, .int .i64 de, .int .i64 pe, z] 25).later (below_alloc _ _))
  have HQ := hid (show At ((w.alloc (.cells #[v, .int .i64 ca, .int .i64 st, .int .i64 ti, .int .i64 tr, .int .i64 de, .int .i64 pe, z] 25)).alloc (.cells #[.slice none 0 0, .int .i64 1, .int .i64 1] 38)) (w.heap.size + 1) 38 [.slice none 0 0, .int .i64 1, .int .i64 1] from
    by simpa using At.new (w.alloc (.cells #[v, .int .i64 ca, .int .i64 st, .int .i64 ti, .int .i64 tr, .int .i64 de, .int .i64 pe, z] 25)) [.slice none 0 0, .int .i64 1, .int .i64 1] 38)
  have HV := hid ((hv.below HB.out).sl (setB_pos hB))
  have HK := hid h
  have HL := hid hl
  have hkl := h.lts.1
  obtain ⟨az, cz, rfl, -⟩ := hz.shape
  clear hv hz hzs hB h hl
  have hm1 := fun w => run_makeMap (P := Tryz.prog) 53 w
  have hm2 := fun w => run_makeMap (P := Tryz.prog) 54 w
  go_enter Tryz.func7, Tryz.ntmps7
  go_upto_region 6 with (first
    | (go_at_call 9; (refine HS.out.mono ?_; rw [HE.out]; rintro e w2 ⟨rfl, hb2⟩; have hA2 := HA.out.later hb2; have hQ2 := HQ.out.later hb2; have a0 := hA2.cell 0 rfl; have q0 := hQ2.cell 0 rfl; have q1 := hQ2.cell 1 rfl; have q2 := hQ2.cell 2 rfl; have ql := hQ2.lt; have HA2 := hid hA2; have HQ2 := hid hQ2; clear hA2 hQ2))
    | (go_at_call 13; (refine walk_fine.mono ?_; rintro e w3 ⟨rfl, hb3⟩; have hA3 := HA2.out.later hb3; have hQ3 := HQ2.out.later hb3; have a0 := hA3.cell 0 rfl; have a1 := hA3.cell 1 rfl; have q0 := hQ3.cell 0 rfl; have q1 := hQ3.cell 1 rfl; have q2 := hQ3.cell 2 rfl; have ql := hQ3.lt; have qf := hQ3.frozen 0; have qy := setCell_same q0; have HA3 := hid hA3; have HQ3 := hid hQ3; clear hA3 hQ3))
    | (go_at_call 14; refine Clone_str_nil.mono ?_; rintro e w4 ⟨rfl, rfl⟩)
    | (go_at_call 15; (refine (Clone_bs ((HV.out.below hb2).below hb3) (fun _ => rfl) (by have := HL.out; omega)).mono ?_; rintro e w5 ⟨v5, rfl, ho5, hb5⟩; have hA5 := HA3.out.later hb5; have hQ5 := HQ3.out.later hb5; have HO5 := hid ho5; obtain ⟨a5, c5, n5, rfl, hn5⟩ := ho5.shapeN; have q0 := hQ5.cell 0 rfl; have q1 := hQ5.cell 1 rfl; have q2 := hQ5.cell 2 rfl; have ql := hQ5.lt; have af := hA5.frozen 0; have a0 := hA5.cell 0 rfl; have a1 := hA5.cell 1 rfl; have a2 := hA5.cell 2 rfl; have a3 := hA5.cell 3 rfl; have a4 := hA5.cell 4 rfl; have a6 := hA5.cell 6 rfl; have a7 := hA5.cell 7 rfl; have a55 := hA5.cell 5 rfl; have al := hA5.lt; clear ho5)))
  subst hn5
  obtain ⟨WA, hWA⟩ : ∃ W, W = w5.setCell ⟨w.heap.size, 0, none⟩ (.slice a5 rs.length c5) := ⟨_, rfl⟩
  obtain ⟨WB, hWB⟩ : ∃ W, W = WA.alloc (.cells #[.slice none 0 0, .int .i64 1] 51) := ⟨_, rfl⟩
  obtain ⟨WC, hWC⟩ : ∃ W, W = WB.alloc (.map #[] 0) := ⟨_, rfl⟩
  obtain ⟨WD, hWD⟩ : ∃ W, W = WC.alloc (.map #[] 0) := ⟨_, rfl⟩
  obtain ⟨W6, hW6⟩ : ∃ W, W = WD.alloc (.cells #[.pointer (some ⟨kb, 0, none⟩), .slice a5 rs.length c5, .int .i64 ca, .int .i64 st, .int .i64 ti, .int .i64 tr, .int .i64 de, .int .i64 pe, .slice az zs.length cz, .slice none 0 0, .int .i64 1, .int .i64 1, .int .i64 now, .int .i64 0, .slice (some ⟨w5.heap.size, 0, none⟩) 1 1, .map (some (w5.heap.size + 1)), .map (some (w5.heap.size + 1 + 1)), .pointer none, .slice none 0 0, .int .i64 0, .slice none 0 0, .int .i64 0, .bool false, .int .i64 0, .slice none 0 0, .slice none 0 0, .bool false] 60) := ⟨_, rfl⟩
  rw [← hWA, ← hWB, ← hWC, ← hWD, ← hW6]
  have sA : WA.heap.size = w5.heap.size := by rw [hWA]; simp
  have sB : WB.heap.size = w5.heap.size + 1 := by rw [hWB]; simp [sA]
  have sC : WC.heap.size = w5.heap.size + 1 + 1 := by rw [hWC]; simp [sB]
  have sD : WD.heap.size = w5.heap.size + 1 + 1 + 1 := by rw [hWD]; simp [sC]
  have bD : Below WD.heap.size WD W6 := by rw [hW6]; exact below_alloc _ _
  have bC : Below WC.heap.size WC WD := by rw [hWD]; exact below_alloc _ _
  have bB : Below WB.heap.size WB WC := by rw [hWC]; exact below_alloc _ _
  have bA : Below WA.heap.size WA WB := by rw [hWB]; exact below_alloc _ _
  have kA : Keeps (fun k => k = w.heap.size) w5 WA := by rw [hWA]; exact Keeps.setCell (M := fun k => k = w.heap.size) w5 ⟨w.heap.size, 0, none⟩ _ rfl
  have k56 : Keeps (fun k => k = w.heap.size) w5 W6 := (((kA.trans (Keeps.of_below bA)).trans (Keeps.of_below bB)).trans (Keeps.of_below bC)).trans (Keeps.of_below bD)
  have b03 : Below w.heap.size w w3 := (HB.out.trans (hb2.mono HB.out.size)).trans (hb3.mono (Nat.le_trans HB.out.size hb2.size))
  have b05 : Below w.heap.size w w5 := b03.trans (hb5.mono b03.size)
  have k06 : Keeps (fun _ => False) w W6 := ((Keeps.of_below (M := fun k => k = w.heap.size) b05).trans k56).mono (fun k hk h => by omega)
  have gW : At W6 (w5.heap.size + 1 + 1 + 1) 60 [.pointer (some ⟨kb, 0, none⟩), .slice a5 rs.length c5, .int .i64 ca, .int .i64 st, .int .i64 ti, .int .i64 tr, .int .i64 de, .int .i64 pe, .slice az zs.length cz, .slice none 0 0, .int .i64 1, .int .i64 1, .int .i64 now, .int .i64 0, .slice (some ⟨w5.heap.size, 0, none⟩) 1 1, .map (some (w5.heap.size + 1)), .map (some (w5.heap.size + 1 + 1)), .pointer none, .slice none 0 0, .int .i64 0, .slice none 0 0, .int .i64 0, .bool false, .int .i64 0, .slice none 0 0, .slice none 0 0, .bool false] := by rw [hW6, ← sD]; exact At.new WD [.pointer (some ⟨kb, 0, none⟩), .slice a5 rs.length c5, .int .i64 ca, .int .i64 st, .int .i64 ti, .int .i64 tr, .int .i64 de, .int .i64 pe, .slice az zs.length cz, .slice none 0 0, .int .i64 1, .int .i64 1, .int .i64 now, .int .i64 0, .slice (some ⟨w5.heap.size, 0, none⟩) 1 1, .map (some (w5.heap.size + 1)), .map (some (w5.heap.size + 1 + 1)), .pointer none, .slice none 0 0, .int .i64 0, .slice none 0 0, .int .i64 0, .bool false, .int .i64 0, .slice none 0 0, .slice none 0 0, .bool false] 60
  have gG : At W6 w5.heap.size 51 [.slice none 0 0, .int .i64 1] := by
    have h : At WB WA.heap.size 51 [.slice none 0 0, .int .i64 1] := by rw [hWB]; exact At.new WA [.slice none 0 0, .int .i64 1] 51
    rw [sA] at h
    exact ((h.later bB).later bC).later bD
  have gM : W6.heap[w5.heap.size + 1]? = some (.map #[] 0) := by
    have h : WC.heap[WB.heap.size]? = some (.map #[] 0) := by rw [hWC]; exact heap_alloc_new WB _
    rw [sB] at h
    exact ((bD.block _ (by omega)).trans (bC.block _ (by omega))).trans h
  have l3 : w.heap.size + 2 ≤ w3.heap.size := by
    have h1 := HB.out.size
    have h2 := hb2.size
    have h3 := hb3.size
    simp only [World.size_alloc] at h2
    omega
  have gO : Own enc3 W6 w3.heap.size 28 (.slice a5 rs.length c5) rs := HO5.out.keeps k56 (fun k hk e => by have := (HO5.out.lt k hk).1; omega)
  have gK : KeepOK W6 kb cb mb := HK.out.keeps k06 (fun x => x) (fun x => x) (fun x => x)
  have l5 := k06.size
  have l35 := hb5.size
  clear hWA hWB hWC hWD hW6 sA sB sC sD bD bC bB bA kA k56 a0 a1 a2 a3 a4 a55 a6 a7 af al q0 q1 q2 ql qf qy hA5 hQ5
  have HG := hid gG
  have HM := hid gM
  have HO := hid gO
  have HKK := hid gK
  have HF := hid k06
  have HW := hid (show WalkAt W6 (w5.heap.size + 1 + 1 + 1) kb [.slice a5 rs.length c5, .int .i64 ca, .int .i64 st, .int .i64 ti, .int .i64 tr, .int .i64 de, .int .i64 pe, .slice az zs.length cz] (.int .i64 now) (.int .i64 0) (.slice (some ⟨w5.heap.size, 0, none⟩) 1 1) (.map (some (w5.heap.size + 1))) (.map (some (w5.heap.size + 1 + 1))) (.pointer none) (.slice none 0 0) (.int .i64 0) (.slice none 0 0) (.int .i64 0) (.bool false) (.int .i64 0) (.slice none 0 0) (.slice none 0 0) (.bool false) from
    ⟨_, _, _, _, _, _, _, _, rfl, gW⟩)
  clear gG gM gO gK k06 gW
  go_wp2_with (go_at_call 16; (refine (walk_look HKK.out HW.out h0 h1 (by omega)).mono ?_; rintro e w7 ⟨rfl, hK7, hk7⟩))
  try simp only [Exit.inBlock, Exit.then]
  refine bodyPost_ret (by simp [results, Tryz.results7, go_sem]; try rfl) rfl ?_
  refine ⟨w5.heap.size + 1 + 1 + 1, w5.heap.size + 1, w5.heap.size, rfl, hK7, ⟨_, _, (HO.out.keeps hk7 (fun k hk e => by have := (HO.out.lt k hk).1; omega)).base (by omega), HW.out.keeps hk7 (by omega)⟩, ⟨0, ?_⟩, HG.out.keeps hk7 (by omega), ⟨by omega, by omega, by omega⟩, (HF.out.mono (fun _ _ x => x.elim)).trans hk7⟩
  exact (hk7.block _ (Array.getElem?_eq_some_iff.1 HM.out).1 (by omega)).trans HM.out
end Go.Proofs.YtfogkbdcbgpomaaGreat
