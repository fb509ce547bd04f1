/- For every setting WalkSettings returns true, and the setting reads afterwards as it read before. -/
import Derived.Test.YtfogkbdcbgpomaaGreatRows
import Derived.Test.YtfogkbdcbgpomaaGreatLaw
import Derived.Test.YtfogkbdcbgpomaaGreatOpen
import Derived.ProofKit
set_option linter.unusedSimpArgs false
set_option linter.unusedVariables false
namespace Go.Proofs.YtfogkbdcbgpomaaGreat
open Go.ChangeShapes Go.WideShapes Go.ChangeAt Go.RowKit Go.Joins

theorem ownA : ownKnob Tryz.prog.godebug = none := by kernel_rfl
theorem laidA : laidOutB Tryz.prog = true := by kernel_rfl
theorem cellsSetting : Tryz.prog.cellsOf 25 = 8 := by kernel_rfl
theorem cellsBytes : Tryz.prog.cellsOf 28 = 1 := by kernel_rfl
theorem cellsStrs : Tryz.prog.cellsOf 29 = 1 := by kernel_rfl
theorem cellsStr : Tryz.prog.cellsOf 9 = 1 := by kernel_rfl

set_option maxRecDepth 100000 in
/-- A setting that comes in. -/
theorem open_setting {H : Type} {enc : TypeId × Value → H} {W : World} {r : Reach} {b0 : Nat} {v : Value} {d : DataW H} {p : List MemPlace} (hval : Value.okWide Tryz.prog W r b0 25 v) (h : DataW.Trod enc Tryz.prog W 0 (fun _ => true) true 25 v d p)
    (hw : (DataW.weightsEach Tryz.prog [25] [d]).all (· ≤ reachBytes) = true) :
    ∃ (x z : Value) (rs : List Row3) (zs : List Zone) (ca st ti tr de pe : Int), v = .agg #[x, .int .i64 ca, .int .i64 st, .int .i64 ti, .int .i64 tr, .int .i64 de, .int .i64 pe, z] ∧ Sw enc3 (fun _ => False) W x rs ∧ Sw encZ (fun _ => False) W z zs ∧
      ∀ y ∈ zs, Sw .string (fun _ => False) W y.1 y.2 ∧ ∀ s ∈ y.2, s.size ≤ 140737488355328 := by
  obtain ⟨cs, rfl, hsz⟩ := okWide_struct Tryz.underlying25 hval
  obtain ⟨c0, c1, c2, c3, c4, c5, c6, c7, rfl⟩ := array8 (hsz.trans cellsSetting)
  obtain ⟨fuel, hf⟩ := h
  obtain ⟨y0, y1, y2, y3, y4, y5, y6, y7, n, hx, h0, h1, h2, h3, h4, h5, h6, h7⟩ := trod_struct8 Tryz.underlying25 hf
  have e1 : Tryz.prog.cellsOf 22 = 1 := by kernel_rfl
  have e2 : Tryz.prog.cellsOf 3 = 1 := by kernel_rfl
  have e3 : Tryz.prog.cellsOf 23 = 1 := by kernel_rfl
  simp only [Value.cells, e1, e2, e3, List.drop_zero, List.drop_succ_cons, List.take_succ_cons, List.take_zero] at h0 h1 h2 h3 h4 h5 h6 h7
  obtain ⟨rs, hrs⟩ := open_rows Tryz.underlying22 Tryz.underlying28 cellsBytes h0
  obtain ⟨zs, hzs, hzz⟩ := open_zones Tryz.underlying23 Tryz.underlying29 Tryz.underlying9 cellsStrs cellsStr h7
  obtain ⟨ca, k1, -, -⟩ := DataW.trod_int Tryz.underlying3 h1
  obtain ⟨st, k2, -, -⟩ := DataW.trod_int Tryz.underlying3 h2
  obtain ⟨ti, k3, -, -⟩ := DataW.trod_int Tryz.underlying3 h3
  obtain ⟨tr, k4, -, -⟩ := DataW.trod_int Tryz.underlying3 h4
  obtain ⟨de, k5, -, -⟩ := DataW.trod_int Tryz.underlying3 h5
  obtain ⟨pe, k6, -, -⟩ := DataW.trod_int Tryz.underlying3 h6
  simp only [List.cons.injEq, and_true] at k1 k2 k3 k4 k5 k6
  subst k1 k2 k3 k4 k5 k6
  refine ⟨c0, c7, rs, zs, ca, st, ti, tr, de, pe, rfl, hrs, hzs, fun y hy => ⟨(hzz y hy).1, fun s hs => ?_⟩⟩
  have hm := (hzz y hy).2 s hs
  have hall : s.size ∈ DataW.weightsEach Tryz.prog [25] [d] := by
    refine DataW.weights_mem_each (j := 0) rfl rfl _ ?_
    dsimp only at hx
    rw [hx]
    unfold DataW.weights
    rw [Tryz.underlying25]
    exact DataW.weights_mem_each (j := 7) rfl rfl _ hm
  have := List.all_eq_true.1 hw _ hall
  have h47 := reachBytes_lt
  simp only [decide_eq_true_eq] at this
  omega

set_option maxRecDepth 100000 in
theorem lifted (os : Os) (started : os.Started) (H : Type) (enc : TypeId × Value → H) :
    ReturnsInHanded {} Tryz.checked os 3 .any (Rows.walkSettingsSpec.pre6 enc Tryz.prog Tryz.f3 Rows.walkSettingsRow.domain false) (Rows.walkSettingsSpec.post enc Tryz.prog Tryz.f3 false true false false) := by
  refine returnsInHanded_of_change_sized (C := Tryz.checked) ownA started (by kernel_rfl) Tryz.func3
    (ChangeSpec.witness6 (enc := enc) (C := Tryz.checked) false ⟨#[], #[.agg #[.slice none 0 0, .int .i64 0, .int .i64 0, .int .i64 0, .int .i64 0, .int .i64 0, .int .i64 0, .slice none 0 0]], []⟩ 8 (by kernel_rfl) (by kernel_rfl) (by kernel_rfl) (by kernel_rfl)) ?_
  intro W base args ds gs before hval0 hW _ hsz0 _
  have hval : ∀ (j : Nat) t v, Tryz.f3.params[j]? = some t → args[j]? = some v → Value.okWide Tryz.prog W .any base t v := hval0
  have hW' := hW
  obtain ⟨p, q, hA0, hV, rfl, _, _⟩ := hW
  have hA : DataW.TrodAll enc Tryz.prog W 0 (fun _ => true) true Tryz.f3.params.toList args.toList ds p := hA0
  have hsz : (DataW.weightsEach Tryz.prog (Tryz.f3.params.toList ++ []) (ds ++ gs)).all (· ≤ reachBytes) = true := hsz0
  rw [Tryz.params3] at hA hval hsz
  obtain ⟨v0, d0, rfl, rfl, h0⟩ := trodAll_one hA
  obtain ⟨rfl, rfl⟩ := trodVars_none hV
  have h0k := h0
  clear hA0 hval0 hsz0
  simp only [List.append_nil] at hW' hsz
  have hlt : ∀ x ∈ p, x.block < W.heap.size := fun x hx => by simpa using hW'.lt x hx
  obtain ⟨x, z, rs, zs, ca, st, ti, tr, de, pe, rfl, hrs, hzs, hzz⟩ := open_setting (hval 0 25 v0 rfl rfl) h0 hsz
  refine (law_WalkSettings hrs hzs hzz).mono fun e W' ⟨he, hb⟩ => ?_
  subst he
  have hargs := Below.trod laidA (by kernel_rfl) (of_decide_eq_true (by kernel_rfl)) h0k hb hlt
  exact ⟨_, rfl, ⟨_, _, _, [], _, [], hW', trodAll_mk1 (shut_bool Tryz.underlying4 _), trodAll_mk1 hargs, rfl, hb.frame _, fun h => by cases h⟩⟩

theorem over : Rows.walkSettingsRow.holds Tryz.pinned (OpenSpec.ofChange Rows.walkSettingsSpec) :=
  OpenClaim.holds_of_wide 3 Tryz.f3 rfl rfl rfl rfl rfl rfl rfl ⟨rfl, rfl, rfl, rfl, rfl⟩ rfl rfl rfl rfl rfl (by kernel_rfl) Tryz.func3 (by kernel_rfl)
    (of_decide_eq_true (by kernel_rfl)) (by unfold Func.isWrapper; first | (rw [if_pos (by decide +kernel)]; kernel_rfl) | (rw [if_neg (by decide +kernel)]; exact ⟨rfl, rfl⟩))
    (fun os started H enc _ => lifted os started H enc)

/-- THE STATEMENT. -/
theorem walkSettings_holds : Rows.WalkSettingsSaid := over
#print axioms walkSettings_holds
end Go.Proofs.YtfogkbdcbgpomaaGreat
