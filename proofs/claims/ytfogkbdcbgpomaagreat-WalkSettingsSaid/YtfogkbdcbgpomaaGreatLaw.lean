/- The law's own walk. -/
import Derived.Test.YtfogkbdcbgpomaaGreatAns
set_option linter.unusedSimpArgs false
set_option linter.unusedVariables false
namespace Go.Proofs.YtfogkbdcbgpomaaGreat
open Go.RowKit

theorem KeepOK.drew {w : World} {kb cb mb : Nat} (h : KeepOK w kb cb mb) : KeepOK w.drew kb cb mb := h.later (Below.refl _ _).drew

/-- What the law itself holds of a setting, ahead of its lists. -/
def fine0 (n : Nat) (ca st ti tr de pe : Int) : Bool :=
  decide (1 ≤ n) && decide (n ≤ 16) && inB ca 4096 && timeB st && inB ti 3600 && inB tr 8 && inB de 86400 && inB pe 256

theorem fine_setB (rs : List Row3) (zs : List Zone) (ca st ti tr de pe : Int) : ((fine0 rs.length ca st ti tr de pe && !rs.any badA) && !zs.any badZ) = setB rs zs ca st ti tr de pe := by
  unfold fine0 setB
  generalize inB ca 4096 = b1
  generalize timeB st = b2
  generalize inB ti 3600 = b3
  generalize inB tr 8 = b4
  generalize inB de 86400 = b5
  generalize inB pe 256 = b6
  generalize rs.any badA = b7
  generalize zs.any badZ = b8
  have e1 : decide (rs.length < 1) = !decide (1 ≤ rs.length) := by
    by_cases h : 1 ≤ rs.length
    · rw [decide_eq_false (by omega), decide_eq_true h]; rfl
    · rw [decide_eq_true (by omega), decide_eq_false h]; rfl
  have e2 : decide (16 < rs.length) = !decide (rs.length ≤ 16) := by
    by_cases h : rs.length ≤ 16
    · rw [decide_eq_false (by omega), decide_eq_true h]; rfl
    · rw [decide_eq_true (by omega), decide_eq_false h]; rfl
  rw [e1, e2]
  generalize decide (1 ≤ rs.length) = b9
  generalize decide (rs.length ≤ 16) = b10
  revert b1 b2 b3 b4 b5 b6 b7 b8 b9 b10
  decide

set_option maxRecDepth 100000 in
set_option maxHeartbeats 4000000 in
theorem law_WalkSettings {w : World} {v z : Value} {rs : List Row3} {zs : List Zone} {ca st ti tr de pe : Int} (hv : Sw enc3 (fun _ => False) w v rs) (hz : Sw encZ (fun _ => False) w z zs) (hzs : ∀ z ∈ zs, Sw .string (fun _ => False) w z.1 z.2 ∧ ∀ s ∈ z.2, s.size ≤ 140737488355328) :
    Calls Tryz.prog 3 #[.agg #[v, .int .i64 ca, .int .i64 st, .int .i64 ti, .int .i64 tr, .int .i64 de, .int .i64 pe, z]] w fun e w' => e = .returned (.bool true) ∧ Below w.heap.size w w' := by
  have HB := hid (below_alloc w (.cells #[v, .int .i64 ca, .int .i64 st, .int .i64 ti, .int .i64 tr, .int .i64 de, .int .i64 pe, z] 25))
  have HV := hid (hv.below HB.out)
  have HZ := hid (hz.below HB.out)
  have HS := hid (fun x (hx : x ∈ zs) => (show _ ∧ _ from ⟨(hzs x hx).1.below HB.out, (hzs x hx).2⟩))
  obtain ⟨av, cv, rfl, -⟩ := hv.shape
  obtain ⟨az, cz, rfl, -⟩ := hz.shape
  have HA := hid (At.new w [.slice av rs.length cv, .int .i64 ca, .int .i64 st, .int .i64 ti, .int .i64 tr, .int .i64 de, .int .i64 pe, .slice az zs.length cz] 25)
  clear hv hz hzs
  by_cases h100 : 100 < rs.length
  · have h100' : (rs.length : Int) > 100 := by omega
    go_enter Tryz.func3, Tryz.ntmps3
    go_wp2_with (first
      | (go_at_call 4; (refine law_answers.mono ?_; rintro e w2 ⟨rfl, hb2⟩; have c0 := (HA.out.later hb2).cell 0 rfl; have c7 := (HA.out.later hb2).cell 7 rfl))
      | (go_at_call 4; (refine law_answers.mono ?_; rintro e w3 ⟨rfl, hb3⟩)))
    go_ret
    exact ⟨rfl, (HB.out.trans (hb2.mono HB.out.size)).trans (hb3.mono (Nat.le_trans HB.out.size hb2.size))⟩
  have h100' : ¬ (rs.length : Int) > 100 := by omega
  by_cases h50 : 50 < zs.length
  · have h50' : (zs.length : Int) > 50 := by omega
    go_enter Tryz.func3, Tryz.ntmps3
    go_wp2_with (first
      | (go_at_call 4; (refine law_answers.mono ?_; rintro e w2 ⟨rfl, hb2⟩; have c0 := (HA.out.later hb2).cell 0 rfl; have c7 := (HA.out.later hb2).cell 7 rfl))
      | (go_at_call 4; (refine law_answers.mono ?_; rintro e w3 ⟨rfl, hb3⟩)))
    go_ret
    exact ⟨rfl, (HB.out.trans (hb2.mono HB.out.size)).trans (hb3.mono (Nat.le_trans HB.out.size hb2.size))⟩
  have h50' : ¬ (zs.length : Int) > 50 := by omega
  go_enter Tryz.func3, Tryz.ntmps3
  go_upto_region 3 with (go_at_call 4; (refine law_answers.mono ?_; rintro e w2 ⟨rfl, hb2⟩; have c0 := (HA.out.later hb2).cell 0 rfl; have c7 := (HA.out.later hb2).cell 7 rfl))
  have hA2 := HA.out.later hb2
  have c0 := hA2.cell 0 rfl
  have c1 := hA2.cell 1 rfl
  have c2 := hA2.cell 2 rfl
  have c3 := hA2.cell 3 rfl
  have c4 := hA2.cell 4 rfl
  have c5 := hA2.cell 5 rfl
  have c6 := hA2.cell 6 rfl
  have c7 := hA2.cell 7 rfl
  have HV2 := hid (HV.out.below hb2)
  have HZ2 := hid (HZ.out.below hb2)
  have HS2 := hid (fun x (hx : x ∈ zs) => (show _ ∧ _ from ⟨(HS.out x hx).1.below hb2, (HS.out x hx).2⟩))
  have HA2 := hid hA2
  have HB2 := hid (HB.out.trans (hb2.mono HB.out.size))
  have HT := hid (fun w => ref_Time (w := w) (n := st))
  clear hA2 hb2 HA HV HZ HS HB
  go_cut [3] (fun s3 wx => s3 = .bool (fine0 rs.length ca st ti tr de pe) ∧ wx = w2)
  case first =>
    by_cases h0 : 1 ≤ (rs.length : Int)
    case neg =>
      go_wp2_with fail
      go_meet
      exact ⟨congrArg Value.bool (by simp [fine0, inB]; omega), rfl⟩
    by_cases h1 : (rs.length : Int) ≤ 16
    case neg =>
      go_wp2_with fail
      go_meet
      exact ⟨congrArg Value.bool (by simp [fine0, inB]; omega), rfl⟩
    by_cases h2 : 1 ≤ ca
    case neg =>
      go_wp2_with fail
      go_meet
      exact ⟨congrArg Value.bool (by simp [fine0, inB]; omega), rfl⟩
    by_cases h3 : ca ≤ 4096
    case neg =>
      go_wp2_with fail
      go_meet
      exact ⟨congrArg Value.bool (by simp [fine0, inB]; omega), rfl⟩
    cases hT : timeB st
    case false =>
      rw [hT] at HT
      go_wp2_with (go_at_call 5; refine (HT.out _).mono ?_; rintro e w3 ⟨rfl, rfl⟩)
      go_meet
      exact ⟨congrArg Value.bool (by simp [fine0, hT]), rfl⟩
    rw [hT] at HT
    by_cases h5 : 1 ≤ ti
    case neg =>
      go_wp2_with (go_at_call 5; refine (HT.out _).mono ?_; rintro e w3 ⟨rfl, rfl⟩)
      go_meet
      exact ⟨congrArg Value.bool (by simp [fine0, inB]; omega), rfl⟩
    by_cases h6 : ti ≤ 3600
    case neg =>
      go_wp2_with (go_at_call 5; refine (HT.out _).mono ?_; rintro e w3 ⟨rfl, rfl⟩)
      go_meet
      exact ⟨congrArg Value.bool (by simp [fine0, inB]; omega), rfl⟩
    by_cases h7 : 1 ≤ tr
    case neg =>
      go_wp2_with (go_at_call 5; refine (HT.out _).mono ?_; rintro e w3 ⟨rfl, rfl⟩)
      go_meet
      exact ⟨congrArg Value.bool (by simp [fine0, inB]; omega), rfl⟩
    by_cases h8 : tr ≤ 8
    case neg =>
      go_wp2_with (go_at_call 5; refine (HT.out _).mono ?_; rintro e w3 ⟨rfl, rfl⟩)
      go_meet
      exact ⟨congrArg Value.bool (by simp [fine0, inB]; omega), rfl⟩
    by_cases h9 : 1 ≤ de
    case neg =>
      go_wp2_with (go_at_call 5; refine (HT.out _).mono ?_; rintro e w3 ⟨rfl, rfl⟩)
      go_meet
      exact ⟨congrArg Value.bool (by simp [fine0, inB]; omega), rfl⟩
    by_cases h10 : de ≤ 86400
    case neg =>
      go_wp2_with (go_at_call 5; refine (HT.out _).mono ?_; rintro e w3 ⟨rfl, rfl⟩)
      go_meet
      exact ⟨congrArg Value.bool (by simp [fine0, inB]; omega), rfl⟩
    by_cases h11 : 1 ≤ pe
    case neg =>
      go_wp2_with (go_at_call 5; refine (HT.out _).mono ?_; rintro e w3 ⟨rfl, rfl⟩)
      go_meet
      exact ⟨congrArg Value.bool (by simp [fine0, inB]; omega), rfl⟩
    by_cases h12 : pe ≤ 256
    case neg =>
      go_wp2_with (go_at_call 5; refine (HT.out _).mono ?_; rintro e w3 ⟨rfl, rfl⟩)
      go_meet
      exact ⟨congrArg Value.bool (by
        have hf : fine0 rs.length ca st ti tr de pe = false := by simp [fine0, inB]; omega
        rw [hf]
        first | rfl | (simp; omega)), rfl⟩
    go_wp2_with (go_at_call 5; refine (HT.out _).mono ?_; rintro e w3 ⟨rfl, rfl⟩)
    go_meet
    exact ⟨congrArg Value.bool (by simp [fine0, inB, hT]; omega), rfl⟩
  case rest =>
    obtain ⟨rfl, rfl⟩ := hcut
    go_wp2
    obtain ⟨a', c', hve, -, hc⟩ := HV2.out.shape
    cases hve
    obtain ⟨a'', c'', hze, -, hcz⟩ := HZ2.out.shape
    cases hze
    have HC := hid hc
    have HCZ := hid hcz
    have HF := hid (fine_setB rs zs ca st ti tr de pe)
    generalize fine0 rs.length ca st ti tr de pe = f0 at HF
    clear hc hcz
    go_loop [3, 4] (fun s3 s4 => ∃ (k : Nat) (b : Bool), k ≤ rs.length ∧ s4 = .int .i64 k ∧ s3 = .bool b ∧ b = (f0 && !(rs.take k).any badA)) (fun _ s4 => rs.length - (intOf s4).toNat)
    case atStart => exact ⟨0, _, Nat.zero_le _, rfl, rfl, by simp⟩
    case round =>
      obtain ⟨k, b, hk, rfl, rfl, hb⟩ := hrel
      have HBB := hid hb
      clear hb
      by_cases hlt : k < rs.length
      · obtain ⟨b0, o0, rfl, hsure, hcell⟩ := HC.out k hlt
        have hsb := hsure.1
        have HT2 := hid (any_snoc badA rs k hlt)
        obtain ⟨x, hx⟩ : ∃ x, x = rs[k] := ⟨_, rfl⟩
        rw [← hx] at hcell HT2
        clear hx hsure
        obtain ⟨xa, xn, xc⟩ := x
        have hcell2 : wc.cell? ⟨b0, o0 + k, none⟩ = some (.slice xa xn xc) := hcell
        clear hcell
        cases b
        case false =>
          go_wp2
          go_round
          case rel => exact ⟨k + 1, false, by omega, by go_num, rfl, by rw [HT2.out, Bool.not_or, ← Bool.and_assoc, ← HBB.out]; rfl⟩
          case measure => simp [intOf]; omega
        case true =>
          by_cases h4 : xn = 4
          · subst h4
            go_wp2
            go_round
            case rel => exact ⟨k + 1, true, by omega, by go_num, rfl, by rw [HT2.out, Bool.not_or, ← Bool.and_assoc, ← HBB.out]; rfl⟩
            case measure => simp [intOf]; omega
          · have h4' : ¬ (xn : Int) = 4 := by omega
            go_wp2
            go_round
            case rel => exact ⟨k + 1, false, by omega, by go_num, congrArg Value.bool (by simp [h4']), by rw [HT2.out, Bool.not_or, ← Bool.and_assoc, ← HBB.out]; simp [badA, h4]⟩
            case measure => simp [intOf]; omega
      · have h3 := HBB.out
        rw [List.take_of_length_le (by omega)] at h3
        have HB3 := hid h3
        clear h3 HBB
        go_wp2
        go_loop [3, 5] (fun s3 s5 => ∃ (k : Nat) (c : Bool), k ≤ zs.length ∧ s5 = .int .i64 k ∧ s3 = .bool c ∧ c = (b && !(zs.take k).any badZ)) (fun _ s5 => zs.length - (intOf s5).toNat)
        case atStart => exact ⟨0, _, Nat.zero_le _, rfl, rfl, by simp⟩
        case round =>
          obtain ⟨k, c, hk, rfl, rfl, hb⟩ := hrel
          have HBB := hid hb
          clear hb
          by_cases hlt : k < zs.length
          · obtain ⟨b0, o0, rfl, hsure, hcell⟩ := HCZ.out k hlt
            have hsb := hsure.1
            have HT2 := hid (any_snoc badZ zs k hlt)
            have hS := HS2.out zs[k] (by simp)
            obtain ⟨x, hx⟩ : ∃ x, x = zs[k] := ⟨_, rfl⟩
            rw [← hx] at hcell HT2 hS
            clear hx hsure
            obtain ⟨zv, zl⟩ := x
            obtain ⟨hS1, hS2⟩ := hS
            dsimp only at hS1 hS2
            obtain ⟨za, zc, rfl, -⟩ := hS1.shape
            have hcell2 : wc.cell? ⟨b0, o0 + k, none⟩ = some (.slice za zl.length zc) := hcell
            have HR := hid (ref_Sound hS1 hS2)
            clear hcell hS1 hS2
            by_cases h200 : 200 < zl.length
            · have h200' : (zl.length : Int) > 200 := by omega
              go_wp2
              go_ret
              exact ⟨rfl, HB2.out⟩
            have h200' : ¬ (zl.length : Int) > 200 := by omega
            cases c
            case false =>
              go_wp2
              go_round
              case rel => exact ⟨k + 1, false, by omega, by go_num, rfl, by rw [HT2.out, Bool.not_or, ← Bool.and_assoc, ← HBB.out]; rfl⟩
              case measure => simp [intOf]; omega
            case true =>
              go_wp2_with (go_at_call 6; refine HR.out.mono ?_; rintro e w3 ⟨rfl, rfl⟩)
              go_round
              case rel => exact ⟨k + 1, soundB zl, by omega, by go_num, rfl, by rw [HT2.out, Bool.not_or, ← Bool.and_assoc, ← HBB.out]; simp [badZ]⟩
              case measure => simp [intOf]; omega
          · have h3 := HBB.out
            rw [List.take_of_length_le (by omega), HB3.out, HF.out] at h3
            clear HBB HB3 HF
            subst h3
            obtain ⟨fv, hfv⟩ : ∃ b, b = setB rs zs ca st ti tr de pe := ⟨_, rfl⟩
            rw [← hfv]
            have HFV := hid hfv
            clear hfv HC HCZ HT
            obtain ⟨r, hr⟩ : ∃ r : Int, r = if fv then 0 else 1 := ⟨_, rfl⟩
            have HRR := hid hr
            clear hr
            have hrl : rs.length ≤ 1000 := by omega
            have hzl : zs.length ≤ 1000 := by omega
            have HNw := hid (fun (w' : World) (kb cb mb : Nat) (hK : KeepOK w' kb cb mb) (hk : wc.heap.size ≤ kb) (hb : Below wc.heap.size wc w') => (show Calls Tryz.prog 7 #[.pointer (some ⟨kb, 0, none⟩), .agg #[.slice av rs.length cv, .int .i64 ca, .int .i64 st, .int .i64 ti, .int .i64 tr, .int .i64 de, .int .i64 pe, .slice az zs.length cz], .agg #[.slice none 0 0, .int .i64 1, .int .i64 1], .int .i64 0] w' fun e w'' => (∃ p, e = .returned (.tuple #[.pointer p, .int .i64 r])) ∧ Below wc.heap.size wc w'' from by
              have hf := HFV.out
              have hr := HRR.out
              have hv1 := (HV2.out.weaken (M' := fun k => k = kb) (fun k hk1 e => by omega)).keeps (Keeps.of_below hb)
              have hz1 := (HZ2.out.weaken (M' := fun k => k = kb) (fun k hk1 e => by omega)).keeps (Keeps.of_below hb)
              have hs1 : ∀ z ∈ zs, Sw .string (fun k => k = kb) w' z.1 z.2 ∧ ∀ s ∈ z.2, s.size ≤ 140737488355328 := fun x hx => ⟨((HS2.out x hx).1.weaken (M' := fun k => k = kb) (fun k hk1 e => by omega)).keeps (Keeps.of_below hb), (HS2.out x hx).2⟩
              cases fv
              · refine (walk_New_bad hv1 hrl hz1 hzl hs1 hf.symm).mono ?_
                rintro e w'' ⟨rfl, hb2⟩
                exact ⟨⟨none, by rw [hr]; rfl⟩, hb.trans (hb2.mono hb.size)⟩
              · refine (walk_New hK hv1 hrl hz1 hzl hs1 hf.symm (by decide) (by decide)).mono ?_
                rintro e w'' ⟨wb, tm, gb, rfl, hN⟩
                have hka : Keeps (fun k => wc.heap.size ≤ k) wc w'' := (Keeps.of_below hb).trans (hN.fr.mono (fun k _ h => by omega))
                exact ⟨⟨_, by rw [hr]; rfl⟩, (hka.mono (fun k hk h => absurd hk (by omega))).below⟩))
            have HSt := hid (fun (w' : World) (hb : Below wc.heap.size wc w') => walk_Setting (ca := ca) (st := st) (ti := ti) (tr := tr) (de := de) (pe := pe) (HV2.out.below hb) hrl (HZ2.out.below hb) hzl (fun x hx => ⟨(HS2.out x hx).1.below hb, (HS2.out x hx).2⟩))
            have HX := hid (fun (w' : World) (hb : Below wc.heap.size wc w') => (show w'.cell? ⟨w.heap.size, 0, none⟩ = some (.slice av rs.length cv) ∧ w'.cell? ⟨w.heap.size, 1, none⟩ = some (.int .i64 ca) ∧ w'.cell? ⟨w.heap.size, 2, none⟩ = some (.int .i64 st) ∧ w'.cell? ⟨w.heap.size, 3, none⟩ = some (.int .i64 ti) ∧ w'.cell? ⟨w.heap.size, 4, none⟩ = some (.int .i64 tr) ∧ w'.cell? ⟨w.heap.size, 5, none⟩ = some (.int .i64 de) ∧ w'.cell? ⟨w.heap.size, 6, none⟩ = some (.int .i64 pe) ∧ w'.cell? ⟨w.heap.size, 7, none⟩ = some (.slice az zs.length cz) ∧ Below wc.heap.size wc w' from
              ⟨(HA2.out.keeps (Keeps.of_below hb) (M := fun _ => False) (fun x => x)).cell 0 rfl, (HA2.out.keeps (Keeps.of_below hb) (M := fun _ => False) (fun x => x)).cell 1 rfl, (HA2.out.keeps (Keeps.of_below hb) (M := fun _ => False) (fun x => x)).cell 2 rfl, (HA2.out.keeps (Keeps.of_below hb) (M := fun _ => False) (fun x => x)).cell 3 rfl, (HA2.out.keeps (Keeps.of_below hb) (M := fun _ => False) (fun x => x)).cell 4 rfl, (HA2.out.keeps (Keeps.of_below hb) (M := fun _ => False) (fun x => x)).cell 5 rfl, (HA2.out.keeps (Keeps.of_below hb) (M := fun _ => False) (fun x => x)).cell 6 rfl, (HA2.out.keeps (Keeps.of_below hb) (M := fun _ => False) (fun x => x)).cell 7 rfl, hb⟩))
            have h00 := HX.out wc (Below.refl _ _)
            clear c0 c1 c2 c3 c4 c5 c6 c7
            go_upto_region 14 with fail
            cases fv
            all_goals
              have hr := HRR.out
              simp only [Bool.false_eq_true, if_false, if_true] at hr
              subst hr
              go_region_held3 (fun w' => w'.cell? ⟨w.heap.size, 0, none⟩ = some (.slice av rs.length cv) ∧ w'.cell? ⟨w.heap.size, 1, none⟩ = some (.int .i64 ca) ∧ w'.cell? ⟨w.heap.size, 2, none⟩ = some (.int .i64 st) ∧ w'.cell? ⟨w.heap.size, 3, none⟩ = some (.int .i64 ti) ∧ w'.cell? ⟨w.heap.size, 4, none⟩ = some (.int .i64 tr) ∧ w'.cell? ⟨w.heap.size, 5, none⟩ = some (.int .i64 de) ∧ w'.cell? ⟨w.heap.size, 6, none⟩ = some (.int .i64 pe) ∧ w'.cell? ⟨w.heap.size, 7, none⟩ = some (.slice az zs.length cz) ∧ Below wc.heap.size wc w')
                (with_reducible (refine HX.out _ ?_; repeat (first | assumption | exact Below.refl _ _ | refine Below.drew ?_)))
                (first
                  | (go_at_call 8; (refine (law_fresh (n := 8) (by decide) (by decide)).mono ?_; rintro e w4 ⟨kb, cb, mb, rfl, hK4, hkb, hcb, hmb, hb4⟩; have HK4 := hid (show KeepOK w4 kb cb mb from ⟨0, by decide, by decide, hK4⟩); have hb14 : Below wc.heap.size wc w4 := by_chain (by with_reducible (repeat (first | assumption | exact Below.refl _ _ | refine Below.drew ?_))) hb4; have hkb2 : wc.heap.size ≤ kb := hkb; clear hK4 hkb hcb hmb))
                  | (go_at_call 7; (refine (HNw.out _ kb cb mb (by with_reducible (repeat (first | exact HK4.out | refine KeepOK.drew ?_))) hkb2 (by with_reducible (repeat (first | exact hb14 | refine Below.drew ?_)))).mono ?_; rintro e w5 ⟨⟨pn, rfl⟩, hb5⟩)))
              rename_i hh
              obtain ⟨d0, d1, d2, d3, d4, d5, d6, d7, -⟩ := hh
              clear h00 hb4 hb14
              go_wp2_with (go_at_call 9; (refine (HSt.out _ hb5).mono ?_; rw [← HFV.out]; rintro e w6 ⟨rfl, hb6⟩))
              go_ret
              exact ⟨rfl, (HB2.out.trans (hb5.mono HB2.out.size)).trans (hb6.mono (Nat.le_trans HB2.out.size hb5.size))⟩
end Go.Proofs.YtfogkbdcbgpomaaGreat
