/- Names that may be: the walks. -/
import Derived.Test.YtfogkbdcbgpomaaGreatSound
set_option linter.unusedSimpArgs false
set_option linter.unusedVariables false
namespace Go.Proofs.YtfogkbdcbgpomaaGreat
open Go.RowKit


set_option maxRecDepth 100000 in
set_option maxHeartbeats 800000 in
theorem Index_str {M : Nat → Prop} {v : Value} {l : List ByteArray} {w : World} (hv : Sw .string M w v l) (hl : l.length ≤ 1000) (hs : ∀ s ∈ l, s.size ≤ 140737488355328) :
    Calls Tryz.prog 73 #[v, .func (.func 43) #[] #[]] w fun e w' => ∃ i : Int, e = .returned (.int .i64 i) ∧ w = w' ∧ decide (0 ≤ i) = l.any badL := by
  obtain ⟨a, c, rfl, _, hc⟩ := hv.shape
  have HC := hid hc
  have HS := hid hs
  clear hc hs hv
  go_enter Tryz.func73, Tryz.ntmps73
  go_wp2
  go_loop [5, 8] (fun _ i => ∃ k : Nat, k ≤ l.length ∧ i = .int .i64 k ∧ (l.take k).any badL = false) (fun _ i => l.length - (intOf i).toNat)
  case atStart => exact ⟨0, Nat.zero_le _, rfl, by simp⟩
  case round =>
    obtain ⟨k, hk, rfl, hany⟩ := hrel
    have HA := hid hany
    clear hany
    by_cases hlt : k < l.length
    · obtain ⟨b, o, rfl, _, hcell⟩ := HC.out k hlt
      have hsz := HS.out l[k] (by simp)
      have HT := hid (any_snoc badL l k hlt)
      have HH := hid (any_of_take (p := badL) hlt)
      obtain ⟨x, hx⟩ : ∃ x, x = l[k] := ⟨_, rfl⟩
      rw [← hx] at hcell hsz HT HH
      clear hx
      cases hb : badL x
      · go_wp2_with (go_at_call 43; refine (Sound_1 hsz).mono ?_; rw [hb]; rintro e w2 ⟨rfl, rfl⟩)
        go_round
        case rel => exact ⟨k + 1, by omega, by go_num, by rw [HT.out, HA.out, hb]; rfl⟩
        case measure => simp [intOf]; omega
      · go_wp2_with (go_at_call 43; refine (Sound_1 hsz).mono ?_; rw [hb]; rintro e w2 ⟨rfl, rfl⟩)
        go_ret
        exact ⟨_, rfl, rfl, by rw [HH.out hb]; simp⟩
    · go_wp2
      go_ret
      have h3 := HA.out
      rw [List.take_of_length_le (by omega)] at h3
      exact ⟨_, rfl, rfl, by rw [h3]; rfl⟩

set_option maxRecDepth 100000 in
theorem Contains_str {M : Nat → Prop} {v : Value} {l : List ByteArray} {w : World} (hv : Sw .string M w v l) (hl : l.length ≤ 1000) (hs : ∀ s ∈ l, s.size ≤ 140737488355328) :
    Calls Tryz.prog 42 #[v, .func (.func 43) #[] #[]] w fun e w' => e = .returned (.bool (l.any badL)) ∧ w = w' := by
  have H := hid (Index_str hv hl hs)
  clear hs hv
  go_enter Tryz.func42, Tryz.ntmps42
  go_wp2_with (go_at_call 73; refine H.out.mono ?_; rintro e w2 ⟨i, rfl, rfl, hi⟩; have HI := hid hi; clear hi)
  go_ret
  exact ⟨ret_bool HI.out, rfl⟩

theorem soundB_long {l : List ByteArray} (h : 255 < l.length) : soundB l = false := by
  unfold soundB
  cases hb : l.any badL
  · have := nsz_ge l hb
    have h2 : ¬ nsize l ≤ 255 := by unfold nsize; omega
    simp [h2]
  · rfl

set_option maxRecDepth 100000 in
set_option maxHeartbeats 800000 in
theorem name_Sound {M : Nat → Prop} {v : Value} {l : List ByteArray} {w : World} (hv : Sw .string M w v l) (hs : ∀ s ∈ l, s.size ≤ 140737488355328) :
    Calls Tryz.prog 23 #[v] w fun e w' => e = .returned (.bool (soundB l)) ∧ w = w' := by
  obtain ⟨a, c, rfl, hm, -⟩ := hv.shape
  unfold maxLen at hm
  have HV := hid hv
  have HS := hid hs
  clear hv hs
  by_cases hl : l.length ≤ 255
  · have hC := hid (Contains_str HV.out (by omega) HS.out)
    have hZ := hid (name_Size HV.out (by omega) HS.out)
    have HB := hid (show soundB l = (!(l.any badL) && decide (nsize l ≤ 255)) from rfl)
    obtain ⟨q, hq⟩ : ∃ q, q = l.any badL := ⟨_, rfl⟩
    rw [← hq] at hC HB
    clear hq
    go_enter Tryz.func23, Tryz.ntmps23
    cases q
    · go_wp2_with (first
        | (go_at_call 42; refine hC.out.mono ?_; rintro e w2 ⟨rfl, rfl⟩)
        | (go_at_call 44; refine hZ.out.mono ?_; rintro e w2 ⟨rfl, rfl⟩))
      go_ret
      refine ⟨ret_bool ?_, rfl⟩
      rw [HB.out]
      simp
      omega
    · go_wp2_with (first
        | (go_at_call 42; refine hC.out.mono ?_; rintro e w2 ⟨rfl, rfl⟩)
        | (go_at_call 44; refine hZ.out.mono ?_; rintro e w2 ⟨rfl, rfl⟩))
      go_ret
      refine ⟨ret_bool ?_, rfl⟩
      rw [HB.out]
      rfl
  · have HB := hid (soundB_long (l := l) (by omega))
    go_enter Tryz.func23, Tryz.ntmps23
    go_wp2
    go_ret
    exact ⟨ret_bool HB.out.symm, rfl⟩

set_option maxHeartbeats 400000 in
theorem ref_Size {M : Nat → Prop} {v : Value} {l : List ByteArray} {w : World} (hv : Sw .string M w v l) (hl : l.length ≤ 1000) (hs : ∀ s ∈ l, s.size ≤ 140737488355328) :
    Calls Tryz.prog 12 #[v] w fun e w' => e = .returned (.int .i64 (nsize l)) ∧ w = w' := by
  obtain ⟨a, c, rfl, _, hc⟩ := hv.shape
  clear hv
  go_enter Tryz.func12, Tryz.ntmps12
  go_wp2
  go_loop [3, 4] (fun n i => ∃ k : Nat, k ≤ l.length ∧ i = .int .i64 k ∧ n = .int .i64 (1 + nsz (l.take k) : Nat)) (fun _ i => l.length - (intOf i).toNat)
  case atStart => exact ⟨0, Nat.zero_le _, rfl, by simp [nsz]⟩
  case round =>
    obtain ⟨k, hk, rfl, rfl⟩ := hrel
    by_cases hlt : k < l.length
    · obtain ⟨b, o, rfl, _, hcell⟩ := hc k hlt
      have hb := nsz_le (l.take k) _ (fun s h => hs s (List.mem_of_mem_take h))
      have hsz := hs l[k] (by simp)
      have hb2 : nsz (l.take k) ≤ 1000 * (1 + 140737488355328) := Nat.le_trans hb (Nat.mul_le_mul (by simp; omega) (Nat.le_refl _))
      clear hb hs hc
      go_wp2
      go_round
      case rel => exact ⟨k + 1, by omega, by go_num, by rw [nsz_snoc l k hlt]; go_num⟩
      case measure => simp [intOf]; omega
    · clear hc
      go_wp2
      go_ret
      exact ⟨ret_int (by rw [List.take_of_length_le (by omega)]; rfl), rfl⟩

theorem soundB_127 {l : List ByteArray} (h : 127 < l.length) : soundB l = false := by
  unfold soundB
  cases hb : l.any badL
  · have := nsz_ge l hb
    have h2 : ¬ nsize l ≤ 255 := by unfold nsize; omega
    simp [h2]
  · rfl

set_option maxRecDepth 100000 in
set_option maxHeartbeats 800000 in
theorem ref_Sound {M : Nat → Prop} {v : Value} {l : List ByteArray} {w : World} (hv : Sw .string M w v l) (hs : ∀ s ∈ l, s.size ≤ 140737488355328) :
    Calls Tryz.prog 6 #[v] w fun e w' => e = .returned (.bool (soundB l)) ∧ w = w' := by
  obtain ⟨a, c, rfl, hm, hc⟩ := hv.shape
  unfold maxLen at hm
  have HV := hid hv
  have HS := hid hs
  have HC := hid hc
  clear hv hs hc
  by_cases hl : l.length ≤ 127
  · have hZ := hid (ref_Size HV.out (by omega) HS.out)
    have HB := hid (show soundB l = (!(l.any badL) && decide (nsize l ≤ 255)) from rfl)
    go_enter Tryz.func6, Tryz.ntmps6
    go_wp2
    go_loop [3] (fun i => ∃ k : Nat, k ≤ l.length ∧ i = .int .i64 k ∧ (l.take k).any badL = false) (fun i => l.length - (intOf i).toNat)
    case atStart => exact ⟨0, Nat.zero_le _, rfl, by simp⟩
    case round =>
      obtain ⟨k, hk, rfl, hany⟩ := hrel
      have HA := hid hany
      clear hany
      by_cases hlt : k < l.length
      · obtain ⟨b, o, rfl, _, hcell⟩ := HC.out k hlt
        have hsz := HS.out l[k] (by simp)
        have HT := hid (any_snoc badL l k hlt)
        have HH := hid (any_of_take (p := badL) hlt)
        obtain ⟨x, hx⟩ : ∃ x, x = l[k] := ⟨_, rfl⟩
        rw [← hx] at hcell hsz HT HH
        clear hx
        by_cases h1 : x.size = 0
        · have hb : badL x = true := by simp [badL, h1]
          go_wp2
          go_ret
          exact ⟨ret_bool (by rw [HB.out, HH.out hb]; rfl), rfl⟩
        · by_cases h2 : 63 < x.size
          · have hb : badL x = true := by simp [badL, h2]
            go_wp2
            go_ret
            exact ⟨ret_bool (by rw [HB.out, HH.out hb]; rfl), rfl⟩
          · have hb : badL x = false := by simp [badL, h1]; omega
            go_wp2
            go_round
            case rel => exact ⟨k + 1, by omega, by go_num, by rw [HT.out, HA.out, hb]; rfl⟩
            case measure => simp [intOf]; omega
      · have h3 := HA.out
        rw [List.take_of_length_le (by omega)] at h3
        have H3 := hid h3
        clear h3
        go_wp2_with (go_at_call 12; refine hZ.out.mono ?_; rintro e w2 ⟨rfl, rfl⟩)
        go_ret
        refine ⟨ret_bool ?_, rfl⟩
        rw [HB.out, H3.out]
        simp
        omega
  · have HB := hid (soundB_127 (l := l) (by omega))
    go_enter Tryz.func6, Tryz.ntmps6
    go_wp2
    go_ret
    exact ⟨ret_bool HB.out.symm, rfl⟩
end Go.Proofs.YtfogkbdcbgpomaaGreat
