/- Which settings may be: the walks. -/
import Derived.Test.YtfogkbdcbgpomaaGreatSound2
set_option linter.unusedSimpArgs false
set_option linter.unusedVariables false
namespace Go.Proofs.YtfogkbdcbgpomaaGreat
open Go.RowKit

/-- A slice of slices: what its cells hold. -/
abbrev Row3 := Option Addr × Nat × Nat
def enc3 (x : Row3) : Value := .slice x.1 x.2.1 x.2.2
def badA (x : Row3) : Bool := decide (x.2.1 ≠ 4)
/-- A zone: the cell, and the labels that it leads to. -/
abbrev Zone := Value × List ByteArray
def encZ (x : Zone) : Value := x.1
def badZ (x : Zone) : Bool := !soundB x.2
def inB (n m : Int) : Bool := decide (1 ≤ n) && decide (n ≤ m)
def timeB (n : Int) : Bool := decide (0 ≤ n) && decide (n ≤ 36028797018963968)

theorem Setting_1 {w : World} {x : Row3} : Calls Tryz.prog 20 #[enc3 x] w fun e w' => e = .returned (.bool (badA x)) ∧ w = w' := by
  obtain ⟨a, n, c⟩ := x
  show Calls Tryz.prog 20 #[.slice a n c] w fun e w' => e = .returned (.bool (decide (n ≠ 4))) ∧ w = w'
  by_cases h : n = 4
  · subst h
    go_enter Tryz.func20, Tryz.ntmps20
    go_wp2
    go_ret
    exact ⟨rfl, rfl⟩
  · have h2 : ¬ (n : Int) = 4 := by omega
    go_enter Tryz.func20, Tryz.ntmps20
    go_wp2
    go_ret
    exact ⟨ret_bool (by simp [h, h2]), rfl⟩

theorem Setting_2 {M : Nat → Prop} {w : World} {x : Zone} (hv : Sw .string M w x.1 x.2) (hs : ∀ s ∈ x.2, s.size ≤ 140737488355328) :
    Calls Tryz.prog 22 #[encZ x] w fun e w' => e = .returned (.bool (badZ x)) ∧ w = w' := by
  obtain ⟨v, l⟩ := x
  have H := hid (name_Sound hv hs)
  clear hv hs
  show Calls Tryz.prog 22 #[v] w fun e w' => e = .returned (.bool (!soundB l)) ∧ w = w'
  go_enter Tryz.func22, Tryz.ntmps22
  go_wp2_with (go_at_call 23; refine H.out.mono ?_; rintro e w2 ⟨rfl, rfl⟩)
  go_ret
  exact ⟨rfl, rfl⟩

theorem Setting_3 {w : World} {n m : Int} : Calls Tryz.prog 24 #[.int .i64 n, .int .i64 m] w fun e w' => e = .returned (.bool (inB n m)) ∧ w = w' := by
  by_cases h : 1 ≤ n
  · by_cases h2 : n ≤ m
    all_goals
      go_enter Tryz.func24, Tryz.ntmps24
      go_wp2
      go_ret
      exact ⟨ret_bool (by simp [inB, h, h2]), rfl⟩
  · go_enter Tryz.func24, Tryz.ntmps24
    go_wp2
    go_ret
    exact ⟨ret_bool (by simp [inB]; omega), rfl⟩

theorem ttl_TimeB {w : World} {n : Int} : Calls Tryz.prog 25 #[.int .i64 n] w fun e w' => e = .returned (.bool (timeB n)) ∧ w = w' := by
  by_cases h : 0 ≤ n
  · by_cases h2 : n ≤ 36028797018963968
    all_goals
      go_enter Tryz.func25, Tryz.ntmps25
      go_wp2
      go_ret
      exact ⟨ret_bool (by simp [timeB, h, h2]), rfl⟩
  · go_enter Tryz.func25, Tryz.ntmps25
    go_wp2
    go_ret
    exact ⟨ret_bool (by simp [timeB]; omega), rfl⟩

theorem ref_Time {w : World} {n : Int} : Calls Tryz.prog 5 #[.int .i64 n] w fun e w' => e = .returned (.bool (timeB n)) ∧ w = w' := by
  by_cases h : 0 ≤ n
  · by_cases h2 : n ≤ 36028797018963968
    all_goals
      go_enter Tryz.func5, Tryz.ntmps5
      go_wp2
      go_ret
      exact ⟨ret_bool (by simp [timeB, h, h2]), rfl⟩
  · go_enter Tryz.func5, Tryz.ntmps5
    go_wp2
    go_ret
    exact ⟨ret_bool (by simp [timeB]; omega), rfl⟩

set_option maxRecDepth 100000 in
set_option maxHeartbeats 800000 in
theorem Index_roots {M : Nat → Prop} {v : Value} {l : List Row3} {w : World} (hv : Sw enc3 M w v l) (hl : l.length ≤ 1000) :
    Calls Tryz.prog 40 #[v, .func (.func 20) #[] #[]] w fun e w' => ∃ i : Int, e = .returned (.int .i64 i) ∧ w = w' ∧ decide (0 ≤ i) = l.any badA := by
  obtain ⟨a, c, rfl, _, hc⟩ := hv.shape
  have HC := hid hc
  clear hc hv
  go_enter Tryz.func40, Tryz.ntmps40
  go_wp2
  go_loop [5, 8] (fun _ i => ∃ k : Nat, k ≤ l.length ∧ i = .int .i64 k ∧ (l.take k).any badA = false) (fun _ i => l.length - (intOf i).toNat)
  case atStart => exact ⟨0, Nat.zero_le _, rfl, by simp⟩
  case round =>
    obtain ⟨k, hk, rfl, hany⟩ := hrel
    have HA := hid hany
    clear hany
    by_cases hlt : k < l.length
    · obtain ⟨b, o, rfl, _, hcell⟩ := HC.out k hlt
      have HT := hid (any_snoc badA l k hlt)
      have HH := hid (any_of_take (p := badA) hlt)
      obtain ⟨x, hx⟩ : ∃ x, x = l[k] := ⟨_, rfl⟩
      rw [← hx] at hcell HT HH
      clear hx
      cases hb : badA x
      · go_wp2_with (go_at_call 20; refine (Setting_1 (x := x)).mono ?_; rw [hb]; rintro e w2 ⟨rfl, rfl⟩)
        go_round
        case rel => exact ⟨k + 1, by omega, by go_num, by rw [HT.out, HA.out, hb]; rfl⟩
        case measure => simp [intOf]; omega
      · go_wp2_with (go_at_call 20; refine (Setting_1 (x := x)).mono ?_; rw [hb]; rintro e w2 ⟨rfl, rfl⟩)
        go_ret
        exact ⟨_, rfl, rfl, by rw [HH.out hb]; simp⟩
    · go_wp2
      go_ret
      have h3 := HA.out
      rw [List.take_of_length_le (by omega)] at h3
      exact ⟨_, rfl, rfl, by rw [h3]; rfl⟩

set_option maxRecDepth 100000 in
theorem Contains_roots {M : Nat → Prop} {v : Value} {l : List Row3} {w : World} (hv : Sw enc3 M w v l) (hl : l.length ≤ 1000) :
    Calls Tryz.prog 19 #[v, .func (.func 20) #[] #[]] w fun e w' => e = .returned (.bool (l.any badA)) ∧ w = w' := by
  have H := hid (Index_roots hv hl)
  clear hv
  go_enter Tryz.func19, Tryz.ntmps19
  go_wp2_with (go_at_call 40; refine H.out.mono ?_; rintro e w2 ⟨i, rfl, rfl, hi⟩; have HI := hid hi; clear hi)
  go_ret
  exact ⟨ret_bool HI.out, rfl⟩

set_option maxRecDepth 100000 in
set_option maxHeartbeats 800000 in
theorem Index_zones {M : Nat → Prop} {v : Value} {l : List Zone} {w : World} (hv : Sw encZ M w v l) (hl : l.length ≤ 1000) (hz : ∀ z ∈ l, Sw .string M w z.1 z.2 ∧ ∀ s ∈ z.2, s.size ≤ 140737488355328) :
    Calls Tryz.prog 41 #[v, .func (.func 22) #[] #[]] w fun e w' => ∃ i : Int, e = .returned (.int .i64 i) ∧ w = w' ∧ decide (0 ≤ i) = l.any badZ := by
  obtain ⟨a, c, rfl, _, hc⟩ := hv.shape
  have HC := hid hc
  have HS := hid hz
  clear hc hv hz
  go_enter Tryz.func41, Tryz.ntmps41
  go_wp2
  go_loop [5, 8] (fun _ i => ∃ k : Nat, k ≤ l.length ∧ i = .int .i64 k ∧ (l.take k).any badZ = false) (fun _ i => l.length - (intOf i).toNat)
  case atStart => exact ⟨0, Nat.zero_le _, rfl, by simp⟩
  case round =>
    obtain ⟨k, hk, rfl, hany⟩ := hrel
    have HA := hid hany
    clear hany
    by_cases hlt : k < l.length
    · obtain ⟨b, o, rfl, _, hcell⟩ := HC.out k hlt
      have HZ := hid (HS.out l[k] (by simp))
      have HT := hid (any_snoc badZ l k hlt)
      have HH := hid (any_of_take (p := badZ) hlt)
      obtain ⟨x, hx⟩ : ∃ x, x = l[k] := ⟨_, rfl⟩
      rw [← hx] at hcell HT HH HZ
      clear hx
      cases hb : badZ x
      · go_wp2_with (go_at_call 22; refine (Setting_2 (x := x) HZ.out.1 HZ.out.2).mono ?_; rw [hb]; rintro e w2 ⟨rfl, rfl⟩)
        go_round
        case rel => exact ⟨k + 1, by omega, by go_num, by rw [HT.out, HA.out, hb]; rfl⟩
        case measure => simp [intOf]; omega
      · go_wp2_with (go_at_call 22; refine (Setting_2 (x := x) HZ.out.1 HZ.out.2).mono ?_; rw [hb]; rintro e w2 ⟨rfl, rfl⟩)
        go_ret
        exact ⟨_, rfl, rfl, by rw [HH.out hb]; simp⟩
    · go_wp2
      go_ret
      have h3 := HA.out
      rw [List.take_of_length_le (by omega)] at h3
      exact ⟨_, rfl, rfl, by rw [h3]; rfl⟩

set_option maxRecDepth 100000 in
theorem Contains_zones {M : Nat → Prop} {v : Value} {l : List Zone} {w : World} (hv : Sw encZ M w v l) (hl : l.length ≤ 1000) (hz : ∀ z ∈ l, Sw .string M w z.1 z.2 ∧ ∀ s ∈ z.2, s.size ≤ 140737488355328) :
    Calls Tryz.prog 21 #[v, .func (.func 22) #[] #[]] w fun e w' => e = .returned (.bool (l.any badZ)) ∧ w = w' := by
  have H := hid (Index_zones hv hl hz)
  clear hv hz
  go_enter Tryz.func21, Tryz.ntmps21
  go_wp2_with (go_at_call 41; refine H.out.mono ?_; rintro e w2 ⟨i, rfl, rfl, hi⟩; have HI := hid hi; clear hi)
  go_ret
  exact ⟨ret_bool HI.out, rfl⟩

def setB (rs : List Row3) (zs : List Zone) (ca st ti tr de pe : Int) : Bool :=
  !(decide (rs.length < 1) || decide (16 < rs.length) || rs.any badA || zs.any badZ) && (inB ca 4096 && timeB st && inB ti 3600 && inB tr 8 && inB de 86400 && inB pe 256)

set_option maxRecDepth 100000 in
set_option maxHeartbeats 4000000 in
theorem walk_Setting {M : Nat → Prop} {v z : Value} {rs : List Row3} {zs : List Zone} {ca st ti tr de pe : Int} {w : World} (hv : Sw enc3 M w v rs) (hl : rs.length ≤ 1000) (hz : Sw encZ M w z zs) (hzl : zs.length ≤ 1000) (hzs : ∀ z ∈ zs, Sw .string M w z.1 z.2 ∧ ∀ s ∈ z.2, s.size ≤ 140737488355328) :
    Calls Tryz.prog 9 #[.agg #[v, .int .i64 ca, .int .i64 st, .int .i64 ti, .int .i64 tr, .int .i64 de, .int .i64 pe, z]] w fun e w' => e = .returned (.bool (setB rs zs ca st ti tr de pe)) ∧ Below w.heap.size w w' := by
  have HB := below_alloc w (.cells #[v, .int .i64 ca, .int .i64 st, .int .i64 ti, .int .i64 tr, .int .i64 de, .int .i64 pe, z] 25)
  have HR := hid (Contains_roots (hv.below HB) hl)
  have HZ := hid (Contains_zones (hz.below HB) hzl (fun x hx => ⟨(hzs x hx).1.below HB, (hzs x hx).2⟩))
  have H1 := hid (fun w => Setting_3 (w := w) (n := ca) (m := 4096))
  have H2 := hid (fun w => ttl_TimeB (w := w) (n := st))
  have H3 := hid (fun w => Setting_3 (w := w) (n := ti) (m := 3600))
  have H4 := hid (fun w => Setting_3 (w := w) (n := tr) (m := 8))
  have H5 := hid (fun w => Setting_3 (w := w) (n := de) (m := 86400))
  have H6 := hid (fun w => Setting_3 (w := w) (n := pe) (m := 256))
  unfold setB
  obtain ⟨a, c, rfl, _, _⟩ := hv.shape
  clear hv hz hzs
  generalize rs.any badA = b0 at HR ⊢
  generalize zs.any badZ = b7 at HZ ⊢
  generalize inB ca 4096 = b1 at H1 ⊢
  generalize timeB st = b2 at H2 ⊢
  generalize inB ti 3600 = b3 at H3 ⊢
  generalize inB tr 8 = b4 at H4 ⊢
  generalize inB de 86400 = b5 at H5 ⊢
  generalize inB pe 256 = b6 at H6 ⊢
  by_cases h1 : rs.length < 1
  · have h1' : (rs.length : Int) < 1 := by omega
    go_enter Tryz.func9, Tryz.ntmps9
    go_wp2
    go_ret
    exact ⟨ret_bool (by simp [h1]), HB⟩
  have h1' : ¬ (rs.length : Int) < 1 := by omega
  by_cases h2 : 16 < rs.length
  · have h2' : (rs.length : Int) > 16 := by omega
    go_enter Tryz.func9, Tryz.ntmps9
    go_wp2
    go_ret
    exact ⟨ret_bool (by simp [h2]), HB⟩
  have h2' : ¬ (rs.length : Int) > 16 := by omega
  cases b0
  case true =>
    go_enter Tryz.func9, Tryz.ntmps9
    go_wp2_with (go_at_call 19; refine HR.out.mono ?_; rintro e w2 ⟨rfl, rfl⟩)
    go_ret
    exact ⟨ret_bool (by simp), HB⟩
  cases b7
  case true =>
    go_enter Tryz.func9, Tryz.ntmps9
    go_wp2_with (first
      | (go_at_call 19; refine HR.out.mono ?_; rintro e w2 ⟨rfl, rfl⟩)
      | (go_at_call 21; refine HZ.out.mono ?_; rintro e w2 ⟨rfl, rfl⟩))
    go_ret
    exact ⟨ret_bool (by simp), HB⟩
  have e0 : (!(decide (rs.length < 1) || decide (16 < rs.length) || false || false)) = true := by simp [h1, h2]
  rw [e0, Bool.true_and]
  clear e0
  go_enter Tryz.func9, Tryz.ntmps9
  cases b1
  case' true => cases b2
  case' true.true => cases b3
  case' true.true.true => cases b4
  case' true.true.true.true => cases b5
  case' true.true.true.true.true => cases b6
  all_goals
    go_wp2_with (first
      | (go_at_call 19; refine HR.out.mono ?_; rintro e w2 ⟨rfl, rfl⟩)
      | (go_at_call 21; refine HZ.out.mono ?_; rintro e w2 ⟨rfl, rfl⟩)
      | (go_at_call 25; refine (H2.out _).mono ?_; rintro e w2 ⟨rfl, rfl⟩)
      | (go_at_call 24; (first | with_reducible refine (H1.out _).mono ?_ | with_reducible refine (H3.out _).mono ?_ | with_reducible refine (H4.out _).mono ?_ | with_reducible refine (H5.out _).mono ?_ | with_reducible with_reducible with_reducible refine (H6.out _).mono ?_); rintro e w2 ⟨rfl, rfl⟩))
    go_ret
    exact ⟨ret_bool (by simp), HB⟩
end Go.Proofs.YtfogkbdcbgpomaaGreat
