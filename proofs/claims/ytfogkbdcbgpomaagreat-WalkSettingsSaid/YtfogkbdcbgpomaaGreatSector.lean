/- Package sector: what a blank sector is, and that a head that may be is sealed. -/
import Derived.Test.YtfogkbdcbgpomaaGreatFlash
import Derived.Test.YtfogkbdcbgpomaaGreatNum
import Derived.Test.YtfogkbdcbgpomaaGreatZeros
set_option linter.unusedSimpArgs false
set_option linter.unusedVariables false
namespace Go.Proofs.YtfogkbdcbgpomaaGreat
open Go.RowKit

def szs : List Int := [1, 4, 7, 1, 1, 2]
def offs : List Nat := [0, 1, 5, 12, 13, 14, 16]
theorem szs_fine : ∀ j : Nat, j < 6 → 1 ≤ szs.getD j 0 ∧ szs.getD j 0 ≤ 7 ∧ offs.getD (j + 1) 0 = offs.getD j 0 + (szs.getD j 0).toNat ∧ offs.getD j 0 ≤ 16 := by
  intro j hj
  rcases (show j = 0 ∨ j = 1 ∨ j = 2 ∨ j = 3 ∨ j = 4 ∨ j = 5 by omega) with rfl | rfl | rfl | rfl | rfl | rfl <;> decide
theorem sector_sizes {w : World} : Calls Tryz.prog 132 #[] w fun e w' => e = .returned (.slice (some ⟨w.heap.size, 0, none⟩) 6 6) ∧ Below w.heap.size w w' ∧ w'.heap.size = w.heap.size + 1 ∧ At w' w.heap.size 3 (szs.map (Value.int .i64)) := by
  go_enter Tryz.func132, Tryz.ntmps132
  go_wp2
  go_ret
  exact ⟨rfl, below_alloc _ _, by simp, At.new w _ _⟩
theorem At.nth {w : World} {b : Nat} {t : TypeId} {l : List Int} (h : At w b t (l.map (Value.int .i64))) {j : Nat} (hj : j < l.length) : w.cell? ⟨b, j, none⟩ = some (.int .i64 (l.getD j 0)) :=
  h.cell j (by simp [hj])

/-- A head that may be. -/
structure HeadFine (k e s p ps : Int) : Prop where
  k1 : 0 < k
  k2 : k < 256
  e1 : 0 ≤ e
  e2 : e < 4294967296
  s1 : 0 ≤ s
  s2 : s < 72057594037927936
  p1 : 0 ≤ p
  p2 : p < ps
  ps2 : ps < 256

/-- The head's numbers and the length: each fits. -/
theorem head_fits {k e s p ps : Int} (hh : HeadFine k e s p ps) {n : Nat} (hl : n ≤ 496) : ∀ j : Nat, j < 6 → 0 ≤ [k, e, s, p, ps, (n : Int)].getD j 0 ∧ [k, e, s, p, ps, (n : Int)].getD j 0 < 2 ^ (8 * (szs.getD j 0).toNat) := by
  intro j hj
  obtain ⟨k1, k2, e1, e2, s1, s2, p1, p2, ps2⟩ := hh
  rcases (show j = 0 ∨ j = 1 ∨ j = 2 ∨ j = 3 ∨ j = 4 ∨ j = 5 by omega) with rfl | rfl | rfl | rfl | rfl | rfl <;> simp [szs] <;> omega

set_option maxRecDepth 100000 in
set_option maxHeartbeats 2000000 in
theorem sector_Seal {M : Nat → Prop} {w : World} {k e s p ps : Int} {v : Value} {l : List Int} (hv : Sl (.int .u8) M w v l) (hl : l.length ≤ 496) (hh : HeadFine k e s p ps) :
    Calls Tryz.prog 96 #[.agg #[.int .i64 k, .int .i64 e, .int .i64 s, .int .i64 p, .int .i64 ps], v] w
      fun en w' => ∃ (v' : Value) (xs : List Int), en = .returned (.tuple #[v', .int .i64 0]) ∧ xs.length = 512 ∧ Own (.int .u8) w' w.heap.size 5 v' xs ∧ Below w.heap.size w w' := by
  obtain ⟨a, c, rfl, -, -⟩ := hv.shape
  have HF := hid (head_fits hh hl)
  have kk : (k == 0) = false := by have := hh.k1; simp; omega
  have kp : (ps == 0) = false := by have := hh.p1; have := hh.p2; simp; omega
  have pp : p < ps := hh.p2
  obtain ⟨L, hL⟩ : ∃ L : List Int, L = [k, e, s, p, ps, (l.length : Int)] := ⟨_, rfl⟩
  rw [← hL] at HF
  have hLl : L.length = 6 := by rw [hL]; rfl
  have HL := hid hL
  clear hh hL
  have HV := hid hv
  clear hv
  go_enter Tryz.func96, Tryz.ntmps96
  go_wp2
  go_loopw [28] (fun i wr => ∃ j : Nat, j ≤ 5 ∧ i = .int .i64 j ∧ At wr w.heap.size 147 [.int .i64 k, .int .i64 e, .int .i64 s, .int .i64 p, .int .i64 ps] ∧ At wr (w.heap.size + 1) 3 (L.map (Value.int .i64)) ∧ Below w.heap.size w wr) (fun i _ => 5 - (intOf i).toNat)
  case atStart => exact ⟨0, by omega, rfl, (At.new w _ _).later (below_alloc _ _), by rw [HL.out]; simpa using At.new (w.alloc (.cells #[.int .i64 k, .int .i64 e, .int .i64 s, .int .i64 p, .int .i64 ps] 147)) [.int .i64 k, .int .i64 e, .int .i64 s, .int .i64 p, .int .i64 ps, .int .i64 l.length] 3, ((Below.refl _ _).alloc (Nat.le_refl _) _).alloc (by simp) _⟩
  case round =>
    obtain ⟨j, hj, rfl, hA, hB, hbr⟩ := hrel
    have hs1 := hB.lt
    by_cases hlt : j < 5
    · obtain ⟨n, hn⟩ : ∃ n, n = L.getD j 0 := ⟨_, rfl⟩
      obtain ⟨z, hz⟩ : ∃ z, z = szs.getD j 0 := ⟨_, rfl⟩
      obtain ⟨f0, f1⟩ := HF.out j (by omega)
      obtain ⟨z1, z7, -, -⟩ := szs_fine j (by omega)
      have c0 := hB.nth (j := j) (by omega)
      rw [← hn] at f0 f1 c0
      rw [← hz] at f1 z1 z7
      have HZ := hid hz
      clear hn hz
      have HA := hid hA
      have HB := hid hB
      clear hA hB
      go_wp2_with (first
        | (go_at_call 132; refine sector_sizes.mono ?_; rintro en w2 ⟨rfl, hb2, hsz2, hA2⟩; have c1 := hA2.nth (j := j) (by simp [szs]; omega); rw [← HZ.out] at c1; clear hA2; have hs2 := hb2.size)
        | (go_at_call 94; refine (Fits_yes z1 z7 f0 f1).mono ?_; rintro en w' ⟨rfl, rfl⟩))
      go_round
      case rel => exact ⟨j + 1, by omega, by go_num, HA.out.later hb2, HB.out.later hb2, hbr.trans (hb2.mono (by omega))⟩
      case measure => simp [intOf]; omega
    · have c0 := hA.cell 0 rfl
      have c3 := hA.cell 3 rfl
      have c4 := hA.cell 4 rfl
      have HB := hid hB
      clear hA hB
      go_wp2
      go_loopw [9, 63] (fun out i w2 => ∃ (j : Nat) (xs : List Int), j ≤ 6 ∧ i = .int .i64 j ∧ xs.length = offs.getD j 0 ∧ Own (.int .u8) w2 w.heap.size 5 out xs ∧ At w2 (w.heap.size + 1) 3 (L.map (Value.int .i64)) ∧ Below w.heap.size w w2) (fun _ i _ => 6 - (intOf i).toNat)
      case atStart => exact ⟨0, [], by omega, rfl, rfl, Own.nil _ _ _ _, HB.out, hbr⟩
      case round =>
        clear c0 c3 c4 kk kp pp hlt hj HB hbr hs1
        obtain ⟨j2, xs, hj2, rfl, hxl, hown, hB2, hbr2⟩ := hrel
        obtain ⟨a1, c1, rfl⟩ := hown.shape
        have hs2 := hB2.lt
        by_cases hlt2 : j2 < 6
        · obtain ⟨n, hn⟩ : ∃ n, n = L.getD j2 0 := ⟨_, rfl⟩
          obtain ⟨z, hz⟩ : ∃ z, z = szs.getD j2 0 := ⟨_, rfl⟩
          obtain ⟨f0, f1⟩ := HF.out j2 hlt2
          obtain ⟨z1, z7, ho, hob⟩ := szs_fine j2 hlt2
          have c0 := hB2.nth (j := j2) (by omega)
          rw [← hn] at f0 f1 c0
          rw [← hz] at f1 z1 z7 ho
          have hxb : xs.length ≤ 16 := by omega
          have HX := hid (show xs.length + z.toNat = offs.getD (j2 + 1) 0 by omega)
          have HZ := hid hz
          clear hn hz ho hob hxl
          have HB := hid hB2
          have HO := hid hown
          clear hB2 hown
          go_wp2_with (first
            | (go_at_call 132; refine sector_sizes.mono ?_; rintro en w2 ⟨rfl, hb2, hsz2, hA2⟩; have c1 := hA2.nth (j := j2) (by simp [szs]; omega); rw [← HZ.out] at c1; clear hA2; have hs2 := hb2.size; have hsl := (HO.out.below hb2).sl0)
            | (go_at_call 95; refine (num_Put hsl (Nat.le_trans hxb (by omega)) z1 z7 f0 f1).mono ?_; rintro en w3 ⟨v3, xs3, rfl, hx3, hown3, hb3⟩; have hs3 := hb3.size))
          go_round
          case rel => exact ⟨j2 + 1, xs3, by omega, by go_num, by rw [hx3]; exact HX.out, hown3.base (by omega), (HB.out.later hb2).later hb3, (hbr2.trans (hb2.mono (by omega))).trans (hb3.mono (by omega))⟩
          case measure => simp [intOf]; omega
        · obtain rfl : j2 = 6 := by omega
          have hx16 : xs.length = 16 := hxl
          clear hxl hB2
          have hvl := hid (HV.out.below hbr2)
          have hs3 := hbr2.size
          go_wp2_with (first
            | (at_builtin; refine wpList_extend rfl _ _ 28 rfl w.heap.size 5 (.int .u8 0) 1 Tryz.underlying28 info_u8 rfl _ xs wr rfl hown (Below.refl _ _) M _ l rfl hvl.out (fun _ => rfl) ?_ (by decide) hs3 ?_; (· omega); intro v3 w3 hown3 hb3 hg3 hw3; obtain ⟨a3, c3, N, rfl, hN⟩ := hown3.shapeN; rw [List.length_append, hx16] at hN; have hs4 := hb3.size; have HN := hid hN; have hNb : N ≤ 512 := (by omega); have HO3 := hid hown3; clear hN hown3)
            | (at_builtin; (have q1 : 512 - (N : Int) = ((496 - l.length : Nat) : Int) := (by have := HN.out; omega); have q2 : (xs ++ l).length + (496 - l.length) ≤ 1000000 := (by rw [List.length_append, hx16]; omega); have q3 : w.heap.size ≤ w3.heap.size := (by omega); refine wpList_push_zeros rfl _ _ 28 3 w.heap.size 5 rfl Tryz.underlying28 Tryz.underlying3 info_u8 _ _ rfl HO3.out (496 - l.length) _ rfl q1 q2 q3 ?_; intro v4 w4 hown4 hb4)))
          go_returns
          exact ⟨_, _, rfl, by rw [List.length_append, List.length_append, hx16, length_zeros]; omega, hown4, (hbr2.trans hb3).trans hb4⟩

/-- A head of kind nought is none. -/
theorem sector_Seal_none {w : World} {v : Value} {n : Nat} {a : Option Addr} {c : Nat} (hn : v = .slice a n c) (hl : n ≤ 496) :
    Calls Tryz.prog 96 #[.agg #[.int .i64 0, .int .i64 0, .int .i64 0, .int .i64 0, .int .i64 0], v] w
      fun en w' => en = .returned (.tuple #[.slice none 0 0, .int .i64 15]) ∧ Below w.heap.size w w' := by
  subst hn
  obtain ⟨L, hL⟩ : ∃ L : List Int, L = [0, 0, 0, 0, 0, (n : Int)] := ⟨_, rfl⟩
  have hLl : L.length = 6 := by rw [hL]; rfl
  have hL0 : ∀ j : Nat, j < 5 → L.getD j 0 = 0 := by
    intro j hj; subst hL
    rcases (show j = 0 ∨ j = 1 ∨ j = 2 ∨ j = 3 ∨ j = 4 by omega) with rfl | rfl | rfl | rfl | rfl <;> rfl
  have HL0 := hid hL0
  have HL := hid hL
  clear hL hL0
  go_enter Tryz.func96, Tryz.ntmps96
  go_wp2
  go_loopw [28] (fun i wr => ∃ j : Nat, j ≤ 5 ∧ i = .int .i64 j ∧ At wr w.heap.size 147 [.int .i64 0, .int .i64 0, .int .i64 0, .int .i64 0, .int .i64 0] ∧ At wr (w.heap.size + 1) 3 (L.map (Value.int .i64)) ∧ Below w.heap.size w wr) (fun i _ => 5 - (intOf i).toNat)
  case atStart => exact ⟨0, by omega, rfl, (At.new w _ _).later (below_alloc _ _), by rw [HL.out]; simpa using At.new (w.alloc (.cells #[.int .i64 0, .int .i64 0, .int .i64 0, .int .i64 0, .int .i64 0] 147)) [.int .i64 0, .int .i64 0, .int .i64 0, .int .i64 0, .int .i64 0, .int .i64 n] 3, ((Below.refl _ _).alloc (Nat.le_refl _) _).alloc (by simp) _⟩
  case round =>
    obtain ⟨j, hj, rfl, hA, hB, hbr⟩ := hrel
    have hs1 := hB.lt
    by_cases hlt : j < 5
    · obtain ⟨z, hz⟩ : ∃ z, z = szs.getD j 0 := ⟨_, rfl⟩
      obtain ⟨z1, z7, -, -⟩ := szs_fine j (by omega)
      have c0 := hB.nth (j := j) (by omega)
      rw [HL0.out j hlt] at c0
      rw [← hz] at z1 z7
      have HZ := hid hz
      clear hz
      have HA := hid hA
      have HB := hid hB
      clear hA hB
      go_wp2_with (first
        | (go_at_call 132; refine sector_sizes.mono ?_; rintro en w2 ⟨rfl, hb2, hsz2, hA2⟩; have c1 := hA2.nth (j := j) (by simp [szs]; omega); rw [← HZ.out] at c1; clear hA2; have hs2 := hb2.size)
        | (go_at_call 94; refine (Fits_yes z1 z7 (Int.le_refl 0) (Int.pow_pos (by decide))).mono ?_; rintro en w' ⟨rfl, rfl⟩))
      go_round
      case rel => exact ⟨j + 1, by omega, by go_num, HA.out.later hb2, HB.out.later hb2, hbr.trans (hb2.mono (by omega))⟩
      case measure => simp [intOf]; omega
    · have c0 := hA.cell 0 rfl
      clear hA hB
      go_wp2
      go_returns
      exact ⟨rfl, hbr⟩

theorem beNum_zero : ∀ l : List Int, (∀ x ∈ l, x = 0) → beNum l = 0 := by
  suffices ∀ (l : List Int) (n : Int), n = 0 → (∀ x ∈ l, x = 0) → l.foldl (fun n x => n * 256 + x) n = 0 from fun l h => this l 0 rfl h
  intro l
  induction l with
  | nil => intro n h _; exact h
  | cons a l ih => intro n h h2; exact ih _ (by rw [h, h2 a (by simp)]; rfl) (fun x hx => h2 x (by simp [hx]))
theorem zeros_set (n j : Nat) : ((zeros n).map (Value.int .i64)).set j (.int .i64 0) = (zeros n).map (Value.int .i64) := by
  apply List.ext_getElem?
  intro i
  by_cases h : j = i
  · subst h
    by_cases h2 : j < n
    · simp [zeros, h2]
    · simp [zeros, h2]
  · simp [List.getElem?_set_ne h]

set_option maxRecDepth 100000 in
/-- What a blank sector is: nothing. -/
theorem sector_Open_blank {w : World} {B : Nat} {v : Value} (hv : Own (.int .u8) w B 5 v (zeros 512)) :
    Calls Tryz.prog 100 #[v] w fun en w' => en = .returned (.tuple #[.agg #[.int .i64 0, .int .i64 0, .int .i64 0, .int .i64 0, .int .i64 0], .slice none 0 0, .int .i64 14]) ∧ Below w.heap.size w w' := by
  have hl := length_zeros 512
  have hv0 := hv.sl0
  clear hv
  rcases hv0 with ⟨_, h0⟩ | ⟨b, o, c, rfl, hlc, hcm, hsu, hce⟩
  · rw [h0] at hl; exact absurd hl (by decide)
  rw [hl] at hlc ⊢
  have hne : ¬ c = 16 := by omega
  have HV := hid (show Sl (.int .u8) (fun _ => False) w (.slice (some ⟨b, o, none⟩) 512 c) (zeros 512) from .inr ⟨b, o, c, by rw [hl], by omega, hcm, hsu, hce⟩)
  have HW := hid (show Sl (Value.int .u8) (fun _ => False) w (.slice (some ⟨b, o + 16, none⟩) 0 (c - 16)) ([] : List Int) from .inr ⟨b, o + 16, c - 16, rfl, Nat.zero_le _, Nat.le_trans (Nat.sub_le _ _) hcm, hsu, fun j x hx => by simp at hx⟩)
  clear hcm hsu hce
  go_enter Tryz.func100, Tryz.ntmps100
  go_wp2_with (go_at_call 132; refine sector_sizes.mono ?_; rintro en w2 ⟨rfl, hb2, hsz2, hA2⟩)
  have hA1 : At ((w.alloc (.cells #[.int .i64 0, .int .i64 0, .int .i64 0, .int .i64 0, .int .i64 0] 147)).alloc (.cells #[.int .i64 0, .int .i64 0, .int .i64 0, .int .i64 0, .int .i64 0, .int .i64 0] 233)) (w.heap.size + 1) 233 ((zeros 6).map (Value.int .i64)) := by
    rw [show (zeros 6).map (Value.int .i64) = [.int .i64 0, .int .i64 0, .int .i64 0, .int .i64 0, .int .i64 0, .int .i64 0] from rfl]
    simpa using At.new (w.alloc (.cells #[.int .i64 0, .int .i64 0, .int .i64 0, .int .i64 0, .int .i64 0] 147)) [.int .i64 0, .int .i64 0, .int .i64 0, .int .i64 0, .int .i64 0, .int .i64 0] 233
  have hA0 := (At.new w [.int .i64 0, .int .i64 0, .int .i64 0, .int .i64 0, .int .i64 0] 147).later (below_alloc _ (.cells #[.int .i64 0, .int .i64 0, .int .i64 0, .int .i64 0, .int .i64 0, .int .i64 0] 233))
  have hbb := ((Below.refl w.heap.size w).alloc (Nat.le_refl _) (.cells #[.int .i64 0, .int .i64 0, .int .i64 0, .int .i64 0, .int .i64 0] 147)).alloc (by simp) (.cells #[.int .i64 0, .int .i64 0, .int .i64 0, .int .i64 0, .int .i64 0, .int .i64 0] 233)
  have hA0 := hA0.later hb2
  have hA1 := hA1.later hb2
  have hbb := hbb.trans (hb2.mono (by simp; omega))
  simp only [World.size_alloc] at hA2 hsz2
  clear hb2
  go_loopw [6, 16] (fun a i wr => ∃ j : Nat, j ≤ 6 ∧ i = .int .i64 j ∧ a = .int .i64 (offs.getD j 0 : Nat) ∧ At wr w.heap.size 147 [.int .i64 0, .int .i64 0, .int .i64 0, .int .i64 0, .int .i64 0] ∧ At wr (w.heap.size + 1) 233 ((zeros 6).map (Value.int .i64)) ∧ At wr (w.heap.size + 1 + 1) 3 (szs.map (Value.int .i64)) ∧ Below w.heap.size w wr) (fun _ i _ => 6 - (intOf i).toNat)
  case atStart => exact ⟨0, by omega, rfl, rfl, hA0, hA1, hA2, hbb⟩
  case round =>
    clear hA0 hA1 hA2 hbb hsz2
    obtain ⟨j, hj, rfl, rfl, hA0, hA1, hA2, hbr⟩ := hrel
    by_cases hlt : j < 6
    · obtain ⟨z, hz⟩ : ∃ z, z = szs.getD j 0 := ⟨_, rfl⟩
      obtain ⟨z1, z7, ho, hob⟩ := szs_fine j hlt
      have c0 := hA2.nth (j := j) (by simp [szs]; omega)
      have c1 := hA1.nth (j := j) (by rw [length_zeros]; exact hlt)
      have f1 := hA1.frozen j
      rw [← hz] at z1 z7 c0 ho
      obtain ⟨y, hy⟩ : ∃ y : Nat, (y : Int) = z := ⟨z.toNat, by omega⟩
      subst hy
      obtain ⟨q, hq⟩ : ∃ q : Nat, q = offs.getD j 0 := ⟨_, rfl⟩
      rw [← hq] at ho hob ⊢
      have HH := hid (And.intro hA0 (And.intro hA1 (And.intro hA2 (And.intro ho hz))))
      have HG : Hid (Calls Tryz.prog 128 #[.slice (some ⟨b, o, none⟩) 512 c, .int .i64 q, .int .i64 y] wr fun e w' => e = .returned (.tuple #[.int .i64 0, .int .i64 0]) ∧ wr = w') := by
        have := num_Get (w := wr) (at_ := q) (s := y) (HV.out.below hbr) (by omega) (by omega) (by rw [hl]; omega) (by rw [hl]; omega) (fun x hx => by rw [mem_zeros hx]; omega)
        rwa [beNum_zero _ (fun x hx => mem_zeros (List.mem_of_mem_drop (List.mem_of_mem_take hx)))] at this
      clear hA0 hA1 hA2 ho hz hq
      go_wp2_with (go_at_call 128; refine HG.out.mono ?_; rintro en w' ⟨rfl, rfl⟩)
      obtain ⟨hA0, hA1, hA2, ho, hz⟩ := HH.out
      go_roundw
      case rel => exact ⟨j + 1, by omega, by go_num, by rw [ho]; go_num, hA0.keeps (M := fun k => k = w.heap.size + 1) (Keeps.setCell _ _ _ rfl) (by omega), by rw [← zeros_set 6 j]; exact hA1.set j _, hA2.keeps (M := fun k => k = w.heap.size + 1) (Keeps.setCell _ _ _ rfl) (by omega), hbr.setCell (by simp) _⟩
      case measure => simp [intOf]; omega
    · have qs : ∀ (w : World) (a : Option Addr) (n c n' c' : Nat), (binOp .eql 28 (.slice a n c) (.slice none n' c')).run Tryz.prog w = .ok (.bool a.isNone) w := fun w a n c n' c' => Lib.run_eql_slice_nil w _ _ a n c n' c' Tryz.underlying28
      have e0 := hA1.cell 0 rfl
      have e1 := hA1.cell 1 rfl
      have e2 := hA1.cell 2 rfl
      have e3 := hA1.cell 3 rfl
      have e4 := hA1.cell 4 rfl
      have e5 := hA1.cell 5 rfl
      have g0 := hA0.cell 0 rfl
      have g1 := hA0.cell 1 rfl
      have g2 := hA0.cell 2 rfl
      have g3 := hA0.cell 3 rfl
      have g4 := hA0.cell 4 rfl
      have r0 := hA0.frozen 0
      have r1 := hA0.frozen 1
      have r2 := hA0.frozen 2
      have r3 := hA0.frozen 3
      have r4 := hA0.frozen 4
      clear hA1 hA2
      have HA := hid hA0
      clear hA0
      have hs5 := hbr.size
      obtain ⟨W, hW⟩ : ∃ W : World, W = (((((wr.setCell ⟨w.heap.size, 0, none⟩ (.int .i64 0)).setCell ⟨w.heap.size, 1, none⟩ (.int .i64 0)).setCell ⟨w.heap.size, 2, none⟩ (.int .i64 0)).setCell ⟨w.heap.size, 3, none⟩ (.int .i64 0)).setCell ⟨w.heap.size, 4, none⟩ (.int .i64 0)) := ⟨_, rfl⟩
      have HBW : Below w.heap.size w W := by
        rw [hW]
        exact ((((hbr.setCell (by simp) _).setCell (by simp) _).setCell (by simp) _).setCell (by simp) _).setCell (by simp) _
      have HAW : At W w.heap.size 147 [.int .i64 0, .int .i64 0, .int .i64 0, .int .i64 0, .int .i64 0] := by
        rw [hW]
        exact ((((HA.out.set 0 _).set 1 _).set 2 _).set 3 _).set 4 _
      have HC : Hid (Calls Tryz.prog 86 #[.slice (some ⟨b, o + 16, none⟩) 0 (c - 16)] W fun e w' => ∃ v', e = .returned v' ∧ Own (Value.int .u8) w' W.heap.size 5 v' ([] : List Int) ∧ Below W.heap.size W w') := bytes_Clone (HW.out.below HBW) (fun _ => rfl) (by simp)
      rw [hW] at HC
      go_wp2_with (first
        | (go_at_call 86; refine HC.out.mono ?_; rw [← hW]; rintro en w2 ⟨v2, rfl, hown2, hb2⟩; obtain ⟨a2, c2, rfl⟩ := hown2.shape; have g0 := (HAW.later hb2).cell 0 rfl; have g1 := (HAW.later hb2).cell 1 rfl; have g2 := (HAW.later hb2).cell 2 rfl; have g3 := (HAW.later hb2).cell 3 rfl; have g4 := (HAW.later hb2).cell 4 rfl)
        | (go_at_call 96; refine (sector_Seal_none rfl (by simp)).mono ?_; rintro en w3 ⟨rfl, hb3⟩; have HA3 := (HAW.later hb2).later hb3; have g0 := HA3.cell 0 rfl; have r0 := HA3.frozen 0; have g1 := HA3.cell 1 rfl; have r1 := HA3.frozen 1; have g2 := HA3.cell 2 rfl; have r2 := HA3.frozen 2; have g3 := HA3.cell 3 rfl; have r3 := HA3.frozen 3; have g4 := HA3.cell 4 rfl; have r4 := HA3.frozen 4; have HH3 := hid HA3; clear HA3))
      have HA4 := ((((HH3.out.set 0 (.int .i64 0)).set 1 (.int .i64 0)).set 2 (.int .i64 0)).set 3 (.int .i64 0)).set 4 (.int .i64 0)
      have k0 := HA4.cell 0 rfl
      have k1 := HA4.cell 1 rfl
      have k2 := HA4.cell 2 rfl
      have k3 := HA4.cell 3 rfl
      have k4 := HA4.cell 4 rfl
      clear HA4
      try simp only [Exit.inBlock, Exit.then]
      refine bodyPost_ret (by simp [results, Tryz.results100, go_sem, k0, k1, k2, k3, k4]; try rfl) rfl ?_
      exact ⟨rfl, ((((((HBW.trans (hb2.mono HBW.size)).trans (hb3.mono (Nat.le_trans HBW.size hb2.size))).setCell (by simp) _).setCell (by simp) _).setCell (by simp) _).setCell (by simp) _).setCell (by simp) _⟩
end Go.Proofs.YtfogkbdcbgpomaaGreat
