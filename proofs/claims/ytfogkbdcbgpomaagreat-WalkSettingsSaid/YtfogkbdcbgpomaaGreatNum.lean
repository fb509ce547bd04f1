/- Package num, and the small functions of a device: contracts. -/
import Derived.Test.YtfogkbdcbgpomaaGreatBase
import Derived.Test.YtfogkbdcbgpomaaGreatProg
set_option linter.unusedSimpArgs false
set_option linter.unusedVariables false
namespace Go.Proofs.YtfogkbdcbgpomaaGreat
open Go.RowKit

theorem Fits_yes {n s : Int} {w : World} (h1 : 1 ≤ s) (h7 : s ≤ 7) (h0 : 0 ≤ n) (hn : n < 2 ^ (8 * s.toNat)) :
    Calls Tryz.prog 94 #[.int .i64 n, .int .i64 s] w fun e w' => e = .returned (.bool true) ∧ w = w' := by
  have hc : s = 1 ∨ s = 2 ∨ s = 3 ∨ s = 4 ∨ s = 5 ∨ s = 6 ∨ s = 7 := by omega
  go_enter Tryz.func94, Tryz.ntmps94
  rcases hc with rfl | rfl | rfl | rfl | rfl | rfl | rfl
  all_goals
    go_wp2
    go_ret
    refine ⟨ret_bool (beq_iff_eq.2 ?_), rfl⟩
    simp at hn
    omega

/-- A number of bytes. -/
def beNum (l : List Int) : Int := l.foldl (fun n x => n * 256 + x) 0

theorem beNum_snoc (l : List Int) (x : Int) : beNum (l ++ [x]) = beNum l * 256 + x := by simp [beNum]
theorem beNum_range (l : List Int) (h : ∀ x ∈ l, 0 ≤ x ∧ x < 256) : 0 ≤ beNum l ∧ beNum l < 256 ^ l.length := by
  suffices ∀ r : List Int, (∀ x ∈ r, 0 ≤ x ∧ x < 256) → 0 ≤ beNum r.reverse ∧ beNum r.reverse < 256 ^ r.reverse.length by
    have := this l.reverse (by simpa using h); simpa using this
  intro r
  induction r with
  | nil => intro _; simp [beNum]
  | cons a r ih =>
    intro hr
    have h1 := ih (fun x hx => hr x (by simp [hx]))
    have h2 := hr a (by simp)
    rw [List.reverse_cons, beNum_snoc, List.length_append, List.length_singleton, Int.pow_succ]
    omega

theorem ofInt_i64 (a : Nat) (ha : a < 18446744073709551616) : (BitVec.ofInt 64 (a : Int)).toNat = a := by
  rw [BitVec.ofInt_natCast, BitVec.toNat_ofNat]; omega
theorem i64_or_nat (a b : Nat) (ha : a < 9223372036854775808) (hb : b < 9223372036854775808) : bits .or .i64 (a : Int) (b : Int) = ((a ||| b : Nat) : Int) := by
  have hx : a ||| b < 2 ^ 63 := Nat.or_lt_two_pow (by omega) (by omega)
  show IntKind.i64.wrap ((BitVec.ofInt 64 (a : Int) ||| BitVec.ofInt 64 (b : Int)).toNat : Int) = _
  rw [BitVec.toNat_or, ofInt_i64 a (by omega), ofInt_i64 b (by omega), IntKind.wrap_i64]
  omega
theorem or_byte {B x : Int} (h0 : 0 ≤ B) (hB : B < 281474976710656) (x0 : 0 ≤ x) (hx : x < 256) : bits BinOp.or IntKind.i64 (B * 256) x = B * 256 + x := by
  obtain ⟨n, rfl⟩ := Int.eq_ofNat_of_zero_le h0
  obtain ⟨m, rfl⟩ := Int.eq_ofNat_of_zero_le x0
  have e : ((n : Int) * 256) = ((n * 256 : Nat) : Int) := by omega
  rw [e, i64_or_nat (n * 256) m (by omega) (by omega), Nat.or_comm, show n * 256 = n <<< 8 by rw [Nat.shiftLeft_eq], Nat.or_comm, ← Nat.shiftLeft_add_eq_or_of_lt (by omega)]
  rw [Nat.shiftLeft_eq]; omega

set_option maxHeartbeats 400000 in
theorem num_Get {M : Nat → Prop} {v : Value} {l : List Int} {w : World} {at_ s : Nat} (hv : Sl (.int .u8) M w v l) (h1 : 1 ≤ s) (h7 : s ≤ 7) (ha : at_ + s ≤ l.length) (hl : l.length ≤ 100000)
    (hr : ∀ x ∈ l, 0 ≤ x ∧ x < 256) :
    Calls Tryz.prog 128 #[v, .int .i64 at_, .int .i64 s] w fun e w' => e = .returned (.tuple #[.int .i64 (beNum ((l.drop at_).take s)), .int .i64 0]) ∧ w = w' := by
  rcases hv with ⟨rfl, rfl⟩ | ⟨b, o, c, rfl, hlc, hcm, _, hcell⟩
  · simp at ha; omega
  have hne : ¬ c = at_ := by omega
  go_enter Tryz.func128, Tryz.ntmps128
  go_wp2
  go_loop [8, 42] (fun n i => ∃ k : Nat, k ≤ s ∧ i = .int .i64 k ∧ n = .int .i64 (beNum ((l.drop at_).take k))) (fun _ i => s - (intOf i).toNat)
  case atStart => exact ⟨0, Nat.zero_le _, rfl, rfl⟩
  case round =>
    obtain ⟨k, hk, rfl, rfl⟩ := hrel
    by_cases hlt : k < s
    · have hx := hcell (at_ + k) (.int .u8 l[at_ + k]) (by simp)
      rw [← Nat.add_assoc] at hx
      have hxr := hr l[at_ + k] (by simp)
      have hn := beNum_range ((l.drop at_).take k) (fun x hx => hr x (List.mem_of_mem_drop (List.mem_of_mem_take hx)))
      have hsn : (l.drop at_).take (k + 1) = (l.drop at_).take k ++ [l[at_ + k]] := by
        rw [List.take_succ_eq_append_getElem (by simp; omega)]; simp
      clear hcell hr
      generalize l[at_ + k] = x at *
      generalize hN : (l.drop at_).take k = L at *
      have hLl : L.length = k := by rw [← hN]; simp; omega
      rw [hLl] at hn
      have hk6 : beNum L < 256 ^ 6 := Int.lt_of_lt_of_le hn.2 (by rcases (show k = 0 ∨ k = 1 ∨ k = 2 ∨ k = 3 ∨ k = 4 ∨ k = 5 ∨ k = 6 by omega) with rfl | rfl | rfl | rfl | rfl | rfl | rfl <;> decide)
      simp only [Nat.reducePow, Int.reducePow] at hk6
      generalize hB : beNum L = B at *
      have hn0 := hn.1
      clear hn
      go_wp2
      go_round
      case rel => exact ⟨k + 1, by omega, by go_num, by rw [or_byte hn0 (by omega) hxr.1 hxr.2, hsn, beNum_snoc, hB]⟩
      case measure => simp [intOf]; omega
    · clear hcell hr
      have : k = s := by omega
      subst this
      go_wp2
      go_returns
      exact ⟨rfl, rfl⟩


/-- What is known of the elements' types. -/
theorem info_u8 : (Tryz.prog.info? 5).map (fun i => (i.zero, i.size, i.bytes)) = some (some (.int .u8 0), 1, 1) := by kernel_rfl
theorem info_int : (Tryz.prog.info? 3).map (fun i => (i.zero, i.size, i.bytes)) = some (some (.int .i64 0), 1, 8) := by kernel_rfl

theorem u8_one (xs : List Int) : ∀ u ∈ xs.map (Value.int .u8), u.oneCell' = true := by
  intro u hu; obtain ⟨x, _, rfl⟩ := List.mem_map.1 hu; rfl

set_option maxHeartbeats 800000 in
theorem num_Put {M : Nat → Prop} {v : Value} {l : List Int} {w : World} {n s : Int} (hv : Sl (.int .u8) M w v l) (hl : l.length ≤ 100000) (h1 : 1 ≤ s) (h7 : s ≤ 7) (h0 : 0 ≤ n) (hn : n < 2 ^ (8 * s.toNat)) :
    Calls Tryz.prog 95 #[v, .int .i64 n, .int .i64 s] w fun e w' => ∃ (v' : Value) (xs : List Int), e = .returned v' ∧ xs.length = l.length + s.toNat ∧ Own (.int .u8) w' w.heap.size 5 v' xs ∧ Below w.heap.size w w' := by
  obtain ⟨a, c, rfl, _, _⟩ := hv.shape
  go_enter Tryz.func95, Tryz.ntmps95
  go_wp2_with (at_make; refine wpList_make_one rfl _ _ 28 rfl 5 (.int .u8 0) 1 Tryz.underlying28 info_u8 rfl .i64 .i64 _ _ l.length (l.length + 7) rfl rfl ?_ ?_ ?_ ?_ ?_ ?_; (· rfl); (· omega); (· omega); (· omega); (· omega))
  intro w1 hrow1 hsz1 hb1
  have hg1 : w1.heap[w.heap.size]? = some (.cells (List.replicate (l.length + 7) (Value.int .u8 0)).toArray 5 (0, 0)) := by simpa using hrow1.out
  have HG := hid (hg1)
  clear hrow1 hg1
  have hsrc := (hv.below hb1).src
  clear hv
  go_wp2_with (refine wpList_copy_splice rfl (.tmp 15) (.tmp 16) 28 28 rfl 5 Tryz.underlying28 ?_ _ _ _ _ _ _ rfl rfl w.heap.size 0 (List.replicate (l.length + 7) (Value.int .u8 0)) 5 ?_ (l.map (.int .u8)) ?_ ?_ ?_ (u8_one l) w.heap.size w hb1 (Nat.le_refl _) ?_; (· kernel_rfl); (· exact HG.out); (· simp); (· exact fun h0 => ⟨rfl, hsrc h0⟩); (· simp))
  intro w2 hrow2 hb2
  have HO : Own (.int .u8) w2 w.heap.size 5 (.slice (some ⟨w.heap.size, 0, none⟩) l.length (l.length + 7)) l := Own.of_row hrow2.out (Nat.le_refl _) (by omega) (by omega) (by rw [length_splice _ _ _ (by simp)]; simp) (by
    have h2 := splice_head (List.replicate (l.length + 7) (Value.int .u8 0)) (l.map (.int .u8))
    rwa [List.length_map] at h2)
  clear hrow2 hsrc
  go_wp2_with (go_at_call 94; refine (Fits_yes h1 h7 h0 hn).mono ?_; rintro e w' ⟨rfl, rfl⟩)
  clear hn h0
  go_loopw [7, 8] (fun out k wr => ∃ (K : Int) (xs : List Int), -1 ≤ K ∧ K ≤ 6 ∧ k = .int .i64 K ∧ ((xs.length : Int) = l.length + s - 1 - K) ∧ K < s ∧ Own (.int .u8) wr w.heap.size 5 out xs ∧ Below w.heap.size w wr) (fun _ k _ => (intOf k + 1).toNat)
  case atStart => exact ⟨s - 1, l, by omega, by omega, by go_num, by omega, by omega, HO, hb2⟩
  case round =>
    obtain ⟨K, xs, hK0, hK6, rfl, hxl, hKs, hown, hbr⟩ := hrel
    obtain ⟨a1, c1, rfl⟩ := hown.shape
    have hs1 := hbr.size
    have hxb : xs.length ≤ 100100 := by omega
    have HX := hid (hxl)
    clear hxl h1 h7
    by_cases hlt : 0 ≤ K
    · have HK := hid (hKs)
      clear hKs
      go_wp2_with (at_builtin; refine wpList_push rfl _ _ 28 rfl w.heap.size 5 (.int .u8 0) 1 Tryz.underlying28 info_u8 rfl _ xs wr rfl hown (below_alloc _ _) _ _ rfl (cell_new0 _ _ _) rfl ?_ (by decide) hs1 ?_; (· omega); intro v' w3 hown3 hb3 hg3 ho3 hv3)
      go_round
      case rel => exact ⟨K - 1, _, by omega, by omega, by go_num, by have := HX.out; simp; omega, by have := HK.out; omega, hown3, (hbr.alloc hs1 _).trans hb3⟩
      case measure => simp [intOf]; omega
    · go_wp2
      go_returns
      have hX := HX.out
      exact ⟨_, rfl, xs, by omega, hown, hbr⟩

end Go.Proofs.YtfogkbdcbgpomaaGreat
