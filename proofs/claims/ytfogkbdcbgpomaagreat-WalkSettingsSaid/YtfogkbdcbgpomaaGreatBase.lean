/- Words of the proofs: how slices of strings, bytes and numbers read out of memory; what a call keeps. -/
import Derived.Handy
import Derived.WalkSpells
import Derived.WalkLawsBesides
import Derived.LoopTactic
import Derived.Below
import Derived.Outline
import Derived.Laws.CopyOwn
import Derived.Maps.AppendAt
import Derived.Laws.AppendOwnNone
import Derived.OwnWalk
import Derived.Shelf.Abstract
set_option linter.unusedSimpArgs false
set_option linter.unusedVariables false
namespace Go.Proofs.YtfogkbdcbgpomaaGreat
open Go.RowKit

theorem hid {p : Prop} (h : p) : Hid p := h
theorem le_maxLen {n : Nat} (h : n ≤ 1000000000) : n ≤ maxLen := by unfold maxLen; omega
theorem ret_int {k : IntKind} {a b : Int} (h : a = b) : Ending.returned (.int k a) = .returned (.int k b) := by rw [h]
theorem ret_bool {a b : Bool} (h : a = b) : Ending.returned (.bool a) = .returned (.bool b) := by rw [h]

/-- The cells from o on of block b hold these values. -/
def CellsAt (w : World) (b o : Nat) (cs : List Value) : Prop := ∀ i x, cs[i]? = some x → w.cell? ⟨b, o + i, none⟩ = some x

theorem CellsAt.below {B : Nat} {w w' : World} {b o : Nat} {cs : List Value} (h : CellsAt w b o cs) (hb : Below B w w') (hB : b < B) : CellsAt w' b o cs :=
  fun i x hx => (hb.cell (p := ⟨b, o + i, none⟩) hB).trans (h i x hx)

/-- A block that is there and does not turn. -/
def Sure (M : Nat → Prop) (w : World) (b : Nat) : Prop := b < w.heap.size ∧ ¬ M b

/-- What lies in no block of M stays; blocks may be added. -/
structure Keeps (M : Nat → Prop) (w w' : World) : Prop where
  os : w'.os = w.os
  tape : w'.tape = w.tape
  output : w'.output = w.output
  size : w.heap.size ≤ w'.heap.size
  block : ∀ k, k < w.heap.size → ¬ M k → w'.heap[k]? = w.heap[k]?

theorem Keeps.refl (M : Nat → Prop) (w : World) : Keeps M w w := ⟨rfl, rfl, rfl, Nat.le_refl _, fun _ _ _ => rfl⟩
theorem Keeps.trans {M : Nat → Prop} {a b c : World} (h : Keeps M a b) (k : Keeps M b c) : Keeps M a c :=
  ⟨k.os.trans h.os, k.tape.trans h.tape, k.output.trans h.output, Nat.le_trans h.size k.size, fun i hi hm => (k.block i (Nat.lt_of_lt_of_le hi h.size) hm).trans (h.block i hi hm)⟩
theorem Keeps.mono {M M' : Nat → Prop} {w w' : World} (h : Keeps M w w') (hM : ∀ k, k < w.heap.size → M k → M' k) : Keeps M' w w' :=
  ⟨h.os, h.tape, h.output, h.size, fun k hk hm => h.block k hk (fun x => hm (hM k hk x))⟩
theorem Keeps.of_below {M : Nat → Prop} {w w' : World} (h : Below w.heap.size w w') : Keeps M w w' := ⟨h.os, h.tape, h.output, h.size, fun k hk _ => h.block k hk⟩
theorem Keeps.below {w w' : World} (h : Keeps (fun _ => False) w w') : Below w.heap.size w w' := ⟨h.os, h.tape, h.output, h.size, fun k hk => h.block k hk (fun x => x)⟩
theorem Keeps.cell {M : Nat → Prop} {w w' : World} (h : Keeps M w w') {b o : Nat} (hb : Sure M w b) : w'.cell? ⟨b, o, none⟩ = w.cell? ⟨b, o, none⟩ :=
  World.cell?_of_block (w := w) (a := ⟨b, o, none⟩) (h.block b hb.1 hb.2)
theorem Sure.keeps {M : Nat → Prop} {w w' : World} {b : Nat} (hb : Sure M w b) (h : Keeps M w w') : Sure M w' b := ⟨Nat.lt_of_lt_of_le hb.1 h.size, hb.2⟩
theorem CellsAt.keeps {M : Nat → Prop} {w w' : World} {b o : Nat} {cs : List Value} (h : CellsAt w b o cs) (hb : Sure M w b) (hk : Keeps M w w') : CellsAt w' b o cs :=
  fun i x hx => (hk.cell hb).trans (h i x hx)

/-- A slice value whose elements, of one cell each, read as this list. -/
def Sl {α : Type} (enc : α → Value) (M : Nat → Prop) (w : World) (v : Value) (l : List α) : Prop :=
  (v = .slice none 0 0 ∧ l = []) ∨
  ∃ b o c, v = .slice (some ⟨b, o, none⟩) l.length c ∧ l.length ≤ c ∧ c ≤ maxLen ∧ Sure M w b ∧ CellsAt w b o (l.map enc)

theorem Sl.keeps {α : Type} {enc : α → Value} {M : Nat → Prop} {w w' : World} {v : Value} {l : List α} (h : Sl enc M w v l) (hk : Keeps M w w') : Sl enc M w' v l := by
  rcases h with h | ⟨b, o, c, hv, h1, h2, h3, h4⟩
  · exact .inl h
  · exact .inr ⟨b, o, c, hv, h1, h2, h3.keeps hk, h4.keeps h3 hk⟩
theorem Sl.weaken {α : Type} {enc : α → Value} {M M' : Nat → Prop} {w : World} {v : Value} {l : List α} (h : Sl enc M w v l) (hM : ∀ k, k < w.heap.size → M' k → M k) : Sl enc M' w v l := by
  rcases h with h | ⟨b, o, c, hv, h1, h2, h3, h4⟩
  · exact .inl h
  · exact .inr ⟨b, o, c, hv, h1, h2, ⟨h3.1, fun x => h3.2 (hM b h3.1 x)⟩, h4⟩
/-- Its shape: for a walk. -/
theorem Sl.shape {α : Type} {enc : α → Value} {M : Nat → Prop} {w : World} {v : Value} {l : List α} (h : Sl enc M w v l) :
    ∃ a c, v = .slice a l.length c ∧ l.length ≤ maxLen ∧ (∀ i (hi : i < l.length), ∃ b o, a = some ⟨b, o, none⟩ ∧ Sure M w b ∧ w.cell? ⟨b, o + i, none⟩ = some (enc l[i])) := by
  rcases h with ⟨rfl, rfl⟩ | ⟨b, o, c, rfl, h1, h2, h3, h4⟩
  · exact ⟨none, 0, rfl, Nat.zero_le _, fun i hi => absurd hi (by simp)⟩
  · exact ⟨_, c, rfl, Nat.le_trans h1 h2, fun i hi => ⟨b, o, rfl, h3, h4 i _ (by simp [hi])⟩⟩


/-- 'make([]T, n, C)': the new row's cells are known. -/
theorem wpList_make_any {P : Program} {w : World} {ops : Array Oper} {rest : List Oper} {o : Oper} {a : Act} {Q : Exit → Act → World → Prop}
    (hg : o.guard = none) (l c : Operand) (t : TypeId) (hop : o.op = Op.makeSlice t l c)
    (e : TypeId) (i : TypeInfo) (z : Value) (size bytes : Nat) (h1 : P.underlying t = some (.slice e)) (h2 : P.info? e = some i) (h3 : i.zero = some z) (h4 : i.size = size) (h5 : i.bytes = bytes)
    (kl kc : IntKind) (L C : Int) (n m : Nat) (hl : a.eval l = .int kl L) (hc : a.eval c = .int kc C) (hL : L = (n : Int)) (hC : C = (m : Int)) (hnm : n ≤ m) (b2 : bytes * m ≤ 281474976710656) (b3 : m ≤ 1000000000)
    (hK : ∀ w', Hid (w'.heap[w.heap.size]? = some (.cells (madeCells z.cells (m * size)) e (0, 0))) → w'.heap.size = w.heap.size + 1 → Below w.heap.size w w' →
      wpList P ops Q rest (a.put o.dst (.slice (some ⟨w.heap.size, 0, none⟩) n m)) w') :
    wpList P ops Q (o :: rest) a w := by
  refine wpList_plain hg fun K hK' => ?_
  have h63 : (m : Int) ≤ 9223372036854775807 := by omega
  subst h5
  have hb' : (i.bytes : Int) * (m : Int) ≤ 281474976710656 := by
    have h : ((i.bytes * m : Nat) : Int) ≤ 281474976710656 := by omega
    rwa [Int.natCast_mul] at h
  have hrun := run_make (P := P) w t e i z h1 h2 h3 kl kc n m (by omega) (by omega) hb' h63
  subst hL
  subst hC
  subst h4
  unfold Oper.wp
  simp [execOp, hop, hl, hc, hrun, Result.andThen]
  exact hK' _ _ (hK _ (heap_alloc_new w _) (by simp) ((Below.refl _ _).alloc (Nat.le_refl _) _))

theorem madeCells_one (z : Value) (n : Nat) (hz : z.cells = #[z]) : madeCells z.cells n = Array.replicate n z := by
  rw [hz]
  apply Array.ext
  · simp [madeCells]
  · intro i h1 h2
    simp [madeCells, Nat.mod_one]

/-- 'make([]T, n, m)' of elements of one cell. -/
theorem wpList_make_one {P : Program} {w : World} {ops : Array Oper} {rest : List Oper} {o : Oper} {a : Act} {Q : Exit → Act → World → Prop}
    (hg : o.guard = none) (l c : Operand) (t : TypeId) (hop : o.op = Op.makeSlice t l c)
    (e : TypeId) (z : Value) (bytes : Nat) (h1 : P.underlying t = some (.slice e)) (hinfo : (P.info? e).map (fun i => (i.zero, i.size, i.bytes)) = some (some z, 1, bytes)) (hz1 : z.cells = #[z])
    (kl kc : IntKind) (L C : Int) (n m : Nat) (hl : a.eval l = .int kl L) (hc : a.eval c = .int kc C) (hL : L = (n : Int)) (hC : C = (m : Int)) (hnm : n ≤ m) (b2 : bytes * m ≤ 281474976710656) (b3 : m ≤ 1000000000)
    (hK : ∀ w', Hid (w'.heap[w.heap.size]? = some (.cells (List.replicate m z).toArray e (0, 0))) → w'.heap.size = w.heap.size + 1 → Below w.heap.size w w' →
      wpList P ops Q rest (a.put o.dst (.slice (some ⟨w.heap.size, 0, none⟩) n m)) w') :
    wpList P ops Q (o :: rest) a w := by
  obtain ⟨i, h2, h3, h4, h5⟩ := info_parts hinfo
  refine wpList_make_any hg l c t hop e i z 1 bytes h1 h2 h3 h4 h5 kl kc L C n m hl hc hL hC hnm b2 b3 fun w' h6 h7 h8 => hK w' ?_ h7 h8
  rw [show (List.replicate m z).toArray = madeCells z.cells (m * 1) by rw [madeCells_one z _ hz1]; simp]
  exact h6

theorem splice_head {α : Type} (L cs : List α) : (splice L 0 cs).take cs.length = cs := by
  simp [splice]

/-- A row whose cells are known is owned. -/
theorem owns_row {w : World} {base g e : Nat} {cur : List Value} {n C : Nat} (hg : w.heap[g]? = some (.cells cur.toArray e (0, 0))) (hb : base ≤ g) (hn : n ≤ C) (hC : C ≤ maxLen) (hs : cur.length = C) :
    w.ownsRow base e 1 (.slice (some ⟨g, 0, none⟩) n C) n (cur.take n) :=
  ⟨by simp; omega, .inr ⟨g, C, cur.toArray, rfl, hb, hg, hn, hC, by simp [hs], by simp⟩⟩


/-- Where a slice reads as a list, its cells lie behind its address. -/
theorem Sl.src {α : Type} {enc : α → Value} {M : Nat → Prop} {w : World} {a : Option Addr} {n c : Nat} {l : List α} (h : Sl enc M w (.slice a n c) l) :
    0 < (l.map enc).length → ∃ ad, a = some ad ∧ ∀ j v, (l.map enc)[j]? = some v → w.cell? (ad.add j) = some v := by
  intro h0
  rcases h with ⟨h, rfl⟩ | ⟨b, o, c', h, _, _, _, hc⟩
  · simp at h0
  · simp only [Value.slice.injEq] at h
    obtain ⟨rfl, _, _⟩ := h
    exact ⟨_, rfl, fun j v hj => by rw [Addr.add_lit]; exact hc j v hj⟩
theorem Sl.below {α : Type} {enc : α → Value} {M : Nat → Prop} {w w' : World} {v : Value} {l : List α} (h : Sl enc M w v l) (hb : Below w.heap.size w w') : Sl enc M w' v l := h.keeps (Keeps.of_below hb)
theorem own_below {w w' : World} {B e size n : Nat} {v : Value} {xs : List Value} (h : w.ownsRow B e size v n xs) (hb : Below w.heap.size w w') : w'.ownsRow B e size v n xs := by
  refine ⟨h.1, ?_⟩
  rcases h.2 with hn | ⟨g, cap, cur, rfl, hg, hgg, rest⟩
  · exact .inl hn
  · exact .inr ⟨g, cap, cur, rfl, hg, by rw [hb.block g (Array.getElem?_eq_some_iff.1 hgg).1]; exact hgg, rest⟩
theorem own_base {w : World} {B B' e size n : Nat} {v : Value} {xs : List Value} (h : w.ownsRow B' e size v n xs) (hB : B ≤ B') : w.ownsRow B e size v n xs :=
  ⟨h.1, h.2.imp id (fun ⟨g, cap, cur, a, b, c⟩ => ⟨g, cap, cur, a, Nat.le_trans hB b, c⟩)⟩
theorem own_shape {w : World} {B e size n : Nat} {v : Value} {xs : List Value} (h : w.ownsRow B e size v n xs) : ∃ a c, v = .slice a n c := by
  rcases h.2 with ⟨rfl, rfl⟩ | ⟨g, cap, cur, rfl, _⟩
  · exact ⟨_, _, rfl⟩
  · exact ⟨_, _, rfl⟩

/-- THE CALL's OWN SLICE of one-cell elements: the list l, in a row among the blocks from B on. -/
def Own {α : Type} (enc : α → Value) (w : World) (B e : Nat) (v : Value) (l : List α) : Prop := w.ownsRow B e 1 v l.length (l.map enc)
section
variable {α : Type} {enc : α → Value} {w w' : World} {B e : Nat} {v : Value} {l : List α}
theorem Own.below (h : Own enc w B e v l) (hb : Below w.heap.size w w') : Own enc w' B e v l := own_below h hb
theorem Own.base {B' : Nat} (h : Own enc w B' e v l) (hB : B ≤ B') : Own enc w B e v l := own_base h hB
theorem Own.nil (enc : α → Value) (w : World) (B e : Nat) : Own enc w B e (.slice none 0 0) [] := World.ownsRow_nil w B e 1
theorem Own.shape (h : Own enc w B e v l) : ∃ a c, v = .slice a l.length c := own_shape h
theorem Own.shapeN (h : Own enc w B e v l) : ∃ a c N, v = .slice a N c ∧ N = l.length := by
  obtain ⟨a, c, h⟩ := h.shape
  exact ⟨a, c, _, h, rfl⟩
theorem Own.lt (h : Own enc w B e v l) : ∀ k, v.ownBlock = some k → B ≤ k ∧ k < w.heap.size := World.ownsRow.lt h
theorem Own.sl (h : Own enc w B e v l) (M : Nat → Prop) (hM : ∀ k, B ≤ k → ¬ M k) : Sl enc M w v l := by
  rcases h.2 with ⟨rfl, h0⟩ | ⟨g, cap, cur, rfl, hb, hg, hn, hc, hs, ht⟩
  · exact .inl ⟨rfl, List.eq_nil_of_length_eq_zero h0⟩
  · refine .inr ⟨g, 0, cap, rfl, hn, hc, ⟨(Array.getElem?_eq_some_iff.1 hg).1, hM g hb⟩, fun i x hx => ?_⟩
    have := World.ownsRow.cells h (g := g) rfl i x hx
    simpa [Addr.add_lit] using this
theorem Own.sl0 (h : Own enc w B e v l) : Sl enc (fun _ => False) w v l := h.sl _ (fun _ _ x => x)
/-- Kept by whatever changes other blocks alone. -/
theorem Own.keeps {M : Nat → Prop} (h : Own enc w B e v l) (hk : Keeps M w w') (hM : ∀ k, v.ownBlock = some k → ¬ M k) : Own enc w' B e v l := by
  refine ⟨h.1, ?_⟩
  rcases h.2 with hn | ⟨g, cap, cur, rfl, hg, hgg, rest⟩
  · exact .inl hn
  · exact .inr ⟨g, cap, cur, rfl, hg, by rw [hk.block g (Array.getElem?_eq_some_iff.1 hgg).1 (hM g rfl)]; exact hgg, rest⟩
end

theorem Own.of_row {α : Type} {enc : α → Value} {w : World} {B g e C : Nat} {cur : List Value} {l : List α} (hg : w.heap[g]? = some (.cells cur.toArray e (0, 0))) (hb : B ≤ g) (hn : l.length ≤ C) (hC : C ≤ 1000000000) (hs : cur.length = C)
    (hl : cur.take l.length = l.map enc) : Own enc w B e (.slice (some ⟨g, 0, none⟩) l.length C) l := by
  have := owns_row hg hb hn (le_maxLen hC) hs
  rwa [hl] at this

/-- 'append(s, x)' onto the call's own slice. -/
theorem wpList_push {α : Type} {enc : α → Value} {P : Program} {w : World} {ops : Array Oper} {rest : List Oper} {o : Oper} {a : Act} {Q : Exit → Act → World → Prop} (hgd : o.guard = none) (s x : Operand) (t : TypeId)
    (ho : o.op = .call { callee := .builtin .append, args := #[s, x], argTypes := #[t, t] })
    (B e : TypeId) (z : Value) (bytes : Nat) (ht : P.underlying t = some (.slice e)) (hinfo : (P.info? e).map (fun i => (i.zero, i.size, i.bytes)) = some (some z, 1, bytes)) (hzs : z.cells.size = 1)
    (v : Value) (l : List α) (w0 : World) (hs : a.eval s = v) (hown : Own enc w0 B e v l) (hb0 : Below w0.heap.size w0 w)
    (ad : Addr) (y : α) (hx : a.eval x = .slice (some ad) 1 1) (hc : w.cell? (ad.add 0) = some (enc y)) (h1 : (enc y).oneCell' = true) (hlen : l.length ≤ 1000000) (hby : bytes ≤ 1000) (hbase : B ≤ w0.heap.size)
    (h : ∀ v' w', Own enc w' B e v' (l ++ [y]) → Below B w w' → w.grownBy w' v.ownBlock → (v'.ownBlock = v.ownBlock ∨ v'.ownBlock = some w.heap.size) → (∃ g c, v' = .slice (some ⟨g, 0, none⟩) (l.length + 1) c) → wpList P ops Q rest (a.put o.dst v') w') : wpList P ops Q (o :: rest) a w := by
  obtain ⟨i, hi, hz, hsize, hbys⟩ := info_parts hinfo
  have how := own_below hown hb0
  refine wpList_append_own_at w hgd s x t ho B e i z 1 bytes ht hi hz hsize hbys hzs (by decide) v l.length (l.map enc) hs how ad 1 1 [enc y] hx rfl (fun j u hj => ?_) (fun u hu => by rw [List.mem_singleton.1 hu]; exact h1)
    (le_maxLen (by omega)) (Nat.le_trans (Nat.mul_le_mul (show l.length + 1 ≤ 1000001 by omega) hby) (by omega)) (Nat.le_trans hbase hb0.size) (fun v' w' h2 h3 h4 h5 => ?_)
  · match j, hj with
    | 0, hj => simp at hj; subst hj; exact hc
    | j + 1, hj => simp at hj
  · refine h v' w' (by simpa [Own] using h2) ((Below.refl B w).grown h3 (Nat.le_trans hbase hb0.size) (fun k hk => (hown.lt k hk).1)) h3 h5 ?_
    rcases h2.2 with ⟨_, h0⟩ | ⟨g, cap, _, rfl, _⟩
    · omega
    · exact ⟨g, cap, rfl⟩

/-- 'append(s, xs...)' onto the call's own slice. -/
theorem wpList_extend {α : Type} {enc : α → Value} {P : Program} {w : World} {ops : Array Oper} {rest : List Oper} {o : Oper} {a : Act} {Q : Exit → Act → World → Prop} (hgd : o.guard = none) (s x : Operand) (t : TypeId)
    (ho : o.op = .call { callee := .builtin .append, args := #[s, x], argTypes := #[t, t] })
    (B e : TypeId) (z : Value) (bytes : Nat) (ht : P.underlying t = some (.slice e)) (hinfo : (P.info? e).map (fun i => (i.zero, i.size, i.bytes)) = some (some z, 1, bytes)) (hzs : z.cells.size = 1)
    (v : Value) (l : List α) (w0 : World) (hs : a.eval s = v) (hown : Own enc w0 B e v l) (hb0 : Below w0.heap.size w0 w)
    (M : Nat → Prop) (vs : Value) (ys : List α) (hx : a.eval x = vs) (hsl : Sl enc M w vs ys) (h1 : ∀ y, (enc y).oneCell' = true) (hlen : l.length + ys.length ≤ 1000000) (hby : bytes ≤ 1000) (hbase : B ≤ w0.heap.size)
    (h : ∀ v' w', Own enc w' B e v' (l ++ ys) → Below B w w' → w.grownBy w' v.ownBlock → (v'.ownBlock = v.ownBlock ∨ v'.ownBlock = some w.heap.size) → wpList P ops Q rest (a.put o.dst v') w') : wpList P ops Q (o :: rest) a w := by
  obtain ⟨i, hi, hz, hsize, hbys⟩ := info_parts hinfo
  have how := own_below hown hb0
  rcases hsl with ⟨rfl, rfl⟩ | ⟨b, off, c, rfl, _, _, _, hcells⟩
  · refine wpList_append_own_none hgd s x t ho B e i 1 ht hi v l.length (l.map enc) hs how hx ?_
    exact h v w (by rw [List.append_nil]; exact how) (Below.refl _ _) ⟨rfl, rfl, rfl, Nat.le_refl _, fun _ _ _ => rfl⟩ (.inl rfl)
  · refine wpList_append_own_at w hgd s x t ho B e i z 1 bytes ht hi hz hsize hbys hzs (by decide) v l.length (l.map enc) hs how ⟨b, off, none⟩ ys.length c (ys.map enc) hx (by simp) (fun j u hj => by rw [Addr.add_lit]; exact hcells j u hj) (fun u hu => by obtain ⟨y, _, rfl⟩ := List.mem_map.1 hu; exact h1 y)
      (le_maxLen (by omega)) (Nat.le_trans (Nat.mul_le_mul (show l.length + ys.length ≤ 1000000 by omega) hby) (by omega)) (Nat.le_trans hbase hb0.size) (fun v' w' h2 h3 h4 h5 => ?_)
    exact h v' w' (by simpa [Own] using h2) ((Below.refl B w).grown h3 (Nat.le_trans hbase hb0.size) (fun k hk => (hown.lt k hk).1)) h3 h5

/-- A block that was just laid. -/
theorem below_alloc (w : World) (o : Obj) : Below w.heap.size w (w.alloc o) := (Below.refl _ _).alloc (Nat.le_refl _) o
theorem cell_new0 (w : World) (x : Value) (t : TypeId) : (w.alloc (.cells #[x] t)).cell? ((⟨w.heap.size, 0, none⟩ : Addr).add 0) = some x := cell_one_new w x t 0 x rfl

/-- A variable of the call's own, or of a caller's: block b holds these cells, none of them frozen. -/
def At (w : World) (b : Nat) (t : TypeId) (cs : List Value) : Prop := w.heap[b]? = some (.cells cs.toArray t (0, 0))
theorem At.lt {w : World} {b : Nat} {t : TypeId} {cs : List Value} (h : At w b t cs) : b < w.heap.size := (Array.getElem?_eq_some_iff.1 h).1
theorem At.cell {w : World} {b : Nat} {t : TypeId} {cs : List Value} (h : At w b t cs) (k : Nat) {x : Value} (hx : cs[k]? = some x) : w.cell? ⟨b, k, none⟩ = some x := by
  unfold At at h; simp [World.cell?, h, hx]
theorem At.frozen {w : World} {b : Nat} {t : TypeId} {cs : List Value} (h : At w b t cs) (k : Nat) : w.frozen? ⟨b, k, none⟩ = false := by
  unfold At at h; simp [World.frozen?, h]
theorem At.keeps {w w' : World} {b : Nat} {t : TypeId} {cs : List Value} {M : Nat → Prop} (h : At w b t cs) (hk : Keeps M w w') (hM : ¬ M b) : At w' b t cs := by
  unfold At; rw [hk.block b h.lt hM]; exact h
theorem At.below {w w' : World} {b B : Nat} {t : TypeId} {cs : List Value} (h : At w b t cs) (hb : Below B w w') (hB : b < B) : At w' b t cs := by
  unfold At; rw [hb.block b hB]; exact h
theorem At.later {w w' : World} {b : Nat} {t : TypeId} {cs : List Value} (h : At w b t cs) (hb : Below w.heap.size w w') : At w' b t cs := h.below hb h.lt
theorem At.set {w : World} {b : Nat} {t : TypeId} {cs : List Value} (h : At w b t cs) (k : Nat) (v : Value) : At (w.setCell ⟨b, k, none⟩ v) b t (cs.set k v) := by
  unfold At at *
  simp only [World.setCell, Array.getElem?_modify, h]
  simp
theorem At.new (w : World) (cs : List Value) (t : TypeId) : At (w.alloc (.cells cs.toArray t)) w.heap.size t cs := heap_alloc_new w _
theorem Keeps.setCell {M : Nat → Prop} (w : World) (a : Addr) (v : Value) (hM : M a.block) : Keeps M w (w.setCell a v) :=
  ⟨rfl, rfl, rfl, by simp, fun k _ hk => Below.heap_setCell w a v k (fun e => hk (e ▸ hM))⟩

/-- 'make([]T, n, m)', what is known of T in one closed fact. -/
theorem wpList_make_info {P : Program} {w : World} {ops : Array Oper} {rest : List Oper} {o : Oper} {a : Act} {Q : Exit → Act → World → Prop}
    (hg : o.guard = none) (l c : Operand) (t : TypeId) (hop : o.op = Op.makeSlice t l c)
    (e : TypeId) (z : Value) (size bytes : Nat) (h1 : P.underlying t = some (.slice e)) (hinfo : (P.info? e).map (fun i => (i.zero, i.size, i.bytes)) = some (some z, size, bytes))
    (kl kc : IntKind) (L C : Int) (n m : Nat) (hl : a.eval l = .int kl L) (hc : a.eval c = .int kc C) (hL : L = (n : Int)) (hC : C = (m : Int)) (hnm : n ≤ m) (b2 : bytes * m ≤ 281474976710656) (b3 : m ≤ 1000000000)
    (hK : ∀ w', Hid (w'.heap[w.heap.size]? = some (.cells (madeCells z.cells (m * size)) e (0, 0))) → w'.heap.size = w.heap.size + 1 → Below w.heap.size w w' →
      wpList P ops Q rest (a.put o.dst (.slice (some ⟨w.heap.size, 0, none⟩) n m)) w') :
    wpList P ops Q (o :: rest) a w := by
  obtain ⟨i, h2, h3, h4, h5⟩ := info_parts hinfo
  exact wpList_make_any hg l c t hop e i z size bytes h1 h2 h3 h4 h5 kl kc L C n m hl hc hL hC hnm b2 b3 hK

/-- n noughts. (A word of its own: simp writes out 'replicate 512 ..'.) -/
def zeros (n : Nat) : List Int := List.replicate n 0
theorem length_zeros (n : Nat) : (zeros n).length = n := List.length_replicate
theorem zeros_get (n i : Nat) (h : i < n) : (zeros n)[i]? = some 0 := by simp [zeros, h]
theorem mem_zeros {n : Nat} {x : Int} (h : x ∈ zeros n) : x = 0 := (List.mem_replicate.1 h).2
theorem sl_zeros {k : IntKind} {M : Nat → Prop} {w : World} {b o n c : Nat} (hc : n ≤ c) (hm : c ≤ 1000000000) (hs : Sure M w b) (h : ∀ j, j < n → w.cell? ⟨b, o + j, none⟩ = some (.int k 0)) : Sl (.int k) M w (.slice (some ⟨b, o, none⟩) n c) (zeros n) := by
  refine .inr ⟨b, o, c, by rw [length_zeros], by rw [length_zeros]; exact hc, le_maxLen hm, hs, fun j x hx => ?_⟩
  have hj : j < n := by
    have := (List.getElem?_eq_some_iff.1 hx).1
    simpa [zeros] using this
  simp [zeros, hj] at hx
  subst hx
  exact h j hj
theorem u8s_one (xs : List Int) : ∀ u ∈ xs.map (Value.int .u8), u.oneCell' = true := by
  intro u hu; obtain ⟨x, _, rfl⟩ := List.mem_map.1 hu; rfl

/-- All that a walk asks of a variable of five cells. -/
theorem At.five {w : World} {b : Nat} {t : TypeId} {x0 x1 x2 x3 x4 : Value} (h : At w b t [x0, x1, x2, x3, x4]) :
    b < w.heap.size ∧ w.cell? ⟨b, 0, none⟩ = some x0 ∧ w.cell? ⟨b, 1, none⟩ = some x1 ∧ w.cell? ⟨b, 2, none⟩ = some x2 ∧ w.cell? ⟨b, 3, none⟩ = some x3 ∧ w.cell? ⟨b, 4, none⟩ = some x4 ∧
    w.frozen? ⟨b, 0, none⟩ = false ∧ w.frozen? ⟨b, 1, none⟩ = false ∧ w.frozen? ⟨b, 2, none⟩ = false ∧ w.frozen? ⟨b, 3, none⟩ = false ∧ w.frozen? ⟨b, 4, none⟩ = false :=
  ⟨h.lt, h.cell 0 rfl, h.cell 1 rfl, h.cell 2 rfl, h.cell 3 rfl, h.cell 4 rfl, h.frozen 0, h.frozen 1, h.frozen 2, h.frozen 3, h.frozen 4⟩
theorem At.set5 {w : World} {b : Nat} {t : TypeId} {x0 x1 x2 x3 x4 : Value} (h : At w b t [x0, x1, x2, x3, x4]) (y0 y1 y2 y3 y4 : Value) :
    At (((((w.setCell ⟨b, 0, none⟩ y0).setCell ⟨b, 1, none⟩ y1).setCell ⟨b, 2, none⟩ y2).setCell ⟨b, 3, none⟩ y3).setCell ⟨b, 4, none⟩ y4) b t [y0, y1, y2, y3, y4] :=
  ((((h.set 0 y0).set 1 y1).set 2 y2).set 3 y3).set 4 y4
theorem below_set5 {w0 w : World} {B b : Nat} (h : Below B w0 w) (hb : B ≤ b) (y0 y1 y2 y3 y4 : Value) :
    Below B w0 (((((w.setCell ⟨b, 0, none⟩ y0).setCell ⟨b, 1, none⟩ y1).setCell ⟨b, 2, none⟩ y2).setCell ⟨b, 3, none⟩ y3).setCell ⟨b, 4, none⟩ y4) :=
  ((((h.setCell hb _).setCell hb _).setCell hb _).setCell hb _).setCell hb _
theorem keeps_set5 {M : Nat → Prop} (w : World) (b : Nat) (hb : M b) (y0 y1 y2 y3 y4 : Value) :
    Keeps M w (((((w.setCell ⟨b, 0, none⟩ y0).setCell ⟨b, 1, none⟩ y1).setCell ⟨b, 2, none⟩ y2).setCell ⟨b, 3, none⟩ y3).setCell ⟨b, 4, none⟩ y4) :=
  ((((Keeps.setCell w ⟨b, 0, none⟩ y0 hb).trans (Keeps.setCell _ ⟨b, 1, none⟩ y1 hb)).trans (Keeps.setCell _ ⟨b, 2, none⟩ y2 hb)).trans (Keeps.setCell _ ⟨b, 3, none⟩ y3 hb)).trans (Keeps.setCell _ ⟨b, 4, none⟩ y4 hb)
end Go.Proofs.YtfogkbdcbgpomaaGreat
