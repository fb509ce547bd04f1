/- What is found in a cache that knows nothing. -/
import Derived.Test.YtfogkbdcbgpomaaGreatKey
import Derived.Deep.QuietTactic
import Derived.BigQuiet
import Derived.Deep.RegionHeld3
set_option linter.unusedSimpArgs false
set_option linter.unusedVariables false
namespace Go.Proofs.YtfogkbdcbgpomaaGreat
open Go.RowKit

theorem fact_Typed {w : World} {t : Int} (h : t = 1 ∨ t = 2 ∨ t = 5) : Calls Tryz.prog 30 #[.int .i64 t] w fun e w' => e = .returned (.bool true) ∧ w = w' := by
  go_enter Tryz.func30, Tryz.ntmps30
  rcases h with rfl | rfl | rfl
  all_goals
    go_wp2
    go_ret
    exact ⟨rfl, rfl⟩

/-- A look into a map in which nothing is. -/
theorem lookup_empty {P : Program} {w : World} {mty kt et : TypeId} {mb n : Nat} {s : ByteArray} {z : Value} (hm : P.underlying mty = some (.map kt et)) (hk : P.underlying kt = some .string) (hz : (zeroValue et).run P w = .ok z w) (h : w.heap[mb]? = some (.map #[] n)) :
    (Instr.lookup mty (.map (some mb)) (.string s) false).run P w = .ok z w := by
  have hc := MapKept.run_checkKey (P := P) (w := w) (kt := kt) (d := .string) (k := .string s) hk (by simp [MapKept.IsKey]) true 9999
  have hg : (getObj mb).run P w = .ok (.map #[] n) w := MapKept.run_getObj_map h
  simp only [Instr.lookup, Sem.run_bind, run_underlying hm, Result.andThen_ok, hg, Sem.run_pure]
  simp [hc, Instr.findKey, run_underlying hk, Instr.findNow, hz]

/-- A keep that knows nothing, at a time that may be. -/
def KeepOK (w : World) (kb cb mb : Nat) : Prop := ∃ t : Int, 0 ≤ t ∧ t ≤ 1000 ∧ Keep0 w kb cb mb 500 1000 t
theorem KeepOK.keeps {w w' : World} {kb cb mb : Nat} {M : Nat → Prop} (h : KeepOK w kb cb mb) (hk : Keeps M w w') (h1 : ¬ M kb) (h2 : ¬ M cb) (h3 : ¬ M mb) : KeepOK w' kb cb mb := by
  obtain ⟨t, a, b, h⟩ := h; exact ⟨t, a, b, h.keeps hk h1 h2 h3⟩
theorem KeepOK.later {w w' : World} {kb cb mb : Nat} (h : KeepOK w kb cb mb) (hb : Below w.heap.size w w') : KeepOK w' kb cb mb := h.keeps (M := fun _ => False) (Keeps.of_below hb) (fun x => x) (fun x => x) (fun x => x)
theorem KeepOK.lts {w : World} {kb cb mb : Nat} (h : KeepOK w kb cb mb) : kb < w.heap.size ∧ cb < w.heap.size ∧ mb < w.heap.size ∧ kb ≠ cb ∧ kb ≠ mb ∧ cb ≠ mb := by
  obtain ⟨t, _, _, h⟩ := h
  obtain ⟨lb, pl, x4, hA⟩ := h.at_
  exact ⟨hA.lt, h.cache.at_.lt, h.cache.mlt, h.nc, h.nm, h.cache.ne⟩

set_option maxRecDepth 100000 in
theorem keep_at {w : World} {kb cb mb : Nat} {now : Int} (h : KeepOK w kb cb mb) (h0 : 0 ≤ now) (h1 : now ≤ 1000) :
    Calls Tryz.prog 75 #[.pointer (some ⟨kb, 0, none⟩), .int .i64 now] w fun e w' => ∃ t' : Int, e = .returned (.int .i64 t') ∧ KeepOK w' kb cb mb ∧ Keeps (fun k => k = kb) w w' := by
  obtain ⟨t, t0, t1, h⟩ := h
  obtain ⟨lb, pl, x4, hA⟩ := h.at_
  have c3 := hA.cell 3 rfl
  have f3 := hA.frozen 3
  have HA := hid hA
  have H := hid h
  clear h hA
  go_enter Tryz.func75, Tryz.ntmps75
  go_wp2_with (go_at_call 25; refine (ttl_Time_ok h0 (by omega)).mono ?_; rintro e w2 ⟨rfl, rfl⟩)
  all_goals
    go_ret
    have hk : ∀ v, Keeps (fun k => k = kb) w (w.setCell ⟨kb, 3, none⟩ v) := fun v => Keeps.setCell _ _ _ rfl
    exact ⟨⟨_, rfl⟩, ⟨_, by assumption, by assumption, ⟨lb, pl, x4, HA.out.set 3 _⟩, H.out.cache.keeps (hk _) (fun e => H.out.nc e.symm) (fun e => H.out.nm e.symm), H.out.nc, H.out.nm⟩, hk _⟩

theorem keep_Now {w : World} {kb cb mb : Nat} (h : KeepOK w kb cb mb) :
    Calls Tryz.prog 58 #[.pointer (some ⟨kb, 0, none⟩)] w fun e w' => ∃ t : Int, 0 ≤ t ∧ t ≤ 1000 ∧ e = .returned (.int .i64 t) ∧ w = w' := by
  obtain ⟨t, t0, t1, h⟩ := h
  obtain ⟨lb, pl, x4, hA⟩ := h.at_
  have c3 := hA.cell 3 rfl
  clear h hA
  go_enter Tryz.func58, Tryz.ntmps58
  go_wp2
  go_ret
  exact ⟨t, t0, t1, rfl, rfl⟩

theorem cache_when {w : World} {cb mb most stale : Nat} {now : Int} (h : Cache0 w cb mb most stale) :
    Calls Tryz.prog 115 #[.pointer (some ⟨cb, 0, none⟩), .int .i64 now] w fun e w' => (∃ v, e = .returned v) ∧ Below w.heap.size w w' := by
  have c1 := h.at_.cell 1 rfl
  have hcl := h.at_.lt
  clear h
  go_enter Tryz.func115, Tryz.ntmps115
  go_wp2
  go_returns
  exact ⟨⟨_, rfl⟩, below_alloc _ _⟩

set_option maxRecDepth 100000 in
set_option maxHeartbeats 1000000 in
theorem cache_at {w : World} {cb mb most stale : Nat} {kind : Int} (h : Cache0 w cb mb most stale) (hk : kind = 0 ∨ kind = 1 ∨ kind = 2 ∨ kind = 5) :
    Calls Tryz.prog 146 #[.pointer (some ⟨cb, 0, none⟩), .slice none 0 0, .int .i64 kind] w fun e w' => e = .returned (.pointer none) ∧ Below w.heap.size w w' := by
  have c2 := h.at_.cell 2 rfl
  have hcl := h.at_.lt
  have H := hid h
  have HK := hid (fun w1 => fact_Key (w := w1) hk)
  have hl : ∀ (w' : World) (s : ByteArray), Below w.heap.size w w' → (Instr.lookup 129 (.map (some mb)) (.string s) false).run Tryz.prog w' = .ok (.pointer none) w' := fun w' s hb => by
    obtain ⟨n, hn⟩ := (H.out.later hb).items
    exact lookup_empty Tryz.underlying129 Tryz.underlying9 (Tryz.zeroValue201 w') hn
  have HL := hid hl
  clear h hl
  have HS : ∀ w', Below w.heap.size w w' → w'.cell? ⟨cb, 2, none⟩ = some (.map (some mb)) ∧ ∀ s : ByteArray, (Instr.lookup 129 (.map (some mb)) (.string s) false).run Tryz.prog w' = .ok (.pointer none) w' := fun w' hb =>
    ⟨(H.out.later hb).at_.cell 2 rfl, fun s => HL.out w' s hb⟩
  have HSS := hid HS
  clear HS
  go_enter Tryz.func146, Tryz.ntmps146
  rcases hk with rfl | rfl | rfl | rfl
  all_goals
    go_wp2_with (go_at_call 30; refine (fact_Typed (by decide)).mono ?_; rintro e w2 ⟨rfl, rfl⟩)
    go_region_held3 (fun w' => w'.cell? ⟨cb, 2, none⟩ = some (.map (some mb)) ∧ ∀ s : ByteArray, (Instr.lookup 129 (.map (some mb)) (.string s) false).run Tryz.prog w' = .ok (.pointer none) w')
      (first | exact HSS.out _ (by assumption) | exact HSS.out _ (Below.refl _ _) | exact HSS.out _ (Below.refl _ _).drew)
      (first | (go_at_call 76; refine (HK.out _).mono ?_; rintro e w2 ⟨⟨s2, rfl⟩, hb2⟩; have hB2 : Below w.heap.size w w2 := ((Below.refl _ w).drew.trans hb2)))
    go_wp2
    go_ret
    exact ⟨rfl, hB2⟩

theorem setCell_same {w : World} {a : Addr} {v : Value} (h : w.cell? a = some v) : w.setCell a v = w := by
  have hl := World.block_lt_of_cell? w a h
  have hh : (w.setCell a v).heap = w.heap := by
    unfold World.cell? at h
    unfold World.setCell
    apply Array.ext (by simp)
    intro i h1 h2
    simp only [Array.getElem_modify]
    split
    · rename_i he
      subst he
      rw [Array.getElem?_eq_getElem hl] at h
      cases ho : w.heap[a.block] with
      | cells c e f =>
        rw [ho] at h
        simp only at h ⊢
        split at h
        · simp at h
        · rename_i hs
          rw [if_neg hs]
          congr 1
          apply Array.ext (by simp)
          intro j h3 h4
          rw [Array.getElem_setIfInBounds]
          split
          · rename_i hj
            subst hj
            rw [Array.getElem?_eq_getElem h4] at h
            exact (Option.some.inj h).symm
          · rfl
      | _ => rfl
    · rfl
  calc w.setCell a v = { w with heap := (w.setCell a v).heap } := rfl
    _ = w := by rw [hh]

/-- A fact that is none: all that a walk asks of its variable. -/
def Zf (w : World) (b : Nat) : Prop := At w b 100 [.slice none 0 0, .int .i64 0, .int .i64 0, .int .i64 0, .int .i64 0, .int .i64 0, .slice none 0 0, .slice none 0 0, .slice none 0 0, .slice none 0 0, .slice none 0 0, .slice none 0 0, .slice none 0 0]
theorem Zf.all {w : World} {b : Nat} (h : Zf w b) : w.cell? ⟨b, 0, none⟩ = some (.slice none 0 0) ∧ w.cell? ⟨b, 1, none⟩ = some (.int .i64 0) ∧ w.cell? ⟨b, 2, none⟩ = some (.int .i64 0) ∧ w.cell? ⟨b, 3, none⟩ = some (.int .i64 0) ∧ w.cell? ⟨b, 4, none⟩ = some (.int .i64 0) ∧ w.cell? ⟨b, 5, none⟩ = some (.int .i64 0) ∧ w.cell? ⟨b, 6, none⟩ = some (.slice none 0 0) ∧ w.cell? ⟨b, 7, none⟩ = some (.slice none 0 0) ∧ w.cell? ⟨b, 8, none⟩ = some (.slice none 0 0) ∧ w.cell? ⟨b, 9, none⟩ = some (.slice none 0 0) ∧ w.cell? ⟨b, 10, none⟩ = some (.slice none 0 0) ∧ w.cell? ⟨b, 11, none⟩ = some (.slice none 0 0) ∧ w.cell? ⟨b, 12, none⟩ = some (.slice none 0 0) ∧ w.frozen? ⟨b, 0, none⟩ = false ∧ w.frozen? ⟨b, 1, none⟩ = false ∧ w.frozen? ⟨b, 2, none⟩ = false ∧ w.frozen? ⟨b, 3, none⟩ = false ∧ w.frozen? ⟨b, 4, none⟩ = false ∧ w.frozen? ⟨b, 5, none⟩ = false ∧ w.frozen? ⟨b, 6, none⟩ = false ∧ w.frozen? ⟨b, 7, none⟩ = false ∧ w.frozen? ⟨b, 8, none⟩ = false ∧ w.frozen? ⟨b, 9, none⟩ = false ∧ w.frozen? ⟨b, 10, none⟩ = false ∧ w.frozen? ⟨b, 11, none⟩ = false ∧ w.frozen? ⟨b, 12, none⟩ = false ∧ w.setCell ⟨b, 0, none⟩ (.slice none 0 0) = w ∧ w.setCell ⟨b, 1, none⟩ (.int .i64 0) = w ∧ w.setCell ⟨b, 2, none⟩ (.int .i64 0) = w ∧ w.setCell ⟨b, 3, none⟩ (.int .i64 0) = w ∧ w.setCell ⟨b, 4, none⟩ (.int .i64 0) = w ∧ w.setCell ⟨b, 5, none⟩ (.int .i64 0) = w ∧ w.setCell ⟨b, 6, none⟩ (.slice none 0 0) = w ∧ w.setCell ⟨b, 7, none⟩ (.slice none 0 0) = w ∧ w.setCell ⟨b, 8, none⟩ (.slice none 0 0) = w ∧ w.setCell ⟨b, 9, none⟩ (.slice none 0 0) = w ∧ w.setCell ⟨b, 10, none⟩ (.slice none 0 0) = w ∧ w.setCell ⟨b, 11, none⟩ (.slice none 0 0) = w ∧ w.setCell ⟨b, 12, none⟩ (.slice none 0 0) = w :=
  ⟨h.cell 0 rfl, h.cell 1 rfl, h.cell 2 rfl, h.cell 3 rfl, h.cell 4 rfl, h.cell 5 rfl, h.cell 6 rfl, h.cell 7 rfl, h.cell 8 rfl, h.cell 9 rfl, h.cell 10 rfl, h.cell 11 rfl, h.cell 12 rfl, h.frozen 0, h.frozen 1, h.frozen 2, h.frozen 3, h.frozen 4, h.frozen 5, h.frozen 6, h.frozen 7, h.frozen 8, h.frozen 9, h.frozen 10, h.frozen 11, h.frozen 12, setCell_same (h.cell 0 rfl), setCell_same (h.cell 1 rfl), setCell_same (h.cell 2 rfl), setCell_same (h.cell 3 rfl), setCell_same (h.cell 4 rfl), setCell_same (h.cell 5 rfl), setCell_same (h.cell 6 rfl), setCell_same (h.cell 7 rfl), setCell_same (h.cell 8 rfl), setCell_same (h.cell 9 rfl), setCell_same (h.cell 10 rfl), setCell_same (h.cell 11 rfl), setCell_same (h.cell 12 rfl)⟩
theorem Zf.later {w w' : World} {b : Nat} (h : Zf w b) (hb : Below w.heap.size w w') : Zf w' b := At.later h hb
theorem Zf.keeps {w w' : World} {b : Nat} {M : Nat → Prop} (h : Zf w b) (hk : Keeps M w w') (hM : ¬ M b) : Zf w' b := At.keeps h hk hM
theorem Zf.new (w : World) : Zf (w.alloc (.cells #[.slice none 0 0, .int .i64 0, .int .i64 0, .int .i64 0, .int .i64 0, .int .i64 0, .slice none 0 0, .slice none 0 0, .slice none 0 0, .slice none 0 0, .slice none 0 0, .slice none 0 0, .slice none 0 0] 100)) w.heap.size := At.new w [.slice none 0 0, .int .i64 0, .int .i64 0, .int .i64 0, .int .i64 0, .int .i64 0, .slice none 0 0, .slice none 0 0, .slice none 0 0, .slice none 0 0, .slice none 0 0, .slice none 0 0, .slice none 0 0] 100
end Go.Proofs.YtfogkbdcbgpomaaGreat
