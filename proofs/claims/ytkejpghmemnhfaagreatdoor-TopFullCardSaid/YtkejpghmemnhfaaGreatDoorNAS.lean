/- A part of the proof: AbW6. -/
import Derived.Test.YtkejpghmemnhfaaGreatDoorNAR

set_option linter.unusedVariables false
set_option linter.unusedSimpArgs false

namespace Go.Ab
open Go.Proofs
section
variable {ρ : Nat → Int} {R : Inj} {w : World}
set_option maxRecDepth 100000 in
theorem ovClockRead_ok : OvOK Tryz.prog ρ 68 ovClockRead := by
  have key : ∀ args st v st', ovClockRead args st = .ok (v, st') → ∃ id off raw e cs tick all, args = [.ptr id off, .int .i64 raw] ∧ st.heap.get id = some (.cells e cs 0) ∧ cs.get off = some (.int .i64 tick) ∧ cs.get (off + 3) = some (.int .i64 all) ∧
      tick ≤ raw ∧ raw ≤ 1099511627776 ∧ v = .tuple [.int .i64 raw, .int .i64 (IntKind.i64.wrap (raw - tick))] ∧ st' = st.put id (.cells e ((cs.set (off + 3) (.int .i64 (IntKind.i64.wrap (all + 1)))).set off (.int .i64 raw)) 0) := by
    intro args st v st' h
    unfold ovClockRead at h
    split at h
    · rename_i id off raw
      split at h
      · rename_i e cs hc
        split at h
        · rename_i tick all h0 h3
          split at h
          · rename_i hl1 hl2
            simp only [forceI_eq, T.setK_eq, St.putK_eq, fwrap_eq] at h
            obtain ⟨rfl, rfl⟩ := ok_inj h
            rw [ilt_eq] at hl1 hl2
            simp only [decide_eq_false_iff_not, Int.not_lt] at hl1 hl2
            exact ⟨id, off, raw, e, cs, tick, all, rfl, cellsOf_some hc, h0, h3, hl1, hl2, rfl, rfl⟩
          · cases h
        · cases h
      · cases h
    · cases h
  refine ⟨fun args st v st' h => ?_, fun args st v st' h R w cargs hv gl iv hfr hcd => ?_⟩
  · obtain ⟨_, _, _, _, _, _, _, _, _, _, _, _, _, _, rfl⟩ := key _ _ _ _ h; exact Mono.put _ _ _
  · obtain ⟨id, off, raw, e, cs, tick, all, rfl, hg, h0, h3, hraw, hr2, rfl, rfl⟩ := key _ _ _ _ h
    obtain ⟨x, y, hc, h1, h2⟩ := hv.pair
    obtain ⟨l, rfl, hR⟩ := h1.isPtr
    have ey : y = .int .i64 raw := by cases h2; rfl
    subst ey
    obtain ⟨c, el, fr, cv0, hx, hcr, hget0, hv0, _, _⟩ := cells_facts iv.inv hg hR h0
    obtain ⟨c', el', fr', cv3, hx', _, hget3, hv3, _, _⟩ := cells_facts iv.inv hg hR h3
    rw [hx] at hx'
    cases hx'
    have e0 : cv0 = .int .i64 tick := by cases hv0; rfl
    have e3 : cv3 = .int .i64 all := by cases hv3; rfl
    subst e0; subst e3
    rw [run_enter Tryz.func68 (by kernel_rfl) rfl cargs w]
    simp only [Upon]
    rw [arr_eq hc]
    have hcall := read_in w l.b (l.base + off) raw tick all c el fr hx hget0 (by rw [← hget3, Nat.add_assoc]) (fun i h1 h2 => hcr.free i (by omega) h2) hraw hr2
    refine hcall.mono ?_
    rintro e2 w' ⟨rfl, w2, hx2, hsz, hk2, t1, t2, t3, hgr⟩
    have s3 : l.base + (off + 3) < c.size := (Array.getElem?_eq_some_iff.1 hget3).1
    have s0 : l.base + off < c.size := (Array.getElem?_eq_some_iff.1 hget0).1
    have hcr2 := (hcr.set1 (v := .int .i64 (IntKind.i64.wrap (all + 1))) (.int _ _) s3).set1 (v := .int .i64 raw) (.int _ _) (off := off) (by simpa using s0)
    have s1 : Step Tryz.prog ρ R st.heap w R (st.heap.set id (.cells e ((cs.set (off + 3) (.int .i64 (IntKind.i64.wrap (all + 1)))).set off (.int .i64 raw)) 0))
        { w with heap := w.heap.setIfInBounds l.b (.cells ((c.setIfInBounds (l.base + (off + 3)) (.int .i64 (IntKind.i64.wrap (all + 1)))).setIfInBounds (l.base + off) (.int .i64 raw)) el fr) } (lowered st.low id) st.next st.next :=
      Step.write iv.inv hg hR (.cells _ _ _ _ _ _ _ hcr2) (lowered_le _ _).2
    have hlb : l.b < w.heap.size := (Array.getElem?_eq_some_iff.1 hx).1
    have hgr2 : Grew { w with heap := w.heap.setIfInBounds l.b (.cells ((c.setIfInBounds (l.base + (off + 3)) (.int .i64 (IntKind.i64.wrap (all + 1)))).setIfInBounds (l.base + off) (.int .i64 raw)) el fr) } w' := by
      refine ⟨by simp only [Array.size_setIfInBounds]; rw [← hsz]; exact hgr.size, fun i hi => ?_, hgr.tape.trans t1, hgr.os.trans t2, hgr.out.trans t3⟩
      simp only [Array.size_setIfInBounds] at hi
      rw [hgr.keep i (by omega)]
      by_cases hib : i = l.b
      · subst hib
        rw [hx2, show RowKit.wrap64 (all + 1) = IntKind.i64.wrap (all + 1) from by rw [IntKind.wrap_i64]; unfold RowKit.wrap64; omega]
        simp only [Array.getElem?_setIfInBounds, if_pos hlb, if_true, Nat.add_assoc]
      · rw [hk2 i hib]
        exact (Array.getElem?_setIfInBounds_ne (fun h => hib h.symm)).symm
    refine ⟨_, rfl, R, .tuple _ _ (.cons _ _ _ _ (.int _ _) (.cons _ _ _ _ (.int _ _) .nil)), s1.trans (hgr2.step s1.inv _ _) (Nat.le_refl _) (Nat.le_refl _) (Nat.le_refl _)⟩
end
end Go.Ab
