/- A part of the proof: AbKRow. -/
import Derived.Test.YtkejpghmemnhfaaGreatDoorTie
import Derived.Test.YtkejpghmemnhfaaGreatDoorCards
import Derived.ProofKit
import Derived.OpenShut
import Derived.LaidMore
import Derived.Lay
import Derived.SevenTiedAt
import Derived.Stop.Joined
import Derived.Test.YtkejpghmemnhfaaGreatDoorNBJ
import Derived.Test.YtkejpghmemnhfaaGreatDoorNBL

set_option linter.unusedVariables false
set_option linter.unusedSimpArgs false

namespace Go.Proofs.YtkejpghmemnhfaaGreatDoor
open Go.ChangeShapes Go.WideShapes Go.ChangeAt Go.RowKit Go.Ab
theorem own : ownKnob Tryz.prog.godebug = none := by kernel_rfl
theorem pow_block {W : World} (h : laidMetH Tryz.prog Rows.topFullRow.laid W) : ∃ c el fr, W.heap[0]? = some (.cells c el fr) ∧ c.toList = TF.pows.map fun n => Value.int .u64 n := by
  rw [MakeChecks.laidMetH_plain _ _ _ (by kernel_rfl)] at h
  obtain ⟨ps, ⟨g0, t0, cs0, f0, p0, q0, hg0, ht0, hv0, hd0, ⟨g1, t1, cs1, f1, p1, q1, hg1, ht1, hv1, hd1, ⟨g, t, cs, fuel, p, q, hg, ht, hv, hd, _, _⟩, _⟩, _⟩, _, _⟩ := h
  obtain rfl := Option.some.inj ((show Tryz.prog.globalNamed "internal/strconv.uint64pow10" = some 0 by kernel_rfl).symm.trans hg)
  obtain rfl := Option.some.inj ((show (Tryz.prog.globals[0]?).map (·.type) = some 435 by kernel_rfl).symm.trans ht)
  obtain ⟨xs, m, _, ex, hcl, hl, hel⟩ := DataW.trod_array Tryz.underlying435 hd
  have c5 : Tryz.prog.cellsOf 356 = 1 := by kernel_rfl
  have c20 : Tryz.prog.cellsOf 435 = 20 := by kernel_rfl
  rw [c20] at hcl
  have e3 : (xs.map (·.1)) = TF.pows.map fun n => (DataW.lit (.int .u64 n) : DataW Unit) := (DataW.agg.inj (Prod.mk.inj ex).1).symm
  have hW : ∃ el fr, W.heap[0]? = some (.cells cs el fr) := by
    simp only [World.var?, show Tryz.prog.globalNamed "internal/strconv.uint64pow10" = some 0 by kernel_rfl, Option.bind_some] at hv
    split at hv
    · cases hv; rename_i el fr hx; exact ⟨el, fr, hx⟩
    · cases hv
  obtain ⟨el, fr, hx⟩ := hW
  refine ⟨cs, el, fr, hx, ?_⟩
  apply List.ext_getElem?
  intro i
  by_cases hi : i < 20
  · have hE := hel i hi
    rw [c5, Nat.mul_one, List.getElem?_eq_getElem (by omega)] at hE
    obtain ⟨z, e1, e2, _⟩ := DataW.trod_int Tryz.underlying356 hE
    have e4 : (xs.map (·.1))[i]? = (TF.pows.map fun n => (DataW.lit (.int .u64 n) : DataW Unit))[i]? := by rw [e3]
    rw [List.getElem?_map, List.getElem?_map, List.getElem?_eq_getElem (by omega : i < xs.length), e2] at e4
    rw [List.getElem?_map]
    have h0 : ((cs.toList.drop i).take 1)[0]? = some (.int .u64 z) := by rw [e1]; rfl
    have h1 : cs.toList[i]? = some (.int .u64 z) := by simpa using h0
    rw [h1]
    cases hp : TF.pows[i]? with
    | none => rw [hp] at e4; cases e4
    | some n =>
      rw [hp] at e4
      simp only [Option.map_some, Option.some.injEq, DataW.lit.injEq, Lit.int.injEq, true_and] at e4
      rw [e4]; rfl
  · rw [List.getElem?_eq_none (by omega), List.getElem?_eq_none (by simp [TF.pows]; omega)]
theorem post_grew {H : Type} {enc : TypeId × Value → H} {W W' : World} {n room : Int} (hW : DataW.Whole enc Tryz.prog Tryz.f4.params.toList Rows.topFullSpec.vars false W [.int .i64 n, .int .i64 room] [.lit (.int .i64 n), .lit (.int .i64 room)] [] [])
    (wn : (Lit.int .i64 n).wf = true) (wr : (Lit.int .i64 room).wf = true) (hg : Grew W W') : Rows.topFullSpec.post enc Tryz.prog Tryz.f4 false true false false W #[.int .i64 n, .int .i64 room] (.bool true) W' := by
  refine ⟨_, _, [], [], [], [], hW, trodAll_mk1 (shut_bool Tryz.underlying4 _), trodAll_mk2 (shut_int Tryz.underlying3 wn) (shut_int Tryz.underlying3 wr), rfl, ?_, fun h => by cases h⟩
  refine ⟨hg.os, hg.out, fun i hi => ?_⟩
  rw [hg.keep i hi]
  have h0 := World.keptBut_refl W fun p => p ∈ ([] : List MemPlace) ∧ (p ∈ ([] : List MemPlace) ∨ p ∈ ([] : List MemPlace) ∨ p ∈ ([] : List MemPlace))
  exact h0.2.2 i hi
set_option maxRecDepth 100000 in
theorem lifted (os : Os) (started : os.Started) (H : Type) (enc : TypeId × Value → H) :
    ReturnsInHanded {} Tryz.checked os 4 .any (fun w args => (Rows.topFullSpec.pre enc Tryz.prog Tryz.f4 Rows.topFullRow.domain false w args ∧ laidMetH Tryz.prog Rows.topFullRow.laid w) ∧ sizedMet enc Tryz.prog Tryz.f4 (OpenSpec.ofChange Rows.topFullSpec) false w args)
      (Rows.topFullSpec.post enc Tryz.prog Tryz.f4 false true false false) := by
  refine returnsInHanded_of_change_and (C := Tryz.checked) (X := fun w _ => laidMetH Tryz.prog Rows.topFullRow.laid w) (fun _ _ _ hh h => h.of_heap hh) own started (by kernel_rfl) Tryz.func4
    (ChangeSpec.witness_shaped (enc := enc) (C := Tryz.checked) (os := os) (X := fun w _ => laidMetH Tryz.prog Rows.topFullRow.laid w) false (World.laidAll Tryz.prog os Rows.topFullRow.laid) #[.int .i64 0, .int .i64 0] 8 (World.laidAll_os _ _ _)
      (World.shaped_of_ZipB (by kernel_rfl) (by kernel_rfl)) (by kernel_rfl) (by kernel_rfl) (by kernel_rfl)
      (by rw [MakeChecks.laidMetH_plain _ _ _ (by kernel_rfl)]; exact laidMet_laidAll _ (by kernel_rfl) (by kernel_rfl))) ?_
  intro W base args ds gs before hval0 hW _ _ hL _
  have hval : ∀ (j : Nat) t v, Tryz.f4.params[j]? = some t → args[j]? = some v → Value.okWide Tryz.prog W .any base t v := hval0
  have hW' := hW
  obtain ⟨p, q, hA0, hV, rfl, _, _⟩ := hW
  have hA : DataW.TrodAll enc Tryz.prog W 0 (fun _ => true) true Tryz.f4.params.toList args.toList ds p := hA0
  rw [Tryz.params4] at hA hval
  obtain ⟨v0, v1, d0, d1, p0, p1, rfl, rfl, rfl, h0, h1⟩ := trodAll_two hA
  obtain ⟨rfl, rfl⟩ := trodVars_none hV
  obtain ⟨n, rfl, rfl, rfl, wn⟩ := open_int Tryz.underlying3 (hval 0 3 v0 rfl rfl) h0
  obtain ⟨room, rfl, rfl, rfl, wr⟩ := open_int Tryz.underlying3 (hval 1 3 v1 rfl rfl) h1
  clear hA0 hval0
  obtain ⟨c, el, fr, hx, hc⟩ := pow_block hL
  simp only [List.append_nil] at hW'
  refine (callsIn_wide.1 (TF.called (n := n) (room := room) c el fr hx hc)).mono fun e W' ⟨he, hg⟩ => ?_
  subst he
  exact ⟨_, rfl, post_grew hW' wn wr hg⟩
theorem topFull_wrap : Tryz.f4.isWrapper Tryz.prog Rows.topFullRow.wrapper Rows.topFullRow.mainSum := by
  unfold Func.isWrapper; first | (rw [if_pos (by decide +kernel)]; kernel_rfl) | (rw [if_neg (by decide +kernel)]; exact ⟨rfl, rfl⟩)
theorem topFull_holds : Rows.TopFullSaid :=
  OpenClaim.holds_of_wide 4 Tryz.f4 rfl rfl rfl rfl rfl rfl rfl ⟨rfl, rfl, rfl, rfl, rfl⟩ rfl rfl rfl rfl rfl (by kernel_rfl) Tryz.func4 topFull_closed
    (of_decide_eq_true (by kernel_rfl)) topFull_wrap
    (fun os started H enc _ => lifted os started H enc)
end Go.Proofs.YtkejpghmemnhfaaGreatDoor
