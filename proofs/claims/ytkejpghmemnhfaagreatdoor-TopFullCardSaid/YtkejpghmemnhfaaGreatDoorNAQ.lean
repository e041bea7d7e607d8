/- A part of the proof: AbW4. -/
import Derived.DefersIn
import Derived.Test.YtkejpghmemnhfaaGreatDoorNAN

set_option linter.unusedVariables false
set_option linter.unusedSimpArgs false

namespace Go.Ab
open Go.Proofs
noncomputable def G0 : Env := { fn := .leaf, ov := .leaf }
theorem G0_ok (ρ : Nat → Int) : EnvOK Tryz.prog ρ G0 := by
  refine ⟨fun f cf h => ?_, fun f o args st v st' h => ?_, fun f o args st v st' h => ?_, by kernel_rfl⟩
  · simp [G0, T.get_leaf] at h
  · simp [G0, T.get_leaf] at h
  · simp [G0, T.get_leaf] at h
def cell1 (v : AV) : AObj := .cells none (.node .leaf (some v) .leaf) 0
noncomputable def rst (a b : AV) : St := { heap := ((((T.leaf.set 100 (cell1 (.sint .i64 (.var 0)))).set 101 (cell1 (.ptr 100 0))).set 102 (cell1 (.sint .i64 (.var 1)))).set 103 (cell1 a)).set 104 (cell1 b), next := 105, low := 105, sc := [], tr := [] }
noncomputable def rtm : T AV := T.leaf.ofList 0 [.ptr 101 0, .ptr 102 0, .ptr 103 0, .ptr 104 0]
noncomputable def rbody : CCode := cCode Tryz.prog .leaf 14 (Tryz.f131.body.getD .skip)
theorem read1_ev : (match ev G0 10 false rbody rtm [] (rst (.sint .i64 (.var 2)) (.sint .i64 (.var 3))) with
    | .ok .normal _ [] st => (st.next == 105 && st.low == 103 && st.tr.length == 0 && (match st.heap.get 103, st.heap.get 104, st.heap.get 100 with
        | some (.cells none x 0), some (.cells none y 0), some (.cells none z 0) => (match x.get 0, y.get 0, z.get 0 with
          | some (.sint .i64 (.var 0)), some (.sint .i64 (.bin .sub .i64 (.var 0) (.var 1))), some (.sint .i64 (.var 0)) => true
          | _, _, _ => false)
        | _, _, _ => false))
    | _ => false) = true := by kernel_rfl
theorem read1_run : ∃ tm st x y, ev G0 10 false rbody rtm [] (rst (.sint .i64 (.var 2)) (.sint .i64 (.var 3))) = .ok .normal tm [] st ∧ st.next = 105 ∧ st.low = 103 ∧ st.tr = [] ∧
    st.heap.get 103 = some (.cells none x 0) ∧ st.heap.get 104 = some (.cells none y 0) ∧ x.get 0 = some (.sint .i64 (.var 0)) ∧ y.get 0 = some (.sint .i64 (.bin .sub .i64 (.var 0) (.var 1))) := by
  have h := read1_ev
  split at h
  · rename_i st heq
    simp only [Bool.and_eq_true, beq_iff_eq] at h
    obtain ⟨⟨⟨h1, h2⟩, h3⟩, h4⟩ := h
    split at h4
    · rename_i x y z e1 e2 e3
      split at h4
      · rename_i f1 f2 f3
        exact ⟨_, st, x, y, heq, h1, h2, List.length_eq_zero_iff.1 h3, e1, e2, f1, f2⟩
      · cases h4
    · cases h4
  · cases h
def Box (w : World) (b : Nat) (v : Value) : Prop := ∃ el, w.heap[b]? = some (.cells #[v] el (0, 0))
theorem cell1_get (v x : AV) (i : Nat) (h : (T.node .leaf (some v) .leaf : T AV).get i = some x) : i = 0 ∧ x = v := by
  rw [show (T.node .leaf (some v) .leaf : T AV) = (T.leaf.set 0 v) from rfl, T.get_set] at h
  by_cases hi : i = 0
  · subst hi; simp at h; exact ⟨rfl, h.symm⟩
  · rw [if_neg hi, T.get_leaf] at h; cases h
theorem rst_get (a b : AV) (id : Nat) (o : AObj) (h : (rst a b).heap.get id = some o) : (id = 104 ∧ o = cell1 b) ∨ (id = 103 ∧ o = cell1 a) ∨ (id = 102 ∧ o = cell1 (.sint .i64 (.var 1))) ∨ (id = 101 ∧ o = cell1 (.ptr 100 0)) ∨ (id = 100 ∧ o = cell1 (.sint .i64 (.var 0))) := by
  simp only [rst, T.get_set, T.get_leaf] at h
  split at h
  · rename_i e; cases h; exact .inl ⟨e, rfl⟩
  · split at h
    · rename_i e; cases h; exact .inr (.inl ⟨e, rfl⟩)
    · split at h
      · rename_i e; cases h; exact .inr (.inr (.inl ⟨e, rfl⟩))
      · split at h
        · rename_i e; cases h; exact .inr (.inr (.inr (.inl ⟨e, rfl⟩)))
        · split at h
          · rename_i e; cases h; exact .inr (.inr (.inr (.inr ⟨e, rfl⟩)))
          · cases h
theorem box_OR {P : Program} {ρ : Nat → Int} {R : Inj} {a : AV} {v : Value} (hv : VR ρ R a v) (b el : Nat) : OR P ρ R (cell1 a) ⟨b, 0, 1⟩ (.cells #[v] el (0, 0)) := by
  refine .cells _ _ _ _ _ _ _ ⟨fun _ h => (by cases h), rfl, fun i x hx => ?_, fun i _ _ => by omega⟩
  obtain ⟨rfl, rfl⟩ := cell1_get _ _ _ hx
  exact ⟨v, by simp, hv⟩
set_option maxRecDepth 100000 in
theorem read1_in (w : World) (cb co bx wb ab bb : Nat) (tick was x y : Int) (cc : Array Value) (cel : TypeId) (cfr : Nat × Nat) (hc : w.heap[cb]? = some (.cells cc cel cfr)) (hco : cc[co]? = some (.int .i64 tick))
    (hfz : ∀ i, co ≤ i → i < cc.size → ¬ (cfr.1 ≤ i ∧ i < cfr.2)) (h1 : Box w bx (.pointer (some ⟨cb, co, none⟩))) (h2 : Box w wb (.int .i64 was)) (h3 : Box w ab (.int .i64 x)) (h4 : Box w bb (.int .i64 y)) (hnd : [cb, bx, wb, ab, bb].Nodup) (u : FrameMode) :
    CallsDIn Fence.wide 0 Tryz.prog 131 #[.pointer (some ⟨bx, 0, none⟩), .pointer (some ⟨wb, 0, none⟩), .pointer (some ⟨ab, 0, none⟩), .pointer (some ⟨bb, 0, none⟩)] u w fun e u' w' => u' = u ∧ ((∃ v, e = .returned v) ∧ w'.cell? ⟨ab, 0, none⟩ = some (.int .i64 tick) ∧
      w'.cell? ⟨bb, 0, none⟩ = some (.int .i64 (IntKind.i64.wrap (tick - was))) ∧ w.heap.size ≤ w'.heap.size ∧ (∀ b, b < w.heap.size → b ≠ ab → b ≠ bb → w'.heap[b]? = w.heap[b]?) ∧ w'.tape = w.tape ∧ w'.os = w.os ∧ w'.output = w.output) := by
  obtain ⟨tm, st, xs, ys, hev, hnx, hlow, htr, hg3, hg4, hx, hy⟩ := read1_run
  refine callsDIn_of_wp Tryz.func131 rfl trivial ?_
  simp only [List.nodup_cons, List.mem_cons, List.not_mem_nil, or_false, not_or, List.nodup_nil, and_true, not_false_eq_true] at hnd
  obtain ⟨⟨n1, n2, n3, n4⟩, ⟨n5, n6, n7⟩, ⟨n8, n9⟩, n10⟩ := hnd
  let ρ : Nat → Int := fun i => if i = 0 then tick else if i = 1 then was else if i = 2 then x else y
  have hcs : co < cc.size := (Array.getElem?_eq_some_iff.1 hco).1
  let R : Inj := fun id => if id < 100 then some ⟨id, 0, 0⟩ else if id = 100 then some ⟨cb, co, cc.size - co⟩ else if id = 101 then some ⟨bx, 0, 1⟩ else if id = 102 then some ⟨wb, 0, 1⟩ else if id = 103 then some ⟨ab, 0, 1⟩ else if id = 104 then some ⟨bb, 0, 1⟩ else none
  have r0 : R 100 = some ⟨cb, co, cc.size - co⟩ := rfl
  have r1 : R 101 = some ⟨bx, 0, 1⟩ := rfl
  have r2 : R 102 = some ⟨wb, 0, 1⟩ := rfl
  have r3 : R 103 = some ⟨ab, 0, 1⟩ := rfl
  have r4 : R 104 = some ⟨bb, 0, 1⟩ := rfl
  have iv : InvW Tryz.prog ρ R (rst (.sint .i64 (.var 2)) (.sint .i64 (.var 3))) w := by
    refine ⟨⟨fun id o ho => ?_, fun i j o o' l l' hi hj hl hl' hb => ?_⟩, fun id hid => ?_⟩
    · rcases rst_get _ _ _ _ ho with ⟨rfl, rfl⟩ | ⟨rfl, rfl⟩ | ⟨rfl, rfl⟩ | ⟨rfl, rfl⟩ | ⟨rfl, rfl⟩
      · obtain ⟨el, h⟩ := h4; exact ⟨_, _, r4, h, box_OR (.sint _ _ _ rfl) _ _⟩
      · obtain ⟨el, h⟩ := h3; exact ⟨_, _, r3, h, box_OR (.sint _ _ _ rfl) _ _⟩
      · obtain ⟨el, h⟩ := h2; exact ⟨_, _, r2, h, box_OR (.sint _ _ _ rfl) _ _⟩
      · obtain ⟨el, h⟩ := h1
        refine ⟨_, _, r1, h, box_OR ?_ _ _⟩
        exact .ptr 100 0 _ r0
      · refine ⟨_, _, r0, hc, .cells _ _ _ _ _ _ _ ⟨fun _ h => (by cases h), by show cc.size = co + (cc.size - co); omega, fun i v hv => ?_, fun i hi hi' => hfz i hi hi'⟩⟩
        obtain ⟨rfl, rfl⟩ := cell1_get _ _ _ hv
        exact ⟨_, hco, .sint _ _ _ rfl⟩
    · rcases rst_get _ _ _ _ hi with ⟨rfl, _⟩ | ⟨rfl, _⟩ | ⟨rfl, _⟩ | ⟨rfl, _⟩ | ⟨rfl, _⟩ <;> rcases rst_get _ _ _ _ hj with ⟨rfl, _⟩ | ⟨rfl, _⟩ | ⟨rfl, _⟩ | ⟨rfl, _⟩ | ⟨rfl, _⟩ <;> first | rfl | (exfalso; simp only [r0, r1, r2, r3, r4, Option.some.injEq] at hl hl'; subst hl; subst hl'; simp only at hb; omega)
    · cases hg : (rst (.sint .i64 (.var 2)) (.sint .i64 (.var 3))).heap.get id with
      | none => rfl
      | some o =>
        exfalso
        have hid' : 105 ≤ id := hid
        rcases rst_get _ _ _ _ hg with ⟨rfl, _⟩ | ⟨rfl, _⟩ | ⟨rfl, _⟩ | ⟨rfl, _⟩ | ⟨rfl, _⟩ <;> omega
  have hf : Fresh R (rst (.sint .i64 (.var 2)) (.sint .i64 (.var 3))).next st.next := by
    intro id h h'
    have e : (rst (.sint .i64 (.var 2)) (.sint .i64 (.var 3))).next = 105 := rfl
    rw [e] at h; rw [hnx] at h'; omega
  have gl : Glob R := fun g hg => ⟨0, by simp [R, hg]⟩
  refine (code_sound (G0_ok ρ) 10).1 .leaf 14 none (Tryz.f131.body.getD .skip) rtm [] _ _ _ _ _ hev R _ w ?_ .nil gl iv hf (by rw [htr]; exact conds0) _ ?_
  · refine ⟨rfl, fun t ht => ?_⟩
    have : ∀ t, VR ρ R (evA rtm (.t t)) ((#[Value.pointer (some ⟨bx, 0, none⟩), .pointer (some ⟨wb, 0, none⟩), .pointer (some ⟨ab, 0, none⟩), .pointer (some ⟨bb, 0, none⟩)] ++ Array.replicate (14 - 4) Go.undef).getD t Go.undef) := by
      intro t
      match t with
      | 0 => exact .ptr 101 0 _ r1
      | 1 => exact .ptr 102 0 _ r2
      | 2 => exact .ptr 103 0 _ r3
      | 3 => exact .ptr 104 0 _ r4
      | t + 4 =>
        have e1 : evA rtm (.t (t + 4)) = .any := by
          have : rtm.get (t + 4) = none := by
            simp only [rtm]
            rw [T.get_ofList]
            simp [T.get_leaf]
          simp [evA, this]
        have e2 : (#[Value.pointer (some ⟨bx, 0, none⟩), .pointer (some ⟨wb, 0, none⟩), .pointer (some ⟨ab, 0, none⟩), .pointer (some ⟨bb, 0, none⟩)] ++ Array.replicate (14 - 4) Go.undef).getD (t + 4) Go.undef = Go.undef := by
          simp only [Array.getD_eq_getD_getElem?]
          rw [Array.getElem?_append_right (by simp)]
          simp only [Array.getElem?_replicate]; split <;> rfl
        rw [e1, e2]; exact .any _ rfl
    exact this t
  · intro a' w' R' ht hm hs
    have hd : a'.defers = [] := by generalize a'.defers = ds at hm; cases hm; rfl
    have hR3 : R' 103 = some ⟨ab, 0, 1⟩ := by rw [hs.ext 103 (by simp [rst]), r3]
    have hR4 : R' 104 = some ⟨bb, 0, 1⟩ := by rw [hs.ext 104 (by simp [rst]), r4]
    obtain ⟨cv, hcv, hr⟩ := cell_at hs.inv hR3 (off := 0) (v := .sint .i64 (.var 0)) (by simp [load1At, hg3, hx])
    obtain ⟨cv', hcv', hr'⟩ := cell_at hs.inv hR4 (off := 0) (v := .sint .i64 (.bin .sub .i64 (.var 0) (.var 1))) (by simp [load1At, hg4, hy])
    cases hr with
    | sint _ _ n hn =>
    cases hr' with
    | sint _ _ n' hn' =>
    have key : w'.cell? ⟨ab, 0, none⟩ = some (.int .i64 tick) ∧ w'.cell? ⟨bb, 0, none⟩ = some (.int .i64 (IntKind.i64.wrap (tick - was))) := by
      refine ⟨?_, ?_⟩
      · have e : tick = n := hn
        rw [e]; exact hcv
      · have e : IntKind.i64.wrap (tick - was) = n' := hn'
        rw [e]; exact hcv'
    have hk : ∀ b, b < w.heap.size → b ≠ ab → b ≠ bb → w'.heap[b]? = w.heap[b]? := by
      intro b hb ha hbb
      refine hs.keep b ?_
      rintro (h | ⟨id, o, l, hid, ho, hl, rfl⟩)
      · omega
      · rw [hlow] at hid
        rcases rst_get _ _ _ _ ho with ⟨rfl, _⟩ | ⟨rfl, _⟩ | ⟨rfl, _⟩ | ⟨rfl, _⟩ | ⟨rfl, _⟩
        · rw [r4] at hl; cases hl; exact hbb rfl
        · rw [r3] at hl; cases hl; exact ha rfl
        all_goals omega
    have fin : ∀ e, (∃ v, e = Ending.returned v) → ((∃ v, e = .returned v) ∧ w'.cell? ⟨ab, 0, none⟩ = some (.int .i64 tick) ∧
      w'.cell? ⟨bb, 0, none⟩ = some (.int .i64 (IntKind.i64.wrap (tick - was))) ∧ w.heap.size ≤ w'.heap.size ∧ (∀ b, b < w.heap.size → b ≠ ab → b ≠ bb → w'.heap[b]? = w.heap[b]?) ∧ w'.tape = w.tape ∧ w'.os = w.os ∧ w'.output = w.output) :=
      fun e he => ⟨he, key.1, key.2, hs.size, hk, hs.tape, hs.os, hs.out⟩
    refine ⟨hd, .tuple #[], ?_, fin _ ⟨_, rfl⟩⟩
    simp [results, Tryz.results131]
end Go.Ab
