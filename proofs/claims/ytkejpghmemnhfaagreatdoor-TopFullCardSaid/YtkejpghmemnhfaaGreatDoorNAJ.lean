/- A part of the proof: AbG8. -/
import Derived.Test.YtkejpghmemnhfaaGreatDoorNAI

set_option linter.unusedVariables false
set_option linter.unusedSimpArgs false

namespace Go.Ab
noncomputable def pu0 {α : Type} (x : N8 α) (v : α) : N8 α := N8.rec (fun _ b c d e f g h => .mk v b c d e f g h) x
noncomputable def pu1 {α : Type} (x : N8 α) (v : α) : N8 α := N8.rec (fun a _ c d e f g h => .mk a v c d e f g h) x
noncomputable def pu2 {α : Type} (x : N8 α) (v : α) : N8 α := N8.rec (fun a b _ d e f g h => .mk a b v d e f g h) x
noncomputable def pu3 {α : Type} (x : N8 α) (v : α) : N8 α := N8.rec (fun a b c _ e f g h => .mk a b c v e f g h) x
noncomputable def pu4 {α : Type} (x : N8 α) (v : α) : N8 α := N8.rec (fun a b c d _ f g h => .mk a b c d v f g h) x
noncomputable def pu5 {α : Type} (x : N8 α) (v : α) : N8 α := N8.rec (fun a b c d e _ g h => .mk a b c d e v g h) x
noncomputable def pu6 {α : Type} (x : N8 α) (v : α) : N8 α := N8.rec (fun a b c d e f _ h => .mk a b c d e f v h) x
noncomputable def pu7 {α : Type} (x : N8 α) (v : α) : N8 α := N8.rec (fun a b c d e f g _ => .mk a b c d e f g v) x
noncomputable def pst {α : Type} : Nat → N8 α → α → N8 α
  | 0 => pu0
  | 1 => pu1
  | 2 => pu2
  | 3 => pu3
  | 4 => pu4
  | 5 => pu5
  | 6 => pu6
  | _ => pu7
theorem prj_pst {α : Type} (x : N8 α) (v : α) {i j : Nat} (hi : i < 8) (hj : j < 8) : prj i (pst j x v) = if i = j then v else prj i x := by
  have h1 : i = 0 ∨ i = 1 ∨ i = 2 ∨ i = 3 ∨ i = 4 ∨ i = 5 ∨ i = 6 ∨ i = 7 := by omega
  have h2 : j = 0 ∨ j = 1 ∨ j = 2 ∨ j = 3 ∨ j = 4 ∨ j = 5 ∨ j = 6 ∨ j = 7 := by omega
  cases x
  rcases h1 with rfl | rfl | rfl | rfl | rfl | rfl | rfl | rfl <;> rcases h2 with rfl | rfl | rfl | rfl | rfl | rfl | rfl | rfl <;> rfl
noncomputable def tblSet (t : Tbl) (f : Nat) (k : KF) : Tbl := pst (f / 64) t (pst (f / 8 % 8) (prj (f / 64) t) (pst (f % 8) (prj (f / 8 % 8) (prj (f / 64) t)) k))
theorem look_lt (t : Tbl) {f : Nat} (hf : f < 512) : look t f = prj (f % 8) (prj (f / 8 % 8) (prj (f / 64) t)) := by
  unfold look
  rw [show Nat.blt f 512 = true from Nat.ble_eq_true_of_le hf]
theorem look_ge (t : Tbl) {f : Nat} (hf : ¬ f < 512) : look t f = .none := by
  unfold look
  cases h : Nat.blt f 512 with
  | false => rfl
  | true => exact absurd (Nat.le_of_ble_eq_true h) hf
theorem look_set (t : Tbl) (k : KF) {f : Nat} (hf : f < 512) (g : Nat) : look (tblSet t f k) g = if g = f then k else look t g := by
  by_cases hg : g < 512
  · rw [look_lt _ hg, look_lt _ hg]
    unfold tblSet
    rw [prj_pst _ _ (by omega) (by omega)]
    by_cases h1 : g / 64 = f / 64
    · rw [if_pos h1, prj_pst _ _ (by omega) (by omega)]
      by_cases h2 : g / 8 % 8 = f / 8 % 8
      · rw [if_pos h2, prj_pst _ _ (by omega) (by omega)]
        by_cases h3 : g % 8 = f % 8
        · rw [if_pos h3, if_pos (by omega)]
        · rw [if_neg h3, if_neg (fun e => h3 (by rw [e])), h1, h2]
      · rw [if_neg h2, if_neg (fun e => h2 (by rw [e])), h1]
    · rw [if_neg h1, if_neg (fun e => h1 (by rw [e]))]
  · rw [look_ge _ hg, look_ge _ hg, if_neg (by omega)]
def FnP (P : Program) (f : Nat) (cf : CFunc) : Prop := ∃ (E : T Unit) (fn : Func), P.funcs[f]? = some fn ∧ (fn.name == "runtime.NumGoroutine") = false ∧ cFunc P E fn = some cf
def FnAll (P : Program) (t : T CFunc) : Prop := ∀ f cf, t.get f = some cf → FnP P f cf
def TabOK (P : Program) (ov : T Ov) (t : Tbl) : Prop := ∃ ft : T CFunc, TOK t ⟨ft, ov⟩ ∧ FnAll P ft
noncomputable def tbl0 : Tbl := .mk (.mk (.mk .none .none .none .none .none .none .none .none) (.mk .none .none .none .none .none .none .none .none) (.mk .none .none .none .none .none .none .none .none) (.mk .none .none .none .none .none .none .none .none) (.mk .none .none .none .none .none .none .none .none) (.mk .none .none .none .none .none .none .none .none) (.mk .none .none .none .none .none .none .none .none) (.mk .none .none .none .none .none .none .none .none)) (.mk (.mk .none .none .none .none .none .none .none .none) (.mk .none .none .none .none .none .none .none .none) (.mk .none .none .none .none .none .none .none .none) (.mk .none .none .none .none .none .none .none .none) (.mk .none .none .none .none .none .none .none .none) (.mk .none .none .none .none .none .none .none .none) (.mk .none .none .none .none .none .none .none .none) (.mk .none .none .none .none .none .none .none .none)) (.mk (.mk .none .none .none .none .none .none .none .none) (.mk .none .none .none .none .none .none .none .none) (.mk .none .none .none .none .none .none .none .none) (.mk .none .none .none .none .none .none .none .none) (.mk .none .none .none .none .none .none .none .none) (.mk .none .none .none .none .none .none .none .none) (.mk .none .none .none .none .none .none .none .none) (.mk .none .none .none .none .none .none .none .none)) (.mk (.mk .none .none .none .none .none .none .none .none) (.mk .none .none .none .none .none .none .none .none) (.mk .none .none .none .none .none .none .none .none) (.mk .none .none .none .none .none .none .none .none) (.mk .none .none .none .none .none .none .none .none) (.mk .none .none .none .none .none .none .none .none) (.mk .none .none .none .none .none .none .none .none) (.mk .none .none .none .none .none .none .none .none)) (.mk (.mk .none .none .none .none .none .none .none .none) (.mk .none .none .none .none .none .none .none .none) (.mk .none .none .none .none .none .none .none .none) (.mk .none .none .none .none .none .none .none .none) (.mk .none .none .none .none .none .none .none .none) (.mk .none .none .none .none .none .none .none .none) (.mk .none .none .none .none .none .none .none .none) (.mk .none .none .none .none .none .none .none .none)) (.mk (.mk .none .none .none .none .none .none .none .none) (.mk .none .none .none .none .none .none .none .none) (.mk .none .none .none .none .none .none .none .none) (.mk .none .none .none .none .none .none .none .none) (.mk .none .none .none .none .none .none .none .none) (.mk .none .none .none .none .none .none .none .none) (.mk .none .none .none .none .none .none .none .none) (.mk .none .none .none .none .none .none .none .none)) (.mk (.mk .none .none .none .none .none .none .none .none) (.mk .none .none .none .none .none .none .none .none) (.mk .none .none .none .none .none .none .none .none) (.mk .none .none .none .none .none .none .none .none) (.mk .none .none .none .none .none .none .none .none) (.mk .none .none .none .none .none .none .none .none) (.mk .none .none .none .none .none .none .none .none) (.mk .none .none .none .none .none .none .none .none)) (.mk (.mk .none .none .none .none .none .none .none .none) (.mk .none .none .none .none .none .none .none .none) (.mk .none .none .none .none .none .none .none .none) (.mk .none .none .none .none .none .none .none .none) (.mk .none .none .none .none .none .none .none .none) (.mk .none .none .none .none .none .none .none .none) (.mk .none .none .none .none .none .none .none .none) (.mk .none .none .none .none .none .none .none .none))
theorem look_tbl0 (f : Nat) : look tbl0 f = .none := by
  by_cases hf : f < 512
  · rw [look_lt _ hf]
    have h1 : f % 8 < 8 := by omega
    have h2 : f / 8 % 8 < 8 := by omega
    have h3 : f / 64 < 8 := by omega
    generalize f % 8 = i at h1
    generalize f / 8 % 8 = j at h2
    generalize f / 64 = l at h3
    have c1 : i = 0 ∨ i = 1 ∨ i = 2 ∨ i = 3 ∨ i = 4 ∨ i = 5 ∨ i = 6 ∨ i = 7 := by omega
    have c2 : j = 0 ∨ j = 1 ∨ j = 2 ∨ j = 3 ∨ j = 4 ∨ j = 5 ∨ j = 6 ∨ j = 7 := by omega
    have c3 : l = 0 ∨ l = 1 ∨ l = 2 ∨ l = 3 ∨ l = 4 ∨ l = 5 ∨ l = 6 ∨ l = 7 := by omega
    rcases c3 with rfl | rfl | rfl | rfl | rfl | rfl | rfl | rfl <;> rcases c2 with rfl | rfl | rfl | rfl | rfl | rfl | rfl | rfl <;> rcases c1 with rfl | rfl | rfl | rfl | rfl | rfl | rfl | rfl <;> rfl
  · exact look_ge _ hf
section
variable {P : Program} {ov : T Ov} {t : Tbl}
theorem TabOK.start (P : Program) (ov : T Ov) : TabOK P ov tbl0 := ⟨.leaf, fun f => by rw [look_tbl0]; trivial, fun f cf h => by rw [T.get_leaf] at h; cases h⟩
theorem kF_cases (cf : CFunc) : (∃ n b r, kF cf = .fast n b r) ∨ kF cf = .slow cf := by
  obtain ⟨n, r, b⟩ := cf
  simp only [kF]
  split
  · exact .inl ⟨_, _, _, rfl⟩
  · exact .inr rfl
theorem TabOK.fn (h : TabOK P ov t) {f : Nat} {fn : Func} {E : T Unit} {k : KF} (hf : f < 512) (ho : ov.get f = none) (h1 : P.funcs[f]? = some fn) (h2 : (fn.name == "runtime.NumGoroutine") = false) (h3 : (cFunc P E fn).map kF = some k) : TabOK P ov (tblSet t f k) := by
  obtain ⟨ft, a, b⟩ := h
  cases hc : cFunc P E fn with
  | none => rw [hc] at h3; cases h3
  | some cf =>
    rw [hc] at h3
    simp only [Option.map_some, Option.some.injEq] at h3
    refine ⟨ft.set f cf, fun g => ?_, fun g cg hg => ?_⟩
    · rw [look_set t k hf]
      by_cases e : g = f
      · subst e
        rw [if_pos rfl, ← h3]
        rcases kF_cases cf with ⟨n, b, r, hk⟩ | hk
        · rw [hk]; exact ⟨ho, cf, by simp [T.get_set], hk⟩
        · rw [hk]; exact ⟨ho, by simp [T.get_set]⟩
      · rw [if_neg e]
        have := a g
        simp only [T.get_set, if_neg e]
        exact this
    · rw [T.get_set] at hg
      split at hg
      · rename_i e; subst e; cases hg; exact ⟨E, fn, h1, h2, hc⟩
      · exact b g cg hg
theorem TabOK.word (h : TabOK P ov t) {f : Nat} {o : Ov} (hf : f < 512) (ho : ov.get f = some o) : TabOK P ov (tblSet t f (.ov o)) := by
  obtain ⟨ft, a, b⟩ := h
  refine ⟨ft, fun g => ?_, b⟩
  rw [look_set t _ hf]
  by_cases e : g = f
  · subst e; rw [if_pos rfl]; exact ho
  · rw [if_neg e]; exact a g
theorem TabOK.more (h : TabOK P ov t) {f : Nat} {o : Ov} (hf : f < 512) : TabOK P (ov.set f o) (tblSet t f (.ov o)) := by
  obtain ⟨ft, a, b⟩ := h
  refine ⟨ft, fun g => ?_, b⟩
  rw [look_set t _ hf]
  by_cases e : g = f
  · subst e; rw [if_pos rfl]; simp [T.get_set]
  · rw [if_neg e]
    have := a g
    simp only [T.get_set, if_neg e]
    exact this
end
end Go.Ab
