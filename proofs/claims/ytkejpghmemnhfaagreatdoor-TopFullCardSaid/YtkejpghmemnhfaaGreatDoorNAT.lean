/- A part of the proof: AbKO, AbX1, AbX2. -/
import Derived.Test.YtkejpghmemnhfaaGreatDoorNAJ
import Derived.Test.YtkejpghmemnhfaaGreatDoorNAP
import Derived.Test.YtkejpghmemnhfaaGreatDoorNAS
import Derived.Test.YtkejpghmemnhfaaGreatDoorNAA
import Derived.Test.YtkejpghmemnhfaaGreatDoorNAE
import Derived.Laws.BitsLemmas
import Derived.Test.YtkejpghmemnhfaaGreatDoorNAL

set_option linter.unusedVariables false
set_option linter.unusedSimpArgs false

namespace Go.Ab
open Go.Proofs
def OvAll (P : Program) (t : T Ov) : Prop := ∀ (ρ : Nat → Int) f o, t.get f = some o → OvOK P ρ f o
theorem OvAll.leaf (P : Program) : OvAll P .leaf := fun ρ f o h => by rw [T.get_leaf] at h; cases h
theorem OvAll.set {P : Program} {t : T Ov} (h : OvAll P t) {f : Nat} {o : Ov} (h1 : ∀ ρ, OvOK P ρ f o) : OvAll P (t.set f o) := by
  intro ρ g og hg
  rw [T.get_set] at hg
  split at hg
  · rename_i e; subst e; cases hg; exact h1 ρ
  · exact h ρ g og hg
theorem name441 : (Tryz.f441.name == "runtime.NumGoroutine") = false := by kernel_rfl
theorem o441 (ρ : Nat → Int) : OvOK Tryz.prog ρ 441 ovIndexByteString := ovIndexByteString_ok Tryz.func441 (by kernel_rfl) rfl (by kernel_rfl) (by rfl)
theorem o419 (ρ : Nat → Int) : OvOK Tryz.prog ρ 419 ovCountString := ovCountString_ok Tryz.func419 (by kernel_rfl) rfl (by kernel_rfl) (by rfl)
theorem o185 (ρ : Nat → Int) : OvOK Tryz.prog ρ 185 ovNoEscape := ovNoEscape_ok Tryz.func185 (by kernel_rfl) rfl (by kernel_rfl) (by rfl)
theorem o398 (ρ : Nat → Int) : OvOK Tryz.prog ρ 398 (ovMakeNoZero 5) := ovMakeNoZero_ok Tryz.func398 (by kernel_rfl) rfl (by kernel_rfl) (by rfl) (by rfl) (by kernel_rfl)
theorem o311 (ρ : Nat → Int) : OvOK Tryz.prog ρ 311 ovMapsClone := ovMapsClone_ok Tryz.func311 (by kernel_rfl) rfl (by kernel_rfl) (by rfl)
theorem o52 (ρ : Nat → Int) : OvOK Tryz.prog ρ 52 (ovSortedInt [104, 183, 237] 3) := by
  refine ovSortedInt_ok fun f hf => ?_
  have h : f = 104 ∨ f = 183 ∨ f = 237 := by
    simp only [memN] at hf
    cases h1 : Nat.beq f 104 with
    | true => exact .inl (beq_true h1)
    | false =>
      cases h2 : Nat.beq f 183 with
      | true => exact .inr (.inl (beq_true h2))
      | false =>
        cases h3 : Nat.beq f 237 with
        | true => exact .inr (.inr (beq_true h3))
        | false => simp [h1, h2, h3] at hf
  rcases h with rfl | rfl | rfl
  · exact ⟨_, Tryz.keysC, rfl, rfl, fun args w => run_enter Tryz.func104 (by kernel_rfl) rfl args w⟩
  · exact ⟨_, Tryz.keysB, rfl, rfl, fun args w => run_enter Tryz.func183 (by kernel_rfl) rfl args w⟩
  · exact ⟨_, Tryz.keysD, rfl, rfl, fun args w => run_enter Tryz.func237 (by kernel_rfl) rfl args w⟩
noncomputable def ovT0 : T Ov := ((((((((T.leaf.set 441 ovIndexByteString).set 419 ovCountString).set 185 ovNoEscape).set 398 (ovMakeNoZero 5)).set 311 ovMapsClone).set 52 (ovSortedInt [104, 183, 237] 3)).set 68 ovClockRead).set 22 (ovUsed 1)).set 310 ovSee
theorem ovT0_all : OvAll Tryz.prog ovT0 := ((((((((OvAll.leaf _).set o441).set o419).set o185).set o398).set o311).set o52).set fun _ => ovClockRead_ok).set (fun _ => ovUsed_ok) |>.set fun _ => ovSee_ok
noncomputable def ovT : T Ov := (.node (.node (.node (.node (.node .leaf none (.node .leaf none (.node .leaf none (.node (.node .leaf (some (ovMakeNoZero 5)) .leaf) none .leaf)))) none (.node (.node (.node .leaf none (.node .leaf none (.node .leaf (some ovSee) .leaf))) none .leaf) (some (ovUsed 1)) .leaf)) none .leaf) none (.node (.node .leaf none (.node (.node .leaf (some (ovSortedInt [104, 183, 237] 3)) .leaf) none (.node .leaf none (.node .leaf (some ovClockRead) .leaf)))) none .leaf)) none (.node (.node .leaf none (.node (.node (.node (.node .leaf none (.node (.node .leaf (some ovIndexByteString) .leaf) (some ovNoEscape) .leaf)) none .leaf) none .leaf) none .leaf)) none (.node (.node .leaf none (.node .leaf none (.node (.node .leaf none (.node (.node .leaf (some ovCountString) .leaf) none .leaf)) none .leaf))) none (.node (.node (.node (.node .leaf none (.node .leaf none (.node .leaf (some ovMapsClone) .leaf))) none .leaf) none .leaf) none .leaf))))
theorem ovT_eq : ovT = ovT0 := by kernel_rfl
theorem EnvOK.of {P : Program} {ρ : Nat → Int} {G : Env} (hfn : ∀ f cf, G.fn.get f = some cf → FnP P f cf) (hov : ∀ f o, G.ov.get f = some o → OvOK P ρ f o) (ho : P.follows .mixedOrders = true) : EnvOK P ρ G := by
  refine ⟨fun f cf h => ?_, fun f o args st v st' h h' => (hov f o h).1 args st v st' h', fun f o args st v st' h h' => (hov f o h).2 args st v st' h', ho⟩
  obtain ⟨E, fn, h1, h2, h3⟩ := hfn f cf h
  exact ⟨E, fn, h1, by simpa using h2, h3⟩
theorem ovT_all (ρ : Nat → Int) : ∀ f o, ovT.get f = some o → OvOK Tryz.prog ρ f o := by
  have h : OvAll Tryz.prog ovT := by rw [ovT_eq]; exact ovT0_all
  exact h ρ
end Go.Ab

namespace Go.Ab
section
variable {P : Program} {ρ : Nat → Int} {R : Inj} {μ : Mv} {σ : List SE} {n : Nat} {w : World}
theorem SE.eqb_eq : ∀ {a b : SE}, SE.eqb a b = true → a = b := by
  intro a
  induction a with
  | lit a => intro b h; cases b <;> simp only [SE.eqb] at h <;> first | (cases h; done) | (rw [ieq_eq] at h; simp only [decide_eq_true_eq] at h; rw [h])
  | var i => intro b h; cases b <;> simp only [SE.eqb] at h <;> first | (cases h; done) | rw [beq_true h]
  | bin o k a b iha ihb =>
    intro c h
    cases c <;> simp only [SE.eqb] at h <;> try (cases h; done)
    simp only [Bool.and_eq_true, beq_iff_eq] at h
    obtain ⟨rfl, h2, h3, h4⟩ := h
    rw [keq_true h2, iha h3, ihb h4]
  | conv k a iha =>
    intro c h
    cases c <;> simp only [SE.eqb] at h <;> try (cases h; done)
    simp only [Bool.and_eq_true] at h
    rw [keq_true h.1, iha h.2]
theorem SB.eqb_eq : ∀ {a b : SB}, SB.eqb a b = true → a = b := by
  intro a
  induction a with
  | cmp o a b =>
    intro c h
    cases c <;> simp only [SB.eqb] at h <;> try (cases h; done)
    simp only [Bool.and_eq_true, beq_iff_eq] at h
    obtain ⟨rfl, h2, h3⟩ := h
    rw [SE.eqb_eq h2, SE.eqb_eq h3]
  | not a ih =>
    intro c h
    cases c <;> simp only [SB.eqb] at h <;> try (cases h; done)
    rw [ih h]
noncomputable def reρ (σ : List SE) (ρ : Nat → Int) : Nat → Int := fun i => (σ.getD i (.lit 0)).eval ρ
noncomputable def reR (μ : Mv) (n : Nat) (R : Inj) : Inj := fun id => if id < n then R (μ.at id) else none
theorem SE.eval_sub (e : SE) : (e.sub σ).eval ρ = e.eval (reρ σ ρ) := by
  induction e with
  | lit a => rfl
  | var i => rfl
  | bin o k a b iha ihb => simp only [SE.sub, SE.eval, iha, ihb]
  | conv k a iha => simp only [SE.sub, SE.eval, iha]
theorem SB.eval_sub (s : SB) : (s.sub σ).eval ρ = s.eval (reρ σ ρ) := by
  induction s with
  | cmp o a b => simp only [SB.sub, SB.eval, SE.eval_sub]
  | not a ih => simp only [SB.sub, SB.eval, ih]
theorem okId_R {i j : Nat} (h : okId μ n i j = true) {l : Loc} (hR : R j = some l) : reR μ n R i = some l := by
  simp only [okId, Bool.and_eq_true] at h
  have h1 := beq_true h.1
  have h2 := blt_true h.2
  simp only [reR, if_pos h2, h1, hR]
theorem okAll_VRs {f : AV → AV → Bool} {ρ' : Nat → Int} {R' : Inj} (hf : ∀ x y, f x y = true → ∀ cv, VR ρ R y cv → VR ρ' R' x cv) : ∀ {l m : List AV}, okAll f l m = true → ∀ {cs : List Value}, VRs ρ R m cs → VRs ρ' R' l cs := by
  intro l
  induction l with
  | nil =>
    intro m h cs hv
    cases m with
    | nil => cases hv; exact .nil
    | cons => cases h
  | cons x l ih =>
    intro m h cs hv
    cases m with
    | nil => cases h
    | cons y m =>
      simp only [okAll, Bool.and_eq_true] at h
      cases hv with
      | cons _ v _ vs h1 h2 => exact .cons _ _ _ _ (hf x y h.1 v h1) (ih h.2 h2)
theorem notAgg_one {y : AV} {cv : Value} (h : notAgg y = true) (hv : VR ρ R y cv) : cv.cells = #[cv] := by
  cases hv <;> first | rfl | assumption | cases h
theorem okV_VR : ∀ f x y, okV μ σ n f x y = true → ∀ cv, VR ρ R y cv → VR (reρ σ ρ) (reR μ n R) x cv := by
  intro f
  induction f with
  | zero => intro x y h; cases h
  | succ f ih =>
    intro x y h cv hv
    unfold okV at h
    cases x with
    | any => exact .any cv (notAgg_one h hv)
    | bool b =>
      simp only at h; split at h
      · rw [beq_iff_eq] at h; subst h; cases hv; exact .bool _
      · cases h
    | sbool s =>
      simp only at h; split at h
      · have h2 := SB.eqb_eq h
        cases hv with
        | sbool _ b hb => exact .sbool _ _ (by rw [← SB.eval_sub, h2]; exact hb)
      · cases h
    | int k a =>
      simp only at h; split at h
      · simp only [Bool.and_eq_true] at h
        rw [keq_true h.1]
        have := h.2; rw [ieq_eq] at this; simp only [decide_eq_true_eq] at this
        subst this; cases hv; exact .int _ _
      · cases h
    | sint k e =>
      simp only at h; split at h
      · simp only [Bool.and_eq_true] at h
        rw [keq_true h.1]
        have h2 := SE.eqb_eq h.2
        cases hv with
        | sint _ _ m hm => exact .sint _ _ _ (by rw [← SE.eval_sub, h2]; exact hm)
      · simp only [Bool.and_eq_true] at h
        rw [keq_true h.1]
        have h2 := SE.eqb_eq h.2
        cases hv with
        | int _ m => exact .sint _ _ _ (by rw [← SE.eval_sub, h2]; rfl)
      · cases h
    | str a b =>
      simp only at h; split at h
      · simp only [Bool.and_eq_true] at h
        rw [beq_true h.1, beq_true h.2]
        cases hv with
        | str _ _ s hs hb => exact .str _ _ s hs hb
      · cases h
    | nilptr => simp only at h; split at h <;> first | (cases hv; exact .nilptr) | cases h
    | ptr i o =>
      simp only at h; split at h
      · simp only [Bool.and_eq_true] at h
        rw [beq_true h.2]
        cases hv with
        | ptr _ _ l hR => exact .ptr _ _ l (okId_R h.1 hR)
      · cases h
    | nilslice => simp only at h; split at h <;> first | (cases hv; exact .nilslice) | cases h
    | slice i o l c ex z =>
      simp only at h; split at h
      · simp only [Bool.and_eq_true, beq_iff_eq] at h
        obtain ⟨h1, h2, h3, h4, h5, h6⟩ := h
        rw [beq_true h2, beq_true h3, beq_true h4, h5, beq_true h6]
        cases hv with
        | slice _ _ _ _ _ _ l a C h ha hl hc hx hr => exact .slice _ _ _ _ _ _ l a C (okId_R h1 h) ha hl hc hx hr
      · cases h
    | nilmap => simp only at h; split at h <;> first | (cases hv; exact .nilmap) | cases h
    | map i =>
      simp only at h; split at h
      · cases hv with
        | map _ l hR => exact .map _ l (okId_R h hR)
      · cases h
    | func g a b =>
      cases g with
      | yield => cases h
      | func g =>
        simp only at h; split at h
        · simp only [Bool.and_eq_true] at h
          rw [beq_true h.1]
          cases hv with
          | func _ _ _ fs cs h1 h2 => exact .func _ _ _ fs cs (okAll_VRs ih h.2.1 h1) (okAll_VRs ih h.2.2 h2)
        · cases h
    | nilFunc => simp only at h; split at h <;> first | (cases hv; exact .nilFunc) | cases h
    | iface t v =>
      simp only at h; split at h
      · simp only [Bool.and_eq_true] at h
        rw [beq_true h.1]
        cases hv with
        | iface _ _ v hv => exact .iface _ _ v (ih _ _ h.2 _ hv)
      · cases h
    | nilIface => simp only at h; split at h <;> first | (cases hv; exact .nilIface) | cases h
    | agg l =>
      simp only at h; split at h
      · cases hv with
        | agg _ cs hs => exact .agg _ cs (okAll_VRs ih h hs)
      · cases h
    | tuple l =>
      simp only at h; split at h
      · cases hv with
        | tuple _ cs hs => exact .tuple _ cs (okAll_VRs ih h hs)
      · cases h
theorem okEs_ERs {f : AV → AV → Bool} {ρ' : Nat → Int} {R' : Inj} (hf : ∀ x y, f x y = true → ∀ cv, VR ρ R y cv → VR ρ' R' x cv) : ∀ {l m : List (AV × AV × Nat)}, okEs f l m = true → ∀ {cs : List MapEntry}, ERs ρ R m cs → ERs ρ' R' l cs := by
  intro l
  induction l with
  | nil =>
    intro m h cs hv
    cases m with
    | nil => cases hv; exact .nil
    | cons => cases h
  | cons x l ih =>
    intro m h cs hv
    obtain ⟨k, v, b⟩ := x
    cases m with
    | nil => cases h
    | cons y m =>
      obtain ⟨k', v', b'⟩ := y
      simp only [okEs, Bool.and_eq_true] at h
      obtain ⟨h1, h2, h3, h4⟩ := h
      cases hv with
      | cons _ e _ es he hes =>
        cases he with
        | mk _ _ _ ck cv hk hv =>
          rw [beq_true h3]
          exact .cons _ _ _ _ (.mk _ _ _ _ _ (hf _ _ h1 _ hk) (hf _ _ h2 _ hv)) (ih h4 hes)
theorem okT_get {α : Type} {f : α → α → Bool} : ∀ {t t' : T α}, okT f t t' = true → ∀ {i : Nat} {x : α}, t.get i = some x → ∃ y, t'.get i = some y ∧ f x y = true := by
  intro t
  induction t with
  | leaf => intro t' _ i x h; rw [T.get_leaf] at h; cases h
  | node l o r ihl ihr =>
    intro t' h i x hg
    cases t' with
    | leaf =>
      simp only [okT, Bool.and_eq_true] at h
      obtain ⟨h1, h2, h3⟩ := h
      cases i with
      | zero => rw [T.get_zero] at hg; subst hg; cases h1
      | succ k =>
        rw [T.get_succ] at hg
        split at hg
        · obtain ⟨y, hy, _⟩ := ihr h3 hg; rw [T.get_leaf] at hy; cases hy
        · obtain ⟨y, hy, _⟩ := ihl h2 hg; rw [T.get_leaf] at hy; cases hy
    | node l' o' r' =>
      simp only [okT, Bool.and_eq_true] at h
      obtain ⟨h1, h2, h3⟩ := h
      cases i with
      | zero =>
        rw [T.get_zero] at hg; subst hg
        cases o' with
        | none => cases h1
        | some y => exact ⟨y, T.get_zero .., h1⟩
      | succ k =>
        rw [T.get_succ] at hg ⊢
        split at hg
        · rw [if_pos (by assumption)]; exact ihr h3 hg
        · rw [if_neg (by assumption)]; exact ihl h2 hg
theorem okO_OR {f : AV → AV → Bool} {ρ' : Nat → Int} {R' : Inj} (hf : ∀ x y, f x y = true → ∀ cv, VR ρ R y cv → VR ρ' R' x cv) {o o' : AObj} (h : okO f o o' = true) {l : Loc} {x : Obj} (hx : OR P ρ R o' l x) : OR P ρ' R' o l x := by
  cases o with
  | cells e cs fz =>
    cases o' with
    | cells e' cs' fz' =>
      simp only [okO, Bool.and_eq_true] at h
      obtain ⟨h1, h2, h3⟩ := h
      cases hx with
      | cells _ _ _ _ c el fr hc =>
        refine .cells _ _ _ _ _ _ _ ⟨?_, hc.size, ?_, ?_⟩
        · intro a ha
          subst ha
          simp only at h1
          split at h1
          · rename_i b
            rw [beq_true h1, beq_true h2]; exact hc.elem b rfl
          · cases h1
        · intro i v hv
          obtain ⟨y, hy, hfy⟩ := okT_get h3 hv
          obtain ⟨cv, a, b⟩ := hc.rel i y hy
          exact ⟨cv, a, hf _ _ hfy _ b⟩
        · rw [beq_true h2]; exact hc.free
    | _ => cases h
  | map es c =>
    cases o' with
    | map es' c' =>
      simp only [okO, Bool.and_eq_true] at h
      cases hx with
      | map _ _ _ ces hes => rw [beq_true h.1]; exact .map _ _ _ _ (okEs_ERs hf h.2 hes)
    | _ => cases h
  | _ => cases h
theorem below_get {α : Type} : ∀ {t : T α} {b s : Nat}, below n t b s = true → ∀ {i : Nat} {x : α}, t.get i = some x → b + s * i < n := by
  intro t
  induction t with
  | leaf => intro b s _ i x h; rw [T.get_leaf] at h; cases h
  | node l o r ihl ihr =>
    intro b s h i x hg
    simp only [below, Bool.and_eq_true] at h
    obtain ⟨h1, h2, h3⟩ := h
    cases i with
    | zero => rw [T.get_zero] at hg; subst hg; have := blt_true h1; simpa using this
    | succ k =>
      rw [T.get_succ] at hg
      split at hg
      · rename_i hk
        have := ihr h3 hg
        have e : (s + s) * (k / 2) = s * k := by
          have : k = 2 * (k / 2) := by omega
          calc (s + s) * (k / 2) = s * (2 * (k / 2)) := by rw [← Nat.two_mul, Nat.mul_comm 2 s, Nat.mul_assoc]
            _ = s * k := by rw [← this]
        rw [Nat.mul_succ]; omega
      · rename_i hk
        have := ihl h2 hg
        have e : (s + s) * (k / 2) + s = s * k := by
          have h5 : k = 2 * (k / 2) + 1 := by omega
          calc (s + s) * (k / 2) + s = s * (2 * (k / 2) + 1) := by rw [← Nat.two_mul, Nat.mul_comm 2 s, Nat.mul_assoc, Nat.mul_add, Nat.mul_one]
            _ = s * k := by rw [← h5]
        rw [Nat.mul_succ]; omega
theorem moved_get : ∀ {l : Mv} {h : T AObj} {i : Nat} {o : AObj}, (moved h l).get i = some o → h.get (Mv.at l i) = some o := by
  intro l
  induction l with
  | nil => intro h i o hg; exact hg
  | cons x l ih =>
    obtain ⟨j, k⟩ := x
    intro h i o hg
    simp only [moved] at hg
    cases hk : h.get k with
    | none => rw [hk] at hg; simp only [T.get_leaf] at hg; cases hg
    | some p =>
      rw [hk] at hg
      simp only [T.get_set] at hg
      simp only [Mv.at]
      by_cases e : i = j
      · subst e
        rw [if_pos rfl] at hg
        rw [show Nat.beq i i = true from Nat.beq_refl i]
        simp only; rw [hk]; exact hg
      · rw [if_neg e] at hg
        cases hb : Nat.beq i j with
        | true => exact absurd (beq_true hb) e
        | false => simp only; exact ih hg
theorem hasKey_iff : ∀ {l : Mv} {k : Nat}, hasKey l k = true → ∃ v, (k, v) ∈ l ∧ Mv.at l k = v := by
  intro l
  induction l with
  | nil => intro k h; cases h
  | cons x l ih =>
    obtain ⟨j, v⟩ := x
    intro k h
    simp only [hasKey] at h
    simp only [Mv.at]
    cases hb : Nat.beq k j with
    | true => exact ⟨v, by rw [beq_true hb]; exact List.mem_cons_self, rfl⟩
    | false =>
      rw [hb] at h
      obtain ⟨u, h1, h2⟩ := ih h
      exact ⟨u, List.mem_cons_of_mem _ h1, h2⟩
theorem hasVal_of_mem : ∀ {l : Mv} {j k : Nat}, (j, k) ∈ l → hasVal l k = true := by
  intro l
  induction l with
  | nil => intro j k h; cases h
  | cons x l ih =>
    obtain ⟨a, b⟩ := x
    intro j k h
    simp only [hasVal]
    cases hb : Nat.beq k b with
    | true => rfl
    | false =>
      rcases List.mem_cons.1 h with e | h
      · exact absurd (by cases e; rfl) (beq_false' hb)
      · exact ih h
theorem nodupV_inj : ∀ {l : Mv}, nodupV l = true → ∀ {i j k : Nat}, (i, k) ∈ l → (j, k) ∈ l → i = j := by
  intro l
  induction l with
  | nil => intro _ i j k h; cases h
  | cons x l ih =>
    obtain ⟨a, b⟩ := x
    intro h i j k hi hj
    simp only [nodupV, Bool.and_eq_true, Bool.not_eq_true'] at h
    rcases List.mem_cons.1 hi with e | hi' <;> rcases List.mem_cons.1 hj with e' | hj'
    · cases e; cases e'; rfl
    · cases e; rw [hasVal_of_mem hj'] at h; cases h.1
    · cases e'; rw [hasVal_of_mem hi'] at h; cases h.1
    · exact ih h.2 hi' hj'
theorem at_or : ∀ (l : Mv) (i : Nat), (hasKey l i = true ∧ (i, Mv.at l i) ∈ l) ∨ (hasKey l i = false ∧ Mv.at l i = i) := by
  intro l
  induction l with
  | nil => intro i; exact .inr ⟨rfl, rfl⟩
  | cons x l ih =>
    obtain ⟨a, b⟩ := x
    intro i
    simp only [hasKey, Mv.at]
    cases hb : Nat.beq i a with
    | true => exact .inl ⟨rfl, by rw [beq_true hb]; exact List.mem_cons_self⟩
    | false =>
      rcases ih i with ⟨h1, h2⟩ | ⟨h1, h2⟩
      · exact .inl ⟨h1, List.mem_cons_of_mem _ h2⟩
      · exact .inr ⟨h1, h2⟩
theorem okMv_mem {h' : T AObj} : ∀ {l : Mv}, okMv μ h' n l = true → ∀ {j k : Nat}, (j, k) ∈ l → 100 ≤ j ∧ 100 ≤ k ∧ (hasKey μ k = true ∨ h'.get k = none) := by
  intro l
  induction l with
  | nil => intro _ j k h; cases h
  | cons x l ih =>
    obtain ⟨a, b⟩ := x
    intro h j k hj
    simp only [okMv, Bool.and_eq_true, Bool.or_eq_true] at h
    rcases List.mem_cons.1 hj with e | hj
    · cases e
      refine ⟨ble_true h.1, ble_true h.2.1, h.2.2.1.imp id fun hn => ?_⟩
      unfold noneAt at hn
      split at hn
      · assumption
      · cases hn
    · exact ih h.2.2.2 hj
theorem canon {h h' : T AObj} (hc : canonOK μ σ n h' h = true) (iv : Inv P ρ R h w) (gl : Glob R) {sc : List Bool} {low : Nat} {tr : List (SB × Bool)} :
    InvW P (reρ σ ρ) (reR μ n R) ⟨h', n, low, sc, tr⟩ w ∧ Glob (reR μ n R) ∧ (∀ n', Fresh (reR μ n R) n n') ∧ ∀ id o' l, 100 ≤ id → h'.get id = some o' → reR μ n R id = some l → ∃ id' o, 100 ≤ id' ∧ h.get id' = some o ∧ R id' = some l := by
  simp only [canonOK, Bool.and_eq_true] at hc
  obtain ⟨h100, hnd, hmv, hbl, hok⟩ := hc
  have h100 := ble_true h100
  have src : ∀ {id o'}, h'.get id = some o' → id < n ∧ ∃ o, h.get (μ.at id) = some o ∧ okO (okV μ σ n 20) o' o = true := by
    intro id o' hg
    obtain ⟨o, ho, hok'⟩ := okT_get hok hg
    exact ⟨by simpa using below_get hbl hg, o, moved_get ho, hok'⟩
  refine ⟨⟨⟨fun id o' hg => ?_, fun i j o o' l l' hi hj hl hl' hb => ?_⟩, fun id hid => ?_⟩, fun g hg => ?_, fun n' id h1 _ => ?_, fun id o' l hid hg hl => ?_⟩
  · obtain ⟨hn, o, ho, hk⟩ := src hg
    obtain ⟨l, x, hl, hx, hor⟩ := iv.live _ _ ho
    exact ⟨l, x, by simp only [reR, if_pos hn]; exact hl, hx, okO_OR (okV_VR 20) hk hor⟩
  · obtain ⟨hn1, o1, ho1, _⟩ := src hi
    obtain ⟨hn2, o2, ho2, _⟩ := src hj
    simp only [reR, if_pos hn1, if_pos hn2] at hl hl'
    have e := iv.inj _ _ _ _ _ _ ho1 ho2 hl hl' hb
    rcases at_or μ i with ⟨k1, m1⟩ | ⟨k1, m1⟩ <;> rcases at_or μ j with ⟨k2, m2⟩ | ⟨k2, m2⟩
    · rw [e] at m1; exact nodupV_inj hnd m1 m2
    · exfalso
      rw [m2] at e
      rw [e] at m1
      rcases (okMv_mem hmv m1).2.2 with h3 | h3
      · rw [k2] at h3; cases h3
      · rw [hj] at h3; cases h3
    · exfalso
      rw [m1] at e
      rw [← e] at m2
      rcases (okMv_mem hmv m2).2.2 with h3 | h3
      · rw [k1] at h3; cases h3
      · rw [hi] at h3; cases h3
    · rw [m1, m2] at e; exact e
  · cases hg : h'.get id with
    | none => rfl
    | some o => have := (src hg).1; exact absurd hid (by simp only; omega)
  · obtain ⟨r, hr⟩ := gl g hg
    refine ⟨r, ?_⟩
    simp only [reR]
    rw [if_pos (by omega)]
    rcases at_or μ g with ⟨k1, m1⟩ | ⟨k1, m1⟩
    · have := (okMv_mem hmv m1).1; omega
    · rw [m1]; exact hr
  · simp only [reR]; rw [if_neg (by omega)]
  · obtain ⟨hn, o, ho, _⟩ := src hg
    simp only [reR, if_pos hn] at hl
    refine ⟨_, o, ?_, ho, hl⟩
    rcases at_or μ id with ⟨k1, m1⟩ | ⟨k1, m1⟩
    · exact (okMv_mem hmv m1).2.1
    · rw [m1]; exact hid
theorem allT_get {α : Type} {f : α → Bool} : ∀ {t : T α}, allT f t = true → ∀ {i : Nat} {x : α}, t.get i = some x → f x = true := by
  intro t
  induction t with
  | leaf => intro _ i x h; rw [T.get_leaf] at h; cases h
  | node l o r ihl ihr =>
    intro h i x hg
    simp only [allT, Bool.and_eq_true] at h
    cases i with
    | zero => rw [T.get_zero] at hg; subst hg; exact h.1
    | succ k =>
      rw [T.get_succ] at hg
      split at hg
      · exact ihr h.2.2 hg
      · exact ihl h.2.1 hg
theorem okTm_get {f : AV → AV → Bool} : ∀ {t t' : T AV}, okTm f t t' = true → ∀ (i : Nat),
    ((t.get i = none ∨ t.get i = some .any) ∧ (∀ y, t'.get i = some y → notAgg y = true ∨ f .any y = true)) ∨ ∃ x y, t.get i = some x ∧ t'.get i = some y ∧ f x y = true := by
  intro t
  induction t with
  | leaf => intro t' h i; exact .inl ⟨.inl (T.get_leaf _), fun y hy => .inl (allT_get h hy)⟩
  | node l o r ihl ihr =>
    intro t' h i
    cases t' with
    | leaf =>
      simp only [okTm, Bool.and_eq_true] at h
      obtain ⟨h1, h2, h3⟩ := h
      refine .inl ⟨?_, fun y hy => by rw [T.get_leaf] at hy; cases hy⟩
      cases i with
      | zero =>
        rw [T.get_zero]
        cases o with
        | none => exact .inl rfl
        | some x => cases x <;> first | exact .inr rfl | cases h1
      | succ k =>
        rw [T.get_succ]
        split
        · rcases ihr h3 (k / 2) with ⟨a, _⟩ | ⟨x, y, _, hy, _⟩
          · exact a
          · rw [T.get_leaf] at hy; cases hy
        · rcases ihl h2 (k / 2) with ⟨a, _⟩ | ⟨x, y, _, hy, _⟩
          · exact a
          · rw [T.get_leaf] at hy; cases hy
    | node l' o' r' =>
      simp only [okTm, Bool.and_eq_true] at h
      obtain ⟨h1, h2, h3⟩ := h
      cases i with
      | zero =>
        simp only [T.get_zero]
        cases o' with
        | none =>
          refine .inl ⟨?_, fun y hy => by cases hy⟩
          cases o with
          | none => exact .inl rfl
          | some x => cases x <;> first | exact .inr rfl | cases h1
        | some y =>
          cases o with
          | none => exact .inl ⟨.inl rfl, fun z hz => by cases hz; exact .inl h1⟩
          | some x => exact .inr ⟨x, y, rfl, rfl, h1⟩
      | succ k =>
        simp only [T.get_succ]
        split
        · exact ihr h3 _
        · exact ihl h2 _
theorem canonTm {E : T Unit} {N : Nat} {tm tm' : T AV} {tmps : Array Value} (h : okTm (okV μ σ n 20) tm' tm = true) (t : TR ρ R E N tm tmps) : TR (reρ σ ρ) (reR μ n R) E N tm' tmps := by
  refine ⟨t.size, fun i hi => ?_⟩
  have hr := t.rel i hi
  rw [evA_t] at hr ⊢
  have any : ∀ cv, (∀ y, tm.get i = some y → notAgg y = true ∨ okV μ σ n 20 .any y = true) → VR ρ R ((tm.get i).getD .any) cv → VR (reρ σ ρ) (reR μ n R) .any cv := by
    intro cv hy hv
    cases hg : tm.get i with
    | none => rw [hg] at hv; exact .any _ (notAgg_one rfl hv)
    | some y =>
      rw [hg] at hv
      rcases hy y hg with h1 | h1
      · exact .any _ (notAgg_one h1 hv)
      · exact okV_VR 20 _ _ h1 _ hv
  rcases okTm_get h i with ⟨h1, h2⟩ | ⟨x, y, hx, hy, hf⟩
  · have := any _ h2 hr
    rcases h1 with h1 | h1 <;> rw [h1] <;> exact this
  · rw [hx]
    rw [hy] at hr
    exact okV_VR 20 _ _ hf _ hr
end
end Go.Ab

namespace Go.Ab
section
variable {P : Program} {ρ : Nat → Int} {R : Inj} {μ : Mv} {σ : List SE} {n n' : Nat} {w0 w : World} {h h' : T AObj} {tm tm' : T AV} {a : Act} {E : T Unit} {N : Nat}
structure At (P : Program) (ρ : Nat → Int) (E : T Unit) (N : Nat) (w0 : World) (R : Inj) (h : T AObj) (n : Nat) (tm : T AV) (a : Act) (w : World) : Prop where
  tr : TR ρ R E N tm a.tmps
  defers : a.defers = []
  glob : Glob R
  inv : InvW P ρ R ⟨h, n, 100, [], []⟩ w
  fresh : ∀ n', Fresh R n n'
  grew : Grew w0 w
  above : ∀ id o l, 100 ≤ id → h.get id = some o → R id = some l → w0.heap.size ≤ l.b
theorem condsOK_mem {f : SB → Bool → Bool} : ∀ {tr : List (SB × Bool)}, condsOK f tr = true → ∀ p ∈ tr, f p.1 p.2 = true := by
  intro tr
  induction tr with
  | nil => intro _ p hp; cases hp
  | cons x l ih =>
    intro h p hp
    obtain ⟨s, b⟩ := x
    simp only [condsOK, Bool.and_eq_true] at h
    rcases List.mem_cons.1 hp with rfl | hp
    · exact h.1
    · exact ih h.2 p hp
theorem pieceOK_out {f : SB → Bool → Bool} {ex : Ex} {r : Res} (h : pieceOK f μ σ n' h' tm' ex r = true) : ∃ tm1 st1, r = .ok ex tm1 [] st1 ∧ condsOK f st1.tr = true ∧ 100 ≤ st1.low ∧ canonOK μ σ n' h' st1.heap = true ∧ okTm (okV μ σ n' 20) tm' tm1 = true := by
  cases r with
  | bad => cases h
  | ok ex' tm1 mk st1 =>
    simp only [pieceOK, Bool.and_eq_true, beq_iff_eq] at h
    obtain ⟨h1, rfl, h3, h4, h5, h6⟩ := h
    cases mk with
    | cons => cases h1
    | nil => exact ⟨tm1, st1, rfl, h3, ble_true h4, h5, h6⟩
theorem At.piece {G : Env} (OK : ∀ ρ, EnvOK P ρ G) {f : SB → Bool → Bool} {fuel : Nat} {sc : List Bool} {ex : Ex} {c : Code} {cc : CCode} (hcc : cCode P E N c = cc)
    (hchk : pieceOK f μ σ n' h' tm' ex (ev G fuel false cc tm [] ⟨h, n, 100, sc, []⟩) = true) (A : At P ρ E N w0 R h n tm a w) (hcond : ∀ s b, f s b = true → s.eval ρ = b) {Q : Exit → Act → World → Prop}
    (hQ : ∀ a' w' R', At P (reρ σ ρ) E N w0 R' h' n' tm' a' w' → Q (exOf ex) a' w') : c.wpIn Fence.wide 0 P Q a w := by
  obtain ⟨tm1, st1, hev, hc1, hlow, hcan, htm⟩ := pieceOK_out hchk
  have iv : InvW P ρ R ⟨h, n, 100, sc, []⟩ w := ⟨A.inv.inv, A.inv.wf⟩
  have hmono : Mono ⟨h, n, 100, sc, []⟩ st1 := (code_sound (OK ρ) fuel).2 _ _ _ _ _ _ _ _ _ hev
  refine (code_sound (OK ρ) fuel).1 E N none c tm [] ⟨h, n, 100, sc, []⟩ ex tm1 [] st1 (by rw [hcc]; exact hev) R a w A.tr (by rw [A.defers]; exact .nil) A.glob iv (A.fresh _) (fun p hp => hcond _ _ (condsOK_mem hc1 p hp)) Q ?_
  intro a' w' R' ht hm hs
  have hd : a'.defers = [] := by generalize a'.defers = ds at hm; cases hm; rfl
  have hext : Ext R R' := hs.mono (A.fresh _)
  have gl' : Glob R' := A.glob.mono hext
  obtain ⟨hi, hg, hf, hab⟩ := canon (sc := []) (low := 100) (tr := []) hcan hs.inv gl'
  have chg : ∀ b, Chg R h st1.low w b → w0.heap.size ≤ b := by
    rintro b (hb | ⟨id, o, l, hid, ho, hl, rfl⟩)
    · exact Nat.le_trans A.grew.size hb
    · exact A.above id o l (by omega) ho hl
  have hgr : Grew w0 w' := ⟨Nat.le_trans A.grew.size hs.size, fun b hb => by
    rw [hs.keep b (fun c => by have := chg b c; omega)]; exact A.grew.keep b hb, hs.tape.trans A.grew.tape, hs.os.trans A.grew.os, hs.out.trans A.grew.out⟩
  refine hQ a' w' _ ⟨canonTm htm ht, hd, hg, hi, hf, hgr, fun id o' l hid hgo hl => ?_⟩
  obtain ⟨id', o, hid', ho, hl'⟩ := hab id o' l hid hgo hl
  rcases hs.news id' o l ho hl' with ⟨o0, h0, r0⟩ | c
  · exact A.above id' o0 l hid' h0 r0
  · exact chg _ c
theorem condR_sound (h0 : 0 ≤ ρ 0) (h1 : ρ 0 ≤ 40) (h2 : 1 ≤ ρ 1) (h3 : ρ 1 ≤ 1048576) (s : SB) (b : Bool) (h : condR s b = true) : s.eval ρ = b := by
  simp only [condR, Bool.and_eq_true, Bool.or_eq_true, Bool.not_eq_true'] at h
  obtain ⟨rfl, h | h | h | h⟩ := h <;> rw [SB.eqb_eq h] <;> simp only [SB.eval, SE.eval, cmpI, cGt, cLt, ilt_eq, Option.getD_some, decide_eq_false_iff_not] <;> omega
theorem condL_sound {l : List (SB × Bool)} (hl : ∀ p ∈ l, p.1.eval ρ = p.2) (s : SB) (b : Bool) (h : condL l s b = true) : s.eval ρ = b := by
  induction l with
  | nil => cases h
  | cons x l ih =>
    obtain ⟨r, c⟩ := x
    simp only [condL, Bool.or_eq_true, Bool.and_eq_true, beq_iff_eq] at h
    rcases h with ⟨h1, rfl⟩ | h
    · rw [SB.eqb_eq h1]; exact hl (r, b) List.mem_cons_self
    · exact ih (fun p hp => hl p (List.mem_cons_of_mem _ hp)) h
theorem condOK_sound {lo hi : Int} (h0 : ρ 2 < ρ 0) (h1 : lo ≤ ρ 1) (h2 : ρ 1 ≤ hi) (h3 : 1 ≤ lo) (h4 : hi ≤ 1048576) (s : SB) (b : Bool) (h : condOK lo hi s b = true) : s.eval ρ = b := by
  cases s with
  | not s => cases h
  | cmp op x y =>
    unfold condOK at h
    cases op <;> simp only at h <;> try (cases h; done)
    · split at h
      · subst h
        simp only [SB.eval, SE.eval, cmpI, cLt, ilt_eq, Option.getD_some, decide_eq_true_eq]; exact h0
      · cases h
    · split at h
      · rename_i a
        simp only [SB.eval, SE.eval, cmpI, cGt, ilt_eq, Option.getD_some]
        cases b
        · simp only [ilt_eq, Bool.not_eq_true', decide_eq_false_iff_not] at h ⊢; omega
        · simp only [ilt_eq, decide_eq_true_eq] at h ⊢; omega
      · rename_i a op k u
        simp only [Bool.and_eq_true, beq_iff_eq, Bool.not_eq_true', ilt_eq, decide_eq_true_eq, decide_eq_false_iff_not] at h
        obtain ⟨rfl, hk, hu0, hu1, hb⟩ := h
        rw [keq_true hk]
        simp only [SB.eval, SE.eval, cmpI, cGt, binI, ilt_eq, Option.getD_some]
        have hw : IntKind.i64.wrap (ρ 1 - u) = ρ 1 - u := by
          have e := IntKind.wrap_i64 (ρ 1 - u)
          rw [e]; omega
        rw [hw]
        have hadd : Int.add a u = a + u := rfl
        cases b
        · simp only [Bool.not_eq_true', decide_eq_false_iff_not, hadd] at hb ⊢; omega
        · simp only [decide_eq_true_eq, hadd] at hb ⊢; omega
      · cases h
end
end Go.Ab
