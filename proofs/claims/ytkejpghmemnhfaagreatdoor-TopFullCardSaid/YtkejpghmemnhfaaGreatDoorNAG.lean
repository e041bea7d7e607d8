/- A part of the proof: AbG4. -/
import Derived.Test.YtkejpghmemnhfaaGreatDoorNAF

set_option linter.unusedVariables false
set_option linter.unusedSimpArgs false

namespace Go.Ab
def SubC (c d : CallV) : Prop := ∀ fn args st r, c fn args st = .ok r → d fn args st = .ok r
theorem wantK_of {g : Option (CA × Bool)} {tm : T AV} {st : St} {b : Bool} {st1 : St} (h : (wantK g tm st fun b st => Except.ok (b, st)) = .ok (b, st1)) {β : Type} (K : Bool → St → M β) : wantK g tm st K = K b st1 := by
  cases g with
  | none => simp only [wantK, Except.ok.injEq, Prod.mk.injEq] at h ⊢; obtain ⟨rfl, rfl⟩ := h; rfl
  | some g =>
    obtain ⟨x, w⟩ := g
    simp only [wantK, evAK_eq] at h ⊢
    generalize evA tm x = v at h
    cases v
    case sbool s =>
      obtain ⟨hp, n, lo, sc, tr⟩ := st
      cases sc with
      | nil => cases h
      | cons d sc =>
        simp only [wantV, decK, Except.ok.injEq, Prod.mk.injEq] at h ⊢
        obtain ⟨rfl, rfl⟩ := h
        rfl
    case any => cases h
    all_goals
      simp only [wantV, Except.ok.injEq, Prod.mk.injEq] at h ⊢
      obtain ⟨rfl, rfl⟩ := h
      rfl
section
variable {c d : CallV}
theorem evOp_sub (h : SubC c d) {o : CO} {tm : T AV} {st : St} {r : AV × St} (e : evOp o tm st c = .ok r) : evOp o tm st d = .ok r := by
  cases o
  case call f args => simp only [evOp, opCall, evAsK_eq] at e ⊢; exact h _ _ _ _ e
  case callV f args =>
    simp only [evOp, opCallV, evAK_eq, evAsK_eq] at e ⊢
    split at e
    · exact h _ _ _ _ e
    · cases e
  all_goals exact e
theorem evOps_sub (h : SubC c d) : ∀ (l : List COper) (tm : T AV) (st : St) (r : T AV × St), evOps c l tm st = .ok r → evOps d l tm st = .ok r := by
  intro l
  induction l with
  | nil => intro tm st r e; exact e
  | cons o l ih =>
    intro tm st r e
    rw [evOps_cons] at e ⊢
    obtain ⟨dst, op, g, anc⟩ := o
    simp only [evOps1] at e ⊢
    obtain ⟨b, st1, hw, hk⟩ := wantK_split e
    rw [wantK_of hw]
    cases b with
    | false => simp only [putK_eq] at hk ⊢; exact ih _ _ _ hk
    | true =>
      simp only at hk ⊢
      split at hk
      · rename_i v s1 he
        rw [evOp_sub h he]
        simp only [putK_eq] at hk ⊢
        exact ih _ _ _ hk
      · cases hk
theorem evMany_sub (h : SubC c d) {i : Nat} {o : COper} {s : DR} {r : AV × DR} (e : evMany c i o s = .ok r) : evMany d i o s = .ok r := by
  unfold evMany at e ⊢
  split at e
  · cases e
  · rename_i v st he
    rw [evOp_sub h he]
    exact e
theorem evDrawOp_sub (h : SubC c d) {i : Nat} {o : COper} {s : DR} {r : AV × DR} (e : evDrawOp c i o s = .ok r) : evDrawOp d i o s = .ok r := by
  unfold evDrawOp at e ⊢
  split at e
  · unfold evPureR at e ⊢
    split at e
    · cases e
    · rename_i he
      simp only [evOp_sub h he]
      exact e
  · unfold evAlloc at e ⊢
    split at e
    · cases e
    · rename_i he
      simp only [evOp_sub h he]
      exact e
  · split at e
    · unfold evLoadR at e ⊢
      split at e
      · exact e
      · exact evMany_sub h e
    · exact evMany_sub h e
theorem evDraw_sub (h : SubC c d) : ∀ (l : List COper) (i : Nat) (s r : DR), evDraw c l i s = .ok r → evDraw d l i s = .ok r := by
  intro l
  induction l with
  | nil => intro i s r e; exact e
  | cons o l ih =>
    intro i s r e
    simp only [evDraw] at e ⊢
    obtain ⟨b, st1, hw, hk⟩ := wantK_split e
    rw [wantK_of hw]
    cases b with
    | false => simp only [putK_eq] at hk ⊢; exact ih _ _ _ hk
    | true =>
      simp only at hk ⊢
      split at hk
      · rename_i v s1 he
        rw [evDrawOp_sub h he]
        simp only [putK_eq] at hk ⊢
        exact ih _ _ _ hk
      · cases hk
theorem evDrawAll_sub (h : SubC c d) {l : List COper} {tm : T AV} {st : St} {r : T AV × St} (e : evDrawAll c l tm st = .ok r) : evDrawAll d l tm st = .ok r := by
  obtain ⟨hp, n, lo, sc, tr⟩ := st
  simp only [evDrawAll] at e ⊢
  split at e
  · cases e
  · rename_i s he
    rw [evDraw_sub h _ _ _ _ he]
    exact e
end
section
variable {f f' : Fr} {tm : T AV} {st st' : St} {ex : Ex}
noncomputable def putF (f : Fr) (d : Option Nat) (v : AV) : Fr := match d with
  | some d => put f d v
  | none => f
theorem kDst_eq {d : Option Nat} (v : AV) (K : Fr → KRes) : kDst d f v K = K (putF f d v) := by
  cases d with
  | none => rfl
  | some d => exact dR_eq d f v K
theorem kDstO_eq {d : Option Nat} (v : AV) (K : Fr → Option KD) : kDstO d f v K = K (putF f d v) := by
  cases d with
  | none => rfl
  | some d => exact wt_eq d f v K
theorem Rel.putD (h : Rel f tm) {d : Option Nat} (hd : fitD d = true) (v : AV) : Rel (putF f d v) (putD tm d v) := by
  cases d with
  | none => exact h
  | some d => exact h.put (blt256 hd) v
theorem retK_ok {K : AV → St → KRes} {m : MV} (h : retK m K = .ok ex f' st') : ∃ v st1, m = .ok (v, st1) ∧ K v st1 = .ok ex f' st' := by
  cases m with
  | error e => cases h
  | ok p => exact ⟨p.1, p.2, rfl, h⟩
theorem sameB_eq (b want : Bool) : sameB b want = (b == want) := by cases b <;> cases want <;> rfl
theorem wantKR_ok {want : Bool} {K : Bool → St → KRes} {v : AV} (h : wantKR want st K v = .ok ex f' st') : ∃ b st1, K b st1 = .ok ex f' st' ∧ ∀ {β : Type} (K' : Bool → St → M β), wantV want st K' v = K' b st1 := by
  cases v
  case bool b => exact ⟨_, _, h, fun K' => by simp only [wantV, sameB_eq]⟩
  case sbool s =>
    obtain ⟨hp, n, lo, sc, tr⟩ := st
    cases sc with
    | nil => cases h
    | cons d sc => exact ⟨_, _, h, fun K' => by simp only [wantV, decK, sameB_eq]⟩
  case any => cases h
  all_goals exact ⟨_, _, h, fun K' => rfl⟩
theorem kg_eq (d : Dst) (op : OpG) (x : GtR) (want : Bool) (cx : KCtx) (K : Fr → St → KRes) (f : Fr) (st : St) : kg d op x want cx K f st = x f (wantKR want st (kgo d op cx K f)) := by
  unfold kg
  congr 1
  funext g
  cases g <;> rfl
theorem runOps_sim {cx : KCtx} {K : Fr → St → KRes} : ∀ (l : List COper), fitOs l = true → ∀ f tm st, Rel f tm → runOps cx K (kOpers l) f st = .ok ex f' st' →
    ∃ tm1 f1 st1, evOps cx.call l tm st = .ok (tm1, st1) ∧ Rel f1 tm1 ∧ K f1 st1 = .ok ex f' st' := by
  intro l
  induction l with
  | nil => intro _ f tm st hr h; exact ⟨tm, f, st, rfl, hr, h⟩
  | cons o l ih =>
    intro hfit f tm st hr h
    simp only [fitOs, Bool.and_eq_true] at hfit
    obtain ⟨⟨hd, hg, ha⟩, hl⟩ := hfit
    rw [evOps_cons]
    obtain ⟨dst, op, g, anc⟩ := o
    have h : kOper ⟨dst, op, g, anc⟩ cx (runOps cx K (kOpers l)) f st = .ok ex f' st' := h
    simp only [evOps1]
    have run : ∀ st, retK (kOp op f st cx) (fun v st => kDst dst f v fun f => runOps cx K (kOpers l) f st) = .ok ex f' st' →
        ∃ tm1 f1 st1, (match evOp op tm st cx.call with | .ok (v, st) => putK tm dst v fun tm => evOps cx.call l tm st | .error e => .error e) = .ok (tm1, st1) ∧ Rel f1 tm1 ∧ K f1 st1 = .ok ex f' st' := by
      intro st h
      obtain ⟨v, st1, hm, hk⟩ := retK_ok h
      rw [kOp_eq hr ha] at hm
      rw [hm]
      simp only [kDst_eq] at hk
      simp only [putK_eq]
      exact ih hl _ _ _ (hr.putD hd v) hk
    cases g with
    | none => exact run st h
    | some g =>
      obtain ⟨x, want⟩ := g
      simp only [kOper, kg_eq] at h
      rw [kAR_eq hr hg] at h
      obtain ⟨b, st1, hk, hw⟩ := wantKR_ok h
      simp only [wantK, evAK_eq, hw]
      cases b with
      | false =>
        simp only [kgo, kDst_eq] at hk
        simp only [putK_eq]
        exact ih hl _ _ _ (hr.putD hd undef) hk
      | true => exact run st1 hk
end
end Go.Ab
