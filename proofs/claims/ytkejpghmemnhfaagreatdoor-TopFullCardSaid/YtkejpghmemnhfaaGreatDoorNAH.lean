/- A part of the proof: AbG5. -/
import Derived.Test.YtkejpghmemnhfaaGreatDoorNAG

set_option linter.unusedVariables false
set_option linter.unusedSimpArgs false

namespace Go.Ab
section
variable {cx : KCtx} {tm : T AV}
noncomputable def toDR (s : KD) (tm : T AV) : DR := ⟨tm, s.base, s.bases, s.pend, s.softs, s.hmask, s.hards, s.loads, s.next, s.low, s.sc, s.tr⟩
noncomputable def KD.at (s : KD) (f : Fr) : KD := { s with f := f }
theorem oD_eq {dst : Option Nat} {f : Fr} {base : T AObj} {bases : List (T AObj)} {pend : List (Nat × News)} {softs hmask : Nat} {hards : List (Nat × Nat)} {loads : List LoadR} {next low : Nat} {sc : List Bool} {tr : List (SB × Bool)} {v : AV} {K : KD → Option KD} :
    oD (kDstO dst) f base bases pend softs hmask hards loads next low sc tr v K = K ⟨putF f dst v, base, bases, pend, softs, hmask, hards, loads, next, low, sc, tr⟩ := by
  simp only [oD, forceN_eq, kDstO_eq]
theorem okM_ok {K : AV → St → Option KD} {m : MV} {r : KD} (h : okM m K = some r) : ∃ v st, m = .ok (v, st) ∧ K v st = some r := by
  cases m with
  | error e => cases h
  | ok p => exact ⟨p.1, p.2, rfl, h⟩
def Did (cx : KCtx) (i : Nat) (o : COper) (s : KD) (tm : T AV) (K : KD → Option KD) (r : KD) : Prop :=
  ∃ v s1, s1.f = s.f ∧ evDrawOp cx.call i o (toDR s tm) = .ok (v, toDR s1 tm) ∧ K (s1.at (putF s.f o.dst v)) = some r
theorem kMany_sim {i : Nat} {dst : Option Nat} {op : CO} {g : Option (CA × Bool)} {anc : Nat} {s r : KD} (hr : Rel s.f tm) (ha : fitAs op.args = true) {K : KD → Option KD} (h : kMany cx i (kDOper ⟨dst, op, g, anc⟩) s K = some r) :
    ∃ v s1, s1.f = s.f ∧ evMany cx.call i ⟨dst, op, g, anc⟩ (toDR s tm) = .ok (v, toDR s1 tm) ∧ K (s1.at (putF s.f dst v)) = some r := by
  obtain ⟨f, base, bases, pend, softs, hmask, hards, loads, next, low, sc, tr⟩ := s
  simp only [kMany] at h
  obtain ⟨v, st, hm, hk⟩ := okM_ok h
  obtain ⟨hp, n, lo, sc', tr'⟩ := st
  have hm : kOp op f { heap := heapFor base anc pend, next := next, low := next, sc := sc, tr := tr } cx = .ok (v, ⟨hp, n, lo, sc', tr'⟩) := hm
  rw [kOp_eq hr ha] at hm
  have hk : (match within hmask anc with
    | false => none
    | true => match Nat.ble next lo with
      | true => oD (kDstO dst) f base bases (newsOf i v hp next n pend) (Nat.lor softs (Nat.pow 2 i)) hmask hards loads n low sc' tr' v K
      | false => match within softs anc with
        | false => none
        | true => oD (kDstO dst) f hp (base :: bases) (pendRest anc pend) 0 (Nat.lor hmask (Nat.pow 2 i)) ((i, anc) :: hards) loads n (lowered low lo) sc' tr' v K) = some r := hk
  simp only [evMany, toDR]
  rw [hm]
  split at hk
  · cases hk
  · rename_i hw
    split at hk
    · rename_i hb
      rw [oD_eq] at hk
      exact ⟨v, ⟨f, base, bases, newsOf i v hp next n pend, Nat.lor softs (Nat.pow 2 i), hmask, hards, loads, n, low, sc', tr'⟩, rfl, by simp only [hw, hb], hk⟩
    · rename_i hb
      split at hk
      · cases hk
      · rename_i hs
        rw [oD_eq] at hk
        exact ⟨v, ⟨f, hp, base :: bases, pendRest anc pend, 0, Nat.lor hmask (Nat.pow 2 i), (i, anc) :: hards, loads, n, lowered low lo, sc', tr'⟩, rfl, by simp only [hw, hb, hs], hk⟩
theorem kLd_eq (op : CO) : kLd op = (asLoad op).map fun p => (kAD p.1, p.2) := by cases op <;> rfl
theorem asLoad_fit {op : CO} {x : CA} {n : Option Nat} (h : asLoad op = some (x, n)) (ha : fitAs op.args = true) : fitA x = true := by
  cases op <;> cases h <;> simpa [CO.args, fitAs] using ha
theorem kDrawOp_sim {i : Nat} {o : COper} {s r : KD} (hr : Rel s.f tm) (ha : fitAs o.op.args = true) {K : KD → Option KD} (h : kDrawOp cx i (kDOper o) s K = some r) : Did cx i o s tm K r := by
  obtain ⟨dst, op, g, anc⟩ := o
  unfold Did evDrawOp
  have h : (match opClass op with
    | 0 => kPure cx (kDOper ⟨dst, op, g, anc⟩) s K
    | 1 => kAlloc cx i (kDOper ⟨dst, op, g, anc⟩) s K
    | _ => match kLd op with
      | some (x, n) => kLoad cx i (kDOper ⟨dst, op, g, anc⟩) x n s K
      | none => kMany cx i (kDOper ⟨dst, op, g, anc⟩) s K) = some r := h
  simp only at ha ⊢
  generalize opClass op = cl at h ⊢
  match cl, h with
  | 0, h =>
    obtain ⟨f, base, bases, pend, softs, hmask, hards, loads, next, low, sc, tr⟩ := s
    simp only [kPure] at h
    obtain ⟨v, st, hm, hk⟩ := okM_ok h
    obtain ⟨hp, n, lo, sc', tr'⟩ := st
    have hm : kOp op f { heap := .leaf, next := next, low := low, sc := sc, tr := tr } cx = .ok (v, ⟨hp, n, lo, sc', tr'⟩) := hm
    rw [kOp_eq hr ha] at hm
    have hk : oD (kDstO dst) f base bases pend softs hmask hards loads next low sc' tr' v K = some r := hk
    rw [oD_eq] at hk
    exact ⟨v, ⟨f, base, bases, pend, softs, hmask, hards, loads, next, low, sc', tr'⟩, rfl, by simp only [evPureR, toDR]; rw [hm], hk⟩
  | 1, h =>
    obtain ⟨f, base, bases, pend, softs, hmask, hards, loads, next, low, sc, tr⟩ := s
    simp only [kAlloc] at h
    obtain ⟨v, st, hm, hk⟩ := okM_ok h
    obtain ⟨hp, n, lo, sc', tr'⟩ := st
    have hm : kOp op f { heap := .leaf, next := next, low := next, sc := sc, tr := tr } cx = .ok (v, ⟨hp, n, lo, sc', tr'⟩) := hm
    rw [kOp_eq hr ha] at hm
    have hk : (match Nat.ble next lo with
      | true => oD (kDstO dst) f base bases (newsOf i v hp next n pend) softs hmask hards loads n low sc' tr' v K
      | false => none) = some r := hk
    split at hk
    · rename_i hb
      rw [oD_eq] at hk
      exact ⟨v, ⟨f, base, bases, newsOf i v hp next n pend, softs, hmask, hards, loads, n, low, sc', tr'⟩, rfl, by simp only [evAlloc, toDR]; rw [hm]; simp only [hb], hk⟩
    · cases hk
  | k + 2, h =>
    simp only [kLd_eq] at h
    cases hl : asLoad op with
    | none =>
      simp only [hl, Option.map_none] at h
      exact kMany_sim hr ha h
    | some p =>
      obtain ⟨x, n⟩ := p
      simp only [hl, Option.map_some] at h
      obtain ⟨f, base, bases, pend, softs, hmask, hards, loads, next, low, sc, tr⟩ := s
      simp only [kLoad] at h
      rw [kAD_eq hr (asLoad_fit hl ha)] at h
      simp only [evLoadR, toDR]
      split at h
      · rename_i v hv
        have h : oD (kDstO dst) f base bases pend softs hmask hards ({ j := i, anc := anc, p := evA tm x, n := n, v := v } :: loads) next low sc tr v K = some r := h
        rw [oD_eq] at h
        rw [hv]
        exact ⟨v, ⟨f, base, bases, pend, softs, hmask, hards, { j := i, anc := anc, p := evA tm x, n := n, v := v } :: loads, next, low, sc, tr⟩, rfl, rfl, h⟩
      · rename_i hv
        rw [hv]
        exact kMany_sim (s := ⟨f, base, bases, pend, softs, hmask, hards, loads, next, low, sc, tr⟩) hr ha h
theorem wantKO_ok {want : Bool} {sc : List Bool} {tr : List (SB × Bool)} {K : Bool → List Bool → List (SB × Bool) → Option KD} {v : AV} {r : KD} (h : wantKO want sc tr K v = some r) :
    ∃ b sc1 tr1, K b sc1 tr1 = some r ∧ ∀ {β : Type} (hp : T AObj) (n lo : Nat) (K' : Bool → St → M β), wantV want ⟨hp, n, lo, sc, tr⟩ K' v = K' b ⟨hp, n, lo, sc1, tr1⟩ := by
  cases v
  case bool b => exact ⟨_, _, _, h, fun _ _ _ K' => by simp only [wantV, sameB_eq]⟩
  case sbool s =>
    cases sc with
    | nil => cases h
    | cons d sc => exact ⟨_, _, _, h, fun _ _ _ K' => by simp only [wantV, decK, sameB_eq]⟩
  case any => cases h
  all_goals exact ⟨_, _, _, h, fun _ _ _ K' => rfl⟩
theorem kDraw_sim : ∀ (l : List COper), fitOs l = true → ∀ i (s r : KD) tm, Rel s.f tm → kDraw cx (kDOpers l) i s = some r → ∃ tm1, evDraw cx.call l i (toDR s tm) = .ok (toDR r tm1) ∧ Rel r.f tm1 := by
  intro l
  induction l with
  | nil =>
    intro _ i s r tm hr h
    have h : some s = some r := h
    cases h
    exact ⟨tm, rfl, hr⟩
  | cons o l ih =>
    intro hfit i s r tm hr h
    simp only [fitOs, Bool.and_eq_true] at hfit
    obtain ⟨⟨hd, hg, ha⟩, hl⟩ := hfit
    have h : kDraw1 cx (kDOper o) (kDraw cx (kDOpers l)) i s = some r := h
    have run : ∀ s, Rel s.f tm → kDrawOp cx i (kDOper o) s (fun s => kDraw cx (kDOpers l) (Nat.succ i) s) = some r →
        ∃ tm1, (match evDrawOp cx.call i o (toDR s tm) with | .ok (v, s) => putK s.tm o.dst v fun tm => evDraw cx.call l (i + 1) { s with tm := tm } | .error e => .error e) = .ok (toDR r tm1) ∧ Rel r.f tm1 := by
      intro s hr h
      obtain ⟨v, s1, hf, he, hk⟩ := kDrawOp_sim hr ha h
      rw [he]
      simp only [putK_eq]
      have hr1 : Rel (s1.at (putF s.f o.dst v)).f (putD tm o.dst v) := hr.putD hd v
      exact ih hl _ (s1.at (putF s.f o.dst v)) _ _ hr1 hk
    simp only [evDraw]
    obtain ⟨dst, op, g, anc⟩ := o
    cases g with
    | none =>
      exact run s hr h
    | some g =>
      obtain ⟨x, want⟩ := g
      obtain ⟨f, base, bases, pend, softs, hmask, hards, loads, next, low, sc, tr⟩ := s
      have h : kAD x f (wantKO want sc tr fun b sc tr => match b with
        | false => kDstO dst f undef fun f => kDraw cx (kDOpers l) (Nat.succ i) ⟨f, base, bases, pend, softs, hmask, hards, loads, next, low, sc, tr⟩
        | true => kDrawOp cx i (kDOper ⟨dst, op, some (x, want), anc⟩) ⟨f, base, bases, pend, softs, hmask, hards, loads, next, low, sc, tr⟩ fun s => kDraw cx (kDOpers l) (Nat.succ i) s) = some r := h
      rw [kAD_eq hr hg] at h
      obtain ⟨b, sc1, tr1, hk, hw⟩ := wantKO_ok h
      simp only [wantK, evAK_eq, toDR, hw]
      cases b with
      | false =>
        simp only [kDstO_eq] at hk
        simp only [putK_eq]
        exact ih hl _ ⟨putF f dst undef, base, bases, pend, softs, hmask, hards, loads, next, low, sc1, tr1⟩ _ _ (hr.putD hd undef) hk
      | true => exact run ⟨f, base, bases, pend, softs, hmask, hards, loads, next, low, sc1, tr1⟩ hr hk
theorem kDrawAll_sim {l : List COper} (hfit : fitOs l = true) {f f' : Fr} {st st' : St} {ex : Ex} {K : Fr → St → KRes} (hr : Rel f tm) (h : kDrawAll cx (kDOpers l) f st K = .ok ex f' st') :
    ∃ tm1 f1 st1, evDrawAll cx.call l tm st = .ok (tm1, st1) ∧ Rel f1 tm1 ∧ K f1 st1 = .ok ex f' st' := by
  obtain ⟨hp, n, lo, sc, tr⟩ := st
  simp only [kDrawAll] at h
  split at h
  · cases h
  · rename_i s hs
    obtain ⟨tm1, he, hr1⟩ := kDraw_sim l hfit 0 _ _ tm hr hs
    split at h
    · rename_i hok
      refine ⟨tm1, s.f, _, ?_, hr1, h⟩
      simp only [evDrawAll]
      have he : evDraw cx.call l 0 { tm := tm, base := hp, bases := [], pend := [], softs := 0, hmask := 0, hards := [], loads := [], next := n, low := lo, sc := sc, tr := tr } = .ok (toDR s tm1) := he
      rw [he]
      have hok : loadsOk (toDR s tm1) = true := hok
      simp only [hok]
      rfl
    · cases h
end
end Go.Ab
