/- A part of the proof: AbG6. -/
import Derived.Test.YtkejpghmemnhfaaGreatDoorNAH

set_option linter.unusedVariables false
set_option linter.unusedSimpArgs false

namespace Go.Ab
noncomputable def nth : List AV → Nat → AV
  | [], _ => .any
  | a :: _, 0 => a
  | _ :: l, t + 1 => nth l t
theorem nth_eq : ∀ (l : List AV) (t : Nat), nth l t = (match l[t]? with | some v => v | none => .any)
  | [], t => by simp [nth]
  | a :: l, 0 => by simp [nth]
  | a :: l, t + 1 => by simp [nth, nth_eq l t]
noncomputable def frL (l : List AV) : Fr := .mk (.mk (nth l 0) (nth l 1) (nth l 2) (nth l 3) (nth l 4) (nth l 5) (nth l 6) (nth l 7) (nth l 8) (nth l 9) (nth l 10) (nth l 11) (nth l 12) (nth l 13) (nth l 14) (nth l 15)) fr0 fr0 fr0 fr0 fr0 fr0 fr0 fr0 fr0 fr0 fr0 fr0 fr0 fr0 fr0
theorem frArgs_eq (K : Fr → MV) : ∀ (l : List AV), l.length ≤ 16 → fa0 l K = K (frL l)
  | [], _ => rfl
  | [x0], _ => rfl
  | [x0, x1], _ => rfl
  | [x0, x1, x2], _ => rfl
  | [x0, x1, x2, x3], _ => rfl
  | [x0, x1, x2, x3, x4], _ => rfl
  | [x0, x1, x2, x3, x4, x5], _ => rfl
  | [x0, x1, x2, x3, x4, x5, x6], _ => rfl
  | [x0, x1, x2, x3, x4, x5, x6, x7], _ => rfl
  | [x0, x1, x2, x3, x4, x5, x6, x7, x8], _ => rfl
  | [x0, x1, x2, x3, x4, x5, x6, x7, x8, x9], _ => rfl
  | [x0, x1, x2, x3, x4, x5, x6, x7, x8, x9, x10], _ => rfl
  | [x0, x1, x2, x3, x4, x5, x6, x7, x8, x9, x10, x11], _ => rfl
  | [x0, x1, x2, x3, x4, x5, x6, x7, x8, x9, x10, x11, x12], _ => rfl
  | [x0, x1, x2, x3, x4, x5, x6, x7, x8, x9, x10, x11, x12, x13], _ => rfl
  | [x0, x1, x2, x3, x4, x5, x6, x7, x8, x9, x10, x11, x12, x13, x14], _ => rfl
  | [x0, x1, x2, x3, x4, x5, x6, x7, x8, x9, x10, x11, x12, x13, x14, x15], _ => rfl
  | _ :: _ :: _ :: _ :: _ :: _ :: _ :: _ :: _ :: _ :: _ :: _ :: _ :: _ :: _ :: _ :: _ :: _, h => by simp only [List.length_cons] at h; omega
theorem fr0_at {j : Nat} (hj : j < 16) : fr0.at j = .any := by
  have h : j = 0 ∨ j = 1 ∨ j = 2 ∨ j = 3 ∨ j = 4 ∨ j = 5 ∨ j = 6 ∨ j = 7 ∨ j = 8 ∨ j = 9 ∨ j = 10 ∨ j = 11 ∨ j = 12 ∨ j = 13 ∨ j = 14 ∨ j = 15 := by omega
  rcases h with rfl | rfl | rfl | rfl | rfl | rfl | rfl | rfl | rfl | rfl | rfl | rfl | rfl | rfl | rfl | rfl <;> rfl
theorem frL_rel (l : List AV) (hl : l.length ≤ 16) : Rel (frL l) (T.leaf.ofList 0 l) := by
  intro t ht
  have e : evA (T.leaf.ofList 0 l) (.t t) = nth l t := by
    rw [nth_eq]
    simp only [evA, get_ofList_leaf]
    rfl
  rw [e]
  by_cases h : t < 16
  · have h1 : t = 0 ∨ t = 1 ∨ t = 2 ∨ t = 3 ∨ t = 4 ∨ t = 5 ∨ t = 6 ∨ t = 7 ∨ t = 8 ∨ t = 9 ∨ t = 10 ∨ t = 11 ∨ t = 12 ∨ t = 13 ∨ t = 14 ∨ t = 15 := by omega
    rcases h1 with rfl | rfl | rfl | rfl | rfl | rfl | rfl | rfl | rfl | rfl | rfl | rfl | rfl | rfl | rfl | rfl <;> rfl
  · have h0 : nth l t = .any := by rw [nth_eq, List.getElem?_eq_none (by omega)]
    rw [h0]
    have hq : t / 16 < 16 ∧ 1 ≤ t / 16 := by omega
    unfold cell
    generalize t / 16 = q at hq
    have h1 : q = 1 ∨ q = 2 ∨ q = 3 ∨ q = 4 ∨ q = 5 ∨ q = 6 ∨ q = 7 ∨ q = 8 ∨ q = 9 ∨ q = 10 ∨ q = 11 ∨ q = 12 ∨ q = 13 ∨ q = 14 ∨ q = 15 := by omega
    have h2 : N16.at (frL l) q = fr0 := by rcases h1 with rfl | rfl | rfl | rfl | rfl | rfl | rfl | rfl | rfl | rfl | rfl | rfl | rfl | rfl | rfl <;> rfl
    rw [h2]
    exact fr0_at (by omega)
theorem kRes_eq {f : Fr} {tm : T AV} (hr : Rel f tm) (h : T AObj) : ∀ {l : List CRes}, fitR l = true → kRes l f h = evResults tm h l
  | [], _ => rfl
  | .tmp t :: l, hf => by
    simp only [fitR, Bool.and_eq_true] at hf
    simp only [kRes, rT, kRes_eq hr h hf.2, evResults, gt_eq, hr t (blt256 hf.1)]
    rfl
  | .cell t n :: l, hf => by
    simp only [fitR, Bool.and_eq_true] at hf
    simp only [kRes, rC, kRes_eq hr h hf.2, evResults, gt_eq, hr t (blt256 hf.1)]
    rfl
def TOK (t : Tbl) (G : Env) : Prop := ∀ f, match look t f with
  | .none => True
  | .fast n body res => G.ov.get f = none ∧ ∃ cf, G.fn.get f = some cf ∧ kF cf = .fast n body res
  | .slow cf => G.ov.get f = none ∧ G.fn.get f = some cf
  | .ov o => G.ov.get f = some o
theorem kF_fast {cf : CFunc} {n : Nat} {body : KC} {res : KResF} (h : kF cf = .fast n body res) : cf.ntmps = n ∧ kC cf.body = body ∧ kRes cf.results = res ∧ fitR cf.results = true := by
  obtain ⟨m, r, b⟩ := cf
  simp only [kF] at h
  split at h
  · rename_i hc
    simp only [Bool.and_eq_true] at hc
    cases h
    exact ⟨rfl, rfl, rfl, hc.1⟩
  · cases h
def SubR (r s : EvF) : Prop := ∀ rnd c tm mk st e tm' mk' st', r rnd c tm mk st = .ok e tm' mk' st' → s rnd c tm mk st = .ok e tm' mk' st'
theorem callRound_sub {r s : EvF} (h : SubR r s) {l : Nat} {args : List AV} {st : St} {x : AV × St} (e : callRound r l args st = .ok x) : callRound s l args st = .ok x := by
  unfold callRound at e ⊢
  split at e
  · rename_i lp hl
    split at e
    · rename_i tm hb hs
      split at e
      · rename_i tm1 st1 h1
        rw [h _ _ _ _ _ _ _ _ _ h1]
        simp only
        split at e
        · rename_i lp1 hl1
          split at e
          · rename_i hb1
            split at e
            · rename_i e2 tm2 st2 h2
              rw [h _ _ _ _ _ _ _ _ _ h2]
              exact e
            · cases e
            · cases e
          · cases e
        · cases e
      · cases e
      · cases e
    · cases e
  · cases e
def KSub (t : Tbl) (G : Env) (n : Nat) : Prop := ∀ c f st e f' st' tm, Rel f tm → (both t n).1 (kC c) f st = .ok e f' st' → ∀ mk, ∃ tm', ev G n false c tm mk st = .ok e tm' mk st' ∧ Rel f' tm'
section
variable {t : Tbl} {G : Env} {n : Nat}
theorem call_sub (T1 : TOK t G) (A : KSub t G n) (B : SubR (both t n).2 (ev G n)) : SubC (callK t (both t n).1 (both t n).2) (callAny G (ev G n)) := by
  intro fn args st r h
  cases fn with
  | yield l => exact callRound_sub B h
  | func f =>
    have h : callKF (both t n).1 (both t n).2 args st (look t f) = .ok r := h
    have hf := T1 f
    simp only [callAny, callFn]
    generalize look t f = kf at h hf
    cases kf with
    | none => cases h
    | ov o => simp only at hf; rw [hf]; exact h
    | slow cf =>
      simp only at hf
      rw [hf.1, hf.2]
      have h : callBody cf (both t n).2 args st = .ok r := h
      simp only [callBody] at h ⊢
      split at h
      · rename_i hb
        rw [T.ofListK_eq] at h
        simp only [T.ofListK_eq]
        unfold endCall at h
        split at h
        · cases h
        · rename_i e tm mk st1 h1
          rw [B _ _ _ _ _ _ _ _ _ h1]
          exact h
      · cases h
    | fast m body res =>
      simp only at hf
      obtain ⟨h1, cf, h2, h3⟩ := hf
      rw [h1, h2]
      obtain ⟨rfl, rfl, rfl, hfit⟩ := kF_fast h3
      have h : (match Nat.ble (lenL args) cf.ntmps && Nat.ble (lenL args) 16 with
        | true => fa0 args fun f => endK (kRes cf.results) ((both t n).1 (kC cf.body) f st)
        | false => .error "arguments") = Except.ok r := h
      split at h
      · rename_i hb
        simp only [Bool.and_eq_true] at hb
        simp only [callBody, hb.1, T.ofListK_eq]
        have hlen : args.length ≤ 16 := by have := Nat.le_of_ble_eq_true hb.2; rwa [lenL_eq] at this
        rw [frArgs_eq _ _ hlen] at h
        generalize hres : (both t n).1 (kC cf.body) (frL args) st = kr at h
        cases kr with
        | bad => cases h
        | ok e f' st' =>
          obtain ⟨tm', he, hr'⟩ := A _ _ _ _ _ _ _ (frL_rel args hlen) hres []
          rw [he]
          cases e with
          | exit i => cases h
          | normal =>
            have h : (match kRes cf.results f' st'.heap with | some l => .ok (oneOrMore l, st') | none => .error "results") = Except.ok r := h
            rw [kRes_eq hr' _ hfit] at h
            simp only [endCall, dropMarks]
            exact h
          | ret =>
            have h : (match kRes cf.results f' st'.heap with | some l => .ok (oneOrMore l, st') | none => .error "results") = Except.ok r := h
            rw [kRes_eq hr' _ hfit] at h
            simp only [endCall, dropMarks]
            exact h
      · cases h
theorem endOps_sub {mk : List Nat} {a b : M (T AV × St)} (h : ∀ r, a = .ok r → b = .ok r) {e tm' mk' st'} (hx : endOps mk a = .ok e tm' mk' st') : endOps mk b = .ok e tm' mk' st' := by
  cases a with
  | error s => cases hx
  | ok r => rw [h r rfl]; exact hx
theorem thenK_ok {K : T AV → List Nat → St → Res} {r : Res} {e tm' mk' st'} (h : thenK K r = .ok e tm' mk' st') :
    (∃ tm mk st, r = .ok .normal tm mk st ∧ K tm mk st = .ok e tm' mk' st') ∨ (r = .ok e tm' mk' st' ∧ e ≠ .normal) := by
  cases r with
  | bad => cases h
  | ok e1 tm mk st =>
    cases e1 with
    | normal => exact .inl ⟨tm, mk, st, rfl, h⟩
    | exit i => cases h; exact .inr ⟨rfl, by simp⟩
    | ret => cases h; exact .inr ⟨rfl, by simp⟩
theorem kThen_ok {K : Fr → St → KRes} {r : KRes} {e f' st'} (h : kThen r K = .ok e f' st') :
    (∃ f st, r = .ok .normal f st ∧ K f st = .ok e f' st') ∨ (r = .ok e f' st' ∧ e ≠ .normal) := by
  cases r with
  | bad => cases h
  | ok e1 f st =>
    cases e1 with
    | normal => exact .inl ⟨f, st, rfl, h⟩
    | exit i => cases h; exact .inr ⟨rfl, by simp⟩
    | ret => cases h; exact .inr ⟨rfl, by simp⟩
theorem thenK_sub {K K' : T AV → List Nat → St → Res} {r r' : Res} (hr : ∀ e tm mk st, r = .ok e tm mk st → r' = .ok e tm mk st) (hk : ∀ tm mk st e tm' mk' st', K tm mk st = .ok e tm' mk' st' → K' tm mk st = .ok e tm' mk' st') {e tm' mk' st'} (h : thenK K r = .ok e tm' mk' st') : thenK K' r' = .ok e tm' mk' st' := by
  rcases thenK_ok h with ⟨tm, mk, st, h1, h2⟩ | ⟨h1, h2⟩
  · rw [hr _ _ _ _ h1]; exact hk _ _ _ _ _ _ _ h2
  · rw [hr _ _ _ _ h1]; cases e <;> first | rfl | exact absurd rfl h2
theorem isF_fn (T1 : TOK t G) {f : Nat} (h : isF (look t f) = true) : ∃ cf, G.fn.get f = some cf := by
  have hf := T1 f
  generalize look t f = kf at h hf
  cases kf with
  | none => cases h
  | ov o => cases h
  | slow cf => exact ⟨cf, hf.2⟩
  | fast n b r => obtain ⟨_, cf, h2, _⟩ := hf; exact ⟨cf, h2⟩
theorem both_sub (T1 : TOK t G) : ∀ n, KSub t G n ∧ SubR (both t n).2 (ev G n) := by
  intro n
  induction n with
  | zero => exact ⟨fun c f st e f' st' tm _ h => (by cases h), fun rnd c tm mk st e tm' mk' st' h => (by cases h)⟩
  | succ n ih =>
    obtain ⟨A, B⟩ := ih
    have S := call_sub T1 A B
    have hev : ∀ rnd c tm mk st, ev G (n + 1) rnd c tm mk st = evCode c G (ev G n) rnd tm mk st := fun _ _ _ _ _ => rfl
    refine ⟨fun c f st e f' st' tm hr h mk => ?_, fun rnd c tm mk st e tm' mk' st' h => ?_⟩
    · rw [hev]
      have h : kStep ⟨callK t (both t n).1 (both t n).2⟩ (both t n).1 (kC c) f st = .ok e f' st' := h
      cases c with
      | skip => cases h; exact ⟨tm, rfl, hr⟩
      | ret => cases h; exact ⟨tm, rfl, hr⟩
      | exit i => cases h; exact ⟨tm, rfl, hr⟩
      | fail => cases h
      | rangeFunc f' ps a b => cases h
      | region l =>
        simp only [kC] at h
        cases hfit : fitOs l with
        | false => rw [hfit] at h; cases h
        | true =>
          rw [hfit] at h
          obtain ⟨tm1, f1, st1, h1, h2, h3⟩ := runOps_sim l hfit f tm st hr h
          cases h3
          refine ⟨tm1, ?_, h2⟩
          simp only [evCode, cdRegion]
          rw [evOps_sub S _ _ _ _ h1]; rfl
      | draw l =>
        simp only [kC] at h
        cases hfit : fitOs l with
        | false => rw [hfit] at h; cases h
        | true =>
          rw [hfit] at h
          obtain ⟨tm1, f1, st1, h1, h2, h3⟩ := kDrawAll_sim hfit hr h
          cases h3
          refine ⟨tm1, ?_, h2⟩
          simp only [evCode, cdDraw]
          rw [evDrawAll_sub S h1]; rfl
      | seq a b =>
        have h : kThen ((both t n).1 (kC a) f st) ((both t n).1 (kC b)) = .ok e f' st' := h
        simp only [evCode, cdSeq]
        rcases kThen_ok h with ⟨f1, st1, h1, h2⟩ | ⟨h1, h2⟩
        · obtain ⟨tm1, e1, hr1⟩ := A _ _ _ _ _ _ _ hr h1 mk
          obtain ⟨tm2, e2, hr2⟩ := A _ _ _ _ _ _ _ hr1 h2 mk
          exact ⟨tm2, by rw [e1]; exact e2, hr2⟩
        · obtain ⟨tm1, e1, hr1⟩ := A _ _ _ _ _ _ _ hr h1 mk
          exact ⟨tm1, by rw [e1]; cases e <;> first | rfl | exact absurd rfl h2, hr1⟩
      | cond x a b =>
        simp only [kC] at h
        cases hfit : fitA x with
        | false => rw [hfit] at h; cases h
        | true =>
          rw [hfit] at h
          have h : kAR x f (fun v => avBoolR v (fun d => kcIf d (kC a) (kC b) (both t n).1 f st) (decKR v st fun d st => kcIf d (kC a) (kC b) (both t n).1 f st)) = .ok e f' st' := h
          rw [kAR_eq hr hfit] at h
          simp only [evCode, cdCond, evAK_eq]
          generalize evA tm x = v at h
          cases v <;> try (cases h; done)
          case bool d =>
            cases d
            · exact A _ _ _ _ _ _ _ hr h mk
            · exact A _ _ _ _ _ _ _ hr h mk
          case sbool s =>
            obtain ⟨hp, m, lo, sc, tr⟩ := st
            cases sc with
            | nil => cases h
            | cons d sc =>
              cases d
              · exact A _ _ _ _ _ _ _ hr h mk
              · exact A _ _ _ _ _ _ _ hr h mk
      | block i b =>
        have h : kEndBlock ((both t n).1 (kC b) f st) i = .ok e f' st' := h
        simp only [evCode, cdBlock]
        generalize hk : (both t n).1 (kC b) f st = kr at h
        cases kr with
        | bad => cases h
        | ok e1 f1 st1 =>
          obtain ⟨tm1, e2, hr1⟩ := A _ _ _ _ _ _ _ hr hk mk
          rw [e2]
          cases e1 with
          | normal => cases h; exact ⟨tm1, rfl, hr1⟩
          | ret => cases h; exact ⟨tm1, rfl, hr1⟩
          | exit j =>
            have h : (Bool.rec (KRes.ok (.exit j) f1 st1) (KRes.ok .normal f1 st1) (Nat.beq j i) : KRes) = .ok e f' st' := h
            simp only [endBlock]
            cases hj : Nat.beq j i with
            | true => rw [hj] at h; cases h; exact ⟨tm1, rfl, hr1⟩
            | false => rw [hj] at h; cases h; exact ⟨tm1, rfl, hr1⟩
      | loop b =>
        have h : kThen ((both t n).1 (kC b) f st) ((both t n).1 (kC (.loop b))) = .ok e f' st' := h
        simp only [evCode, cdLoop]
        rcases kThen_ok h with ⟨f1, st1, h1, h2⟩ | ⟨h1, h2⟩
        · obtain ⟨tm1, e1, hr1⟩ := A _ _ _ _ _ _ _ hr h1 mk
          obtain ⟨tm2, e2, hr2⟩ := A _ _ _ _ _ _ _ hr1 h2 mk
          exact ⟨tm2, by rw [e1]; exact e2, hr2⟩
        · obtain ⟨tm1, e1, hr1⟩ := A _ _ _ _ _ _ _ hr h1 mk
          exact ⟨tm1, by rw [e1]; cases e <;> first | rfl | exact absurd rfl h2, hr1⟩
    · rw [hev]
      have h : sStep t (callK t (both t n).1 (both t n).2) (both t n).2 rnd c tm mk st = .ok e tm' mk' st' := h
      cases c with
      | skip => exact h
      | ret => exact h
      | exit i => exact h
      | fail => cases h
      | region l => exact endOps_sub (fun r hr => evOps_sub S _ _ _ _ hr) h
      | draw l => exact endOps_sub (fun r hr => evDrawAll_sub S hr) h
      | seq a b => exact thenK_sub (fun _ _ _ _ h => B _ _ _ _ _ _ _ _ _ h) (fun _ _ _ _ _ _ _ h => B _ _ _ _ _ _ _ _ _ h) h
      | loop b => exact thenK_sub (fun _ _ _ _ h => B _ _ _ _ _ _ _ _ _ h) (fun _ _ _ _ _ _ _ h => B _ _ _ _ _ _ _ _ _ h) h
      | cond x a b =>
        simp only [sStep, evAK_eq] at h
        simp only [evCode, cdCond, evAK_eq]
        generalize evA tm x = v at h
        cases v <;> try (cases h; done)
        case bool d => cases d <;> exact B _ _ _ _ _ _ _ _ _ h
        case sbool s =>
          obtain ⟨hp, m, lo, sc, tr⟩ := st
          cases sc with
          | nil => cases h
          | cons d sc => cases d <;> exact B _ _ _ _ _ _ _ _ _ h
      | block i b =>
        simp only [sStep] at h
        simp only [evCode, cdBlock]
        generalize hk : (both t n).2 rnd b tm mk st = kr at h
        cases kr with
        | bad => cases h
        | ok e1 tm1 mk1 st1 => rw [B _ _ _ _ _ _ _ _ _ hk]; exact h
      | rangeFunc f ps a b =>
        simp only [sStep, sRange] at h
        simp only [evCode, cdRange]
        cases rnd with
        | true => cases h
        | false =>
          simp only [evAK_eq] at h ⊢
          generalize evA tm f = v at h
          cases v <;> try (cases h; done)
          case func fn first captured =>
            cases fn with
            | yield l => cases h
            | func g =>
              simp only at h ⊢
              split at h
              · rename_i hi
                obtain ⟨cf, hcf⟩ := isF_fn T1 hi
                rw [hcf]
                simp only [St.newK_eq] at h ⊢
                generalize hc : callK t (both t n).1 (both t n).2 (.func g) _ _ = m at h
                cases m with
                | error s => cases h
                | ok r =>
                  have := S _ _ _ _ hc
                  simp only [callAny] at this
                  rw [this]
                  exact h
              · cases h
theorem kev_ev (T1 : TOK t G) {n : Nat} {c : CCode} {f : Fr} {st : St} {e : Ex} {f' : Fr} {st' : St} {tm : T AV} (hr : Rel f tm) (h : kev t n (kC c) f st = .ok e f' st') : ∃ tm', ev G n false c tm [] st = .ok e tm' [] st' ∧ Rel f' tm' := (both_sub T1 n).1 c f st e f' st' tm hr h []
end
end Go.Ab
