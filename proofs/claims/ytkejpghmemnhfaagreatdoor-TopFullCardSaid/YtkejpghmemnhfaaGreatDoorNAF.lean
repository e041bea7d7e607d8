/- A part of the proof: AbG3. -/
import Derived.Test.YtkejpghmemnhfaaGreatDoorNAC
import Derived.Test.YtkejpghmemnhfaaGreatDoorNAE

set_option linter.unusedVariables false
set_option linter.unusedSimpArgs false

namespace Go.Ab
noncomputable def N16.at {α : Type} (x : N16 α) (i : Nat) : α := selK i x fun v => v
noncomputable def N16.upd {α : Type} (x : N16 α) (i : Nat) (v : α) : N16 α := updK i x v fun y => y
theorem selK_eq {α β : Type} (x : N16 α) (K : α → β) : ∀ i, selK i x K = K (x.at i)
  | 0 => by cases x; rfl
  | 1 => by cases x; rfl
  | 2 => by cases x; rfl
  | 3 => by cases x; rfl
  | 4 => by cases x; rfl
  | 5 => by cases x; rfl
  | 6 => by cases x; rfl
  | 7 => by cases x; rfl
  | 8 => by cases x; rfl
  | 9 => by cases x; rfl
  | 10 => by cases x; rfl
  | 11 => by cases x; rfl
  | 12 => by cases x; rfl
  | 13 => by cases x; rfl
  | 14 => by cases x; rfl
  | _ + 15 => by cases x; rfl
theorem updK_eq {α β : Type} (x : N16 α) (v : α) (K : N16 α → β) : ∀ i, updK i x v K = K (x.upd i v)
  | 0 => by cases x; rfl
  | 1 => by cases x; rfl
  | 2 => by cases x; rfl
  | 3 => by cases x; rfl
  | 4 => by cases x; rfl
  | 5 => by cases x; rfl
  | 6 => by cases x; rfl
  | 7 => by cases x; rfl
  | 8 => by cases x; rfl
  | 9 => by cases x; rfl
  | 10 => by cases x; rfl
  | 11 => by cases x; rfl
  | 12 => by cases x; rfl
  | 13 => by cases x; rfl
  | 14 => by cases x; rfl
  | _ + 15 => by cases x; rfl
theorem rM_eq (x : Rw) (K : AV → MV) : ∀ i, rM i x K = K (x.at i)
  | 0 => by cases x; rfl
  | 1 => by cases x; rfl
  | 2 => by cases x; rfl
  | 3 => by cases x; rfl
  | 4 => by cases x; rfl
  | 5 => by cases x; rfl
  | 6 => by cases x; rfl
  | 7 => by cases x; rfl
  | 8 => by cases x; rfl
  | 9 => by cases x; rfl
  | 10 => by cases x; rfl
  | 11 => by cases x; rfl
  | 12 => by cases x; rfl
  | 13 => by cases x; rfl
  | 14 => by cases x; rfl
  | _ + 15 => by cases x; rfl
theorem gM_eq (y : Rw → (AV → MV) → MV) (x : Fr) (K : AV → MV) : ∀ i, gM i y x K = y (N16.at x i) K
  | 0 => by cases x; rfl
  | 1 => by cases x; rfl
  | 2 => by cases x; rfl
  | 3 => by cases x; rfl
  | 4 => by cases x; rfl
  | 5 => by cases x; rfl
  | 6 => by cases x; rfl
  | 7 => by cases x; rfl
  | 8 => by cases x; rfl
  | 9 => by cases x; rfl
  | 10 => by cases x; rfl
  | 11 => by cases x; rfl
  | 12 => by cases x; rfl
  | 13 => by cases x; rfl
  | 14 => by cases x; rfl
  | _ + 15 => by cases x; rfl
theorem rR_eq (x : Rw) (K : AV → KRes) : ∀ i, rR i x K = K (x.at i)
  | 0 => by cases x; rfl
  | 1 => by cases x; rfl
  | 2 => by cases x; rfl
  | 3 => by cases x; rfl
  | 4 => by cases x; rfl
  | 5 => by cases x; rfl
  | 6 => by cases x; rfl
  | 7 => by cases x; rfl
  | 8 => by cases x; rfl
  | 9 => by cases x; rfl
  | 10 => by cases x; rfl
  | 11 => by cases x; rfl
  | 12 => by cases x; rfl
  | 13 => by cases x; rfl
  | 14 => by cases x; rfl
  | _ + 15 => by cases x; rfl
theorem gR_eq (y : Rw → (AV → KRes) → KRes) (x : Fr) (K : AV → KRes) : ∀ i, gR i y x K = y (N16.at x i) K
  | 0 => by cases x; rfl
  | 1 => by cases x; rfl
  | 2 => by cases x; rfl
  | 3 => by cases x; rfl
  | 4 => by cases x; rfl
  | 5 => by cases x; rfl
  | 6 => by cases x; rfl
  | 7 => by cases x; rfl
  | 8 => by cases x; rfl
  | 9 => by cases x; rfl
  | 10 => by cases x; rfl
  | 11 => by cases x; rfl
  | 12 => by cases x; rfl
  | 13 => by cases x; rfl
  | 14 => by cases x; rfl
  | _ + 15 => by cases x; rfl
theorem uR_eq (x : Rw) (v : AV) (K : Rw → KRes) : ∀ i, uR i x v K = K (x.upd i v)
  | 0 => by cases x; rfl
  | 1 => by cases x; rfl
  | 2 => by cases x; rfl
  | 3 => by cases x; rfl
  | 4 => by cases x; rfl
  | 5 => by cases x; rfl
  | 6 => by cases x; rfl
  | 7 => by cases x; rfl
  | 8 => by cases x; rfl
  | 9 => by cases x; rfl
  | 10 => by cases x; rfl
  | 11 => by cases x; rfl
  | 12 => by cases x; rfl
  | 13 => by cases x; rfl
  | 14 => by cases x; rfl
  | _ + 15 => by cases x; rfl
theorem wR_eq (y : Rw → AV → (Rw → KRes) → KRes) (x : Fr) (v : AV) (K : Fr → KRes) : ∀ i, wR i y x v K = y (N16.at x i) v fun r => K (N16.upd x i r)
  | 0 => by cases x; rfl
  | 1 => by cases x; rfl
  | 2 => by cases x; rfl
  | 3 => by cases x; rfl
  | 4 => by cases x; rfl
  | 5 => by cases x; rfl
  | 6 => by cases x; rfl
  | 7 => by cases x; rfl
  | 8 => by cases x; rfl
  | 9 => by cases x; rfl
  | 10 => by cases x; rfl
  | 11 => by cases x; rfl
  | 12 => by cases x; rfl
  | 13 => by cases x; rfl
  | 14 => by cases x; rfl
  | _ + 15 => by cases x; rfl
theorem at_upd {α : Type} (x : N16 α) (v : α) {i j : Nat} (hi : i < 16) (hj : j < 16) : (x.upd j v).at i = if i = j then v else x.at i := by
  have h1 : i = 0 ∨ i = 1 ∨ i = 2 ∨ i = 3 ∨ i = 4 ∨ i = 5 ∨ i = 6 ∨ i = 7 ∨ i = 8 ∨ i = 9 ∨ i = 10 ∨ i = 11 ∨ i = 12 ∨ i = 13 ∨ i = 14 ∨ i = 15 := by omega
  have h2 : j = 0 ∨ j = 1 ∨ j = 2 ∨ j = 3 ∨ j = 4 ∨ j = 5 ∨ j = 6 ∨ j = 7 ∨ j = 8 ∨ j = 9 ∨ j = 10 ∨ j = 11 ∨ j = 12 ∨ j = 13 ∨ j = 14 ∨ j = 15 := by omega
  cases x
  rcases h1 with rfl | rfl | rfl | rfl | rfl | rfl | rfl | rfl | rfl | rfl | rfl | rfl | rfl | rfl | rfl | rfl <;> rcases h2 with rfl | rfl | rfl | rfl | rfl | rfl | rfl | rfl | rfl | rfl | rfl | rfl | rfl | rfl | rfl | rfl <;> rfl
noncomputable def cell (f : Fr) (t : Nat) : AV := (N16.at f (t / 16)).at (t % 16)
noncomputable def put (f : Fr) (t : Nat) (v : AV) : Fr := N16.upd f (t / 16) ((N16.at f (t / 16)).upd (t % 16) v)
theorem gt_eq {β : Type} (t : Nat) (f : Fr) (K : AV → β) : gt t f K = K (cell f t) := by
  unfold gt gg; rw [selK_eq, selK_eq]; rfl
theorem wt_eq {β : Type} (t : Nat) (f : Fr) (v : AV) (K : Fr → β) : wt t f v K = K (put f t v) := by
  unfold wt ww; rw [selK_eq, updK_eq, updK_eq]; rfl
theorem tM_eq (t : Nat) (f : Fr) (K : AV → MV) : gM (t / 16) (rM (t % 16)) f K = K (cell f t) := by
  rw [gM_eq, rM_eq]; rfl
theorem tR_eq (t : Nat) (f : Fr) (K : AV → KRes) : gR (t / 16) (rR (t % 16)) f K = K (cell f t) := by
  rw [gR_eq, rR_eq]; rfl
theorem dR_eq (t : Nat) (f : Fr) (v : AV) (K : Fr → KRes) : wR (t / 16) (uR (t % 16)) f v K = K (put f t v) := by
  rw [wR_eq, uR_eq]; rfl
theorem cell_put (f : Fr) (v : AV) {s t : Nat} (hs : s < 256) (ht : t < 256) : cell (put f t v) s = if s = t then v else cell f s := by
  unfold cell put
  rw [at_upd _ _ (by omega) (by omega)]
  by_cases h : s / 16 = t / 16
  · rw [if_pos h, at_upd _ _ (by omega) (by omega)]
    by_cases h2 : s % 16 = t % 16
    · rw [if_pos h2, if_pos (by omega)]
    · rw [if_neg h2, if_neg (fun e => h2 (by rw [e])), h]
  · rw [if_neg h, if_neg (fun e => h (by rw [e]))]
def Rel (f : Fr) (tm : T AV) : Prop := ∀ t, t < 256 → cell f t = evA tm (.t t)
theorem evA_set (tm : T AV) (d : Nat) (v : AV) (t : Nat) : evA (tm.set d v) (.t t) = if t = d then v else evA tm (.t t) := by
  simp only [evA, T.get_set]
  by_cases h : t = d
  · rw [if_pos h, if_pos h]
  · rw [if_neg h, if_neg h]
theorem Rel.put {f : Fr} {tm : T AV} (h : Rel f tm) {d : Nat} (hd : d < 256) (v : AV) : Rel (Ab.put f d v) (tm.set d v) := by
  intro t ht
  rw [cell_put f v ht hd, evA_set]
  by_cases e : t = d
  · rw [if_pos e, if_pos e]
  · rw [if_neg e, if_neg e]; exact h t ht
theorem blt256 {n m : Nat} (h : Nat.blt n m = true) : n < m := Nat.le_of_ble_eq_true h
section
variable {f : Fr} {tm : T AV}
theorem kA_eq (h : Rel f tm) {x : CA} (hx : fitA x = true) (K : AV → MV) : kA x f K = K (evA tm x) := by
  cases x with
  | t t => simp only [kA, tM_eq]; rw [h t (blt256 hx)]
  | v v => rfl
theorem kAR_eq (h : Rel f tm) {x : CA} (hx : fitA x = true) (K : AV → KRes) : kAR x f K = K (evA tm x) := by
  cases x with
  | t t => simp only [kAR, tR_eq]; rw [h t (blt256 hx)]
  | v v => rfl
theorem kAD_eq {β : Type} (h : Rel f tm) {x : CA} (hx : fitA x = true) (K : AV → β) : kAD x f K = K (evA tm x) := by
  cases x with
  | t t => simp only [kAD, gt_eq]; rw [h t (blt256 hx)]
  | v v => rfl
theorem kAs_eq (h : Rel f tm) : ∀ {l : List CA}, fitAs l = true → ∀ (K : List AV → MV), kAs l f K = K (evAs tm l)
  | [], _, _ => rfl
  | x :: l, hl, K => by
    simp only [fitAs, Bool.and_eq_true] at hl
    simp only [kAs, cn, kA_eq h hl.1, kAs_eq h hl.2, evAs]
theorem kO_eq (h : Rel f tm) {x : Option CA} (hx : fitAs (optA x) = true) (K : Option CA → MV) : kO x f K = K (x.map fun x => .v (evA tm x)) := by
  cases x with
  | none => rfl
  | some x =>
    simp only [optA, fitAs, Bool.and_true] at hx
    simp only [kO, os, kA_eq h hx, Option.map_some]
theorem optB_eq (x : Option CA) (y d : Nat) : optB (x.map fun x => .v (evA tm x)) .leaf y d = optB x tm y d := by
  cases x with
  | none => rfl
  | some x => rfl
theorem fillParts_eq : ∀ (p : List (Nat × Nat × CA)) (cs : List AV), fillParts .leaf cs (pZip (pPlaces p) (evAs tm (partsA p))) = fillParts tm cs p
  | [], _ => rfl
  | (a, b, x) :: l, cs => by
    simp only [pPlaces, partsA, evAs, pZip, fillParts]
    rw [show evA .leaf (.v (evA tm x)) = evA tm x from rfl]
    split
    · exact fillParts_eq l _
    · rfl
theorem evAs_vcs : ∀ (l : List AV), evAs .leaf (vcs l) = l
  | [] => rfl
  | v :: l => by simp only [vcs, evAs, evA, evAs_vcs l]
theorem fitAs_append : ∀ {l m : List CA}, fitAs (l ++ m) = true → fitAs l = true ∧ fitAs m = true
  | [], _, h => ⟨rfl, h⟩
  | x :: l, m, h => by
    simp only [List.cons_append, fitAs, Bool.and_eq_true] at h ⊢
    obtain ⟨a, b⟩ := fitAs_append h.2
    exact ⟨⟨h.1, a⟩, b⟩
end
theorem ble_not_blt (n m : Nat) : Nat.ble n m = !Nat.blt m n := by
  by_cases c : n ≤ m
  · rw [Nat.ble_eq_true_of_le c]
    cases h : Nat.blt m n with
    | false => rfl
    | true => have : m < n := blt256 h; omega
  · have : Nat.blt m n = true := Nat.ble_eq_true_of_le (by omega)
    rw [this]
    cases h : Nat.ble n m with
    | false => rfl
    | true => exact absurd (Nat.le_of_ble_eq_true h) c
section
variable {st : St}
theorem load1_eq (p : AV) : avPtrM p (fun id off => Option.rec (err "load") (oCells st off (err "load")) (st.heap.get id)) (err "load") = retL st (loadAt st.heap p none) := by
  cases p <;> try rfl
  case ptr id off =>
    show (Option.rec (err "load") (oCells st off (err "load")) (st.heap.get id) : MV) = retL st (load1At st.heap id off)
    unfold load1At
    cases st.heap.get id with
    | none => rfl
    | some o =>
      cases o <;> try rfl
      case cells e cs fz =>
        show (Option.rec (err "load") (fun v => .ok (v, st)) (cs.get off) : MV) = retL st (cs.get off)
        cases cs.get off <;> rfl
theorem store1_eq (id off : Nat) (v : AV) : store1 id off v st = storeAt 1 id off v st := by
  unfold store1
  cases h1 : v.one with
  | false => rfl
  | true =>
    have hc : v.cells = [v] := by cases v <;> first | rfl | cases h1
    cases h2 : st.heap.get id with
    | none => rfl
    | some ob =>
      cases ob <;> try rfl
      case cells e cs fz =>
        show (Bool.rec (storeAt 1 id off v st) (Option.rec (storeAt 1 id off v st) (fun _ => cs.setK off v fun cs => st.putK id (.cells e cs fz) fun st => .ok (undef, st)) (cs.get off)) (Nat.ble fz off) : MV) = _
        cases h3 : Nat.ble fz off with
        | false => rfl
        | true =>
          cases h4 : cs.get off with
          | none => rfl
          | some w =>
            show (cs.setK off v fun cs => st.putK id (.cells e cs fz) fun st => .ok (undef, st) : MV) = storeAt 1 id off v st
            have hl : lenL [v] = 1 := rfl
            simp only [storeAt, cellsOf, h2, hc, h3, storeFrom, h1, h4, T.setK_eq, hl]
            rfl
theorem ofNats_eq (n m : Int) (K : Nat → Nat → MV) (s r : MV) (hs : s = r) (hk : ∀ a b, n = .ofNat a → m = .ofNat b → K a b = r) : ofNats n m K s = r := by
  cases n with
  | ofNat a => cases m with
    | ofNat b => exact hk a b rfl rfl
    | negSucc b => exact hs
  | negSucc a => exact hs
theorem ints_eq (a b : AV) (K : IntKind → Nat → Nat → MV) (s r : MV) (hs : s = r) (hk : ∀ k n m, a = .int k (.ofNat n) → b = .int k (.ofNat m) → K k n m = r) : ints a b K s = r := by
  cases a <;> try exact hs
  case int k n =>
    cases b <;> try exact hs
    case int j m =>
      show (Bool.rec s (ofNats n m (fun a b => K k a b) s) (keq k j) : MV) = r
      cases hj : keq k j with
      | false => exact hs
      | true =>
        have := keq_true hj
        subst this
        exact ofNats_eq n m _ s r hs fun a b e1 e2 => hk k a b (by rw [e1]) (by rw [e2])
theorem keq_self (k : IntKind) : keq k k = true := by cases k <;> rfl
theorem binInt_keq {op : BinOp} {k : IntKind} {a b : Int} : evBin op (.int k a) (.int k b) st = (match opKind op with
    | 0 => retB st (cmpI op a b)
    | _ => retI k st (fbin op k a b)) := by
  show binInt op k a (.int k b) st = _
  cases op <;> simp only [binInt, opKind, keq_self]
theorem retI_nat {k : IntKind} {c : Nat} (h : Nat.blt c (half k) = true) : retI k st (some (fwrap k (.ofNat c))) = .ok (.int k (.ofNat c), st) := by
  simp only [retI, fwrap, h, forceI_eq]
theorem retB_eq (b : Bool) : retB st (some b) = tst st b := by cases b <;> rfl
end
theorem kOp_eq {f : Fr} {tm : T AV} (h : Rel f tm) {o : CO} (ho : fitAs o.args = true) (st : St) (cx : KCtx) : kOp o f st cx = evOp o tm st cx.call := by
  cases o <;> simp only [CO.args, fitAs, Bool.and_eq_true, Bool.and_true] at ho
  case load1 x => simp only [kOp, ld, kA_eq h, ho, evOp, opLoad1, evAK_eq, load1_eq]
  case store n a x =>
    have e : sN n (kA a) (kA x) f st cx = opStore n a x tm st cx.call := by
      simp only [sN, opStore, kA_eq h, ho, evAK_eq]
      cases evA tm a <;> rfl
    simp only [kOp, evOp]
    unfold gStore
    split
    · simp only [s1, opStore, kA_eq h, ho, evAK_eq, store1_eq]
      cases evA tm a <;> rfl
    · exact e
  case nilCheck x =>
    simp only [kOp, nc, kA_eq h, ho, evOp, opNilCheck, evAK_eq]
    cases evA tm x <;> rfl
  case convInt k x =>
    simp only [kOp, gConvInt, kA_eq h, ho, evOp, opConvInt, evAK_eq]
    cases evA tm x <;> try rfl
    case int j n =>
      cases n with
      | negSucc a => rfl
      | ofNat a =>
        show (Bool.rec (retI k st (some (fwrap k (.ofNat a)))) (.ok (.int k (.ofNat a), st)) (Nat.blt a (half k)) : MV) = retI k st (some (fwrap k (.ofNat a)))
        cases hb : Nat.blt a (half k) with
        | false => rfl
        | true => exact (retI_nat hb).symm
  case fieldAddr off x =>
    simp only [kOp, fA, kA_eq h, ho, evOp, opFieldAddr, evAK_eq]
    cases evA tm x <;> rfl
  case field off n x =>
    simp only [kOp, gField, kA_eq h, ho, evOp, opField, evAK_eq]
    cases evA tm x <;> rfl
  case idxAddrArr len esz x i =>
    simp only [kOp, gIdxAddrArr, kA_eq h, ho, evOp, opIdxAddrArr, evAK_eq]
    cases evA tm x <;> try rfl
    show idx (evA tm i) _ _ _ = _
    cases evA tm i <;> try rfl
    case int k n =>
      cases n with
      | negSucc a => rfl
      | ofNat a =>
        show (Bool.rec _ _ (Nat.blt a len) : MV) = _
        simp only
        cases Nat.blt a len <;> rfl
  case idxAddrSl esz x i =>
    simp only [kOp, ia, kA_eq h, ho, evOp, opIdxAddrSl, evAK_eq]
    cases evA tm x <;> try rfl
    case slice id o len cap ex e =>
      show idx (evA tm i) _ _ _ = _
      cases evA tm i <;> try rfl
      case int k n =>
        cases n with
        | negSucc a => rfl
        | ofNat a =>
          show (Bool.rec _ _ (Nat.blt a len) : MV) = _
          simp only
          cases Nat.blt a len with
          | false => rfl
          | true => cases Nat.beq e esz <;> rfl
  case idxStr x i =>
    simp only [kOp, gIdxStr, kA_eq h, ho, evOp, opIdxStr, evAK_eq]
    cases evA tm x <;> try rfl
    case str n b =>
      show idx (evA tm i) _ _ _ = _
      cases evA tm i <;> try rfl
      case int k m =>
        cases m with
        | negSucc a => rfl
        | ofNat a =>
          show (Bool.rec _ _ (Nat.blt a n) : MV) = _
          simp only
          cases Nat.blt a n <;> rfl
  case extract i x =>
    simp only [kOp, evOp, opExtract, evAK_eq]
    unfold gExtract
    split
    · simp only [gEx0, kA_eq h, ho]
      cases evA tm x <;> try rfl
      case tuple vs => cases vs <;> rfl
    · simp only [gEx1, kA_eq h, ho]
      cases evA tm x <;> try rfl
      case tuple vs =>
        cases vs with
        | nil => rfl
        | cons v l => cases l <;> rfl
    · simp only [gExN, kA_eq h, ho]
      cases evA tm x <;> rfl
  case callV g l =>
    simp only [kOp, gCallV, kA_eq h, kAs_eq h, ho, evOp, opCallV, evAK_eq, evAsK_eq]
    cases evA tm g <;> rfl
  case lenStr x =>
    simp only [kOp, lS, kA_eq h, ho, evOp, opLenStr, evAK_eq]
    cases evA tm x <;> rfl
  case lenSl x =>
    simp only [kOp, ln, kA_eq h, ho, evOp, opLenSl, evAK_eq]
    cases evA tm x <;> rfl
  case bin op x y =>
    simp only [kOp, evOp, opBin, evAK_eq]
    generalize hX : evA tm x = X
    generalize hY : evA tm y = Y
    unfold gBin
    split <;> simp only [gAdd, gSub, gLss, gLeq, gGtr, gGeq, gEq, gNe, gBinS, kA_eq h, ho, hX, hY]
    · refine ints_eq _ _ _ _ _ rfl fun k n m e1 e2 => ?_
      subst e1; subst e2
      cases hb : Nat.blt (Nat.add n m) (half k) with
      | false => rfl
      | true =>
        rw [binInt_keq]
        exact (forceN_eq _ _).trans (retI_nat hb).symm
    · refine ints_eq _ _ _ _ _ rfl fun k n m e1 e2 => ?_
      subst e1; subst e2
      cases hb : Nat.ble m n with
      | false => rfl
      | true =>
        cases hc : Nat.blt n (half k) with
        | false => rfl
        | true =>
          rw [binInt_keq]
          have hle := Nat.le_of_ble_eq_true hb
          have e : Int.sub (.ofNat n) (.ofNat m) = .ofNat (Nat.sub n m) := by
            show (n : Int) - (m : Int) = ((n - m : Nat) : Int)
            omega
          show (forceN (Nat.sub n m) fun c => .ok (.int k (.ofNat c), st) : MV) = retI k st (some (fwrap k (Int.sub (.ofNat n) (.ofNat m))))
          rw [e, forceN_eq]
          refine (retI_nat ?_).symm
          have h1 : n < half k := blt256 hc
          exact Nat.ble_eq_true_of_le (Nat.lt_of_le_of_lt (Nat.sub_le n m) h1)
    · refine ints_eq _ _ _ _ _ rfl fun k n m e1 e2 => ?_
      subst e1; subst e2
      rw [binInt_keq]; exact (retB_eq _).symm
    · refine ints_eq _ _ _ _ _ rfl fun k n m e1 e2 => ?_
      subst e1; subst e2
      rw [binInt_keq]
      refine Eq.trans ?_ (retB_eq _).symm
      congr 1
      exact ble_not_blt n m
    · refine ints_eq _ _ _ _ _ rfl fun k n m e1 e2 => ?_
      subst e1; subst e2
      rw [binInt_keq]; exact (retB_eq _).symm
    · refine ints_eq _ _ _ _ _ rfl fun k n m e1 e2 => ?_
      subst e1; subst e2
      rw [binInt_keq]
      refine Eq.trans ?_ (retB_eq _).symm
      congr 1
      exact ble_not_blt m n
    · refine ints_eq _ _ _ _ _ rfl fun k n m e1 e2 => ?_
      subst e1; subst e2
      rw [binInt_keq]; exact (retB_eq _).symm
    · refine ints_eq _ _ _ _ _ rfl fun k n m e1 e2 => ?_
      subst e1; subst e2
      rw [binInt_keq]
      refine Eq.trans ?_ (retB_eq _).symm
      show (Bool.rec (tst st true) (tst st false) (Nat.beq n m) : MV) = tst st (!Nat.beq n m)
      cases Nat.beq n m <;> rfl
  all_goals try (simp only [kOp, g0, g1, g2, g3, mv, lN, gEql, gAppend, gLookup, kA_eq h, ho, evOp, opMv, opNewc, opBox, opLoadN, opEql, opUn, opSame, opStrOfBytes, opBytesOfStr, opStrOfInt, opMkIface, opMkMap, opMkSlice, opIdxArr, opLookup, opMapUpd, opRange, opNext, opEntry, opAppend, opCopy, opDelete, opClear, opLenArr, opLenMap, opCapSl, opSliceData, opUnsafeStr, opTyAssert, opUnsafeTo, opUnsafeFrom, opBad, evAK_eq, evA]; done)
  all_goals try (simp only [kOp, gLookup, cl, kA_eq h, kAs_eq h, ho, evOp, opLookup, opCall, evAK_eq, evAsK_eq] <;> rfl)
  case pick c a b =>
    simp only [kOp, pk, kA_eq h, ho, evOp, opPick, evAK_eq]
    congr 1
    funext d st
    cases d <;> rfl
  case build z p => simp only [kOp, gBuild, kAs_eq h, ho, evOp, opBuild, fillParts_eq]
  case buildSlice e s l z p => simp only [kOp, gBuildSlice, kAs_eq h, ho, evOp, opBuildSlice, fillParts_eq]
  case mkFunc f' a b =>
    obtain ⟨h1, h2⟩ := fitAs_append ho
    simp only [kOp, gMkFunc, kAs_eq h, h1, h2, evOp, opMkFunc, evAsK_eq]
  case sliceStr x lo hi =>
    obtain ⟨h1, h2⟩ := fitAs_append ho.2
    simp only [kOp, gSliceStr, kA_eq h, kO_eq h, ho.1, h1, h2, evOp, opSliceStr, evAK_eq, optB_eq]
    rfl
  case sliceSl e x lo hi mx =>
    obtain ⟨h1, h23⟩ := fitAs_append ho.2
    obtain ⟨h2, h3⟩ := fitAs_append h23
    simp only [kOp, gSliceSl, kA_eq h, kO_eq h, ho.1, h1, h2, h3, evOp, opSliceSl, evAK_eq, sliceNil, sliceOf, optB_eq]
    cases mx <;> cases hi <;> rfl
  case sliceArr n e x lo hi mx =>
    obtain ⟨h1, h23⟩ := fitAs_append ho.2
    obtain ⟨h2, h3⟩ := fitAs_append h23
    simp only [kOp, gSliceArr, kA_eq h, kO_eq h, ho.1, h1, h2, h3, evOp, opSliceArr, evAK_eq, sliceOf, optB_eq]
    cases mx <;> cases hi <;> rfl
  case min l => simp only [kOp, gl, kAs_eq h, ho, evOp, opMin, evAsK_eq, evAs_vcs]
  case max l => simp only [kOp, gl, kAs_eq h, ho, evOp, opMax, evAsK_eq, evAs_vcs]
end Go.Ab
